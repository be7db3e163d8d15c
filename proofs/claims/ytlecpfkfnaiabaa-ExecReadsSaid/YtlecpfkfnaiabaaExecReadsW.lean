/- The walk of the law ExecReads. -/
import Derived.Test.YtlecpfkfnaiabaaExecRa1
import Derived.Test.YtlecpfkfnaiabaaExecAwake
import Derived.Test.YtlecpfkfnaiabaaSame
import Derived.Deep.RegionWith
import Derived.IntWalk
namespace Go.Proofs.Ytlecpfkfnaiabaa
open Go.RowKit
set_option linter.unusedVariables false
set_option linter.unusedSimpArgs false
set_option maxRecDepth 100000 in
set_option maxHeartbeats 2000000 in
theorem execReads_walk (tag : ByteArray) (r : Ex.Rg) (ok : r.ok) (m : Int) (w : World) (g0 : 0 ≤ m) (g1 : m ≤ 255) :
    Calls Try.prog 3 #[.string tag, rgU r, .int .u8 m] w fun e w' => e = .returned (.bool true) ∧ Below w.heap.size w w' := by
  have k1 := fun w' => read_any r ok m g0 g1 tag w'
  have k2 := fun w' => rof_any r ok w'
  have k3 := fun w' => rread_any r ok m g0 g1 tag w'
  have k4 := fun w' => rto_any (Ex.readF (Ex.rdK tag) r m) (Ex.readF_ok (Ex.rdK tag) r m ok g0 g1) w'
  have k5 := fun w' => awake_any w'
  clear ok
  have hm : IntKind.i64.wrap m = m := IntWalk.i64_in _ (by omega)
  generalize Ex.readF (Ex.rdK tag) r m = E at *
  obtain ⟨a, x, y, s, p, pc⟩ := r
  obtain ⟨ea, ex, ey, es, ep, epc⟩ := E
  simp only [rgU, rgI] at k1 k2 k3 k4 ⊢
  go_enter Try.func3, Try.ntmps3
  repeat (first | (with_reducible refine wp_keep _ ((KS.nil w).alloc #[_, _, _, _, _, _] _) ?_) | go_step)
  rintro W hS
  have hk := hS.2.2
  simp only [World.size_alloc, List.forall_mem_cons] at hk
  obtain ⟨⟨-, l0, t0, -⟩, -⟩ := hk
  go_wp2_with fail
  apply SomeAt.one (S := fun w' => Below w.heap.size w w')
  · go_region_with (first | (go_at_call 9; refine (k1 _).mono ?_; rintro e w1 ⟨rfl, hw⟩; (first | (have hS := hS.below hw) | (have hS := hS.drew.below hw)); have t1 := fun i => hS.at List.mem_cons_self i) | (go_at_call 12; refine (k2 _).mono ?_; rintro e w1 ⟨rfl, hw⟩; (first | (have hS := hS.below hw) | (have hS := hS.drew.below hw)); have t2 := fun i => hS.at List.mem_cons_self i) | (go_at_call 11; refine (k3 _).mono ?_; rintro e w1 ⟨rfl, hw⟩; have hS := hS.below hw) | (go_at_call 10; refine (k4 _).mono ?_; rintro e w1 ⟨rfl, hw⟩; have hS := hS.below hw) | (go_at_call 13; refine (k5 _).mono ?_; rintro e w1 ⟨rfl, hw⟩; have hS := hS.below hw))
    all_goals exact ⟨rfl, hS.1⟩
  rintro w2 hb
  go_wp2_with fail
  go_ret
  exact ⟨rfl, hb⟩
end Go.Proofs.Ytlecpfkfnaiabaa
