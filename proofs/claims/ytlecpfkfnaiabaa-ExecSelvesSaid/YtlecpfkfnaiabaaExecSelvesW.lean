/- The walk of the law ExecSelves. -/
import Derived.Test.YtlecpfkfnaiabaaExecRa2
import Derived.Test.YtlecpfkfnaiabaaExecAwake
import Derived.Test.YtlecpfkfnaiabaaExecC
import Derived.Test.YtlecpfkfnaiabaaSame
import Derived.Deep.RegionWith
import Derived.IntWalk
namespace Go.Proofs.Ytlecpfkfnaiabaa
open Go.RowKit
set_option linter.unusedVariables false
set_option linter.unusedSimpArgs false
theorem Ex.selfF_ok (k : Ex.SeK) (r : Ex.Rg) (ok : r.ok) : (Ex.selfF k r).ok := by
  obtain ⟨a0, a1, x0, x1, y0, y1, s0, s1, p0, p1, pc0, pc1⟩ := ok
  have mk := fun v => Alu.markF_in r.p v p0 p1
  have st := fun f b h => Ex.setG_in r.p f b p0 p1 h
  have e1 : 0 ≤ (r.x + 1) % 256 ∧ (r.x + 1) % 256 ≤ 255 := by omega
  have e2 : 0 ≤ (r.y + 1) % 256 ∧ (r.y + 1) % 256 ≤ 255 := by omega
  have e3 : 0 ≤ (r.x - 1) % 256 ∧ (r.x - 1) % 256 ≤ 255 := by omega
  have e4 : 0 ≤ (r.y - 1) % 256 ∧ (r.y - 1) % 256 ≤ 255 := by omega
  cases k <;> simp only [Ex.selfF, Ex.markR] <;> constructor <;> (try simp only []) <;> with_reducible first | assumption | exact (mk _).1 | exact (mk _).2 | exact (st _ _ (by simp)).1 | exact (st _ _ (by simp)).2 | exact e1.1 | exact e1.2 | exact e2.1 | exact e2.2 | exact e3.1 | exact e3.2 | exact e4.1 | exact e4.2
set_option maxRecDepth 100000 in
set_option maxHeartbeats 8000000 in
theorem execSelves_walk (tag : ByteArray) (r : Ex.Rg) (ok : r.ok) (w : World) :
    Calls Try.prog 8 #[.string tag, rgU r] w fun e w' => e = .returned (.bool true) ∧ Below w.heap.size w w' := by
  have k1 := fun w' => self_any r ok tag w'
  have k2 := fun w' => rof_any r ok w'
  have k3 := fun w' => rself_any r ok tag w'
  have k4 := fun w' => rto_any (Ex.selfF (Ex.seK tag) r) (Ex.selfF_ok (Ex.seK tag) r ok) w'
  have k5 := fun w' => awake_any w'
  have k6 := fun w' => goes_any r.p ok.p0 ok.p1 tag w'
  have k7 := fun w' => rgoes_any r.p ok.p0 ok.p1 tag w'
  have k8 := fun w' => unsure_any tag w'
  have k9 := fun w' => runsure_any tag w'
  have hm : IntKind.i64.wrap r.p = r.p := IntWalk.i64_in _ (by have := ok.p0; have := ok.p1; omega)
  clear ok
  generalize Ex.selfF (Ex.seK tag) r = E at *
  generalize Ex.goesF (Ex.goK tag) r.p = G at *
  generalize Ex.unS tag = U at *
  obtain ⟨a, x, y, s, p, pc⟩ := r
  obtain ⟨ea, ex, ey, es, ep, epc⟩ := E
  simp only [rgU, rgI] at k1 k2 k3 k4 k6 k7 hm ⊢
  go_enter Try.func8, Try.ntmps8
  repeat (first | (with_reducible refine wp_keep _ ((KS.nil w).alloc #[_, _, _, _, _, _] _) ?_) | go_step)
  rintro W hS
  have hk := hS.2.2
  simp only [World.size_alloc, List.forall_mem_cons] at hk
  obtain ⟨⟨-, l0, t0, -⟩, -⟩ := hk
  go_wp2_with fail
  apply SomeAt.one (S := fun w' => Below w.heap.size w w')
  · go_region_with (first | (go_at_call 19; refine (k1 _).mono ?_; rintro e w1 ⟨rfl, hw⟩; (first | (have hS := hS.below hw) | (have hS := hS.drew.below hw)); have t1 := fun i => hS.at List.mem_cons_self i) | (go_at_call 12; refine (k2 _).mono ?_; rintro e w1 ⟨rfl, hw⟩; (first | (have hS := hS.below hw) | (have hS := hS.drew.below hw)); have t2 := fun i => hS.at List.mem_cons_self i) | (go_at_call 20; refine (k3 _).mono ?_; rintro e w1 ⟨rfl, hw⟩; have hS := hS.below hw; have t3 := fun i => hS.at List.mem_cons_self i) | (go_at_call 10; refine (k4 _).mono ?_; rintro e w1 ⟨rfl, hw⟩; have hS := hS.below hw; have t4 := fun i => hS.at List.mem_cons_self i) | (go_at_call 18; refine (k6 _).mono ?_; rintro e w1 ⟨rfl, rfl⟩) | (go_at_call 21; refine (k7 _).mono ?_; rintro e w1 ⟨rfl, rfl⟩) | (go_at_call 22; refine (k8 _).mono ?_; rintro e w1 ⟨rfl, rfl⟩) | (go_at_call 23; refine (k9 _).mono ?_; rintro e w1 ⟨rfl, rfl⟩) | (go_at_call 13; refine (k5 _).mono ?_; rintro e w1 ⟨rfl, hw⟩; have hS := hS.below hw))
    all_goals exact ⟨rfl, hS.1⟩
  rintro w2 hb
  go_wp2_with fail
  go_ret
  exact ⟨rfl, hb⟩
end Go.Proofs.Ytlecpfkfnaiabaa
