/- The walk of the law ExecWrites. -/
import Derived.Test.YtlecpfkfnaiabaaExecRa2
import Derived.Test.YtlecpfkfnaiabaaExecAwake
import Derived.Test.YtlecpfkfnaiabaaExecC
import Derived.Test.YtlecpfkfnaiabaaSame
import Derived.Deep.RegionWith
import Derived.IntWalk
namespace Go.Proofs.Ytlecpfkfnaiabaa
open Go.RowKit
set_option linter.unusedVariables false
set_option linter.unusedSimpArgs false
theorem Ex.storeR_ok (k : Ex.StK) (r : Ex.Rg) (ok : r.ok) : (Ex.storeR k r).ok := by
  obtain ⟨a0, a1, x0, x1, y0, y1, s0, s1, p0, p1, pc0, pc1⟩ := ok
  have c3 := Alu.comF_in r.a r.x a0 a1
  cases k <;> simp only [Ex.storeR] <;> constructor <;> (try simp only []) <;> with_reducible first | assumption | exact c3.1 | exact c3.2
theorem Ex.turnR_ok (k : Ex.TuK) (r : Ex.Rg) (m : Int) (ok : r.ok) (g0 : 0 ≤ m) (g1 : m ≤ 255) : (Ex.turnR k r m).ok :=
  Ex.readF_ok _ _ _ ⟨ok.a0, ok.a1, ok.x0, ok.x1, ok.y0, ok.y1, ok.s0, ok.s1, (Ex.turnP_in k r.p m ok.p0 ok.p1).1, (Ex.turnP_in k r.p m ok.p0 ok.p1).2, ok.pc0, ok.pc1⟩ (Ex.turnV_in k r.p m g0 g1).1 (Ex.turnV_in k r.p m g0 g1).2
theorem Ex.storeV_in (k : Ex.StK) (r : Ex.Rg) (m : Int) (ok : r.ok) : 0 ≤ Ex.storeV k r m ∧ Ex.storeV k r m ≤ 255 := by
  obtain ⟨a0, a1, x0, x1, y0, y1, s0, s1, p0, p1, pc0, pc1⟩ := ok
  have c3 := Alu.comF_in r.a r.x a0 a1
  have c4 := Alu.comF_in (Alu.comF r.a r.x) ((m + 1) % 256) c3.1 c3.2
  have c5 := Alu.comF_in r.x ((m + 1) % 256) x0 x1
  have c6 := Alu.comF_in r.y ((m + 1) % 256) y0 y1
  cases k with
  | STA => exact ⟨a0, a1⟩
  | STX => exact ⟨x0, x1⟩
  | STY => exact ⟨y0, y1⟩
  | SAX => exact c3
  | SHA => exact c4
  | SHX => exact c5
  | SHY => exact c6
  | TAS => exact c4
  | other => exact ⟨(by decide : (0 : Int) ≤ 0), (by decide : (0 : Int) ≤ 255)⟩
theorem rto6_any (a x y s p pc : Int) (ok : (Ex.Rg.mk a x y s p pc).ok) (w : World) :
    Calls Try.prog 10 #[.agg #[.int .i64 a, .int .i64 x, .int .i64 y, .int .i64 s, .int .i64 p, .int .i64 pc]] w fun e w' => e = .returned (.agg #[.int .u8 a, .int .u8 x, .int .u8 y, .int .u8 s, .int .u8 p, .int .u16 pc]) ∧ Below w.heap.size w w' := rto_any ⟨a, x, y, s, p, pc⟩ ok w
set_option maxRecDepth 100000 in
set_option maxHeartbeats 8000000 in
theorem execWrites_walk (tag : ByteArray) (r : Ex.Rg) (ok : r.ok) (m : Int) (w : World) (g0 : 0 ≤ m) (g1 : m ≤ 255) :
    Calls Try.prog 4 #[.string tag, rgU r, .int .u8 m] w fun e w' => e = .returned (.bool true) ∧ Below w.heap.size w w' := by
  have k1 := fun w' => store_any r ok m g0 g1 tag w'
  have k2 := fun w' => rof_any r ok w'
  have k3 := fun w' => rstore_any r ok m g0 g1 tag w'
  have k4 := fun w' => turn_any r ok m g0 g1 tag w'
  have k5 := fun w' => rturn_any r ok m g0 g1 tag w'
  have okE := Ex.storeR_ok (Ex.stK tag) r ok
  have okD := Ex.turnR_ok (Ex.tuK tag) r m ok g0 g1
  have k8 := fun w' => awake_any w'
  have v1 := Ex.storeV_in (Ex.stK tag) r m ok
  have v2 := Ex.turnV_in (Ex.tuK tag) r.p m g0 g1
  clear ok
  generalize Ex.storeR (Ex.stK tag) r = E at *
  generalize Ex.turnR (Ex.tuK tag) r m = D at *
  generalize Ex.storeV (Ex.stK tag) r m = V at *
  generalize Ex.turnV (Ex.tuK tag) r.p m = U at *
  have hv : IntKind.i64.wrap V = V := IntWalk.i64_in _ (by omega)
  have hu : IntKind.i64.wrap U = U := IntWalk.i64_in _ (by omega)
  obtain ⟨a, x, y, s, p, pc⟩ := r
  obtain ⟨ea, ex, ey, es, ep, epc⟩ := E
  obtain ⟨da, dx, dy, ds, dp, dpc⟩ := D
  simp only [rgU, rgI] at k1 k2 k3 k4 k5 ⊢
  go_enter Try.func4, Try.ntmps4
  go_wp2_with fail
  refine (k1 _).mono ?_
  rintro e w1 ⟨rfl, hw1⟩
  have hS := (((KS.nil w).alloc _ _).below hw1)
  simp only []
  repeat (first | (with_reducible refine wp_keep _ (hS.alloc #[_, _, _, _, _, _] _) ?_) | go_step)
  rintro W1 hS1
  clear hS
  have hk := hS1.2.2
  simp only [World.size_alloc, List.forall_mem_cons] at hk
  obtain ⟨⟨-, l1, t1, -⟩, ⟨-, l0, t0, -⟩, -⟩ := hk
  go_wp2_with fail
  refine (k2 _).mono ?_
  rintro e w2 ⟨rfl, hw2⟩
  go_wp2_with fail
  refine (k3 _).mono ?_
  rintro e w3 ⟨rfl, hw3⟩
  have hS := (hS1.below hw2).below hw3
  simp only []
  repeat (first | (with_reducible refine wp_keep _ (hS.alloc #[_, _, _, _, _, _] _) ?_) | go_step)
  rintro W2 hS2
  clear hS hS1 t1 t0 l1 l0
  have hk := hS2.2.2
  simp only [World.size_alloc, List.forall_mem_cons] at hk
  obtain ⟨⟨-, l2, t2, -⟩, ⟨-, l1, t1, -⟩, ⟨-, l0, t0, -⟩, -⟩ := hk
  go_wp2_with fail
  refine (k4 _).mono ?_
  rintro e w4 ⟨rfl, hw4⟩
  have hS := hS2.below hw4
  simp only []
  repeat (first | (with_reducible refine wp_keep _ (hS.alloc #[_, _, _, _, _, _] _) ?_) | go_step)
  rintro W3 hS3
  clear hS hS2 t2 t1 t0 l2 l1 l0
  have hk := hS3.2.2
  simp only [World.size_alloc, List.forall_mem_cons] at hk
  obtain ⟨⟨-, l3, t3, -⟩, ⟨-, l2, t2, -⟩, ⟨-, l1, t1, -⟩, ⟨-, l0, t0, -⟩, -⟩ := hk
  go_wp2_with fail
  refine (k2 _).mono ?_
  rintro e w5 ⟨rfl, hw5⟩
  go_wp2_with fail
  refine (k5 _).mono ?_
  rintro e w6 ⟨rfl, hw6⟩
  have hS := (hS3.below hw5).below hw6
  simp only []
  repeat (first | (with_reducible refine wp_keep _ (hS.alloc #[_, _, _, _, _, _] _) ?_) | go_step)
  rintro W4 hS4
  clear hS hS3 t3 t2 t1 t0 l3 l2 l1 l0
  have hk := hS4.2.2
  simp only [World.size_alloc, List.forall_mem_cons] at hk
  obtain ⟨⟨-, l4, t4, -⟩, ⟨-, l3, t3, -⟩, ⟨-, l2, t2, -⟩, ⟨-, l1, t1, -⟩, -⟩ := hk
  go_wp2_with fail
  apply SomeAt.one (S := fun w' => Below w.heap.size w w')
  · go_region_with (first | (go_at_call 10; refine (rto6_any _ _ _ _ _ _ (by assumption) _).mono ?_; rintro e w1 ⟨rfl, hw⟩; (first | (have hS4 := hS4.below hw) | (have hS4 := hS4.drew.below hw)); have hj := hS4.2.2; simp only [World.size_alloc, List.forall_mem_cons] at hj; obtain ⟨⟨-, j4, s4, -⟩, ⟨-, j3, s3, -⟩, ⟨-, j2, s2, -⟩, ⟨-, j1, s1, -⟩, -⟩ := hj) | (go_at_call 13; refine (k8 _).mono ?_; rintro e w1 ⟨rfl, hw⟩; have hS4 := hS4.below hw))
    all_goals exact ⟨rfl, hS4.1⟩
  rintro w2 hb
  go_wp2_with fail
  go_ret
  exact ⟨rfl, hb⟩
end Go.Proofs.Ytlecpfkfnaiabaa
