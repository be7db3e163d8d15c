/- The walks of exec.Turn for some names. -/
import Derived.Test.YthepcjecmlkaiaaDoorZExecRd12
import Derived.Test.YthepcjecmlkaiaaDoorZExecThBox
import Derived.RegionTactic
import Derived.Deep.RegionWith
import Derived.ChangeAlike
import Derived.BigRegion
namespace Go.Proofs.YthepcjecmlkaiaaDoor
open Go.RowKit
set_option linter.unusedVariables false
set_option linter.unusedSimpArgs false
set_option maxRecDepth 100000 in
set_option maxHeartbeats 4000000 in
theorem turn_DCP (r : Ex.Rg) (ok : r.ok) (m : Int) (g0 : 0 ≤ m) (g1 : m ≤ 255) (tag : ByteArray) (hk : tag.toList = [68, 67, 80]) (w : World) :
    Calls Tryd.prog 60 #[.string tag, rgU r, .int .u8 m] w fun e w' => e = .returned (.tuple #[.int .u8 (Ex.turnV .DCP r.p m), rgU (Ex.turnR .DCP r m)]) ∧ Below w.heap.size w w' := by
  have hT := fun w' => then_DCP tag hk w'
  have e0 : (tag.toList == [65, 83, 76]) = false := by rw [hk]; rfl
  have e1 : (tag.toList == [83, 76, 79]) = false := by rw [hk]; rfl
  have e2 : (tag.toList == [82, 79, 76]) = false := by rw [hk]; rfl
  have e3 : (tag.toList == [82, 76, 65]) = false := by rw [hk]; rfl
  have e4 : (tag.toList == [76, 83, 82]) = false := by rw [hk]; rfl
  have e5 : (tag.toList == [83, 82, 69]) = false := by rw [hk]; rfl
  have e6 : (tag.toList == [82, 79, 82]) = false := by rw [hk]; rfl
  have e7 : (tag.toList == [82, 82, 65]) = false := by rw [hk]; rfl
  have e8 : (tag.toList == [73, 78, 67]) = false := by rw [hk]; rfl
  have e9 : (tag.toList == [68, 69, 67]) = false := by rw [hk]; rfl
  have e10 : (tag.toList == [73, 83, 67]) = false := by rw [hk]; rfl
  have e11 : (tag.toList == [68, 67, 80]) = true := by rw [hk]; rfl
  clear hk
  obtain ⟨a, x, y, s, p, pc⟩ := r
  obtain ⟨a0, a1, x0, x1, y0, y1, s0, s1, p0, p1, pc0, pc1⟩ := ok
  simp only [] at a0 a1 x0 x1 y0 y1 s0 s1 p0 p1 pc0 pc1
  have v := Ex.turnV_in .DCP p m g0 g1
  have q := Ex.turnP_in .DCP p m p0 p1
  have hR := fun w' => read_CMP ⟨a, x, y, s, Ex.turnP .DCP p m, pc⟩ ⟨a0, a1, x0, x1, y0, y1, s0, s1, q.1, q.2, pc0, pc1⟩ (Ex.turnV .DCP p m) v.1 v.2 ⟨#[67, 77, 80]⟩ (by decide +kernel) w'
  simp only [rgU] at hR
  have hE : Ex.readF .CMP ⟨a, x, y, s, Ex.turnP .DCP p m, pc⟩ (Ex.turnV .DCP p m) = Ex.turnR .DCP ⟨a, x, y, s, p, pc⟩ m := rfl
  rw [hE] at hR
  clear hE
  generalize Ex.turnR .DCP ⟨a, x, y, s, p, pc⟩ m = E at *
  obtain ⟨ea, ex, ey, es, ep, epc⟩ := E
  simp only [] at hR
  unfold rgU
  go_enter Tryd.func60, Tryd.ntmps60
  repeat (first | (with_reducible refine wp_abs _ (fileS_start _ a x y s p pc w) ?_) | go_step)
  generalize w.heap.size + 1 = R
  rintro W hS
  have hS' := hS
  obtain ⟨c0, c1, c2, c3, c4, c5, f0, f1, f2, f3, f4, f5, d0, d1, d2, d3, d4, d5, r0, r1, r2, r3, r4, r5, hb, hn, hF⟩ := hS'
  (repeat (first | (with_reducible refine inBlock_far (by decide) ?_) | (with_reducible refine then_exit ?_) | (with_reducible refine inBlock_here ?_) | ((fail_if_success (with_reducible refine calls_id ?_)); go_step)))
  refine wp_abs _ hS ?_
  clear c0 c1 c2 c3 c4 c5 f0 f1 f2 f3 f4 f5 d0 d1 d2 d3 d4 d5 r0 r1 r2 r3 r4 r5 hb hn hF hS
  rintro W2 hS
  have hS' := hS
  obtain ⟨c0, c1, c2, c3, c4, c5, f0, f1, f2, f3, f4, f5, d0, d1, d2, d3, d4, d5, r0, r1, r2, r3, r4, r5, hb, hn, hF⟩ := hS'
  go_region_with (first | (go_at_call 70; refine (hT _).mono ?_; rintro e w1 ⟨rfl, rfl⟩) | (go_at_call 8; refine (hR _).mono ?_; rintro e w1 ⟨rfl, hw⟩; obtain ⟨c0, c1, c2, c3, c4, c5, f0, f1, f2, f3, f4, f5, d0, d1, d2, d3, d4, d5, r0, r1, r2, r3, r4, r5, hb, hn, hF⟩ := hS.drew.next hw (Nat.le_refl _) hb.size))
  all_goals (repeat (first | (with_reducible refine inBlock_far (by decide) ?_) | (with_reducible refine then_exit ?_) | (with_reducible refine inBlock_here ?_) | ((fail_if_success (with_reducible refine calls_id ?_)); go_step)))
  all_goals refine bodyPost_ret (v := .tuple #[.int .u8 (Ex.turnV .DCP p m), .agg #[.int .u8 (ea), .int .u8 (ex), .int .u8 (ey), .int .u8 (es), .int .u8 (ep), .int .u16 (epc)]]) (by simp [results, Tryd.results60, go_sem, Ex.turnV, *]) rfl ⟨rfl, ?_⟩
  all_goals (repeat (first | (with_reducible exact hb) | (with_reducible exact hb.drew) | (with_reducible refine Below.drew ?_) | (with_reducible refine Below.setCell ?_ (by simp only []; omega) _)))
end Go.Proofs.YthepcjecmlkaiaaDoor
