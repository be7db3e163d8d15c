/- The walks of the reference of layer 11: Self. -/
import Derived.Test.YtlecpfkfnaiabaaExecRef
import Derived.RegionTactic
import Derived.Deep.RegionWith
import Derived.ChangeAlike
import Derived.BigRegion
namespace Go.Proofs.Ytlecpfkfnaiabaa
open Go.RowKit
set_option linter.unusedVariables false
set_option linter.unusedSimpArgs false
set_option maxRecDepth 100000 in
set_option maxHeartbeats 4000000 in
theorem rself_CLC (r : Ex.Rg) (ok : r.ok) (tag : ByteArray) (hk : tag.toList = [67, 76, 67]) (w : World) :
    Calls Try.prog 20 #[.string tag, rgI r] w fun e w' => e = .returned (rgI (Ex.selfF .CLC r)) ∧ Below w.heap.size w w' := by
  have k1 := fun w' => rflag_any tag 67 1 w' ⟨67, 76, hk⟩ (by decide)
  have k2 := fun w' => rwith_any r.p 1 false w' ok.p0 ok.p1 (by omega) (by omega)
  have e0 : (tag.toList == [67, 76, 67]) = true := by rw [hk]; rfl
  have e1 : (tag.toList == [83, 69, 67]) = false := by rw [hk]; rfl
  have e2 : (tag.toList == [67, 76, 68]) = false := by rw [hk]; rfl
  have e3 : (tag.toList == [83, 69, 68]) = false := by rw [hk]; rfl
  have e4 : (tag.toList == [67, 76, 73]) = false := by rw [hk]; rfl
  have e5 : (tag.toList == [83, 69, 73]) = false := by rw [hk]; rfl
  have e6 : (tag.toList == [67, 76, 86]) = false := by rw [hk]; rfl
  have e7 : (tag.toList == [84, 65, 88]) = false := by rw [hk]; rfl
  have e8 : (tag.toList == [84, 65, 89]) = false := by rw [hk]; rfl
  have e9 : (tag.toList == [84, 88, 65]) = false := by rw [hk]; rfl
  have e10 : (tag.toList == [84, 89, 65]) = false := by rw [hk]; rfl
  have e11 : (tag.toList == [84, 83, 88]) = false := by rw [hk]; rfl
  have e12 : (tag.toList == [84, 88, 83]) = false := by rw [hk]; rfl
  have e13 : (tag.toList == [73, 78, 88]) = false := by rw [hk]; rfl
  have e14 : (tag.toList == [73, 78, 89]) = false := by rw [hk]; rfl
  have e15 : (tag.toList == [68, 69, 88]) = false := by rw [hk]; rfl
  have e16 : (tag.toList == [68, 69, 89]) = false := by rw [hk]; rfl
  clear hk
  obtain ⟨a, x, y, s, p, pc⟩ := r
  obtain ⟨a0, a1, x0, x1, y0, y1, s0, s1, p0, p1, pc0, pc1⟩ := ok
  simp only [] at a0 a1 x0 x1 y0 y1 s0 s1 p0 p1 pc0 pc1
  unfold rgI
  go_enter Try.func20, Try.ntmps20
  repeat (first | (with_reducible refine wp_abs _ (boxS_start .i64 .i64 _ _ a x y s p pc w) ?_) | go_step)
  rintro W hS
  have hS' := hS
  obtain ⟨c0, c1, c2, c3, c4, c5, f0, f1, f2, f3, f4, f5, d0, d1, d2, d3, d4, d5, r0, r1, r2, r3, r4, r5, hb, hn, hF⟩ := hS'
  (repeat (first | (with_reducible refine inBlock_far (by decide) ?_) | (with_reducible refine then_exit ?_) | (with_reducible refine inBlock_here ?_) | ((fail_if_success (with_reducible refine calls_id ?_)); go_step)))
  go_region_with (first | (go_at_call 46; refine (k1 _).mono ?_; rintro e w1 ⟨rfl, rfl⟩) | (go_at_call 40; refine (k2 _).mono ?_; rintro e w1 ⟨rfl, rfl⟩))
  all_goals (repeat (first | (with_reducible refine inBlock_far (by decide) ?_) | (with_reducible refine then_exit ?_) | (with_reducible refine inBlock_here ?_) | ((fail_if_success (with_reducible refine calls_id ?_)); go_step)))
  all_goals refine bodyPost_ret (v := .agg #[.int .i64 (a), .int .i64 (x), .int .i64 (y), .int .i64 (s), .int .i64 (Alu.setF p 1 false), .int .i64 (pc)]) (by simp [results, Try.results20, go_sem, *]) rfl ⟨rfl, ?_⟩
  all_goals (repeat (first | (with_reducible exact hb) | (with_reducible exact hb.drew) | (with_reducible refine Below.drew ?_) | (with_reducible refine Below.setCell ?_ (by simp only []; omega) _)))
set_option maxRecDepth 100000 in
set_option maxHeartbeats 4000000 in
theorem rself_SEC (r : Ex.Rg) (ok : r.ok) (tag : ByteArray) (hk : tag.toList = [83, 69, 67]) (w : World) :
    Calls Try.prog 20 #[.string tag, rgI r] w fun e w' => e = .returned (rgI (Ex.selfF .SEC r)) ∧ Below w.heap.size w w' := by
  have k1 := fun w' => rflag_any tag 67 1 w' ⟨83, 69, hk⟩ (by decide)
  have k2 := fun w' => rwith_any r.p 1 true w' ok.p0 ok.p1 (by omega) (by omega)
  have e0 : (tag.toList == [67, 76, 67]) = false := by rw [hk]; rfl
  have e1 : (tag.toList == [83, 69, 67]) = true := by rw [hk]; rfl
  have e2 : (tag.toList == [67, 76, 68]) = false := by rw [hk]; rfl
  have e3 : (tag.toList == [83, 69, 68]) = false := by rw [hk]; rfl
  have e4 : (tag.toList == [67, 76, 73]) = false := by rw [hk]; rfl
  have e5 : (tag.toList == [83, 69, 73]) = false := by rw [hk]; rfl
  have e6 : (tag.toList == [67, 76, 86]) = false := by rw [hk]; rfl
  have e7 : (tag.toList == [84, 65, 88]) = false := by rw [hk]; rfl
  have e8 : (tag.toList == [84, 65, 89]) = false := by rw [hk]; rfl
  have e9 : (tag.toList == [84, 88, 65]) = false := by rw [hk]; rfl
  have e10 : (tag.toList == [84, 89, 65]) = false := by rw [hk]; rfl
  have e11 : (tag.toList == [84, 83, 88]) = false := by rw [hk]; rfl
  have e12 : (tag.toList == [84, 88, 83]) = false := by rw [hk]; rfl
  have e13 : (tag.toList == [73, 78, 88]) = false := by rw [hk]; rfl
  have e14 : (tag.toList == [73, 78, 89]) = false := by rw [hk]; rfl
  have e15 : (tag.toList == [68, 69, 88]) = false := by rw [hk]; rfl
  have e16 : (tag.toList == [68, 69, 89]) = false := by rw [hk]; rfl
  clear hk
  obtain ⟨a, x, y, s, p, pc⟩ := r
  obtain ⟨a0, a1, x0, x1, y0, y1, s0, s1, p0, p1, pc0, pc1⟩ := ok
  simp only [] at a0 a1 x0 x1 y0 y1 s0 s1 p0 p1 pc0 pc1
  unfold rgI
  go_enter Try.func20, Try.ntmps20
  repeat (first | (with_reducible refine wp_abs _ (boxS_start .i64 .i64 _ _ a x y s p pc w) ?_) | go_step)
  rintro W hS
  have hS' := hS
  obtain ⟨c0, c1, c2, c3, c4, c5, f0, f1, f2, f3, f4, f5, d0, d1, d2, d3, d4, d5, r0, r1, r2, r3, r4, r5, hb, hn, hF⟩ := hS'
  (repeat (first | (with_reducible refine inBlock_far (by decide) ?_) | (with_reducible refine then_exit ?_) | (with_reducible refine inBlock_here ?_) | ((fail_if_success (with_reducible refine calls_id ?_)); go_step)))
  go_region_with (first | (go_at_call 46; refine (k1 _).mono ?_; rintro e w1 ⟨rfl, rfl⟩) | (go_at_call 40; refine (k2 _).mono ?_; rintro e w1 ⟨rfl, rfl⟩))
  all_goals (repeat (first | (with_reducible refine inBlock_far (by decide) ?_) | (with_reducible refine then_exit ?_) | (with_reducible refine inBlock_here ?_) | ((fail_if_success (with_reducible refine calls_id ?_)); go_step)))
  all_goals refine bodyPost_ret (v := .agg #[.int .i64 (a), .int .i64 (x), .int .i64 (y), .int .i64 (s), .int .i64 (Alu.setF p 1 true), .int .i64 (pc)]) (by simp [results, Try.results20, go_sem, *]) rfl ⟨rfl, ?_⟩
  all_goals (repeat (first | (with_reducible exact hb) | (with_reducible exact hb.drew) | (with_reducible refine Below.drew ?_) | (with_reducible refine Below.setCell ?_ (by simp only []; omega) _)))
set_option maxRecDepth 100000 in
set_option maxHeartbeats 4000000 in
theorem rself_CLD (r : Ex.Rg) (ok : r.ok) (tag : ByteArray) (hk : tag.toList = [67, 76, 68]) (w : World) :
    Calls Try.prog 20 #[.string tag, rgI r] w fun e w' => e = .returned (rgI (Ex.selfF .CLD r)) ∧ Below w.heap.size w w' := by
  have k1 := fun w' => rflag_any tag 68 8 w' ⟨67, 76, hk⟩ (by decide)
  have k2 := fun w' => rwith_any r.p 8 false w' ok.p0 ok.p1 (by omega) (by omega)
  have e0 : (tag.toList == [67, 76, 67]) = false := by rw [hk]; rfl
  have e1 : (tag.toList == [83, 69, 67]) = false := by rw [hk]; rfl
  have e2 : (tag.toList == [67, 76, 68]) = true := by rw [hk]; rfl
  have e3 : (tag.toList == [83, 69, 68]) = false := by rw [hk]; rfl
  have e4 : (tag.toList == [67, 76, 73]) = false := by rw [hk]; rfl
  have e5 : (tag.toList == [83, 69, 73]) = false := by rw [hk]; rfl
  have e6 : (tag.toList == [67, 76, 86]) = false := by rw [hk]; rfl
  have e7 : (tag.toList == [84, 65, 88]) = false := by rw [hk]; rfl
  have e8 : (tag.toList == [84, 65, 89]) = false := by rw [hk]; rfl
  have e9 : (tag.toList == [84, 88, 65]) = false := by rw [hk]; rfl
  have e10 : (tag.toList == [84, 89, 65]) = false := by rw [hk]; rfl
  have e11 : (tag.toList == [84, 83, 88]) = false := by rw [hk]; rfl
  have e12 : (tag.toList == [84, 88, 83]) = false := by rw [hk]; rfl
  have e13 : (tag.toList == [73, 78, 88]) = false := by rw [hk]; rfl
  have e14 : (tag.toList == [73, 78, 89]) = false := by rw [hk]; rfl
  have e15 : (tag.toList == [68, 69, 88]) = false := by rw [hk]; rfl
  have e16 : (tag.toList == [68, 69, 89]) = false := by rw [hk]; rfl
  clear hk
  obtain ⟨a, x, y, s, p, pc⟩ := r
  obtain ⟨a0, a1, x0, x1, y0, y1, s0, s1, p0, p1, pc0, pc1⟩ := ok
  simp only [] at a0 a1 x0 x1 y0 y1 s0 s1 p0 p1 pc0 pc1
  unfold rgI
  go_enter Try.func20, Try.ntmps20
  repeat (first | (with_reducible refine wp_abs _ (boxS_start .i64 .i64 _ _ a x y s p pc w) ?_) | go_step)
  rintro W hS
  have hS' := hS
  obtain ⟨c0, c1, c2, c3, c4, c5, f0, f1, f2, f3, f4, f5, d0, d1, d2, d3, d4, d5, r0, r1, r2, r3, r4, r5, hb, hn, hF⟩ := hS'
  (repeat (first | (with_reducible refine inBlock_far (by decide) ?_) | (with_reducible refine then_exit ?_) | (with_reducible refine inBlock_here ?_) | ((fail_if_success (with_reducible refine calls_id ?_)); go_step)))
  go_region_with (first | (go_at_call 46; refine (k1 _).mono ?_; rintro e w1 ⟨rfl, rfl⟩) | (go_at_call 40; refine (k2 _).mono ?_; rintro e w1 ⟨rfl, rfl⟩))
  all_goals (repeat (first | (with_reducible refine inBlock_far (by decide) ?_) | (with_reducible refine then_exit ?_) | (with_reducible refine inBlock_here ?_) | ((fail_if_success (with_reducible refine calls_id ?_)); go_step)))
  all_goals refine bodyPost_ret (v := .agg #[.int .i64 (a), .int .i64 (x), .int .i64 (y), .int .i64 (s), .int .i64 (Alu.setF p 8 false), .int .i64 (pc)]) (by simp [results, Try.results20, go_sem, *]) rfl ⟨rfl, ?_⟩
  all_goals (repeat (first | (with_reducible exact hb) | (with_reducible exact hb.drew) | (with_reducible refine Below.drew ?_) | (with_reducible refine Below.setCell ?_ (by simp only []; omega) _)))
set_option maxRecDepth 100000 in
set_option maxHeartbeats 4000000 in
theorem rself_SED (r : Ex.Rg) (ok : r.ok) (tag : ByteArray) (hk : tag.toList = [83, 69, 68]) (w : World) :
    Calls Try.prog 20 #[.string tag, rgI r] w fun e w' => e = .returned (rgI (Ex.selfF .SED r)) ∧ Below w.heap.size w w' := by
  have k1 := fun w' => rflag_any tag 68 8 w' ⟨83, 69, hk⟩ (by decide)
  have k2 := fun w' => rwith_any r.p 8 true w' ok.p0 ok.p1 (by omega) (by omega)
  have e0 : (tag.toList == [67, 76, 67]) = false := by rw [hk]; rfl
  have e1 : (tag.toList == [83, 69, 67]) = false := by rw [hk]; rfl
  have e2 : (tag.toList == [67, 76, 68]) = false := by rw [hk]; rfl
  have e3 : (tag.toList == [83, 69, 68]) = true := by rw [hk]; rfl
  have e4 : (tag.toList == [67, 76, 73]) = false := by rw [hk]; rfl
  have e5 : (tag.toList == [83, 69, 73]) = false := by rw [hk]; rfl
  have e6 : (tag.toList == [67, 76, 86]) = false := by rw [hk]; rfl
  have e7 : (tag.toList == [84, 65, 88]) = false := by rw [hk]; rfl
  have e8 : (tag.toList == [84, 65, 89]) = false := by rw [hk]; rfl
  have e9 : (tag.toList == [84, 88, 65]) = false := by rw [hk]; rfl
  have e10 : (tag.toList == [84, 89, 65]) = false := by rw [hk]; rfl
  have e11 : (tag.toList == [84, 83, 88]) = false := by rw [hk]; rfl
  have e12 : (tag.toList == [84, 88, 83]) = false := by rw [hk]; rfl
  have e13 : (tag.toList == [73, 78, 88]) = false := by rw [hk]; rfl
  have e14 : (tag.toList == [73, 78, 89]) = false := by rw [hk]; rfl
  have e15 : (tag.toList == [68, 69, 88]) = false := by rw [hk]; rfl
  have e16 : (tag.toList == [68, 69, 89]) = false := by rw [hk]; rfl
  clear hk
  obtain ⟨a, x, y, s, p, pc⟩ := r
  obtain ⟨a0, a1, x0, x1, y0, y1, s0, s1, p0, p1, pc0, pc1⟩ := ok
  simp only [] at a0 a1 x0 x1 y0 y1 s0 s1 p0 p1 pc0 pc1
  unfold rgI
  go_enter Try.func20, Try.ntmps20
  repeat (first | (with_reducible refine wp_abs _ (boxS_start .i64 .i64 _ _ a x y s p pc w) ?_) | go_step)
  rintro W hS
  have hS' := hS
  obtain ⟨c0, c1, c2, c3, c4, c5, f0, f1, f2, f3, f4, f5, d0, d1, d2, d3, d4, d5, r0, r1, r2, r3, r4, r5, hb, hn, hF⟩ := hS'
  (repeat (first | (with_reducible refine inBlock_far (by decide) ?_) | (with_reducible refine then_exit ?_) | (with_reducible refine inBlock_here ?_) | ((fail_if_success (with_reducible refine calls_id ?_)); go_step)))
  go_region_with (first | (go_at_call 46; refine (k1 _).mono ?_; rintro e w1 ⟨rfl, rfl⟩) | (go_at_call 40; refine (k2 _).mono ?_; rintro e w1 ⟨rfl, rfl⟩))
  all_goals (repeat (first | (with_reducible refine inBlock_far (by decide) ?_) | (with_reducible refine then_exit ?_) | (with_reducible refine inBlock_here ?_) | ((fail_if_success (with_reducible refine calls_id ?_)); go_step)))
  all_goals refine bodyPost_ret (v := .agg #[.int .i64 (a), .int .i64 (x), .int .i64 (y), .int .i64 (s), .int .i64 (Alu.setF p 8 true), .int .i64 (pc)]) (by simp [results, Try.results20, go_sem, *]) rfl ⟨rfl, ?_⟩
  all_goals (repeat (first | (with_reducible exact hb) | (with_reducible exact hb.drew) | (with_reducible refine Below.drew ?_) | (with_reducible refine Below.setCell ?_ (by simp only []; omega) _)))
set_option maxRecDepth 100000 in
set_option maxHeartbeats 4000000 in
theorem rself_CLI (r : Ex.Rg) (ok : r.ok) (tag : ByteArray) (hk : tag.toList = [67, 76, 73]) (w : World) :
    Calls Try.prog 20 #[.string tag, rgI r] w fun e w' => e = .returned (rgI (Ex.selfF .CLI r)) ∧ Below w.heap.size w w' := by
  have k1 := fun w' => rflag_any tag 73 4 w' ⟨67, 76, hk⟩ (by decide)
  have k2 := fun w' => rwith_any r.p 4 false w' ok.p0 ok.p1 (by omega) (by omega)
  have e0 : (tag.toList == [67, 76, 67]) = false := by rw [hk]; rfl
  have e1 : (tag.toList == [83, 69, 67]) = false := by rw [hk]; rfl
  have e2 : (tag.toList == [67, 76, 68]) = false := by rw [hk]; rfl
  have e3 : (tag.toList == [83, 69, 68]) = false := by rw [hk]; rfl
  have e4 : (tag.toList == [67, 76, 73]) = true := by rw [hk]; rfl
  have e5 : (tag.toList == [83, 69, 73]) = false := by rw [hk]; rfl
  have e6 : (tag.toList == [67, 76, 86]) = false := by rw [hk]; rfl
  have e7 : (tag.toList == [84, 65, 88]) = false := by rw [hk]; rfl
  have e8 : (tag.toList == [84, 65, 89]) = false := by rw [hk]; rfl
  have e9 : (tag.toList == [84, 88, 65]) = false := by rw [hk]; rfl
  have e10 : (tag.toList == [84, 89, 65]) = false := by rw [hk]; rfl
  have e11 : (tag.toList == [84, 83, 88]) = false := by rw [hk]; rfl
  have e12 : (tag.toList == [84, 88, 83]) = false := by rw [hk]; rfl
  have e13 : (tag.toList == [73, 78, 88]) = false := by rw [hk]; rfl
  have e14 : (tag.toList == [73, 78, 89]) = false := by rw [hk]; rfl
  have e15 : (tag.toList == [68, 69, 88]) = false := by rw [hk]; rfl
  have e16 : (tag.toList == [68, 69, 89]) = false := by rw [hk]; rfl
  clear hk
  obtain ⟨a, x, y, s, p, pc⟩ := r
  obtain ⟨a0, a1, x0, x1, y0, y1, s0, s1, p0, p1, pc0, pc1⟩ := ok
  simp only [] at a0 a1 x0 x1 y0 y1 s0 s1 p0 p1 pc0 pc1
  unfold rgI
  go_enter Try.func20, Try.ntmps20
  repeat (first | (with_reducible refine wp_abs _ (boxS_start .i64 .i64 _ _ a x y s p pc w) ?_) | go_step)
  rintro W hS
  have hS' := hS
  obtain ⟨c0, c1, c2, c3, c4, c5, f0, f1, f2, f3, f4, f5, d0, d1, d2, d3, d4, d5, r0, r1, r2, r3, r4, r5, hb, hn, hF⟩ := hS'
  (repeat (first | (with_reducible refine inBlock_far (by decide) ?_) | (with_reducible refine then_exit ?_) | (with_reducible refine inBlock_here ?_) | ((fail_if_success (with_reducible refine calls_id ?_)); go_step)))
  go_region_with (first | (go_at_call 46; refine (k1 _).mono ?_; rintro e w1 ⟨rfl, rfl⟩) | (go_at_call 40; refine (k2 _).mono ?_; rintro e w1 ⟨rfl, rfl⟩))
  all_goals (repeat (first | (with_reducible refine inBlock_far (by decide) ?_) | (with_reducible refine then_exit ?_) | (with_reducible refine inBlock_here ?_) | ((fail_if_success (with_reducible refine calls_id ?_)); go_step)))
  all_goals refine bodyPost_ret (v := .agg #[.int .i64 (a), .int .i64 (x), .int .i64 (y), .int .i64 (s), .int .i64 (Alu.setF p 4 false), .int .i64 (pc)]) (by simp [results, Try.results20, go_sem, *]) rfl ⟨rfl, ?_⟩
  all_goals (repeat (first | (with_reducible exact hb) | (with_reducible exact hb.drew) | (with_reducible refine Below.drew ?_) | (with_reducible refine Below.setCell ?_ (by simp only []; omega) _)))
set_option maxRecDepth 100000 in
set_option maxHeartbeats 4000000 in
theorem rself_SEI (r : Ex.Rg) (ok : r.ok) (tag : ByteArray) (hk : tag.toList = [83, 69, 73]) (w : World) :
    Calls Try.prog 20 #[.string tag, rgI r] w fun e w' => e = .returned (rgI (Ex.selfF .SEI r)) ∧ Below w.heap.size w w' := by
  have k1 := fun w' => rflag_any tag 73 4 w' ⟨83, 69, hk⟩ (by decide)
  have k2 := fun w' => rwith_any r.p 4 true w' ok.p0 ok.p1 (by omega) (by omega)
  have e0 : (tag.toList == [67, 76, 67]) = false := by rw [hk]; rfl
  have e1 : (tag.toList == [83, 69, 67]) = false := by rw [hk]; rfl
  have e2 : (tag.toList == [67, 76, 68]) = false := by rw [hk]; rfl
  have e3 : (tag.toList == [83, 69, 68]) = false := by rw [hk]; rfl
  have e4 : (tag.toList == [67, 76, 73]) = false := by rw [hk]; rfl
  have e5 : (tag.toList == [83, 69, 73]) = true := by rw [hk]; rfl
  have e6 : (tag.toList == [67, 76, 86]) = false := by rw [hk]; rfl
  have e7 : (tag.toList == [84, 65, 88]) = false := by rw [hk]; rfl
  have e8 : (tag.toList == [84, 65, 89]) = false := by rw [hk]; rfl
  have e9 : (tag.toList == [84, 88, 65]) = false := by rw [hk]; rfl
  have e10 : (tag.toList == [84, 89, 65]) = false := by rw [hk]; rfl
  have e11 : (tag.toList == [84, 83, 88]) = false := by rw [hk]; rfl
  have e12 : (tag.toList == [84, 88, 83]) = false := by rw [hk]; rfl
  have e13 : (tag.toList == [73, 78, 88]) = false := by rw [hk]; rfl
  have e14 : (tag.toList == [73, 78, 89]) = false := by rw [hk]; rfl
  have e15 : (tag.toList == [68, 69, 88]) = false := by rw [hk]; rfl
  have e16 : (tag.toList == [68, 69, 89]) = false := by rw [hk]; rfl
  clear hk
  obtain ⟨a, x, y, s, p, pc⟩ := r
  obtain ⟨a0, a1, x0, x1, y0, y1, s0, s1, p0, p1, pc0, pc1⟩ := ok
  simp only [] at a0 a1 x0 x1 y0 y1 s0 s1 p0 p1 pc0 pc1
  unfold rgI
  go_enter Try.func20, Try.ntmps20
  repeat (first | (with_reducible refine wp_abs _ (boxS_start .i64 .i64 _ _ a x y s p pc w) ?_) | go_step)
  rintro W hS
  have hS' := hS
  obtain ⟨c0, c1, c2, c3, c4, c5, f0, f1, f2, f3, f4, f5, d0, d1, d2, d3, d4, d5, r0, r1, r2, r3, r4, r5, hb, hn, hF⟩ := hS'
  (repeat (first | (with_reducible refine inBlock_far (by decide) ?_) | (with_reducible refine then_exit ?_) | (with_reducible refine inBlock_here ?_) | ((fail_if_success (with_reducible refine calls_id ?_)); go_step)))
  go_region_with (first | (go_at_call 46; refine (k1 _).mono ?_; rintro e w1 ⟨rfl, rfl⟩) | (go_at_call 40; refine (k2 _).mono ?_; rintro e w1 ⟨rfl, rfl⟩))
  all_goals (repeat (first | (with_reducible refine inBlock_far (by decide) ?_) | (with_reducible refine then_exit ?_) | (with_reducible refine inBlock_here ?_) | ((fail_if_success (with_reducible refine calls_id ?_)); go_step)))
  all_goals refine bodyPost_ret (v := .agg #[.int .i64 (a), .int .i64 (x), .int .i64 (y), .int .i64 (s), .int .i64 (Alu.setF p 4 true), .int .i64 (pc)]) (by simp [results, Try.results20, go_sem, *]) rfl ⟨rfl, ?_⟩
  all_goals (repeat (first | (with_reducible exact hb) | (with_reducible exact hb.drew) | (with_reducible refine Below.drew ?_) | (with_reducible refine Below.setCell ?_ (by simp only []; omega) _)))
set_option maxRecDepth 100000 in
set_option maxHeartbeats 4000000 in
theorem rself_CLV (r : Ex.Rg) (ok : r.ok) (tag : ByteArray) (hk : tag.toList = [67, 76, 86]) (w : World) :
    Calls Try.prog 20 #[.string tag, rgI r] w fun e w' => e = .returned (rgI (Ex.selfF .CLV r)) ∧ Below w.heap.size w w' := by
  have k1 := fun w' => rflag_any tag 86 64 w' ⟨67, 76, hk⟩ (by decide)
  have k2 := fun w' => rwith_any r.p 64 false w' ok.p0 ok.p1 (by omega) (by omega)
  have e0 : (tag.toList == [67, 76, 67]) = false := by rw [hk]; rfl
  have e1 : (tag.toList == [83, 69, 67]) = false := by rw [hk]; rfl
  have e2 : (tag.toList == [67, 76, 68]) = false := by rw [hk]; rfl
  have e3 : (tag.toList == [83, 69, 68]) = false := by rw [hk]; rfl
  have e4 : (tag.toList == [67, 76, 73]) = false := by rw [hk]; rfl
  have e5 : (tag.toList == [83, 69, 73]) = false := by rw [hk]; rfl
  have e6 : (tag.toList == [67, 76, 86]) = true := by rw [hk]; rfl
  have e7 : (tag.toList == [84, 65, 88]) = false := by rw [hk]; rfl
  have e8 : (tag.toList == [84, 65, 89]) = false := by rw [hk]; rfl
  have e9 : (tag.toList == [84, 88, 65]) = false := by rw [hk]; rfl
  have e10 : (tag.toList == [84, 89, 65]) = false := by rw [hk]; rfl
  have e11 : (tag.toList == [84, 83, 88]) = false := by rw [hk]; rfl
  have e12 : (tag.toList == [84, 88, 83]) = false := by rw [hk]; rfl
  have e13 : (tag.toList == [73, 78, 88]) = false := by rw [hk]; rfl
  have e14 : (tag.toList == [73, 78, 89]) = false := by rw [hk]; rfl
  have e15 : (tag.toList == [68, 69, 88]) = false := by rw [hk]; rfl
  have e16 : (tag.toList == [68, 69, 89]) = false := by rw [hk]; rfl
  clear hk
  obtain ⟨a, x, y, s, p, pc⟩ := r
  obtain ⟨a0, a1, x0, x1, y0, y1, s0, s1, p0, p1, pc0, pc1⟩ := ok
  simp only [] at a0 a1 x0 x1 y0 y1 s0 s1 p0 p1 pc0 pc1
  unfold rgI
  go_enter Try.func20, Try.ntmps20
  repeat (first | (with_reducible refine wp_abs _ (boxS_start .i64 .i64 _ _ a x y s p pc w) ?_) | go_step)
  rintro W hS
  have hS' := hS
  obtain ⟨c0, c1, c2, c3, c4, c5, f0, f1, f2, f3, f4, f5, d0, d1, d2, d3, d4, d5, r0, r1, r2, r3, r4, r5, hb, hn, hF⟩ := hS'
  (repeat (first | (with_reducible refine inBlock_far (by decide) ?_) | (with_reducible refine then_exit ?_) | (with_reducible refine inBlock_here ?_) | ((fail_if_success (with_reducible refine calls_id ?_)); go_step)))
  go_region_with (first | (go_at_call 46; refine (k1 _).mono ?_; rintro e w1 ⟨rfl, rfl⟩) | (go_at_call 40; refine (k2 _).mono ?_; rintro e w1 ⟨rfl, rfl⟩))
  all_goals (repeat (first | (with_reducible refine inBlock_far (by decide) ?_) | (with_reducible refine then_exit ?_) | (with_reducible refine inBlock_here ?_) | ((fail_if_success (with_reducible refine calls_id ?_)); go_step)))
  all_goals refine bodyPost_ret (v := .agg #[.int .i64 (a), .int .i64 (x), .int .i64 (y), .int .i64 (s), .int .i64 (Alu.setF p 64 false), .int .i64 (pc)]) (by simp [results, Try.results20, go_sem, *]) rfl ⟨rfl, ?_⟩
  all_goals (repeat (first | (with_reducible exact hb) | (with_reducible exact hb.drew) | (with_reducible refine Below.drew ?_) | (with_reducible refine Below.setCell ?_ (by simp only []; omega) _)))
set_option maxRecDepth 100000 in
set_option maxHeartbeats 4000000 in
theorem rself_TAX (r : Ex.Rg) (ok : r.ok) (tag : ByteArray) (hk : tag.toList = [84, 65, 88]) (w : World) :
    Calls Try.prog 20 #[.string tag, rgI r] w fun e w' => e = .returned (rgI (Ex.selfF .TAX r)) ∧ Below w.heap.size w w' := by
  have e0 : (tag.toList == [67, 76, 67]) = false := by rw [hk]; rfl
  have e1 : (tag.toList == [83, 69, 67]) = false := by rw [hk]; rfl
  have e2 : (tag.toList == [67, 76, 68]) = false := by rw [hk]; rfl
  have e3 : (tag.toList == [83, 69, 68]) = false := by rw [hk]; rfl
  have e4 : (tag.toList == [67, 76, 73]) = false := by rw [hk]; rfl
  have e5 : (tag.toList == [83, 69, 73]) = false := by rw [hk]; rfl
  have e6 : (tag.toList == [67, 76, 86]) = false := by rw [hk]; rfl
  have e7 : (tag.toList == [84, 65, 88]) = true := by rw [hk]; rfl
  have e8 : (tag.toList == [84, 65, 89]) = false := by rw [hk]; rfl
  have e9 : (tag.toList == [84, 88, 65]) = false := by rw [hk]; rfl
  have e10 : (tag.toList == [84, 89, 65]) = false := by rw [hk]; rfl
  have e11 : (tag.toList == [84, 83, 88]) = false := by rw [hk]; rfl
  have e12 : (tag.toList == [84, 88, 83]) = false := by rw [hk]; rfl
  have e13 : (tag.toList == [73, 78, 88]) = false := by rw [hk]; rfl
  have e14 : (tag.toList == [73, 78, 89]) = false := by rw [hk]; rfl
  have e15 : (tag.toList == [68, 69, 88]) = false := by rw [hk]; rfl
  have e16 : (tag.toList == [68, 69, 89]) = false := by rw [hk]; rfl
  clear hk
  obtain ⟨a, x, y, s, p, pc⟩ := r
  obtain ⟨a0, a1, x0, x1, y0, y1, s0, s1, p0, p1, pc0, pc1⟩ := ok
  simp only [] at a0 a1 x0 x1 y0 y1 s0 s1 p0 p1 pc0 pc1
  unfold rgI
  go_enter Try.func20, Try.ntmps20
  repeat (first | (with_reducible refine wp_abs _ (boxS_start .i64 .i64 _ _ a x y s p pc w) ?_) | go_step)
  rintro W hS
  have hS' := hS
  obtain ⟨c0, c1, c2, c3, c4, c5, f0, f1, f2, f3, f4, f5, d0, d1, d2, d3, d4, d5, r0, r1, r2, r3, r4, r5, hb, hn, hF⟩ := hS'
  (repeat (first | (with_reducible refine inBlock_far (by decide) ?_) | (with_reducible refine then_exit ?_) | (with_reducible refine inBlock_here ?_) | ((fail_if_success (with_reducible refine calls_id ?_)); go_step)))
  refine calls_abs _ (hS.set1 (a)) ?_
  clear hS c0 c1 c2 c3 c4 c5 f0 f1 f2 f3 f4 f5 d0 d1 d2 d3 d4 d5 r0 r1 r2 r3 r4 r5 hb hn hF
  rintro W1 hS
  refine (rmarked_any (a) (a) (y) (s) (p) (pc) (a) W1 p0 p1 a0 a1).mono ?_
  rintro e w1 ⟨rfl, hw1⟩
  simp only []
  have hS2 := hS.next hw1 (Nat.le_refl _) hS.b.size
  clear hS
  obtain ⟨c0, c1, c2, c3, c4, c5, f0, f1, f2, f3, f4, f5, d0, d1, d2, d3, d4, d5, r0, r1, r2, r3, r4, r5, hb, hn, hF⟩ := hS2
  (repeat (first | (with_reducible refine inBlock_far (by decide) ?_) | (with_reducible refine then_exit ?_) | (with_reducible refine inBlock_here ?_) | ((fail_if_success (with_reducible refine calls_id ?_)); go_step)))
  all_goals refine bodyPost_ret (v := .agg #[.int .i64 (a), .int .i64 (a), .int .i64 (y), .int .i64 (s), .int .i64 (Alu.markF p (a)), .int .i64 (pc)]) (by simp [results, Try.results20, go_sem, *]) rfl ⟨rfl, ?_⟩
  all_goals (repeat (first | (with_reducible exact hb) | (with_reducible exact hb.drew) | (with_reducible refine Below.drew ?_) | (with_reducible refine Below.setCell ?_ (by simp only []; omega) _)))
set_option maxRecDepth 100000 in
set_option maxHeartbeats 4000000 in
theorem rself_TAY (r : Ex.Rg) (ok : r.ok) (tag : ByteArray) (hk : tag.toList = [84, 65, 89]) (w : World) :
    Calls Try.prog 20 #[.string tag, rgI r] w fun e w' => e = .returned (rgI (Ex.selfF .TAY r)) ∧ Below w.heap.size w w' := by
  have e0 : (tag.toList == [67, 76, 67]) = false := by rw [hk]; rfl
  have e1 : (tag.toList == [83, 69, 67]) = false := by rw [hk]; rfl
  have e2 : (tag.toList == [67, 76, 68]) = false := by rw [hk]; rfl
  have e3 : (tag.toList == [83, 69, 68]) = false := by rw [hk]; rfl
  have e4 : (tag.toList == [67, 76, 73]) = false := by rw [hk]; rfl
  have e5 : (tag.toList == [83, 69, 73]) = false := by rw [hk]; rfl
  have e6 : (tag.toList == [67, 76, 86]) = false := by rw [hk]; rfl
  have e7 : (tag.toList == [84, 65, 88]) = false := by rw [hk]; rfl
  have e8 : (tag.toList == [84, 65, 89]) = true := by rw [hk]; rfl
  have e9 : (tag.toList == [84, 88, 65]) = false := by rw [hk]; rfl
  have e10 : (tag.toList == [84, 89, 65]) = false := by rw [hk]; rfl
  have e11 : (tag.toList == [84, 83, 88]) = false := by rw [hk]; rfl
  have e12 : (tag.toList == [84, 88, 83]) = false := by rw [hk]; rfl
  have e13 : (tag.toList == [73, 78, 88]) = false := by rw [hk]; rfl
  have e14 : (tag.toList == [73, 78, 89]) = false := by rw [hk]; rfl
  have e15 : (tag.toList == [68, 69, 88]) = false := by rw [hk]; rfl
  have e16 : (tag.toList == [68, 69, 89]) = false := by rw [hk]; rfl
  clear hk
  obtain ⟨a, x, y, s, p, pc⟩ := r
  obtain ⟨a0, a1, x0, x1, y0, y1, s0, s1, p0, p1, pc0, pc1⟩ := ok
  simp only [] at a0 a1 x0 x1 y0 y1 s0 s1 p0 p1 pc0 pc1
  unfold rgI
  go_enter Try.func20, Try.ntmps20
  repeat (first | (with_reducible refine wp_abs _ (boxS_start .i64 .i64 _ _ a x y s p pc w) ?_) | go_step)
  rintro W hS
  have hS' := hS
  obtain ⟨c0, c1, c2, c3, c4, c5, f0, f1, f2, f3, f4, f5, d0, d1, d2, d3, d4, d5, r0, r1, r2, r3, r4, r5, hb, hn, hF⟩ := hS'
  (repeat (first | (with_reducible refine inBlock_far (by decide) ?_) | (with_reducible refine then_exit ?_) | (with_reducible refine inBlock_here ?_) | ((fail_if_success (with_reducible refine calls_id ?_)); go_step)))
  refine calls_abs _ (hS.set2 (a)) ?_
  clear hS c0 c1 c2 c3 c4 c5 f0 f1 f2 f3 f4 f5 d0 d1 d2 d3 d4 d5 r0 r1 r2 r3 r4 r5 hb hn hF
  rintro W1 hS
  refine (rmarked_any (a) (x) (a) (s) (p) (pc) (a) W1 p0 p1 a0 a1).mono ?_
  rintro e w1 ⟨rfl, hw1⟩
  simp only []
  have hS2 := hS.next hw1 (Nat.le_refl _) hS.b.size
  clear hS
  obtain ⟨c0, c1, c2, c3, c4, c5, f0, f1, f2, f3, f4, f5, d0, d1, d2, d3, d4, d5, r0, r1, r2, r3, r4, r5, hb, hn, hF⟩ := hS2
  (repeat (first | (with_reducible refine inBlock_far (by decide) ?_) | (with_reducible refine then_exit ?_) | (with_reducible refine inBlock_here ?_) | ((fail_if_success (with_reducible refine calls_id ?_)); go_step)))
  all_goals refine bodyPost_ret (v := .agg #[.int .i64 (a), .int .i64 (x), .int .i64 (a), .int .i64 (s), .int .i64 (Alu.markF p (a)), .int .i64 (pc)]) (by simp [results, Try.results20, go_sem, *]) rfl ⟨rfl, ?_⟩
  all_goals (repeat (first | (with_reducible exact hb) | (with_reducible exact hb.drew) | (with_reducible refine Below.drew ?_) | (with_reducible refine Below.setCell ?_ (by simp only []; omega) _)))
set_option maxRecDepth 100000 in
set_option maxHeartbeats 4000000 in
theorem rself_TXA (r : Ex.Rg) (ok : r.ok) (tag : ByteArray) (hk : tag.toList = [84, 88, 65]) (w : World) :
    Calls Try.prog 20 #[.string tag, rgI r] w fun e w' => e = .returned (rgI (Ex.selfF .TXA r)) ∧ Below w.heap.size w w' := by
  have e0 : (tag.toList == [67, 76, 67]) = false := by rw [hk]; rfl
  have e1 : (tag.toList == [83, 69, 67]) = false := by rw [hk]; rfl
  have e2 : (tag.toList == [67, 76, 68]) = false := by rw [hk]; rfl
  have e3 : (tag.toList == [83, 69, 68]) = false := by rw [hk]; rfl
  have e4 : (tag.toList == [67, 76, 73]) = false := by rw [hk]; rfl
  have e5 : (tag.toList == [83, 69, 73]) = false := by rw [hk]; rfl
  have e6 : (tag.toList == [67, 76, 86]) = false := by rw [hk]; rfl
  have e7 : (tag.toList == [84, 65, 88]) = false := by rw [hk]; rfl
  have e8 : (tag.toList == [84, 65, 89]) = false := by rw [hk]; rfl
  have e9 : (tag.toList == [84, 88, 65]) = true := by rw [hk]; rfl
  have e10 : (tag.toList == [84, 89, 65]) = false := by rw [hk]; rfl
  have e11 : (tag.toList == [84, 83, 88]) = false := by rw [hk]; rfl
  have e12 : (tag.toList == [84, 88, 83]) = false := by rw [hk]; rfl
  have e13 : (tag.toList == [73, 78, 88]) = false := by rw [hk]; rfl
  have e14 : (tag.toList == [73, 78, 89]) = false := by rw [hk]; rfl
  have e15 : (tag.toList == [68, 69, 88]) = false := by rw [hk]; rfl
  have e16 : (tag.toList == [68, 69, 89]) = false := by rw [hk]; rfl
  clear hk
  obtain ⟨a, x, y, s, p, pc⟩ := r
  obtain ⟨a0, a1, x0, x1, y0, y1, s0, s1, p0, p1, pc0, pc1⟩ := ok
  simp only [] at a0 a1 x0 x1 y0 y1 s0 s1 p0 p1 pc0 pc1
  unfold rgI
  go_enter Try.func20, Try.ntmps20
  repeat (first | (with_reducible refine wp_abs _ (boxS_start .i64 .i64 _ _ a x y s p pc w) ?_) | go_step)
  rintro W hS
  have hS' := hS
  obtain ⟨c0, c1, c2, c3, c4, c5, f0, f1, f2, f3, f4, f5, d0, d1, d2, d3, d4, d5, r0, r1, r2, r3, r4, r5, hb, hn, hF⟩ := hS'
  (repeat (first | (with_reducible refine inBlock_far (by decide) ?_) | (with_reducible refine then_exit ?_) | (with_reducible refine inBlock_here ?_) | ((fail_if_success (with_reducible refine calls_id ?_)); go_step)))
  refine calls_abs _ (hS.set0 (x)) ?_
  clear hS c0 c1 c2 c3 c4 c5 f0 f1 f2 f3 f4 f5 d0 d1 d2 d3 d4 d5 r0 r1 r2 r3 r4 r5 hb hn hF
  rintro W1 hS
  refine (rmarked_any (x) (x) (y) (s) (p) (pc) (x) W1 p0 p1 x0 x1).mono ?_
  rintro e w1 ⟨rfl, hw1⟩
  simp only []
  have hS2 := hS.next hw1 (Nat.le_refl _) hS.b.size
  clear hS
  obtain ⟨c0, c1, c2, c3, c4, c5, f0, f1, f2, f3, f4, f5, d0, d1, d2, d3, d4, d5, r0, r1, r2, r3, r4, r5, hb, hn, hF⟩ := hS2
  (repeat (first | (with_reducible refine inBlock_far (by decide) ?_) | (with_reducible refine then_exit ?_) | (with_reducible refine inBlock_here ?_) | ((fail_if_success (with_reducible refine calls_id ?_)); go_step)))
  all_goals refine bodyPost_ret (v := .agg #[.int .i64 (x), .int .i64 (x), .int .i64 (y), .int .i64 (s), .int .i64 (Alu.markF p (x)), .int .i64 (pc)]) (by simp [results, Try.results20, go_sem, *]) rfl ⟨rfl, ?_⟩
  all_goals (repeat (first | (with_reducible exact hb) | (with_reducible exact hb.drew) | (with_reducible refine Below.drew ?_) | (with_reducible refine Below.setCell ?_ (by simp only []; omega) _)))
set_option maxRecDepth 100000 in
set_option maxHeartbeats 4000000 in
theorem rself_TYA (r : Ex.Rg) (ok : r.ok) (tag : ByteArray) (hk : tag.toList = [84, 89, 65]) (w : World) :
    Calls Try.prog 20 #[.string tag, rgI r] w fun e w' => e = .returned (rgI (Ex.selfF .TYA r)) ∧ Below w.heap.size w w' := by
  have e0 : (tag.toList == [67, 76, 67]) = false := by rw [hk]; rfl
  have e1 : (tag.toList == [83, 69, 67]) = false := by rw [hk]; rfl
  have e2 : (tag.toList == [67, 76, 68]) = false := by rw [hk]; rfl
  have e3 : (tag.toList == [83, 69, 68]) = false := by rw [hk]; rfl
  have e4 : (tag.toList == [67, 76, 73]) = false := by rw [hk]; rfl
  have e5 : (tag.toList == [83, 69, 73]) = false := by rw [hk]; rfl
  have e6 : (tag.toList == [67, 76, 86]) = false := by rw [hk]; rfl
  have e7 : (tag.toList == [84, 65, 88]) = false := by rw [hk]; rfl
  have e8 : (tag.toList == [84, 65, 89]) = false := by rw [hk]; rfl
  have e9 : (tag.toList == [84, 88, 65]) = false := by rw [hk]; rfl
  have e10 : (tag.toList == [84, 89, 65]) = true := by rw [hk]; rfl
  have e11 : (tag.toList == [84, 83, 88]) = false := by rw [hk]; rfl
  have e12 : (tag.toList == [84, 88, 83]) = false := by rw [hk]; rfl
  have e13 : (tag.toList == [73, 78, 88]) = false := by rw [hk]; rfl
  have e14 : (tag.toList == [73, 78, 89]) = false := by rw [hk]; rfl
  have e15 : (tag.toList == [68, 69, 88]) = false := by rw [hk]; rfl
  have e16 : (tag.toList == [68, 69, 89]) = false := by rw [hk]; rfl
  clear hk
  obtain ⟨a, x, y, s, p, pc⟩ := r
  obtain ⟨a0, a1, x0, x1, y0, y1, s0, s1, p0, p1, pc0, pc1⟩ := ok
  simp only [] at a0 a1 x0 x1 y0 y1 s0 s1 p0 p1 pc0 pc1
  unfold rgI
  go_enter Try.func20, Try.ntmps20
  repeat (first | (with_reducible refine wp_abs _ (boxS_start .i64 .i64 _ _ a x y s p pc w) ?_) | go_step)
  rintro W hS
  have hS' := hS
  obtain ⟨c0, c1, c2, c3, c4, c5, f0, f1, f2, f3, f4, f5, d0, d1, d2, d3, d4, d5, r0, r1, r2, r3, r4, r5, hb, hn, hF⟩ := hS'
  (repeat (first | (with_reducible refine inBlock_far (by decide) ?_) | (with_reducible refine then_exit ?_) | (with_reducible refine inBlock_here ?_) | ((fail_if_success (with_reducible refine calls_id ?_)); go_step)))
  refine calls_abs _ (hS.set0 (y)) ?_
  clear hS c0 c1 c2 c3 c4 c5 f0 f1 f2 f3 f4 f5 d0 d1 d2 d3 d4 d5 r0 r1 r2 r3 r4 r5 hb hn hF
  rintro W1 hS
  refine (rmarked_any (y) (x) (y) (s) (p) (pc) (y) W1 p0 p1 y0 y1).mono ?_
  rintro e w1 ⟨rfl, hw1⟩
  simp only []
  have hS2 := hS.next hw1 (Nat.le_refl _) hS.b.size
  clear hS
  obtain ⟨c0, c1, c2, c3, c4, c5, f0, f1, f2, f3, f4, f5, d0, d1, d2, d3, d4, d5, r0, r1, r2, r3, r4, r5, hb, hn, hF⟩ := hS2
  (repeat (first | (with_reducible refine inBlock_far (by decide) ?_) | (with_reducible refine then_exit ?_) | (with_reducible refine inBlock_here ?_) | ((fail_if_success (with_reducible refine calls_id ?_)); go_step)))
  all_goals refine bodyPost_ret (v := .agg #[.int .i64 (y), .int .i64 (x), .int .i64 (y), .int .i64 (s), .int .i64 (Alu.markF p (y)), .int .i64 (pc)]) (by simp [results, Try.results20, go_sem, *]) rfl ⟨rfl, ?_⟩
  all_goals (repeat (first | (with_reducible exact hb) | (with_reducible exact hb.drew) | (with_reducible refine Below.drew ?_) | (with_reducible refine Below.setCell ?_ (by simp only []; omega) _)))
set_option maxRecDepth 100000 in
set_option maxHeartbeats 4000000 in
theorem rself_TSX (r : Ex.Rg) (ok : r.ok) (tag : ByteArray) (hk : tag.toList = [84, 83, 88]) (w : World) :
    Calls Try.prog 20 #[.string tag, rgI r] w fun e w' => e = .returned (rgI (Ex.selfF .TSX r)) ∧ Below w.heap.size w w' := by
  have e0 : (tag.toList == [67, 76, 67]) = false := by rw [hk]; rfl
  have e1 : (tag.toList == [83, 69, 67]) = false := by rw [hk]; rfl
  have e2 : (tag.toList == [67, 76, 68]) = false := by rw [hk]; rfl
  have e3 : (tag.toList == [83, 69, 68]) = false := by rw [hk]; rfl
  have e4 : (tag.toList == [67, 76, 73]) = false := by rw [hk]; rfl
  have e5 : (tag.toList == [83, 69, 73]) = false := by rw [hk]; rfl
  have e6 : (tag.toList == [67, 76, 86]) = false := by rw [hk]; rfl
  have e7 : (tag.toList == [84, 65, 88]) = false := by rw [hk]; rfl
  have e8 : (tag.toList == [84, 65, 89]) = false := by rw [hk]; rfl
  have e9 : (tag.toList == [84, 88, 65]) = false := by rw [hk]; rfl
  have e10 : (tag.toList == [84, 89, 65]) = false := by rw [hk]; rfl
  have e11 : (tag.toList == [84, 83, 88]) = true := by rw [hk]; rfl
  have e12 : (tag.toList == [84, 88, 83]) = false := by rw [hk]; rfl
  have e13 : (tag.toList == [73, 78, 88]) = false := by rw [hk]; rfl
  have e14 : (tag.toList == [73, 78, 89]) = false := by rw [hk]; rfl
  have e15 : (tag.toList == [68, 69, 88]) = false := by rw [hk]; rfl
  have e16 : (tag.toList == [68, 69, 89]) = false := by rw [hk]; rfl
  clear hk
  obtain ⟨a, x, y, s, p, pc⟩ := r
  obtain ⟨a0, a1, x0, x1, y0, y1, s0, s1, p0, p1, pc0, pc1⟩ := ok
  simp only [] at a0 a1 x0 x1 y0 y1 s0 s1 p0 p1 pc0 pc1
  unfold rgI
  go_enter Try.func20, Try.ntmps20
  repeat (first | (with_reducible refine wp_abs _ (boxS_start .i64 .i64 _ _ a x y s p pc w) ?_) | go_step)
  rintro W hS
  have hS' := hS
  obtain ⟨c0, c1, c2, c3, c4, c5, f0, f1, f2, f3, f4, f5, d0, d1, d2, d3, d4, d5, r0, r1, r2, r3, r4, r5, hb, hn, hF⟩ := hS'
  (repeat (first | (with_reducible refine inBlock_far (by decide) ?_) | (with_reducible refine then_exit ?_) | (with_reducible refine inBlock_here ?_) | ((fail_if_success (with_reducible refine calls_id ?_)); go_step)))
  refine calls_abs _ (hS.set1 (s)) ?_
  clear hS c0 c1 c2 c3 c4 c5 f0 f1 f2 f3 f4 f5 d0 d1 d2 d3 d4 d5 r0 r1 r2 r3 r4 r5 hb hn hF
  rintro W1 hS
  refine (rmarked_any (a) (s) (y) (s) (p) (pc) (s) W1 p0 p1 s0 s1).mono ?_
  rintro e w1 ⟨rfl, hw1⟩
  simp only []
  have hS2 := hS.next hw1 (Nat.le_refl _) hS.b.size
  clear hS
  obtain ⟨c0, c1, c2, c3, c4, c5, f0, f1, f2, f3, f4, f5, d0, d1, d2, d3, d4, d5, r0, r1, r2, r3, r4, r5, hb, hn, hF⟩ := hS2
  (repeat (first | (with_reducible refine inBlock_far (by decide) ?_) | (with_reducible refine then_exit ?_) | (with_reducible refine inBlock_here ?_) | ((fail_if_success (with_reducible refine calls_id ?_)); go_step)))
  all_goals refine bodyPost_ret (v := .agg #[.int .i64 (a), .int .i64 (s), .int .i64 (y), .int .i64 (s), .int .i64 (Alu.markF p (s)), .int .i64 (pc)]) (by simp [results, Try.results20, go_sem, *]) rfl ⟨rfl, ?_⟩
  all_goals (repeat (first | (with_reducible exact hb) | (with_reducible exact hb.drew) | (with_reducible refine Below.drew ?_) | (with_reducible refine Below.setCell ?_ (by simp only []; omega) _)))
set_option maxRecDepth 100000 in
set_option maxHeartbeats 4000000 in
theorem rself_TXS (r : Ex.Rg) (ok : r.ok) (tag : ByteArray) (hk : tag.toList = [84, 88, 83]) (w : World) :
    Calls Try.prog 20 #[.string tag, rgI r] w fun e w' => e = .returned (rgI (Ex.selfF .TXS r)) ∧ Below w.heap.size w w' := by
  have e0 : (tag.toList == [67, 76, 67]) = false := by rw [hk]; rfl
  have e1 : (tag.toList == [83, 69, 67]) = false := by rw [hk]; rfl
  have e2 : (tag.toList == [67, 76, 68]) = false := by rw [hk]; rfl
  have e3 : (tag.toList == [83, 69, 68]) = false := by rw [hk]; rfl
  have e4 : (tag.toList == [67, 76, 73]) = false := by rw [hk]; rfl
  have e5 : (tag.toList == [83, 69, 73]) = false := by rw [hk]; rfl
  have e6 : (tag.toList == [67, 76, 86]) = false := by rw [hk]; rfl
  have e7 : (tag.toList == [84, 65, 88]) = false := by rw [hk]; rfl
  have e8 : (tag.toList == [84, 65, 89]) = false := by rw [hk]; rfl
  have e9 : (tag.toList == [84, 88, 65]) = false := by rw [hk]; rfl
  have e10 : (tag.toList == [84, 89, 65]) = false := by rw [hk]; rfl
  have e11 : (tag.toList == [84, 83, 88]) = false := by rw [hk]; rfl
  have e12 : (tag.toList == [84, 88, 83]) = true := by rw [hk]; rfl
  have e13 : (tag.toList == [73, 78, 88]) = false := by rw [hk]; rfl
  have e14 : (tag.toList == [73, 78, 89]) = false := by rw [hk]; rfl
  have e15 : (tag.toList == [68, 69, 88]) = false := by rw [hk]; rfl
  have e16 : (tag.toList == [68, 69, 89]) = false := by rw [hk]; rfl
  clear hk
  obtain ⟨a, x, y, s, p, pc⟩ := r
  obtain ⟨a0, a1, x0, x1, y0, y1, s0, s1, p0, p1, pc0, pc1⟩ := ok
  simp only [] at a0 a1 x0 x1 y0 y1 s0 s1 p0 p1 pc0 pc1
  unfold rgI
  go_enter Try.func20, Try.ntmps20
  repeat (first | (with_reducible refine wp_abs _ (boxS_start .i64 .i64 _ _ a x y s p pc w) ?_) | go_step)
  rintro W hS
  have hS' := hS
  obtain ⟨c0, c1, c2, c3, c4, c5, f0, f1, f2, f3, f4, f5, d0, d1, d2, d3, d4, d5, r0, r1, r2, r3, r4, r5, hb, hn, hF⟩ := hS'
  (repeat (first | (with_reducible refine inBlock_far (by decide) ?_) | (with_reducible refine then_exit ?_) | (with_reducible refine inBlock_here ?_) | ((fail_if_success (with_reducible refine calls_id ?_)); go_step)))
  all_goals refine bodyPost_ret (v := .agg #[.int .i64 (a), .int .i64 (x), .int .i64 (y), .int .i64 (x), .int .i64 (p), .int .i64 (pc)]) (by simp [results, Try.results20, go_sem, *]) rfl ⟨rfl, ?_⟩
  all_goals (repeat (first | (with_reducible exact hb) | (with_reducible exact hb.drew) | (with_reducible refine Below.drew ?_) | (with_reducible refine Below.setCell ?_ (by simp only []; omega) _)))
set_option maxRecDepth 100000 in
set_option maxHeartbeats 4000000 in
theorem rself_INX (r : Ex.Rg) (ok : r.ok) (tag : ByteArray) (hk : tag.toList = [73, 78, 88]) (w : World) :
    Calls Try.prog 20 #[.string tag, rgI r] w fun e w' => e = .returned (rgI (Ex.selfF .INX r)) ∧ Below w.heap.size w w' := by
  have e0 : (tag.toList == [67, 76, 67]) = false := by rw [hk]; rfl
  have e1 : (tag.toList == [83, 69, 67]) = false := by rw [hk]; rfl
  have e2 : (tag.toList == [67, 76, 68]) = false := by rw [hk]; rfl
  have e3 : (tag.toList == [83, 69, 68]) = false := by rw [hk]; rfl
  have e4 : (tag.toList == [67, 76, 73]) = false := by rw [hk]; rfl
  have e5 : (tag.toList == [83, 69, 73]) = false := by rw [hk]; rfl
  have e6 : (tag.toList == [67, 76, 86]) = false := by rw [hk]; rfl
  have e7 : (tag.toList == [84, 65, 88]) = false := by rw [hk]; rfl
  have e8 : (tag.toList == [84, 65, 89]) = false := by rw [hk]; rfl
  have e9 : (tag.toList == [84, 88, 65]) = false := by rw [hk]; rfl
  have e10 : (tag.toList == [84, 89, 65]) = false := by rw [hk]; rfl
  have e11 : (tag.toList == [84, 83, 88]) = false := by rw [hk]; rfl
  have e12 : (tag.toList == [84, 88, 83]) = false := by rw [hk]; rfl
  have e13 : (tag.toList == [73, 78, 88]) = true := by rw [hk]; rfl
  have e14 : (tag.toList == [73, 78, 89]) = false := by rw [hk]; rfl
  have e15 : (tag.toList == [68, 69, 88]) = false := by rw [hk]; rfl
  have e16 : (tag.toList == [68, 69, 89]) = false := by rw [hk]; rfl
  clear hk
  obtain ⟨a, x, y, s, p, pc⟩ := r
  obtain ⟨a0, a1, x0, x1, y0, y1, s0, s1, p0, p1, pc0, pc1⟩ := ok
  simp only [] at a0 a1 x0 x1 y0 y1 s0 s1 p0 p1 pc0 pc1
  unfold rgI
  go_enter Try.func20, Try.ntmps20
  repeat (first | (with_reducible refine wp_abs _ (boxS_start .i64 .i64 _ _ a x y s p pc w) ?_) | go_step)
  rintro W hS
  have hS' := hS
  obtain ⟨c0, c1, c2, c3, c4, c5, f0, f1, f2, f3, f4, f5, d0, d1, d2, d3, d4, d5, r0, r1, r2, r3, r4, r5, hb, hn, hF⟩ := hS'
  (repeat (first | (with_reducible refine inBlock_far (by decide) ?_) | (with_reducible refine then_exit ?_) | (with_reducible refine inBlock_here ?_) | ((fail_if_success (with_reducible refine calls_id ?_)); go_step)))
  refine calls_abs _ (hS.set1 ((x + 1) % 256)) ?_
  clear hS c0 c1 c2 c3 c4 c5 f0 f1 f2 f3 f4 f5 d0 d1 d2 d3 d4 d5 r0 r1 r2 r3 r4 r5 hb hn hF
  rintro W1 hS
  refine (rmarked_any (a) ((x + 1) % 256) (y) (s) (p) (pc) ((x + 1) % 256) W1 p0 p1 (by omega) (by omega)).mono ?_
  rintro e w1 ⟨rfl, hw1⟩
  simp only []
  have hS2 := hS.next hw1 (Nat.le_refl _) hS.b.size
  clear hS
  obtain ⟨c0, c1, c2, c3, c4, c5, f0, f1, f2, f3, f4, f5, d0, d1, d2, d3, d4, d5, r0, r1, r2, r3, r4, r5, hb, hn, hF⟩ := hS2
  (repeat (first | (with_reducible refine inBlock_far (by decide) ?_) | (with_reducible refine then_exit ?_) | (with_reducible refine inBlock_here ?_) | ((fail_if_success (with_reducible refine calls_id ?_)); go_step)))
  all_goals refine bodyPost_ret (v := .agg #[.int .i64 (a), .int .i64 ((x + 1) % 256), .int .i64 (y), .int .i64 (s), .int .i64 (Alu.markF p ((x + 1) % 256)), .int .i64 (pc)]) (by simp [results, Try.results20, go_sem, *]) rfl ⟨rfl, ?_⟩
  all_goals (repeat (first | (with_reducible exact hb) | (with_reducible exact hb.drew) | (with_reducible refine Below.drew ?_) | (with_reducible refine Below.setCell ?_ (by simp only []; omega) _)))
set_option maxRecDepth 100000 in
set_option maxHeartbeats 4000000 in
theorem rself_INY (r : Ex.Rg) (ok : r.ok) (tag : ByteArray) (hk : tag.toList = [73, 78, 89]) (w : World) :
    Calls Try.prog 20 #[.string tag, rgI r] w fun e w' => e = .returned (rgI (Ex.selfF .INY r)) ∧ Below w.heap.size w w' := by
  have e0 : (tag.toList == [67, 76, 67]) = false := by rw [hk]; rfl
  have e1 : (tag.toList == [83, 69, 67]) = false := by rw [hk]; rfl
  have e2 : (tag.toList == [67, 76, 68]) = false := by rw [hk]; rfl
  have e3 : (tag.toList == [83, 69, 68]) = false := by rw [hk]; rfl
  have e4 : (tag.toList == [67, 76, 73]) = false := by rw [hk]; rfl
  have e5 : (tag.toList == [83, 69, 73]) = false := by rw [hk]; rfl
  have e6 : (tag.toList == [67, 76, 86]) = false := by rw [hk]; rfl
  have e7 : (tag.toList == [84, 65, 88]) = false := by rw [hk]; rfl
  have e8 : (tag.toList == [84, 65, 89]) = false := by rw [hk]; rfl
  have e9 : (tag.toList == [84, 88, 65]) = false := by rw [hk]; rfl
  have e10 : (tag.toList == [84, 89, 65]) = false := by rw [hk]; rfl
  have e11 : (tag.toList == [84, 83, 88]) = false := by rw [hk]; rfl
  have e12 : (tag.toList == [84, 88, 83]) = false := by rw [hk]; rfl
  have e13 : (tag.toList == [73, 78, 88]) = false := by rw [hk]; rfl
  have e14 : (tag.toList == [73, 78, 89]) = true := by rw [hk]; rfl
  have e15 : (tag.toList == [68, 69, 88]) = false := by rw [hk]; rfl
  have e16 : (tag.toList == [68, 69, 89]) = false := by rw [hk]; rfl
  clear hk
  obtain ⟨a, x, y, s, p, pc⟩ := r
  obtain ⟨a0, a1, x0, x1, y0, y1, s0, s1, p0, p1, pc0, pc1⟩ := ok
  simp only [] at a0 a1 x0 x1 y0 y1 s0 s1 p0 p1 pc0 pc1
  unfold rgI
  go_enter Try.func20, Try.ntmps20
  repeat (first | (with_reducible refine wp_abs _ (boxS_start .i64 .i64 _ _ a x y s p pc w) ?_) | go_step)
  rintro W hS
  have hS' := hS
  obtain ⟨c0, c1, c2, c3, c4, c5, f0, f1, f2, f3, f4, f5, d0, d1, d2, d3, d4, d5, r0, r1, r2, r3, r4, r5, hb, hn, hF⟩ := hS'
  (repeat (first | (with_reducible refine inBlock_far (by decide) ?_) | (with_reducible refine then_exit ?_) | (with_reducible refine inBlock_here ?_) | ((fail_if_success (with_reducible refine calls_id ?_)); go_step)))
  refine calls_abs _ (hS.set2 ((y + 1) % 256)) ?_
  clear hS c0 c1 c2 c3 c4 c5 f0 f1 f2 f3 f4 f5 d0 d1 d2 d3 d4 d5 r0 r1 r2 r3 r4 r5 hb hn hF
  rintro W1 hS
  refine (rmarked_any (a) (x) ((y + 1) % 256) (s) (p) (pc) ((y + 1) % 256) W1 p0 p1 (by omega) (by omega)).mono ?_
  rintro e w1 ⟨rfl, hw1⟩
  simp only []
  have hS2 := hS.next hw1 (Nat.le_refl _) hS.b.size
  clear hS
  obtain ⟨c0, c1, c2, c3, c4, c5, f0, f1, f2, f3, f4, f5, d0, d1, d2, d3, d4, d5, r0, r1, r2, r3, r4, r5, hb, hn, hF⟩ := hS2
  (repeat (first | (with_reducible refine inBlock_far (by decide) ?_) | (with_reducible refine then_exit ?_) | (with_reducible refine inBlock_here ?_) | ((fail_if_success (with_reducible refine calls_id ?_)); go_step)))
  all_goals refine bodyPost_ret (v := .agg #[.int .i64 (a), .int .i64 (x), .int .i64 ((y + 1) % 256), .int .i64 (s), .int .i64 (Alu.markF p ((y + 1) % 256)), .int .i64 (pc)]) (by simp [results, Try.results20, go_sem, *]) rfl ⟨rfl, ?_⟩
  all_goals (repeat (first | (with_reducible exact hb) | (with_reducible exact hb.drew) | (with_reducible refine Below.drew ?_) | (with_reducible refine Below.setCell ?_ (by simp only []; omega) _)))
set_option maxRecDepth 100000 in
set_option maxHeartbeats 4000000 in
theorem rself_DEX (r : Ex.Rg) (ok : r.ok) (tag : ByteArray) (hk : tag.toList = [68, 69, 88]) (w : World) :
    Calls Try.prog 20 #[.string tag, rgI r] w fun e w' => e = .returned (rgI (Ex.selfF .DEX r)) ∧ Below w.heap.size w w' := by
  have e0 : (tag.toList == [67, 76, 67]) = false := by rw [hk]; rfl
  have e1 : (tag.toList == [83, 69, 67]) = false := by rw [hk]; rfl
  have e2 : (tag.toList == [67, 76, 68]) = false := by rw [hk]; rfl
  have e3 : (tag.toList == [83, 69, 68]) = false := by rw [hk]; rfl
  have e4 : (tag.toList == [67, 76, 73]) = false := by rw [hk]; rfl
  have e5 : (tag.toList == [83, 69, 73]) = false := by rw [hk]; rfl
  have e6 : (tag.toList == [67, 76, 86]) = false := by rw [hk]; rfl
  have e7 : (tag.toList == [84, 65, 88]) = false := by rw [hk]; rfl
  have e8 : (tag.toList == [84, 65, 89]) = false := by rw [hk]; rfl
  have e9 : (tag.toList == [84, 88, 65]) = false := by rw [hk]; rfl
  have e10 : (tag.toList == [84, 89, 65]) = false := by rw [hk]; rfl
  have e11 : (tag.toList == [84, 83, 88]) = false := by rw [hk]; rfl
  have e12 : (tag.toList == [84, 88, 83]) = false := by rw [hk]; rfl
  have e13 : (tag.toList == [73, 78, 88]) = false := by rw [hk]; rfl
  have e14 : (tag.toList == [73, 78, 89]) = false := by rw [hk]; rfl
  have e15 : (tag.toList == [68, 69, 88]) = true := by rw [hk]; rfl
  have e16 : (tag.toList == [68, 69, 89]) = false := by rw [hk]; rfl
  clear hk
  obtain ⟨a, x, y, s, p, pc⟩ := r
  obtain ⟨a0, a1, x0, x1, y0, y1, s0, s1, p0, p1, pc0, pc1⟩ := ok
  simp only [] at a0 a1 x0 x1 y0 y1 s0 s1 p0 p1 pc0 pc1
  have q1 : (x + 255) % 256 = (x - 1) % 256 := by omega
  unfold rgI
  go_enter Try.func20, Try.ntmps20
  repeat (first | (with_reducible refine wp_abs _ (boxS_start .i64 .i64 _ _ a x y s p pc w) ?_) | go_step)
  rintro W hS
  have hS' := hS
  obtain ⟨c0, c1, c2, c3, c4, c5, f0, f1, f2, f3, f4, f5, d0, d1, d2, d3, d4, d5, r0, r1, r2, r3, r4, r5, hb, hn, hF⟩ := hS'
  (repeat (first | (with_reducible refine inBlock_far (by decide) ?_) | (with_reducible refine then_exit ?_) | (with_reducible refine inBlock_here ?_) | ((fail_if_success (with_reducible refine calls_id ?_)); go_step)))
  refine calls_abs _ (hS.set1 ((x - 1) % 256)) ?_
  clear hS c0 c1 c2 c3 c4 c5 f0 f1 f2 f3 f4 f5 d0 d1 d2 d3 d4 d5 r0 r1 r2 r3 r4 r5 hb hn hF
  rintro W1 hS
  refine (rmarked_any (a) ((x - 1) % 256) (y) (s) (p) (pc) ((x - 1) % 256) W1 p0 p1 (by omega) (by omega)).mono ?_
  rintro e w1 ⟨rfl, hw1⟩
  simp only []
  have hS2 := hS.next hw1 (Nat.le_refl _) hS.b.size
  clear hS
  obtain ⟨c0, c1, c2, c3, c4, c5, f0, f1, f2, f3, f4, f5, d0, d1, d2, d3, d4, d5, r0, r1, r2, r3, r4, r5, hb, hn, hF⟩ := hS2
  (repeat (first | (with_reducible refine inBlock_far (by decide) ?_) | (with_reducible refine then_exit ?_) | (with_reducible refine inBlock_here ?_) | ((fail_if_success (with_reducible refine calls_id ?_)); go_step)))
  all_goals refine bodyPost_ret (v := .agg #[.int .i64 (a), .int .i64 ((x - 1) % 256), .int .i64 (y), .int .i64 (s), .int .i64 (Alu.markF p ((x - 1) % 256)), .int .i64 (pc)]) (by simp [results, Try.results20, go_sem, *]) rfl ⟨rfl, ?_⟩
  all_goals (repeat (first | (with_reducible exact hb) | (with_reducible exact hb.drew) | (with_reducible refine Below.drew ?_) | (with_reducible refine Below.setCell ?_ (by simp only []; omega) _)))
set_option maxRecDepth 100000 in
set_option maxHeartbeats 4000000 in
theorem rself_DEY (r : Ex.Rg) (ok : r.ok) (tag : ByteArray) (hk : tag.toList = [68, 69, 89]) (w : World) :
    Calls Try.prog 20 #[.string tag, rgI r] w fun e w' => e = .returned (rgI (Ex.selfF .DEY r)) ∧ Below w.heap.size w w' := by
  have e0 : (tag.toList == [67, 76, 67]) = false := by rw [hk]; rfl
  have e1 : (tag.toList == [83, 69, 67]) = false := by rw [hk]; rfl
  have e2 : (tag.toList == [67, 76, 68]) = false := by rw [hk]; rfl
  have e3 : (tag.toList == [83, 69, 68]) = false := by rw [hk]; rfl
  have e4 : (tag.toList == [67, 76, 73]) = false := by rw [hk]; rfl
  have e5 : (tag.toList == [83, 69, 73]) = false := by rw [hk]; rfl
  have e6 : (tag.toList == [67, 76, 86]) = false := by rw [hk]; rfl
  have e7 : (tag.toList == [84, 65, 88]) = false := by rw [hk]; rfl
  have e8 : (tag.toList == [84, 65, 89]) = false := by rw [hk]; rfl
  have e9 : (tag.toList == [84, 88, 65]) = false := by rw [hk]; rfl
  have e10 : (tag.toList == [84, 89, 65]) = false := by rw [hk]; rfl
  have e11 : (tag.toList == [84, 83, 88]) = false := by rw [hk]; rfl
  have e12 : (tag.toList == [84, 88, 83]) = false := by rw [hk]; rfl
  have e13 : (tag.toList == [73, 78, 88]) = false := by rw [hk]; rfl
  have e14 : (tag.toList == [73, 78, 89]) = false := by rw [hk]; rfl
  have e15 : (tag.toList == [68, 69, 88]) = false := by rw [hk]; rfl
  have e16 : (tag.toList == [68, 69, 89]) = true := by rw [hk]; rfl
  clear hk
  obtain ⟨a, x, y, s, p, pc⟩ := r
  obtain ⟨a0, a1, x0, x1, y0, y1, s0, s1, p0, p1, pc0, pc1⟩ := ok
  simp only [] at a0 a1 x0 x1 y0 y1 s0 s1 p0 p1 pc0 pc1
  have q1 : (y + 255) % 256 = (y - 1) % 256 := by omega
  unfold rgI
  go_enter Try.func20, Try.ntmps20
  repeat (first | (with_reducible refine wp_abs _ (boxS_start .i64 .i64 _ _ a x y s p pc w) ?_) | go_step)
  rintro W hS
  have hS' := hS
  obtain ⟨c0, c1, c2, c3, c4, c5, f0, f1, f2, f3, f4, f5, d0, d1, d2, d3, d4, d5, r0, r1, r2, r3, r4, r5, hb, hn, hF⟩ := hS'
  (repeat (first | (with_reducible refine inBlock_far (by decide) ?_) | (with_reducible refine then_exit ?_) | (with_reducible refine inBlock_here ?_) | ((fail_if_success (with_reducible refine calls_id ?_)); go_step)))
  refine calls_abs _ (hS.set2 ((y - 1) % 256)) ?_
  clear hS c0 c1 c2 c3 c4 c5 f0 f1 f2 f3 f4 f5 d0 d1 d2 d3 d4 d5 r0 r1 r2 r3 r4 r5 hb hn hF
  rintro W1 hS
  refine (rmarked_any (a) (x) ((y - 1) % 256) (s) (p) (pc) ((y - 1) % 256) W1 p0 p1 (by omega) (by omega)).mono ?_
  rintro e w1 ⟨rfl, hw1⟩
  simp only []
  have hS2 := hS.next hw1 (Nat.le_refl _) hS.b.size
  clear hS
  obtain ⟨c0, c1, c2, c3, c4, c5, f0, f1, f2, f3, f4, f5, d0, d1, d2, d3, d4, d5, r0, r1, r2, r3, r4, r5, hb, hn, hF⟩ := hS2
  (repeat (first | (with_reducible refine inBlock_far (by decide) ?_) | (with_reducible refine then_exit ?_) | (with_reducible refine inBlock_here ?_) | ((fail_if_success (with_reducible refine calls_id ?_)); go_step)))
  all_goals refine bodyPost_ret (v := .agg #[.int .i64 (a), .int .i64 (x), .int .i64 ((y - 1) % 256), .int .i64 (s), .int .i64 (Alu.markF p ((y - 1) % 256)), .int .i64 (pc)]) (by simp [results, Try.results20, go_sem, *]) rfl ⟨rfl, ?_⟩
  all_goals (repeat (first | (with_reducible exact hb) | (with_reducible exact hb.drew) | (with_reducible refine Below.drew ?_) | (with_reducible refine Below.setCell ?_ (by simp only []; omega) _)))
set_option maxRecDepth 100000 in
set_option maxHeartbeats 4000000 in
theorem rself_other (r : Ex.Rg) (ok : r.ok) (tag : ByteArray) (hk : ∀ l ∈ Ex.seNames, tag.toList ≠ l) (w : World) :
    Calls Try.prog 20 #[.string tag, rgI r] w fun e w' => e = .returned (rgI (Ex.selfF .other r)) ∧ Below w.heap.size w w' := by
  have e0 : (tag.toList == [67, 76, 67]) = false := beq_eq_false_iff_ne.2 (hk _ (by decide))
  have e1 : (tag.toList == [83, 69, 67]) = false := beq_eq_false_iff_ne.2 (hk _ (by decide))
  have e2 : (tag.toList == [67, 76, 68]) = false := beq_eq_false_iff_ne.2 (hk _ (by decide))
  have e3 : (tag.toList == [83, 69, 68]) = false := beq_eq_false_iff_ne.2 (hk _ (by decide))
  have e4 : (tag.toList == [67, 76, 73]) = false := beq_eq_false_iff_ne.2 (hk _ (by decide))
  have e5 : (tag.toList == [83, 69, 73]) = false := beq_eq_false_iff_ne.2 (hk _ (by decide))
  have e6 : (tag.toList == [67, 76, 86]) = false := beq_eq_false_iff_ne.2 (hk _ (by decide))
  have e7 : (tag.toList == [84, 65, 88]) = false := beq_eq_false_iff_ne.2 (hk _ (by decide))
  have e8 : (tag.toList == [84, 65, 89]) = false := beq_eq_false_iff_ne.2 (hk _ (by decide))
  have e9 : (tag.toList == [84, 88, 65]) = false := beq_eq_false_iff_ne.2 (hk _ (by decide))
  have e10 : (tag.toList == [84, 89, 65]) = false := beq_eq_false_iff_ne.2 (hk _ (by decide))
  have e11 : (tag.toList == [84, 83, 88]) = false := beq_eq_false_iff_ne.2 (hk _ (by decide))
  have e12 : (tag.toList == [84, 88, 83]) = false := beq_eq_false_iff_ne.2 (hk _ (by decide))
  have e13 : (tag.toList == [73, 78, 88]) = false := beq_eq_false_iff_ne.2 (hk _ (by decide))
  have e14 : (tag.toList == [73, 78, 89]) = false := beq_eq_false_iff_ne.2 (hk _ (by decide))
  have e15 : (tag.toList == [68, 69, 88]) = false := beq_eq_false_iff_ne.2 (hk _ (by decide))
  have e16 : (tag.toList == [68, 69, 89]) = false := beq_eq_false_iff_ne.2 (hk _ (by decide))
  clear hk
  obtain ⟨a, x, y, s, p, pc⟩ := r
  obtain ⟨a0, a1, x0, x1, y0, y1, s0, s1, p0, p1, pc0, pc1⟩ := ok
  simp only [] at a0 a1 x0 x1 y0 y1 s0 s1 p0 p1 pc0 pc1
  unfold rgI
  go_enter Try.func20, Try.ntmps20
  repeat (first | (with_reducible refine wp_abs _ (boxS_start .i64 .i64 _ _ a x y s p pc w) ?_) | go_step)
  rintro W hS
  have hS' := hS
  obtain ⟨c0, c1, c2, c3, c4, c5, f0, f1, f2, f3, f4, f5, d0, d1, d2, d3, d4, d5, r0, r1, r2, r3, r4, r5, hb, hn, hF⟩ := hS'
  (repeat (first | (with_reducible refine inBlock_far (by decide) ?_) | (with_reducible refine then_exit ?_) | (with_reducible refine inBlock_here ?_) | ((fail_if_success (with_reducible refine calls_id ?_)); go_step)))
  all_goals refine bodyPost_ret (v := .agg #[.int .i64 (a), .int .i64 (x), .int .i64 (y), .int .i64 (s), .int .i64 (p), .int .i64 (pc)]) (by simp [results, Try.results20, go_sem, *]) rfl ⟨rfl, ?_⟩
  all_goals (repeat (first | (with_reducible exact hb) | (with_reducible exact hb.drew) | (with_reducible refine Below.drew ?_) | (with_reducible refine Below.setCell ?_ (by simp only []; omega) _)))
end Go.Proofs.Ytlecpfkfnaiabaa
