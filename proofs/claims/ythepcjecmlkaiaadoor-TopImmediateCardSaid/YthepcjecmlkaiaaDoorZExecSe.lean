/- The walks of exec.Self for some names. -/
import Derived.Test.YthepcjecmlkaiaaDoorZExecThBox
import Derived.Test.YthepcjecmlkaiaaDoorZExecPl
import Derived.RegionTactic
import Derived.Deep.RegionWith
import Derived.ChangeAlike
import Derived.BigRegion
namespace Go.Proofs.YthepcjecmlkaiaaDoor
open Go.RowKit
set_option linter.unusedVariables false
set_option linter.unusedSimpArgs false
set_option maxRecDepth 100000 in
set_option maxHeartbeats 4000000 in
theorem self_CLC (r : Ex.Rg) (ok : r.ok) (tag : ByteArray) (hk : tag.toList = [67, 76, 67]) (w : World) :
    Calls Tryd.prog 56 #[.string tag, rgU r] w fun e w' => e = .returned (rgU (Ex.selfF .CLC r)) ∧ Below w.heap.size w w' := by
  have e0 : (tag.toList == [67, 76, 67]) = true := by rw [hk]; rfl
  have e1 : (tag.toList == [83, 69, 67]) = false := by rw [hk]; rfl
  have e2 : (tag.toList == [67, 76, 68]) = false := by rw [hk]; rfl
  have e3 : (tag.toList == [83, 69, 68]) = false := by rw [hk]; rfl
  have e4 : (tag.toList == [67, 76, 73]) = false := by rw [hk]; rfl
  have e5 : (tag.toList == [83, 69, 73]) = false := by rw [hk]; rfl
  have e6 : (tag.toList == [67, 76, 86]) = false := by rw [hk]; rfl
  have e7 : (tag.toList == [84, 65, 88]) = false := by rw [hk]; rfl
  have e8 : (tag.toList == [84, 65, 89]) = false := by rw [hk]; rfl
  have e9 : (tag.toList == [84, 88, 65]) = false := by rw [hk]; rfl
  have e10 : (tag.toList == [84, 89, 65]) = false := by rw [hk]; rfl
  have e11 : (tag.toList == [84, 83, 88]) = false := by rw [hk]; rfl
  have e12 : (tag.toList == [84, 88, 83]) = false := by rw [hk]; rfl
  have e13 : (tag.toList == [73, 78, 88]) = false := by rw [hk]; rfl
  have e14 : (tag.toList == [73, 78, 89]) = false := by rw [hk]; rfl
  have e15 : (tag.toList == [68, 69, 88]) = false := by rw [hk]; rfl
  have e16 : (tag.toList == [68, 69, 89]) = false := by rw [hk]; rfl
  clear hk
  obtain ⟨a, x, y, s, p, pc⟩ := r
  obtain ⟨a0, a1, x0, x1, y0, y1, s0, s1, p0, p1, pc0, pc1⟩ := ok
  simp only [] at a0 a1 x0 x1 y0 y1 s0 s1 p0 p1 pc0 pc1
  unfold rgU
  go_enter Tryd.func56, Tryd.ntmps56
  repeat (first | (with_reducible refine wp_abs _ (fileS_start _ a x y s p pc w) ?_) | go_step)
  generalize w.heap.size + 1 = R
  rintro W hS
  have hS' := hS
  obtain ⟨c0, c1, c2, c3, c4, c5, f0, f1, f2, f3, f4, f5, d0, d1, d2, d3, d4, d5, r0, r1, r2, r3, r4, r5, hb, hn, hF⟩ := hS'
  (repeat (first | (with_reducible refine inBlock_far (by decide) ?_) | (with_reducible refine then_exit ?_) | (with_reducible refine inBlock_here ?_) | ((fail_if_success (with_reducible refine calls_id ?_)); go_step)))
  refine (fflag_any _ p 1 false _ c4 f4 p0 p1 (by simp)).mono ?_
  rintro e w' ⟨rfl, rfl⟩
  simp only []
  (repeat (first | (with_reducible refine inBlock_far (by decide) ?_) | (with_reducible refine then_exit ?_) | (with_reducible refine inBlock_here ?_) | ((fail_if_success (with_reducible refine calls_id ?_)); go_step)))
  all_goals refine bodyPost_ret (v := .agg #[.int .u8 (a), .int .u8 (x), .int .u8 (y), .int .u8 (s), .int .u8 (Alu.setF p 1 false), .int .u16 (pc)]) (by simp [results, Tryd.results56, go_sem, *]) rfl ⟨rfl, ?_⟩
  all_goals (repeat (first | (with_reducible exact hb) | (with_reducible exact hb.drew) | (with_reducible refine Below.drew ?_) | (with_reducible refine Below.setCell ?_ (by simp only []; omega) _)))
set_option maxRecDepth 100000 in
set_option maxHeartbeats 4000000 in
theorem self_SEC (r : Ex.Rg) (ok : r.ok) (tag : ByteArray) (hk : tag.toList = [83, 69, 67]) (w : World) :
    Calls Tryd.prog 56 #[.string tag, rgU r] w fun e w' => e = .returned (rgU (Ex.selfF .SEC r)) ∧ Below w.heap.size w w' := by
  have e0 : (tag.toList == [67, 76, 67]) = false := by rw [hk]; rfl
  have e1 : (tag.toList == [83, 69, 67]) = true := by rw [hk]; rfl
  have e2 : (tag.toList == [67, 76, 68]) = false := by rw [hk]; rfl
  have e3 : (tag.toList == [83, 69, 68]) = false := by rw [hk]; rfl
  have e4 : (tag.toList == [67, 76, 73]) = false := by rw [hk]; rfl
  have e5 : (tag.toList == [83, 69, 73]) = false := by rw [hk]; rfl
  have e6 : (tag.toList == [67, 76, 86]) = false := by rw [hk]; rfl
  have e7 : (tag.toList == [84, 65, 88]) = false := by rw [hk]; rfl
  have e8 : (tag.toList == [84, 65, 89]) = false := by rw [hk]; rfl
  have e9 : (tag.toList == [84, 88, 65]) = false := by rw [hk]; rfl
  have e10 : (tag.toList == [84, 89, 65]) = false := by rw [hk]; rfl
  have e11 : (tag.toList == [84, 83, 88]) = false := by rw [hk]; rfl
  have e12 : (tag.toList == [84, 88, 83]) = false := by rw [hk]; rfl
  have e13 : (tag.toList == [73, 78, 88]) = false := by rw [hk]; rfl
  have e14 : (tag.toList == [73, 78, 89]) = false := by rw [hk]; rfl
  have e15 : (tag.toList == [68, 69, 88]) = false := by rw [hk]; rfl
  have e16 : (tag.toList == [68, 69, 89]) = false := by rw [hk]; rfl
  clear hk
  obtain ⟨a, x, y, s, p, pc⟩ := r
  obtain ⟨a0, a1, x0, x1, y0, y1, s0, s1, p0, p1, pc0, pc1⟩ := ok
  simp only [] at a0 a1 x0 x1 y0 y1 s0 s1 p0 p1 pc0 pc1
  unfold rgU
  go_enter Tryd.func56, Tryd.ntmps56
  repeat (first | (with_reducible refine wp_abs _ (fileS_start _ a x y s p pc w) ?_) | go_step)
  generalize w.heap.size + 1 = R
  rintro W hS
  have hS' := hS
  obtain ⟨c0, c1, c2, c3, c4, c5, f0, f1, f2, f3, f4, f5, d0, d1, d2, d3, d4, d5, r0, r1, r2, r3, r4, r5, hb, hn, hF⟩ := hS'
  (repeat (first | (with_reducible refine inBlock_far (by decide) ?_) | (with_reducible refine then_exit ?_) | (with_reducible refine inBlock_here ?_) | ((fail_if_success (with_reducible refine calls_id ?_)); go_step)))
  refine (fflag_any _ p 1 true _ c4 f4 p0 p1 (by simp)).mono ?_
  rintro e w' ⟨rfl, rfl⟩
  simp only []
  (repeat (first | (with_reducible refine inBlock_far (by decide) ?_) | (with_reducible refine then_exit ?_) | (with_reducible refine inBlock_here ?_) | ((fail_if_success (with_reducible refine calls_id ?_)); go_step)))
  all_goals refine bodyPost_ret (v := .agg #[.int .u8 (a), .int .u8 (x), .int .u8 (y), .int .u8 (s), .int .u8 (Alu.setF p 1 true), .int .u16 (pc)]) (by simp [results, Tryd.results56, go_sem, *]) rfl ⟨rfl, ?_⟩
  all_goals (repeat (first | (with_reducible exact hb) | (with_reducible exact hb.drew) | (with_reducible refine Below.drew ?_) | (with_reducible refine Below.setCell ?_ (by simp only []; omega) _)))
set_option maxRecDepth 100000 in
set_option maxHeartbeats 4000000 in
theorem self_CLD (r : Ex.Rg) (ok : r.ok) (tag : ByteArray) (hk : tag.toList = [67, 76, 68]) (w : World) :
    Calls Tryd.prog 56 #[.string tag, rgU r] w fun e w' => e = .returned (rgU (Ex.selfF .CLD r)) ∧ Below w.heap.size w w' := by
  have e0 : (tag.toList == [67, 76, 67]) = false := by rw [hk]; rfl
  have e1 : (tag.toList == [83, 69, 67]) = false := by rw [hk]; rfl
  have e2 : (tag.toList == [67, 76, 68]) = true := by rw [hk]; rfl
  have e3 : (tag.toList == [83, 69, 68]) = false := by rw [hk]; rfl
  have e4 : (tag.toList == [67, 76, 73]) = false := by rw [hk]; rfl
  have e5 : (tag.toList == [83, 69, 73]) = false := by rw [hk]; rfl
  have e6 : (tag.toList == [67, 76, 86]) = false := by rw [hk]; rfl
  have e7 : (tag.toList == [84, 65, 88]) = false := by rw [hk]; rfl
  have e8 : (tag.toList == [84, 65, 89]) = false := by rw [hk]; rfl
  have e9 : (tag.toList == [84, 88, 65]) = false := by rw [hk]; rfl
  have e10 : (tag.toList == [84, 89, 65]) = false := by rw [hk]; rfl
  have e11 : (tag.toList == [84, 83, 88]) = false := by rw [hk]; rfl
  have e12 : (tag.toList == [84, 88, 83]) = false := by rw [hk]; rfl
  have e13 : (tag.toList == [73, 78, 88]) = false := by rw [hk]; rfl
  have e14 : (tag.toList == [73, 78, 89]) = false := by rw [hk]; rfl
  have e15 : (tag.toList == [68, 69, 88]) = false := by rw [hk]; rfl
  have e16 : (tag.toList == [68, 69, 89]) = false := by rw [hk]; rfl
  clear hk
  obtain ⟨a, x, y, s, p, pc⟩ := r
  obtain ⟨a0, a1, x0, x1, y0, y1, s0, s1, p0, p1, pc0, pc1⟩ := ok
  simp only [] at a0 a1 x0 x1 y0 y1 s0 s1 p0 p1 pc0 pc1
  unfold rgU
  go_enter Tryd.func56, Tryd.ntmps56
  repeat (first | (with_reducible refine wp_abs _ (fileS_start _ a x y s p pc w) ?_) | go_step)
  generalize w.heap.size + 1 = R
  rintro W hS
  have hS' := hS
  obtain ⟨c0, c1, c2, c3, c4, c5, f0, f1, f2, f3, f4, f5, d0, d1, d2, d3, d4, d5, r0, r1, r2, r3, r4, r5, hb, hn, hF⟩ := hS'
  (repeat (first | (with_reducible refine inBlock_far (by decide) ?_) | (with_reducible refine then_exit ?_) | (with_reducible refine inBlock_here ?_) | ((fail_if_success (with_reducible refine calls_id ?_)); go_step)))
  refine (fflag_any _ p 8 false _ c4 f4 p0 p1 (by simp)).mono ?_
  rintro e w' ⟨rfl, rfl⟩
  simp only []
  (repeat (first | (with_reducible refine inBlock_far (by decide) ?_) | (with_reducible refine then_exit ?_) | (with_reducible refine inBlock_here ?_) | ((fail_if_success (with_reducible refine calls_id ?_)); go_step)))
  all_goals refine bodyPost_ret (v := .agg #[.int .u8 (a), .int .u8 (x), .int .u8 (y), .int .u8 (s), .int .u8 (Alu.setF p 8 false), .int .u16 (pc)]) (by simp [results, Tryd.results56, go_sem, *]) rfl ⟨rfl, ?_⟩
  all_goals (repeat (first | (with_reducible exact hb) | (with_reducible exact hb.drew) | (with_reducible refine Below.drew ?_) | (with_reducible refine Below.setCell ?_ (by simp only []; omega) _)))
set_option maxRecDepth 100000 in
set_option maxHeartbeats 4000000 in
theorem self_SED (r : Ex.Rg) (ok : r.ok) (tag : ByteArray) (hk : tag.toList = [83, 69, 68]) (w : World) :
    Calls Tryd.prog 56 #[.string tag, rgU r] w fun e w' => e = .returned (rgU (Ex.selfF .SED r)) ∧ Below w.heap.size w w' := by
  have e0 : (tag.toList == [67, 76, 67]) = false := by rw [hk]; rfl
  have e1 : (tag.toList == [83, 69, 67]) = false := by rw [hk]; rfl
  have e2 : (tag.toList == [67, 76, 68]) = false := by rw [hk]; rfl
  have e3 : (tag.toList == [83, 69, 68]) = true := by rw [hk]; rfl
  have e4 : (tag.toList == [67, 76, 73]) = false := by rw [hk]; rfl
  have e5 : (tag.toList == [83, 69, 73]) = false := by rw [hk]; rfl
  have e6 : (tag.toList == [67, 76, 86]) = false := by rw [hk]; rfl
  have e7 : (tag.toList == [84, 65, 88]) = false := by rw [hk]; rfl
  have e8 : (tag.toList == [84, 65, 89]) = false := by rw [hk]; rfl
  have e9 : (tag.toList == [84, 88, 65]) = false := by rw [hk]; rfl
  have e10 : (tag.toList == [84, 89, 65]) = false := by rw [hk]; rfl
  have e11 : (tag.toList == [84, 83, 88]) = false := by rw [hk]; rfl
  have e12 : (tag.toList == [84, 88, 83]) = false := by rw [hk]; rfl
  have e13 : (tag.toList == [73, 78, 88]) = false := by rw [hk]; rfl
  have e14 : (tag.toList == [73, 78, 89]) = false := by rw [hk]; rfl
  have e15 : (tag.toList == [68, 69, 88]) = false := by rw [hk]; rfl
  have e16 : (tag.toList == [68, 69, 89]) = false := by rw [hk]; rfl
  clear hk
  obtain ⟨a, x, y, s, p, pc⟩ := r
  obtain ⟨a0, a1, x0, x1, y0, y1, s0, s1, p0, p1, pc0, pc1⟩ := ok
  simp only [] at a0 a1 x0 x1 y0 y1 s0 s1 p0 p1 pc0 pc1
  unfold rgU
  go_enter Tryd.func56, Tryd.ntmps56
  repeat (first | (with_reducible refine wp_abs _ (fileS_start _ a x y s p pc w) ?_) | go_step)
  generalize w.heap.size + 1 = R
  rintro W hS
  have hS' := hS
  obtain ⟨c0, c1, c2, c3, c4, c5, f0, f1, f2, f3, f4, f5, d0, d1, d2, d3, d4, d5, r0, r1, r2, r3, r4, r5, hb, hn, hF⟩ := hS'
  (repeat (first | (with_reducible refine inBlock_far (by decide) ?_) | (with_reducible refine then_exit ?_) | (with_reducible refine inBlock_here ?_) | ((fail_if_success (with_reducible refine calls_id ?_)); go_step)))
  refine (fflag_any _ p 8 true _ c4 f4 p0 p1 (by simp)).mono ?_
  rintro e w' ⟨rfl, rfl⟩
  simp only []
  (repeat (first | (with_reducible refine inBlock_far (by decide) ?_) | (with_reducible refine then_exit ?_) | (with_reducible refine inBlock_here ?_) | ((fail_if_success (with_reducible refine calls_id ?_)); go_step)))
  all_goals refine bodyPost_ret (v := .agg #[.int .u8 (a), .int .u8 (x), .int .u8 (y), .int .u8 (s), .int .u8 (Alu.setF p 8 true), .int .u16 (pc)]) (by simp [results, Tryd.results56, go_sem, *]) rfl ⟨rfl, ?_⟩
  all_goals (repeat (first | (with_reducible exact hb) | (with_reducible exact hb.drew) | (with_reducible refine Below.drew ?_) | (with_reducible refine Below.setCell ?_ (by simp only []; omega) _)))
set_option maxRecDepth 100000 in
set_option maxHeartbeats 4000000 in
theorem self_CLI (r : Ex.Rg) (ok : r.ok) (tag : ByteArray) (hk : tag.toList = [67, 76, 73]) (w : World) :
    Calls Tryd.prog 56 #[.string tag, rgU r] w fun e w' => e = .returned (rgU (Ex.selfF .CLI r)) ∧ Below w.heap.size w w' := by
  have e0 : (tag.toList == [67, 76, 67]) = false := by rw [hk]; rfl
  have e1 : (tag.toList == [83, 69, 67]) = false := by rw [hk]; rfl
  have e2 : (tag.toList == [67, 76, 68]) = false := by rw [hk]; rfl
  have e3 : (tag.toList == [83, 69, 68]) = false := by rw [hk]; rfl
  have e4 : (tag.toList == [67, 76, 73]) = true := by rw [hk]; rfl
  have e5 : (tag.toList == [83, 69, 73]) = false := by rw [hk]; rfl
  have e6 : (tag.toList == [67, 76, 86]) = false := by rw [hk]; rfl
  have e7 : (tag.toList == [84, 65, 88]) = false := by rw [hk]; rfl
  have e8 : (tag.toList == [84, 65, 89]) = false := by rw [hk]; rfl
  have e9 : (tag.toList == [84, 88, 65]) = false := by rw [hk]; rfl
  have e10 : (tag.toList == [84, 89, 65]) = false := by rw [hk]; rfl
  have e11 : (tag.toList == [84, 83, 88]) = false := by rw [hk]; rfl
  have e12 : (tag.toList == [84, 88, 83]) = false := by rw [hk]; rfl
  have e13 : (tag.toList == [73, 78, 88]) = false := by rw [hk]; rfl
  have e14 : (tag.toList == [73, 78, 89]) = false := by rw [hk]; rfl
  have e15 : (tag.toList == [68, 69, 88]) = false := by rw [hk]; rfl
  have e16 : (tag.toList == [68, 69, 89]) = false := by rw [hk]; rfl
  clear hk
  obtain ⟨a, x, y, s, p, pc⟩ := r
  obtain ⟨a0, a1, x0, x1, y0, y1, s0, s1, p0, p1, pc0, pc1⟩ := ok
  simp only [] at a0 a1 x0 x1 y0 y1 s0 s1 p0 p1 pc0 pc1
  unfold rgU
  go_enter Tryd.func56, Tryd.ntmps56
  repeat (first | (with_reducible refine wp_abs _ (fileS_start _ a x y s p pc w) ?_) | go_step)
  generalize w.heap.size + 1 = R
  rintro W hS
  have hS' := hS
  obtain ⟨c0, c1, c2, c3, c4, c5, f0, f1, f2, f3, f4, f5, d0, d1, d2, d3, d4, d5, r0, r1, r2, r3, r4, r5, hb, hn, hF⟩ := hS'
  (repeat (first | (with_reducible refine inBlock_far (by decide) ?_) | (with_reducible refine then_exit ?_) | (with_reducible refine inBlock_here ?_) | ((fail_if_success (with_reducible refine calls_id ?_)); go_step)))
  refine (fflag_any _ p 4 false _ c4 f4 p0 p1 (by simp)).mono ?_
  rintro e w' ⟨rfl, rfl⟩
  simp only []
  (repeat (first | (with_reducible refine inBlock_far (by decide) ?_) | (with_reducible refine then_exit ?_) | (with_reducible refine inBlock_here ?_) | ((fail_if_success (with_reducible refine calls_id ?_)); go_step)))
  all_goals refine bodyPost_ret (v := .agg #[.int .u8 (a), .int .u8 (x), .int .u8 (y), .int .u8 (s), .int .u8 (Alu.setF p 4 false), .int .u16 (pc)]) (by simp [results, Tryd.results56, go_sem, *]) rfl ⟨rfl, ?_⟩
  all_goals (repeat (first | (with_reducible exact hb) | (with_reducible exact hb.drew) | (with_reducible refine Below.drew ?_) | (with_reducible refine Below.setCell ?_ (by simp only []; omega) _)))
set_option maxRecDepth 100000 in
set_option maxHeartbeats 4000000 in
theorem self_SEI (r : Ex.Rg) (ok : r.ok) (tag : ByteArray) (hk : tag.toList = [83, 69, 73]) (w : World) :
    Calls Tryd.prog 56 #[.string tag, rgU r] w fun e w' => e = .returned (rgU (Ex.selfF .SEI r)) ∧ Below w.heap.size w w' := by
  have e0 : (tag.toList == [67, 76, 67]) = false := by rw [hk]; rfl
  have e1 : (tag.toList == [83, 69, 67]) = false := by rw [hk]; rfl
  have e2 : (tag.toList == [67, 76, 68]) = false := by rw [hk]; rfl
  have e3 : (tag.toList == [83, 69, 68]) = false := by rw [hk]; rfl
  have e4 : (tag.toList == [67, 76, 73]) = false := by rw [hk]; rfl
  have e5 : (tag.toList == [83, 69, 73]) = true := by rw [hk]; rfl
  have e6 : (tag.toList == [67, 76, 86]) = false := by rw [hk]; rfl
  have e7 : (tag.toList == [84, 65, 88]) = false := by rw [hk]; rfl
  have e8 : (tag.toList == [84, 65, 89]) = false := by rw [hk]; rfl
  have e9 : (tag.toList == [84, 88, 65]) = false := by rw [hk]; rfl
  have e10 : (tag.toList == [84, 89, 65]) = false := by rw [hk]; rfl
  have e11 : (tag.toList == [84, 83, 88]) = false := by rw [hk]; rfl
  have e12 : (tag.toList == [84, 88, 83]) = false := by rw [hk]; rfl
  have e13 : (tag.toList == [73, 78, 88]) = false := by rw [hk]; rfl
  have e14 : (tag.toList == [73, 78, 89]) = false := by rw [hk]; rfl
  have e15 : (tag.toList == [68, 69, 88]) = false := by rw [hk]; rfl
  have e16 : (tag.toList == [68, 69, 89]) = false := by rw [hk]; rfl
  clear hk
  obtain ⟨a, x, y, s, p, pc⟩ := r
  obtain ⟨a0, a1, x0, x1, y0, y1, s0, s1, p0, p1, pc0, pc1⟩ := ok
  simp only [] at a0 a1 x0 x1 y0 y1 s0 s1 p0 p1 pc0 pc1
  unfold rgU
  go_enter Tryd.func56, Tryd.ntmps56
  repeat (first | (with_reducible refine wp_abs _ (fileS_start _ a x y s p pc w) ?_) | go_step)
  generalize w.heap.size + 1 = R
  rintro W hS
  have hS' := hS
  obtain ⟨c0, c1, c2, c3, c4, c5, f0, f1, f2, f3, f4, f5, d0, d1, d2, d3, d4, d5, r0, r1, r2, r3, r4, r5, hb, hn, hF⟩ := hS'
  (repeat (first | (with_reducible refine inBlock_far (by decide) ?_) | (with_reducible refine then_exit ?_) | (with_reducible refine inBlock_here ?_) | ((fail_if_success (with_reducible refine calls_id ?_)); go_step)))
  refine (fflag_any _ p 4 true _ c4 f4 p0 p1 (by simp)).mono ?_
  rintro e w' ⟨rfl, rfl⟩
  simp only []
  (repeat (first | (with_reducible refine inBlock_far (by decide) ?_) | (with_reducible refine then_exit ?_) | (with_reducible refine inBlock_here ?_) | ((fail_if_success (with_reducible refine calls_id ?_)); go_step)))
  all_goals refine bodyPost_ret (v := .agg #[.int .u8 (a), .int .u8 (x), .int .u8 (y), .int .u8 (s), .int .u8 (Alu.setF p 4 true), .int .u16 (pc)]) (by simp [results, Tryd.results56, go_sem, *]) rfl ⟨rfl, ?_⟩
  all_goals (repeat (first | (with_reducible exact hb) | (with_reducible exact hb.drew) | (with_reducible refine Below.drew ?_) | (with_reducible refine Below.setCell ?_ (by simp only []; omega) _)))
set_option maxRecDepth 100000 in
set_option maxHeartbeats 4000000 in
theorem self_CLV (r : Ex.Rg) (ok : r.ok) (tag : ByteArray) (hk : tag.toList = [67, 76, 86]) (w : World) :
    Calls Tryd.prog 56 #[.string tag, rgU r] w fun e w' => e = .returned (rgU (Ex.selfF .CLV r)) ∧ Below w.heap.size w w' := by
  have e0 : (tag.toList == [67, 76, 67]) = false := by rw [hk]; rfl
  have e1 : (tag.toList == [83, 69, 67]) = false := by rw [hk]; rfl
  have e2 : (tag.toList == [67, 76, 68]) = false := by rw [hk]; rfl
  have e3 : (tag.toList == [83, 69, 68]) = false := by rw [hk]; rfl
  have e4 : (tag.toList == [67, 76, 73]) = false := by rw [hk]; rfl
  have e5 : (tag.toList == [83, 69, 73]) = false := by rw [hk]; rfl
  have e6 : (tag.toList == [67, 76, 86]) = true := by rw [hk]; rfl
  have e7 : (tag.toList == [84, 65, 88]) = false := by rw [hk]; rfl
  have e8 : (tag.toList == [84, 65, 89]) = false := by rw [hk]; rfl
  have e9 : (tag.toList == [84, 88, 65]) = false := by rw [hk]; rfl
  have e10 : (tag.toList == [84, 89, 65]) = false := by rw [hk]; rfl
  have e11 : (tag.toList == [84, 83, 88]) = false := by rw [hk]; rfl
  have e12 : (tag.toList == [84, 88, 83]) = false := by rw [hk]; rfl
  have e13 : (tag.toList == [73, 78, 88]) = false := by rw [hk]; rfl
  have e14 : (tag.toList == [73, 78, 89]) = false := by rw [hk]; rfl
  have e15 : (tag.toList == [68, 69, 88]) = false := by rw [hk]; rfl
  have e16 : (tag.toList == [68, 69, 89]) = false := by rw [hk]; rfl
  clear hk
  obtain ⟨a, x, y, s, p, pc⟩ := r
  obtain ⟨a0, a1, x0, x1, y0, y1, s0, s1, p0, p1, pc0, pc1⟩ := ok
  simp only [] at a0 a1 x0 x1 y0 y1 s0 s1 p0 p1 pc0 pc1
  unfold rgU
  go_enter Tryd.func56, Tryd.ntmps56
  repeat (first | (with_reducible refine wp_abs _ (fileS_start _ a x y s p pc w) ?_) | go_step)
  generalize w.heap.size + 1 = R
  rintro W hS
  have hS' := hS
  obtain ⟨c0, c1, c2, c3, c4, c5, f0, f1, f2, f3, f4, f5, d0, d1, d2, d3, d4, d5, r0, r1, r2, r3, r4, r5, hb, hn, hF⟩ := hS'
  (repeat (first | (with_reducible refine inBlock_far (by decide) ?_) | (with_reducible refine then_exit ?_) | (with_reducible refine inBlock_here ?_) | ((fail_if_success (with_reducible refine calls_id ?_)); go_step)))
  refine (fflag_any _ p 64 false _ c4 f4 p0 p1 (by simp)).mono ?_
  rintro e w' ⟨rfl, rfl⟩
  simp only []
  (repeat (first | (with_reducible refine inBlock_far (by decide) ?_) | (with_reducible refine then_exit ?_) | (with_reducible refine inBlock_here ?_) | ((fail_if_success (with_reducible refine calls_id ?_)); go_step)))
  all_goals refine bodyPost_ret (v := .agg #[.int .u8 (a), .int .u8 (x), .int .u8 (y), .int .u8 (s), .int .u8 (Alu.setF p 64 false), .int .u16 (pc)]) (by simp [results, Tryd.results56, go_sem, *]) rfl ⟨rfl, ?_⟩
  all_goals (repeat (first | (with_reducible exact hb) | (with_reducible exact hb.drew) | (with_reducible refine Below.drew ?_) | (with_reducible refine Below.setCell ?_ (by simp only []; omega) _)))
set_option maxRecDepth 100000 in
set_option maxHeartbeats 4000000 in
theorem self_TAX (r : Ex.Rg) (ok : r.ok) (tag : ByteArray) (hk : tag.toList = [84, 65, 88]) (w : World) :
    Calls Tryd.prog 56 #[.string tag, rgU r] w fun e w' => e = .returned (rgU (Ex.selfF .TAX r)) ∧ Below w.heap.size w w' := by
  have e0 : (tag.toList == [67, 76, 67]) = false := by rw [hk]; rfl
  have e1 : (tag.toList == [83, 69, 67]) = false := by rw [hk]; rfl
  have e2 : (tag.toList == [67, 76, 68]) = false := by rw [hk]; rfl
  have e3 : (tag.toList == [83, 69, 68]) = false := by rw [hk]; rfl
  have e4 : (tag.toList == [67, 76, 73]) = false := by rw [hk]; rfl
  have e5 : (tag.toList == [83, 69, 73]) = false := by rw [hk]; rfl
  have e6 : (tag.toList == [67, 76, 86]) = false := by rw [hk]; rfl
  have e7 : (tag.toList == [84, 65, 88]) = true := by rw [hk]; rfl
  have e8 : (tag.toList == [84, 65, 89]) = false := by rw [hk]; rfl
  have e9 : (tag.toList == [84, 88, 65]) = false := by rw [hk]; rfl
  have e10 : (tag.toList == [84, 89, 65]) = false := by rw [hk]; rfl
  have e11 : (tag.toList == [84, 83, 88]) = false := by rw [hk]; rfl
  have e12 : (tag.toList == [84, 88, 83]) = false := by rw [hk]; rfl
  have e13 : (tag.toList == [73, 78, 88]) = false := by rw [hk]; rfl
  have e14 : (tag.toList == [73, 78, 89]) = false := by rw [hk]; rfl
  have e15 : (tag.toList == [68, 69, 88]) = false := by rw [hk]; rfl
  have e16 : (tag.toList == [68, 69, 89]) = false := by rw [hk]; rfl
  clear hk
  obtain ⟨a, x, y, s, p, pc⟩ := r
  obtain ⟨a0, a1, x0, x1, y0, y1, s0, s1, p0, p1, pc0, pc1⟩ := ok
  simp only [] at a0 a1 x0 x1 y0 y1 s0 s1 p0 p1 pc0 pc1
  unfold rgU
  go_enter Tryd.func56, Tryd.ntmps56
  repeat (first | (with_reducible refine wp_abs _ (fileS_start _ a x y s p pc w) ?_) | go_step)
  generalize w.heap.size + 1 = R
  rintro W hS
  have hS' := hS
  obtain ⟨c0, c1, c2, c3, c4, c5, f0, f1, f2, f3, f4, f5, d0, d1, d2, d3, d4, d5, r0, r1, r2, r3, r4, r5, hb, hn, hF⟩ := hS'
  (repeat (first | (with_reducible refine inBlock_far (by decide) ?_) | (with_reducible refine then_exit ?_) | (with_reducible refine inBlock_here ?_) | ((fail_if_success (with_reducible refine calls_id ?_)); go_step)))
  refine (fmark_any _ p (a) _ c4 f4 p0 p1 (by omega) (by omega)).mono ?_
  rintro e w' ⟨rfl, rfl⟩
  simp only []
  (repeat (first | (with_reducible refine inBlock_far (by decide) ?_) | (with_reducible refine then_exit ?_) | (with_reducible refine inBlock_here ?_) | ((fail_if_success (with_reducible refine calls_id ?_)); go_step)))
  all_goals refine bodyPost_ret (v := .agg #[.int .u8 (a), .int .u8 (a), .int .u8 (y), .int .u8 (s), .int .u8 (Alu.markF p (a)), .int .u16 (pc)]) (by simp [results, Tryd.results56, go_sem, *]) rfl ⟨rfl, ?_⟩
  all_goals (repeat (first | (with_reducible exact hb) | (with_reducible exact hb.drew) | (with_reducible refine Below.drew ?_) | (with_reducible refine Below.setCell ?_ (by simp only []; omega) _)))
set_option maxRecDepth 100000 in
set_option maxHeartbeats 4000000 in
theorem self_TAY (r : Ex.Rg) (ok : r.ok) (tag : ByteArray) (hk : tag.toList = [84, 65, 89]) (w : World) :
    Calls Tryd.prog 56 #[.string tag, rgU r] w fun e w' => e = .returned (rgU (Ex.selfF .TAY r)) ∧ Below w.heap.size w w' := by
  have e0 : (tag.toList == [67, 76, 67]) = false := by rw [hk]; rfl
  have e1 : (tag.toList == [83, 69, 67]) = false := by rw [hk]; rfl
  have e2 : (tag.toList == [67, 76, 68]) = false := by rw [hk]; rfl
  have e3 : (tag.toList == [83, 69, 68]) = false := by rw [hk]; rfl
  have e4 : (tag.toList == [67, 76, 73]) = false := by rw [hk]; rfl
  have e5 : (tag.toList == [83, 69, 73]) = false := by rw [hk]; rfl
  have e6 : (tag.toList == [67, 76, 86]) = false := by rw [hk]; rfl
  have e7 : (tag.toList == [84, 65, 88]) = false := by rw [hk]; rfl
  have e8 : (tag.toList == [84, 65, 89]) = true := by rw [hk]; rfl
  have e9 : (tag.toList == [84, 88, 65]) = false := by rw [hk]; rfl
  have e10 : (tag.toList == [84, 89, 65]) = false := by rw [hk]; rfl
  have e11 : (tag.toList == [84, 83, 88]) = false := by rw [hk]; rfl
  have e12 : (tag.toList == [84, 88, 83]) = false := by rw [hk]; rfl
  have e13 : (tag.toList == [73, 78, 88]) = false := by rw [hk]; rfl
  have e14 : (tag.toList == [73, 78, 89]) = false := by rw [hk]; rfl
  have e15 : (tag.toList == [68, 69, 88]) = false := by rw [hk]; rfl
  have e16 : (tag.toList == [68, 69, 89]) = false := by rw [hk]; rfl
  clear hk
  obtain ⟨a, x, y, s, p, pc⟩ := r
  obtain ⟨a0, a1, x0, x1, y0, y1, s0, s1, p0, p1, pc0, pc1⟩ := ok
  simp only [] at a0 a1 x0 x1 y0 y1 s0 s1 p0 p1 pc0 pc1
  unfold rgU
  go_enter Tryd.func56, Tryd.ntmps56
  repeat (first | (with_reducible refine wp_abs _ (fileS_start _ a x y s p pc w) ?_) | go_step)
  generalize w.heap.size + 1 = R
  rintro W hS
  have hS' := hS
  obtain ⟨c0, c1, c2, c3, c4, c5, f0, f1, f2, f3, f4, f5, d0, d1, d2, d3, d4, d5, r0, r1, r2, r3, r4, r5, hb, hn, hF⟩ := hS'
  (repeat (first | (with_reducible refine inBlock_far (by decide) ?_) | (with_reducible refine then_exit ?_) | (with_reducible refine inBlock_here ?_) | ((fail_if_success (with_reducible refine calls_id ?_)); go_step)))
  refine (fmark_any _ p (a) _ c4 f4 p0 p1 (by omega) (by omega)).mono ?_
  rintro e w' ⟨rfl, rfl⟩
  simp only []
  (repeat (first | (with_reducible refine inBlock_far (by decide) ?_) | (with_reducible refine then_exit ?_) | (with_reducible refine inBlock_here ?_) | ((fail_if_success (with_reducible refine calls_id ?_)); go_step)))
  all_goals refine bodyPost_ret (v := .agg #[.int .u8 (a), .int .u8 (x), .int .u8 (a), .int .u8 (s), .int .u8 (Alu.markF p (a)), .int .u16 (pc)]) (by simp [results, Tryd.results56, go_sem, *]) rfl ⟨rfl, ?_⟩
  all_goals (repeat (first | (with_reducible exact hb) | (with_reducible exact hb.drew) | (with_reducible refine Below.drew ?_) | (with_reducible refine Below.setCell ?_ (by simp only []; omega) _)))
end Go.Proofs.YthepcjecmlkaiaaDoor
/- The walks of exec.Self for some names. -/
namespace Go.Proofs.YthepcjecmlkaiaaDoor
open Go.RowKit
set_option linter.unusedVariables false
set_option linter.unusedSimpArgs false
set_option maxRecDepth 100000 in
set_option maxHeartbeats 4000000 in
theorem self_TXA (r : Ex.Rg) (ok : r.ok) (tag : ByteArray) (hk : tag.toList = [84, 88, 65]) (w : World) :
    Calls Tryd.prog 56 #[.string tag, rgU r] w fun e w' => e = .returned (rgU (Ex.selfF .TXA r)) ∧ Below w.heap.size w w' := by
  have e0 : (tag.toList == [67, 76, 67]) = false := by rw [hk]; rfl
  have e1 : (tag.toList == [83, 69, 67]) = false := by rw [hk]; rfl
  have e2 : (tag.toList == [67, 76, 68]) = false := by rw [hk]; rfl
  have e3 : (tag.toList == [83, 69, 68]) = false := by rw [hk]; rfl
  have e4 : (tag.toList == [67, 76, 73]) = false := by rw [hk]; rfl
  have e5 : (tag.toList == [83, 69, 73]) = false := by rw [hk]; rfl
  have e6 : (tag.toList == [67, 76, 86]) = false := by rw [hk]; rfl
  have e7 : (tag.toList == [84, 65, 88]) = false := by rw [hk]; rfl
  have e8 : (tag.toList == [84, 65, 89]) = false := by rw [hk]; rfl
  have e9 : (tag.toList == [84, 88, 65]) = true := by rw [hk]; rfl
  have e10 : (tag.toList == [84, 89, 65]) = false := by rw [hk]; rfl
  have e11 : (tag.toList == [84, 83, 88]) = false := by rw [hk]; rfl
  have e12 : (tag.toList == [84, 88, 83]) = false := by rw [hk]; rfl
  have e13 : (tag.toList == [73, 78, 88]) = false := by rw [hk]; rfl
  have e14 : (tag.toList == [73, 78, 89]) = false := by rw [hk]; rfl
  have e15 : (tag.toList == [68, 69, 88]) = false := by rw [hk]; rfl
  have e16 : (tag.toList == [68, 69, 89]) = false := by rw [hk]; rfl
  clear hk
  obtain ⟨a, x, y, s, p, pc⟩ := r
  obtain ⟨a0, a1, x0, x1, y0, y1, s0, s1, p0, p1, pc0, pc1⟩ := ok
  simp only [] at a0 a1 x0 x1 y0 y1 s0 s1 p0 p1 pc0 pc1
  unfold rgU
  go_enter Tryd.func56, Tryd.ntmps56
  repeat (first | (with_reducible refine wp_abs _ (fileS_start _ a x y s p pc w) ?_) | go_step)
  generalize w.heap.size + 1 = R
  rintro W hS
  have hS' := hS
  obtain ⟨c0, c1, c2, c3, c4, c5, f0, f1, f2, f3, f4, f5, d0, d1, d2, d3, d4, d5, r0, r1, r2, r3, r4, r5, hb, hn, hF⟩ := hS'
  (repeat (first | (with_reducible refine inBlock_far (by decide) ?_) | (with_reducible refine then_exit ?_) | (with_reducible refine inBlock_here ?_) | ((fail_if_success (with_reducible refine calls_id ?_)); go_step)))
  refine (fmark_any _ p (x) _ c4 f4 p0 p1 (by omega) (by omega)).mono ?_
  rintro e w' ⟨rfl, rfl⟩
  simp only []
  (repeat (first | (with_reducible refine inBlock_far (by decide) ?_) | (with_reducible refine then_exit ?_) | (with_reducible refine inBlock_here ?_) | ((fail_if_success (with_reducible refine calls_id ?_)); go_step)))
  all_goals refine bodyPost_ret (v := .agg #[.int .u8 (x), .int .u8 (x), .int .u8 (y), .int .u8 (s), .int .u8 (Alu.markF p (x)), .int .u16 (pc)]) (by simp [results, Tryd.results56, go_sem, *]) rfl ⟨rfl, ?_⟩
  all_goals (repeat (first | (with_reducible exact hb) | (with_reducible exact hb.drew) | (with_reducible refine Below.drew ?_) | (with_reducible refine Below.setCell ?_ (by simp only []; omega) _)))
set_option maxRecDepth 100000 in
set_option maxHeartbeats 4000000 in
theorem self_TYA (r : Ex.Rg) (ok : r.ok) (tag : ByteArray) (hk : tag.toList = [84, 89, 65]) (w : World) :
    Calls Tryd.prog 56 #[.string tag, rgU r] w fun e w' => e = .returned (rgU (Ex.selfF .TYA r)) ∧ Below w.heap.size w w' := by
  have e0 : (tag.toList == [67, 76, 67]) = false := by rw [hk]; rfl
  have e1 : (tag.toList == [83, 69, 67]) = false := by rw [hk]; rfl
  have e2 : (tag.toList == [67, 76, 68]) = false := by rw [hk]; rfl
  have e3 : (tag.toList == [83, 69, 68]) = false := by rw [hk]; rfl
  have e4 : (tag.toList == [67, 76, 73]) = false := by rw [hk]; rfl
  have e5 : (tag.toList == [83, 69, 73]) = false := by rw [hk]; rfl
  have e6 : (tag.toList == [67, 76, 86]) = false := by rw [hk]; rfl
  have e7 : (tag.toList == [84, 65, 88]) = false := by rw [hk]; rfl
  have e8 : (tag.toList == [84, 65, 89]) = false := by rw [hk]; rfl
  have e9 : (tag.toList == [84, 88, 65]) = false := by rw [hk]; rfl
  have e10 : (tag.toList == [84, 89, 65]) = true := by rw [hk]; rfl
  have e11 : (tag.toList == [84, 83, 88]) = false := by rw [hk]; rfl
  have e12 : (tag.toList == [84, 88, 83]) = false := by rw [hk]; rfl
  have e13 : (tag.toList == [73, 78, 88]) = false := by rw [hk]; rfl
  have e14 : (tag.toList == [73, 78, 89]) = false := by rw [hk]; rfl
  have e15 : (tag.toList == [68, 69, 88]) = false := by rw [hk]; rfl
  have e16 : (tag.toList == [68, 69, 89]) = false := by rw [hk]; rfl
  clear hk
  obtain ⟨a, x, y, s, p, pc⟩ := r
  obtain ⟨a0, a1, x0, x1, y0, y1, s0, s1, p0, p1, pc0, pc1⟩ := ok
  simp only [] at a0 a1 x0 x1 y0 y1 s0 s1 p0 p1 pc0 pc1
  unfold rgU
  go_enter Tryd.func56, Tryd.ntmps56
  repeat (first | (with_reducible refine wp_abs _ (fileS_start _ a x y s p pc w) ?_) | go_step)
  generalize w.heap.size + 1 = R
  rintro W hS
  have hS' := hS
  obtain ⟨c0, c1, c2, c3, c4, c5, f0, f1, f2, f3, f4, f5, d0, d1, d2, d3, d4, d5, r0, r1, r2, r3, r4, r5, hb, hn, hF⟩ := hS'
  (repeat (first | (with_reducible refine inBlock_far (by decide) ?_) | (with_reducible refine then_exit ?_) | (with_reducible refine inBlock_here ?_) | ((fail_if_success (with_reducible refine calls_id ?_)); go_step)))
  refine (fmark_any _ p (y) _ c4 f4 p0 p1 (by omega) (by omega)).mono ?_
  rintro e w' ⟨rfl, rfl⟩
  simp only []
  (repeat (first | (with_reducible refine inBlock_far (by decide) ?_) | (with_reducible refine then_exit ?_) | (with_reducible refine inBlock_here ?_) | ((fail_if_success (with_reducible refine calls_id ?_)); go_step)))
  all_goals refine bodyPost_ret (v := .agg #[.int .u8 (y), .int .u8 (x), .int .u8 (y), .int .u8 (s), .int .u8 (Alu.markF p (y)), .int .u16 (pc)]) (by simp [results, Tryd.results56, go_sem, *]) rfl ⟨rfl, ?_⟩
  all_goals (repeat (first | (with_reducible exact hb) | (with_reducible exact hb.drew) | (with_reducible refine Below.drew ?_) | (with_reducible refine Below.setCell ?_ (by simp only []; omega) _)))
set_option maxRecDepth 100000 in
set_option maxHeartbeats 4000000 in
theorem self_TSX (r : Ex.Rg) (ok : r.ok) (tag : ByteArray) (hk : tag.toList = [84, 83, 88]) (w : World) :
    Calls Tryd.prog 56 #[.string tag, rgU r] w fun e w' => e = .returned (rgU (Ex.selfF .TSX r)) ∧ Below w.heap.size w w' := by
  have e0 : (tag.toList == [67, 76, 67]) = false := by rw [hk]; rfl
  have e1 : (tag.toList == [83, 69, 67]) = false := by rw [hk]; rfl
  have e2 : (tag.toList == [67, 76, 68]) = false := by rw [hk]; rfl
  have e3 : (tag.toList == [83, 69, 68]) = false := by rw [hk]; rfl
  have e4 : (tag.toList == [67, 76, 73]) = false := by rw [hk]; rfl
  have e5 : (tag.toList == [83, 69, 73]) = false := by rw [hk]; rfl
  have e6 : (tag.toList == [67, 76, 86]) = false := by rw [hk]; rfl
  have e7 : (tag.toList == [84, 65, 88]) = false := by rw [hk]; rfl
  have e8 : (tag.toList == [84, 65, 89]) = false := by rw [hk]; rfl
  have e9 : (tag.toList == [84, 88, 65]) = false := by rw [hk]; rfl
  have e10 : (tag.toList == [84, 89, 65]) = false := by rw [hk]; rfl
  have e11 : (tag.toList == [84, 83, 88]) = true := by rw [hk]; rfl
  have e12 : (tag.toList == [84, 88, 83]) = false := by rw [hk]; rfl
  have e13 : (tag.toList == [73, 78, 88]) = false := by rw [hk]; rfl
  have e14 : (tag.toList == [73, 78, 89]) = false := by rw [hk]; rfl
  have e15 : (tag.toList == [68, 69, 88]) = false := by rw [hk]; rfl
  have e16 : (tag.toList == [68, 69, 89]) = false := by rw [hk]; rfl
  clear hk
  obtain ⟨a, x, y, s, p, pc⟩ := r
  obtain ⟨a0, a1, x0, x1, y0, y1, s0, s1, p0, p1, pc0, pc1⟩ := ok
  simp only [] at a0 a1 x0 x1 y0 y1 s0 s1 p0 p1 pc0 pc1
  unfold rgU
  go_enter Tryd.func56, Tryd.ntmps56
  repeat (first | (with_reducible refine wp_abs _ (fileS_start _ a x y s p pc w) ?_) | go_step)
  generalize w.heap.size + 1 = R
  rintro W hS
  have hS' := hS
  obtain ⟨c0, c1, c2, c3, c4, c5, f0, f1, f2, f3, f4, f5, d0, d1, d2, d3, d4, d5, r0, r1, r2, r3, r4, r5, hb, hn, hF⟩ := hS'
  (repeat (first | (with_reducible refine inBlock_far (by decide) ?_) | (with_reducible refine then_exit ?_) | (with_reducible refine inBlock_here ?_) | ((fail_if_success (with_reducible refine calls_id ?_)); go_step)))
  refine (fmark_any _ p (s) _ c4 f4 p0 p1 (by omega) (by omega)).mono ?_
  rintro e w' ⟨rfl, rfl⟩
  simp only []
  (repeat (first | (with_reducible refine inBlock_far (by decide) ?_) | (with_reducible refine then_exit ?_) | (with_reducible refine inBlock_here ?_) | ((fail_if_success (with_reducible refine calls_id ?_)); go_step)))
  all_goals refine bodyPost_ret (v := .agg #[.int .u8 (a), .int .u8 (s), .int .u8 (y), .int .u8 (s), .int .u8 (Alu.markF p (s)), .int .u16 (pc)]) (by simp [results, Tryd.results56, go_sem, *]) rfl ⟨rfl, ?_⟩
  all_goals (repeat (first | (with_reducible exact hb) | (with_reducible exact hb.drew) | (with_reducible refine Below.drew ?_) | (with_reducible refine Below.setCell ?_ (by simp only []; omega) _)))
set_option maxRecDepth 100000 in
set_option maxHeartbeats 4000000 in
theorem self_TXS (r : Ex.Rg) (ok : r.ok) (tag : ByteArray) (hk : tag.toList = [84, 88, 83]) (w : World) :
    Calls Tryd.prog 56 #[.string tag, rgU r] w fun e w' => e = .returned (rgU (Ex.selfF .TXS r)) ∧ Below w.heap.size w w' := by
  have e0 : (tag.toList == [67, 76, 67]) = false := by rw [hk]; rfl
  have e1 : (tag.toList == [83, 69, 67]) = false := by rw [hk]; rfl
  have e2 : (tag.toList == [67, 76, 68]) = false := by rw [hk]; rfl
  have e3 : (tag.toList == [83, 69, 68]) = false := by rw [hk]; rfl
  have e4 : (tag.toList == [67, 76, 73]) = false := by rw [hk]; rfl
  have e5 : (tag.toList == [83, 69, 73]) = false := by rw [hk]; rfl
  have e6 : (tag.toList == [67, 76, 86]) = false := by rw [hk]; rfl
  have e7 : (tag.toList == [84, 65, 88]) = false := by rw [hk]; rfl
  have e8 : (tag.toList == [84, 65, 89]) = false := by rw [hk]; rfl
  have e9 : (tag.toList == [84, 88, 65]) = false := by rw [hk]; rfl
  have e10 : (tag.toList == [84, 89, 65]) = false := by rw [hk]; rfl
  have e11 : (tag.toList == [84, 83, 88]) = false := by rw [hk]; rfl
  have e12 : (tag.toList == [84, 88, 83]) = true := by rw [hk]; rfl
  have e13 : (tag.toList == [73, 78, 88]) = false := by rw [hk]; rfl
  have e14 : (tag.toList == [73, 78, 89]) = false := by rw [hk]; rfl
  have e15 : (tag.toList == [68, 69, 88]) = false := by rw [hk]; rfl
  have e16 : (tag.toList == [68, 69, 89]) = false := by rw [hk]; rfl
  clear hk
  obtain ⟨a, x, y, s, p, pc⟩ := r
  obtain ⟨a0, a1, x0, x1, y0, y1, s0, s1, p0, p1, pc0, pc1⟩ := ok
  simp only [] at a0 a1 x0 x1 y0 y1 s0 s1 p0 p1 pc0 pc1
  unfold rgU
  go_enter Tryd.func56, Tryd.ntmps56
  repeat (first | (with_reducible refine wp_abs _ (fileS_start _ a x y s p pc w) ?_) | go_step)
  generalize w.heap.size + 1 = R
  rintro W hS
  have hS' := hS
  obtain ⟨c0, c1, c2, c3, c4, c5, f0, f1, f2, f3, f4, f5, d0, d1, d2, d3, d4, d5, r0, r1, r2, r3, r4, r5, hb, hn, hF⟩ := hS'
  (repeat (first | (with_reducible refine inBlock_far (by decide) ?_) | (with_reducible refine then_exit ?_) | (with_reducible refine inBlock_here ?_) | ((fail_if_success (with_reducible refine calls_id ?_)); go_step)))
  all_goals refine bodyPost_ret (v := .agg #[.int .u8 (a), .int .u8 (x), .int .u8 (y), .int .u8 (x), .int .u8 (p), .int .u16 (pc)]) (by simp [results, Tryd.results56, go_sem, *]) rfl ⟨rfl, ?_⟩
  all_goals (repeat (first | (with_reducible exact hb) | (with_reducible exact hb.drew) | (with_reducible refine Below.drew ?_) | (with_reducible refine Below.setCell ?_ (by simp only []; omega) _)))
set_option maxRecDepth 100000 in
set_option maxHeartbeats 4000000 in
theorem self_INX (r : Ex.Rg) (ok : r.ok) (tag : ByteArray) (hk : tag.toList = [73, 78, 88]) (w : World) :
    Calls Tryd.prog 56 #[.string tag, rgU r] w fun e w' => e = .returned (rgU (Ex.selfF .INX r)) ∧ Below w.heap.size w w' := by
  have e0 : (tag.toList == [67, 76, 67]) = false := by rw [hk]; rfl
  have e1 : (tag.toList == [83, 69, 67]) = false := by rw [hk]; rfl
  have e2 : (tag.toList == [67, 76, 68]) = false := by rw [hk]; rfl
  have e3 : (tag.toList == [83, 69, 68]) = false := by rw [hk]; rfl
  have e4 : (tag.toList == [67, 76, 73]) = false := by rw [hk]; rfl
  have e5 : (tag.toList == [83, 69, 73]) = false := by rw [hk]; rfl
  have e6 : (tag.toList == [67, 76, 86]) = false := by rw [hk]; rfl
  have e7 : (tag.toList == [84, 65, 88]) = false := by rw [hk]; rfl
  have e8 : (tag.toList == [84, 65, 89]) = false := by rw [hk]; rfl
  have e9 : (tag.toList == [84, 88, 65]) = false := by rw [hk]; rfl
  have e10 : (tag.toList == [84, 89, 65]) = false := by rw [hk]; rfl
  have e11 : (tag.toList == [84, 83, 88]) = false := by rw [hk]; rfl
  have e12 : (tag.toList == [84, 88, 83]) = false := by rw [hk]; rfl
  have e13 : (tag.toList == [73, 78, 88]) = true := by rw [hk]; rfl
  have e14 : (tag.toList == [73, 78, 89]) = false := by rw [hk]; rfl
  have e15 : (tag.toList == [68, 69, 88]) = false := by rw [hk]; rfl
  have e16 : (tag.toList == [68, 69, 89]) = false := by rw [hk]; rfl
  clear hk
  obtain ⟨a, x, y, s, p, pc⟩ := r
  obtain ⟨a0, a1, x0, x1, y0, y1, s0, s1, p0, p1, pc0, pc1⟩ := ok
  simp only [] at a0 a1 x0 x1 y0 y1 s0 s1 p0 p1 pc0 pc1
  unfold rgU
  go_enter Tryd.func56, Tryd.ntmps56
  repeat (first | (with_reducible refine wp_abs _ (fileS_start _ a x y s p pc w) ?_) | go_step)
  generalize w.heap.size + 1 = R
  rintro W hS
  have hS' := hS
  obtain ⟨c0, c1, c2, c3, c4, c5, f0, f1, f2, f3, f4, f5, d0, d1, d2, d3, d4, d5, r0, r1, r2, r3, r4, r5, hb, hn, hF⟩ := hS'
  (repeat (first | (with_reducible refine inBlock_far (by decide) ?_) | (with_reducible refine then_exit ?_) | (with_reducible refine inBlock_here ?_) | ((fail_if_success (with_reducible refine calls_id ?_)); go_step)))
  refine (fmark_any _ p ((x + 1) % 256) _ c4 f4 p0 p1 (by omega) (by omega)).mono ?_
  rintro e w' ⟨rfl, rfl⟩
  simp only []
  (repeat (first | (with_reducible refine inBlock_far (by decide) ?_) | (with_reducible refine then_exit ?_) | (with_reducible refine inBlock_here ?_) | ((fail_if_success (with_reducible refine calls_id ?_)); go_step)))
  all_goals refine bodyPost_ret (v := .agg #[.int .u8 (a), .int .u8 ((x + 1) % 256), .int .u8 (y), .int .u8 (s), .int .u8 (Alu.markF p ((x + 1) % 256)), .int .u16 (pc)]) (by simp [results, Tryd.results56, go_sem, *]) rfl ⟨rfl, ?_⟩
  all_goals (repeat (first | (with_reducible exact hb) | (with_reducible exact hb.drew) | (with_reducible refine Below.drew ?_) | (with_reducible refine Below.setCell ?_ (by simp only []; omega) _)))
set_option maxRecDepth 100000 in
set_option maxHeartbeats 4000000 in
theorem self_INY (r : Ex.Rg) (ok : r.ok) (tag : ByteArray) (hk : tag.toList = [73, 78, 89]) (w : World) :
    Calls Tryd.prog 56 #[.string tag, rgU r] w fun e w' => e = .returned (rgU (Ex.selfF .INY r)) ∧ Below w.heap.size w w' := by
  have e0 : (tag.toList == [67, 76, 67]) = false := by rw [hk]; rfl
  have e1 : (tag.toList == [83, 69, 67]) = false := by rw [hk]; rfl
  have e2 : (tag.toList == [67, 76, 68]) = false := by rw [hk]; rfl
  have e3 : (tag.toList == [83, 69, 68]) = false := by rw [hk]; rfl
  have e4 : (tag.toList == [67, 76, 73]) = false := by rw [hk]; rfl
  have e5 : (tag.toList == [83, 69, 73]) = false := by rw [hk]; rfl
  have e6 : (tag.toList == [67, 76, 86]) = false := by rw [hk]; rfl
  have e7 : (tag.toList == [84, 65, 88]) = false := by rw [hk]; rfl
  have e8 : (tag.toList == [84, 65, 89]) = false := by rw [hk]; rfl
  have e9 : (tag.toList == [84, 88, 65]) = false := by rw [hk]; rfl
  have e10 : (tag.toList == [84, 89, 65]) = false := by rw [hk]; rfl
  have e11 : (tag.toList == [84, 83, 88]) = false := by rw [hk]; rfl
  have e12 : (tag.toList == [84, 88, 83]) = false := by rw [hk]; rfl
  have e13 : (tag.toList == [73, 78, 88]) = false := by rw [hk]; rfl
  have e14 : (tag.toList == [73, 78, 89]) = true := by rw [hk]; rfl
  have e15 : (tag.toList == [68, 69, 88]) = false := by rw [hk]; rfl
  have e16 : (tag.toList == [68, 69, 89]) = false := by rw [hk]; rfl
  clear hk
  obtain ⟨a, x, y, s, p, pc⟩ := r
  obtain ⟨a0, a1, x0, x1, y0, y1, s0, s1, p0, p1, pc0, pc1⟩ := ok
  simp only [] at a0 a1 x0 x1 y0 y1 s0 s1 p0 p1 pc0 pc1
  unfold rgU
  go_enter Tryd.func56, Tryd.ntmps56
  repeat (first | (with_reducible refine wp_abs _ (fileS_start _ a x y s p pc w) ?_) | go_step)
  generalize w.heap.size + 1 = R
  rintro W hS
  have hS' := hS
  obtain ⟨c0, c1, c2, c3, c4, c5, f0, f1, f2, f3, f4, f5, d0, d1, d2, d3, d4, d5, r0, r1, r2, r3, r4, r5, hb, hn, hF⟩ := hS'
  (repeat (first | (with_reducible refine inBlock_far (by decide) ?_) | (with_reducible refine then_exit ?_) | (with_reducible refine inBlock_here ?_) | ((fail_if_success (with_reducible refine calls_id ?_)); go_step)))
  refine (fmark_any _ p ((y + 1) % 256) _ c4 f4 p0 p1 (by omega) (by omega)).mono ?_
  rintro e w' ⟨rfl, rfl⟩
  simp only []
  (repeat (first | (with_reducible refine inBlock_far (by decide) ?_) | (with_reducible refine then_exit ?_) | (with_reducible refine inBlock_here ?_) | ((fail_if_success (with_reducible refine calls_id ?_)); go_step)))
  all_goals refine bodyPost_ret (v := .agg #[.int .u8 (a), .int .u8 (x), .int .u8 ((y + 1) % 256), .int .u8 (s), .int .u8 (Alu.markF p ((y + 1) % 256)), .int .u16 (pc)]) (by simp [results, Tryd.results56, go_sem, *]) rfl ⟨rfl, ?_⟩
  all_goals (repeat (first | (with_reducible exact hb) | (with_reducible exact hb.drew) | (with_reducible refine Below.drew ?_) | (with_reducible refine Below.setCell ?_ (by simp only []; omega) _)))
set_option maxRecDepth 100000 in
set_option maxHeartbeats 4000000 in
theorem self_DEX (r : Ex.Rg) (ok : r.ok) (tag : ByteArray) (hk : tag.toList = [68, 69, 88]) (w : World) :
    Calls Tryd.prog 56 #[.string tag, rgU r] w fun e w' => e = .returned (rgU (Ex.selfF .DEX r)) ∧ Below w.heap.size w w' := by
  have e0 : (tag.toList == [67, 76, 67]) = false := by rw [hk]; rfl
  have e1 : (tag.toList == [83, 69, 67]) = false := by rw [hk]; rfl
  have e2 : (tag.toList == [67, 76, 68]) = false := by rw [hk]; rfl
  have e3 : (tag.toList == [83, 69, 68]) = false := by rw [hk]; rfl
  have e4 : (tag.toList == [67, 76, 73]) = false := by rw [hk]; rfl
  have e5 : (tag.toList == [83, 69, 73]) = false := by rw [hk]; rfl
  have e6 : (tag.toList == [67, 76, 86]) = false := by rw [hk]; rfl
  have e7 : (tag.toList == [84, 65, 88]) = false := by rw [hk]; rfl
  have e8 : (tag.toList == [84, 65, 89]) = false := by rw [hk]; rfl
  have e9 : (tag.toList == [84, 88, 65]) = false := by rw [hk]; rfl
  have e10 : (tag.toList == [84, 89, 65]) = false := by rw [hk]; rfl
  have e11 : (tag.toList == [84, 83, 88]) = false := by rw [hk]; rfl
  have e12 : (tag.toList == [84, 88, 83]) = false := by rw [hk]; rfl
  have e13 : (tag.toList == [73, 78, 88]) = false := by rw [hk]; rfl
  have e14 : (tag.toList == [73, 78, 89]) = false := by rw [hk]; rfl
  have e15 : (tag.toList == [68, 69, 88]) = true := by rw [hk]; rfl
  have e16 : (tag.toList == [68, 69, 89]) = false := by rw [hk]; rfl
  clear hk
  obtain ⟨a, x, y, s, p, pc⟩ := r
  obtain ⟨a0, a1, x0, x1, y0, y1, s0, s1, p0, p1, pc0, pc1⟩ := ok
  simp only [] at a0 a1 x0 x1 y0 y1 s0 s1 p0 p1 pc0 pc1
  unfold rgU
  go_enter Tryd.func56, Tryd.ntmps56
  repeat (first | (with_reducible refine wp_abs _ (fileS_start _ a x y s p pc w) ?_) | go_step)
  generalize w.heap.size + 1 = R
  rintro W hS
  have hS' := hS
  obtain ⟨c0, c1, c2, c3, c4, c5, f0, f1, f2, f3, f4, f5, d0, d1, d2, d3, d4, d5, r0, r1, r2, r3, r4, r5, hb, hn, hF⟩ := hS'
  (repeat (first | (with_reducible refine inBlock_far (by decide) ?_) | (with_reducible refine then_exit ?_) | (with_reducible refine inBlock_here ?_) | ((fail_if_success (with_reducible refine calls_id ?_)); go_step)))
  refine (fmark_any _ p ((x - 1) % 256) _ c4 f4 p0 p1 (by omega) (by omega)).mono ?_
  rintro e w' ⟨rfl, rfl⟩
  simp only []
  (repeat (first | (with_reducible refine inBlock_far (by decide) ?_) | (with_reducible refine then_exit ?_) | (with_reducible refine inBlock_here ?_) | ((fail_if_success (with_reducible refine calls_id ?_)); go_step)))
  all_goals refine bodyPost_ret (v := .agg #[.int .u8 (a), .int .u8 ((x - 1) % 256), .int .u8 (y), .int .u8 (s), .int .u8 (Alu.markF p ((x - 1) % 256)), .int .u16 (pc)]) (by simp [results, Tryd.results56, go_sem, *]) rfl ⟨rfl, ?_⟩
  all_goals (repeat (first | (with_reducible exact hb) | (with_reducible exact hb.drew) | (with_reducible refine Below.drew ?_) | (with_reducible refine Below.setCell ?_ (by simp only []; omega) _)))
set_option maxRecDepth 100000 in
set_option maxHeartbeats 4000000 in
theorem self_DEY (r : Ex.Rg) (ok : r.ok) (tag : ByteArray) (hk : tag.toList = [68, 69, 89]) (w : World) :
    Calls Tryd.prog 56 #[.string tag, rgU r] w fun e w' => e = .returned (rgU (Ex.selfF .DEY r)) ∧ Below w.heap.size w w' := by
  have e0 : (tag.toList == [67, 76, 67]) = false := by rw [hk]; rfl
  have e1 : (tag.toList == [83, 69, 67]) = false := by rw [hk]; rfl
  have e2 : (tag.toList == [67, 76, 68]) = false := by rw [hk]; rfl
  have e3 : (tag.toList == [83, 69, 68]) = false := by rw [hk]; rfl
  have e4 : (tag.toList == [67, 76, 73]) = false := by rw [hk]; rfl
  have e5 : (tag.toList == [83, 69, 73]) = false := by rw [hk]; rfl
  have e6 : (tag.toList == [67, 76, 86]) = false := by rw [hk]; rfl
  have e7 : (tag.toList == [84, 65, 88]) = false := by rw [hk]; rfl
  have e8 : (tag.toList == [84, 65, 89]) = false := by rw [hk]; rfl
  have e9 : (tag.toList == [84, 88, 65]) = false := by rw [hk]; rfl
  have e10 : (tag.toList == [84, 89, 65]) = false := by rw [hk]; rfl
  have e11 : (tag.toList == [84, 83, 88]) = false := by rw [hk]; rfl
  have e12 : (tag.toList == [84, 88, 83]) = false := by rw [hk]; rfl
  have e13 : (tag.toList == [73, 78, 88]) = false := by rw [hk]; rfl
  have e14 : (tag.toList == [73, 78, 89]) = false := by rw [hk]; rfl
  have e15 : (tag.toList == [68, 69, 88]) = false := by rw [hk]; rfl
  have e16 : (tag.toList == [68, 69, 89]) = true := by rw [hk]; rfl
  clear hk
  obtain ⟨a, x, y, s, p, pc⟩ := r
  obtain ⟨a0, a1, x0, x1, y0, y1, s0, s1, p0, p1, pc0, pc1⟩ := ok
  simp only [] at a0 a1 x0 x1 y0 y1 s0 s1 p0 p1 pc0 pc1
  unfold rgU
  go_enter Tryd.func56, Tryd.ntmps56
  repeat (first | (with_reducible refine wp_abs _ (fileS_start _ a x y s p pc w) ?_) | go_step)
  generalize w.heap.size + 1 = R
  rintro W hS
  have hS' := hS
  obtain ⟨c0, c1, c2, c3, c4, c5, f0, f1, f2, f3, f4, f5, d0, d1, d2, d3, d4, d5, r0, r1, r2, r3, r4, r5, hb, hn, hF⟩ := hS'
  (repeat (first | (with_reducible refine inBlock_far (by decide) ?_) | (with_reducible refine then_exit ?_) | (with_reducible refine inBlock_here ?_) | ((fail_if_success (with_reducible refine calls_id ?_)); go_step)))
  refine (fmark_any _ p ((y - 1) % 256) _ c4 f4 p0 p1 (by omega) (by omega)).mono ?_
  rintro e w' ⟨rfl, rfl⟩
  simp only []
  (repeat (first | (with_reducible refine inBlock_far (by decide) ?_) | (with_reducible refine then_exit ?_) | (with_reducible refine inBlock_here ?_) | ((fail_if_success (with_reducible refine calls_id ?_)); go_step)))
  all_goals refine bodyPost_ret (v := .agg #[.int .u8 (a), .int .u8 (x), .int .u8 ((y - 1) % 256), .int .u8 (s), .int .u8 (Alu.markF p ((y - 1) % 256)), .int .u16 (pc)]) (by simp [results, Tryd.results56, go_sem, *]) rfl ⟨rfl, ?_⟩
  all_goals (repeat (first | (with_reducible exact hb) | (with_reducible exact hb.drew) | (with_reducible refine Below.drew ?_) | (with_reducible refine Below.setCell ?_ (by simp only []; omega) _)))
set_option maxRecDepth 100000 in
set_option maxHeartbeats 4000000 in
theorem self_other (r : Ex.Rg) (ok : r.ok) (tag : ByteArray) (hk : ∀ l ∈ Ex.seNames, tag.toList ≠ l) (w : World) :
    Calls Tryd.prog 56 #[.string tag, rgU r] w fun e w' => e = .returned (rgU (Ex.selfF .other r)) ∧ Below w.heap.size w w' := by
  have e0 : (tag.toList == [67, 76, 67]) = false := beq_eq_false_iff_ne.2 (hk _ (by decide))
  have e1 : (tag.toList == [83, 69, 67]) = false := beq_eq_false_iff_ne.2 (hk _ (by decide))
  have e2 : (tag.toList == [67, 76, 68]) = false := beq_eq_false_iff_ne.2 (hk _ (by decide))
  have e3 : (tag.toList == [83, 69, 68]) = false := beq_eq_false_iff_ne.2 (hk _ (by decide))
  have e4 : (tag.toList == [67, 76, 73]) = false := beq_eq_false_iff_ne.2 (hk _ (by decide))
  have e5 : (tag.toList == [83, 69, 73]) = false := beq_eq_false_iff_ne.2 (hk _ (by decide))
  have e6 : (tag.toList == [67, 76, 86]) = false := beq_eq_false_iff_ne.2 (hk _ (by decide))
  have e7 : (tag.toList == [84, 65, 88]) = false := beq_eq_false_iff_ne.2 (hk _ (by decide))
  have e8 : (tag.toList == [84, 65, 89]) = false := beq_eq_false_iff_ne.2 (hk _ (by decide))
  have e9 : (tag.toList == [84, 88, 65]) = false := beq_eq_false_iff_ne.2 (hk _ (by decide))
  have e10 : (tag.toList == [84, 89, 65]) = false := beq_eq_false_iff_ne.2 (hk _ (by decide))
  have e11 : (tag.toList == [84, 83, 88]) = false := beq_eq_false_iff_ne.2 (hk _ (by decide))
  have e12 : (tag.toList == [84, 88, 83]) = false := beq_eq_false_iff_ne.2 (hk _ (by decide))
  have e13 : (tag.toList == [73, 78, 88]) = false := beq_eq_false_iff_ne.2 (hk _ (by decide))
  have e14 : (tag.toList == [73, 78, 89]) = false := beq_eq_false_iff_ne.2 (hk _ (by decide))
  have e15 : (tag.toList == [68, 69, 88]) = false := beq_eq_false_iff_ne.2 (hk _ (by decide))
  have e16 : (tag.toList == [68, 69, 89]) = false := beq_eq_false_iff_ne.2 (hk _ (by decide))
  clear hk
  obtain ⟨a, x, y, s, p, pc⟩ := r
  obtain ⟨a0, a1, x0, x1, y0, y1, s0, s1, p0, p1, pc0, pc1⟩ := ok
  simp only [] at a0 a1 x0 x1 y0 y1 s0 s1 p0 p1 pc0 pc1
  unfold rgU
  go_enter Tryd.func56, Tryd.ntmps56
  repeat (first | (with_reducible refine wp_abs _ (fileS_start _ a x y s p pc w) ?_) | go_step)
  generalize w.heap.size + 1 = R
  rintro W hS
  have hS' := hS
  obtain ⟨c0, c1, c2, c3, c4, c5, f0, f1, f2, f3, f4, f5, d0, d1, d2, d3, d4, d5, r0, r1, r2, r3, r4, r5, hb, hn, hF⟩ := hS'
  (repeat (first | (with_reducible refine inBlock_far (by decide) ?_) | (with_reducible refine then_exit ?_) | (with_reducible refine inBlock_here ?_) | ((fail_if_success (with_reducible refine calls_id ?_)); go_step)))
  all_goals refine bodyPost_ret (v := .agg #[.int .u8 (a), .int .u8 (x), .int .u8 (y), .int .u8 (s), .int .u8 (p), .int .u16 (pc)]) (by simp [results, Tryd.results56, go_sem, *]) rfl ⟨rfl, ?_⟩
  all_goals (repeat (first | (with_reducible exact hb) | (with_reducible exact hb.drew) | (with_reducible refine Below.drew ?_) | (with_reducible refine Below.setCell ?_ (by simp only []; omega) _)))
end Go.Proofs.YthepcjecmlkaiaaDoor
