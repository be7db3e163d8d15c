/- The walks of exec.Read for some names. -/
import Derived.Test.YthepcjecmlkaiaaDoorZExecFile
import Derived.RegionTactic
import Derived.Deep.RegionWith
import Derived.ChangeAlike
import Derived.BigRegion
namespace Go.Proofs.YthepcjecmlkaiaaDoor
open Go.RowKit
set_option linter.unusedVariables false
set_option linter.unusedSimpArgs false
set_option maxRecDepth 100000 in
set_option maxHeartbeats 4000000 in
theorem read_ARR (r : Ex.Rg) (ok : r.ok) (m : Int) (g0 : 0 ≤ m) (g1 : m ≤ 255) (tag : ByteArray) (hk : tag.toList = [65, 82, 82]) (w : World) :
    Calls Tryd.prog 8 #[.string tag, rgU r, .int .u8 m] w fun e w' => e = .returned (rgU (Ex.readF .ARR r m)) ∧ Below w.heap.size w w' := by
  have e0 : (tag.toList == [79, 82, 65]) = false := by rw [hk]; rfl
  have e1 : (tag.toList == [65, 78, 68]) = false := by rw [hk]; rfl
  have e2 : (tag.toList == [69, 79, 82]) = false := by rw [hk]; rfl
  have e3 : (tag.toList == [65, 68, 67]) = false := by rw [hk]; rfl
  have e4 : (tag.toList == [83, 66, 67]) = false := by rw [hk]; rfl
  have e5 : (tag.toList == [67, 77, 80]) = false := by rw [hk]; rfl
  have e6 : (tag.toList == [67, 80, 88]) = false := by rw [hk]; rfl
  have e7 : (tag.toList == [67, 80, 89]) = false := by rw [hk]; rfl
  have e8 : (tag.toList == [66, 73, 84]) = false := by rw [hk]; rfl
  have e9 : (tag.toList == [76, 65, 88]) = false := by rw [hk]; rfl
  have e10 : (tag.toList == [76, 68, 65]) = false := by rw [hk]; rfl
  have e11 : (tag.toList == [76, 68, 88]) = false := by rw [hk]; rfl
  have e12 : (tag.toList == [76, 68, 89]) = false := by rw [hk]; rfl
  have e13 : (tag.toList == [76, 65, 83]) = false := by rw [hk]; rfl
  have e14 : (tag.toList == [65, 78, 67]) = false := by rw [hk]; rfl
  have e15 : (tag.toList == [65, 76, 82]) = false := by rw [hk]; rfl
  have e16 : (tag.toList == [65, 82, 82]) = true := by rw [hk]; rfl
  clear hk
  obtain ⟨a, x, y, s, p, pc⟩ := r
  obtain ⟨a0, a1, x0, x1, y0, y1, s0, s1, p0, p1, pc0, pc1⟩ := ok
  simp only [] at a0 a1 x0 x1 y0 y1 s0 s1 p0 p1 pc0 pc1
  have hC := fun w' => odd_any a m p w' a0 a1 g0 g1 p0 p1
  unfold rgU
  go_enter Tryd.func8, Tryd.ntmps8
  iterate 29 go_step
  refine wp_abs _ (fileS_start _ a x y s p pc w) ?_
  generalize w.heap.size + 1 = R
  rintro W hS
  have hS' := hS
  obtain ⟨c0, c1, c2, c3, c4, c5, f0, f1, f2, f3, f4, f5, d0, d1, d2, d3, d4, d5, r0, r1, r2, r3, r4, r5, hb, hn, hF⟩ := hS'
  (repeat (first | (with_reducible refine inBlock_far (by decide) ?_) | (with_reducible refine then_exit ?_) | (with_reducible refine inBlock_here ?_) | ((fail_if_success (with_reducible refine calls_id ?_)); go_step)))
  go_region_with (go_at_call 28; refine (hC _).mono ?_; rintro e w1 ⟨rfl, hw⟩; obtain ⟨c0, c1, c2, c3, c4, c5, f0, f1, f2, f3, f4, f5, d0, d1, d2, d3, d4, d5, r0, r1, r2, r3, r4, r5, hb, hn, hF⟩ := hS.drew.next hw (Nat.le_refl _) hb.size)
  all_goals (repeat (first | (with_reducible refine inBlock_far (by decide) ?_) | (with_reducible refine then_exit ?_) | (with_reducible refine inBlock_here ?_) | ((fail_if_success (with_reducible refine calls_id ?_)); go_step)))
  all_goals refine bodyPost_ret (v := .agg #[.int .u8 (Alu.oddV a m p), .int .u8 (x), .int .u8 (y), .int .u8 (s), .int .u8 (Alu.oddQ a m p), .int .u16 (pc)]) (by simp [results, Tryd.results8, go_sem, *]) rfl ⟨rfl, ?_⟩
  all_goals (repeat (first | (with_reducible exact hb) | (with_reducible exact hb.drew) | (with_reducible refine Below.drew ?_) | (with_reducible refine Below.setCell ?_ (by simp only []; omega) _)))
set_option maxRecDepth 100000 in
set_option maxHeartbeats 4000000 in
theorem read_ANE (r : Ex.Rg) (ok : r.ok) (m : Int) (g0 : 0 ≤ m) (g1 : m ≤ 255) (tag : ByteArray) (hk : tag.toList = [65, 78, 69]) (w : World) :
    Calls Tryd.prog 8 #[.string tag, rgU r, .int .u8 m] w fun e w' => e = .returned (rgU (Ex.readF .ANE r m)) ∧ Below w.heap.size w w' := by
  have e0 : (tag.toList == [79, 82, 65]) = false := by rw [hk]; rfl
  have e1 : (tag.toList == [65, 78, 68]) = false := by rw [hk]; rfl
  have e2 : (tag.toList == [69, 79, 82]) = false := by rw [hk]; rfl
  have e3 : (tag.toList == [65, 68, 67]) = false := by rw [hk]; rfl
  have e4 : (tag.toList == [83, 66, 67]) = false := by rw [hk]; rfl
  have e5 : (tag.toList == [67, 77, 80]) = false := by rw [hk]; rfl
  have e6 : (tag.toList == [67, 80, 88]) = false := by rw [hk]; rfl
  have e7 : (tag.toList == [67, 80, 89]) = false := by rw [hk]; rfl
  have e8 : (tag.toList == [66, 73, 84]) = false := by rw [hk]; rfl
  have e9 : (tag.toList == [76, 65, 88]) = false := by rw [hk]; rfl
  have e10 : (tag.toList == [76, 68, 65]) = false := by rw [hk]; rfl
  have e11 : (tag.toList == [76, 68, 88]) = false := by rw [hk]; rfl
  have e12 : (tag.toList == [76, 68, 89]) = false := by rw [hk]; rfl
  have e13 : (tag.toList == [76, 65, 83]) = false := by rw [hk]; rfl
  have e14 : (tag.toList == [65, 78, 67]) = false := by rw [hk]; rfl
  have e15 : (tag.toList == [65, 76, 82]) = false := by rw [hk]; rfl
  have e16 : (tag.toList == [65, 82, 82]) = false := by rw [hk]; rfl
  have e17 : (tag.toList == [65, 78, 69]) = true := by rw [hk]; rfl
  clear hk
  obtain ⟨a, x, y, s, p, pc⟩ := r
  obtain ⟨a0, a1, x0, x1, y0, y1, s0, s1, p0, p1, pc0, pc1⟩ := ok
  simp only [] at a0 a1 x0 x1 y0 y1 s0 s1 p0 p1 pc0 pc1
  have q1 := Ex.orF_bits a 238 a0 a1 (by omega) (by omega)
  have o1 := Ex.orF_in a 238 a0 a1 (by omega) (by omega)
  have q2 := Alu.comF_and (Ex.orF a 238) x o1.1 o1.2 x0 x1
  have o2 := Alu.comF_in (Ex.orF a 238) x o1.1 o1.2
  have q3 := Alu.comF_and (Alu.comF (Ex.orF a 238) x) m o2.1 o2.2 g0 g1
  have o3 := Alu.comF_in (Alu.comF (Ex.orF a 238) x) m o2.1 o2.2
  unfold rgU
  go_enter Tryd.func8, Tryd.ntmps8
  iterate 29 go_step
  refine wp_abs _ (fileS_start _ a x y s p pc w) ?_
  generalize w.heap.size + 1 = R
  rintro W hS
  have hS' := hS
  obtain ⟨c0, c1, c2, c3, c4, c5, f0, f1, f2, f3, f4, f5, d0, d1, d2, d3, d4, d5, r0, r1, r2, r3, r4, r5, hb, hn, hF⟩ := hS'
  (repeat (first | (with_reducible refine inBlock_far (by decide) ?_) | (with_reducible refine then_exit ?_) | (with_reducible refine inBlock_here ?_) | ((fail_if_success (with_reducible refine calls_id ?_)); go_step)))
  go_region_with (go_at_call 21; refine (fmark_any _ p _ W.drew c4 f4 p0 p1 o3.1 o3.2).mono ?_; rintro e w' ⟨rfl, rfl⟩)
  all_goals (repeat (first | (with_reducible refine inBlock_far (by decide) ?_) | (with_reducible refine then_exit ?_) | (with_reducible refine inBlock_here ?_) | ((fail_if_success (with_reducible refine calls_id ?_)); go_step)))
  all_goals refine bodyPost_ret (v := .agg #[.int .u8 (Alu.comF (Alu.comF (Ex.orF a 238) x) m), .int .u8 (x), .int .u8 (y), .int .u8 (s), .int .u8 (Alu.markF p (Alu.comF (Alu.comF (Ex.orF a 238) x) m)), .int .u16 (pc)]) (by simp [results, Tryd.results8, go_sem, *]) rfl ⟨rfl, ?_⟩
  all_goals (repeat (first | (with_reducible exact hb) | (with_reducible exact hb.drew) | (with_reducible refine Below.drew ?_) | (with_reducible refine Below.setCell ?_ (by simp only []; omega) _)))
set_option maxRecDepth 100000 in
set_option maxHeartbeats 4000000 in
theorem read_LXA (r : Ex.Rg) (ok : r.ok) (m : Int) (g0 : 0 ≤ m) (g1 : m ≤ 255) (tag : ByteArray) (hk : tag.toList = [76, 88, 65]) (w : World) :
    Calls Tryd.prog 8 #[.string tag, rgU r, .int .u8 m] w fun e w' => e = .returned (rgU (Ex.readF .LXA r m)) ∧ Below w.heap.size w w' := by
  have e0 : (tag.toList == [79, 82, 65]) = false := by rw [hk]; rfl
  have e1 : (tag.toList == [65, 78, 68]) = false := by rw [hk]; rfl
  have e2 : (tag.toList == [69, 79, 82]) = false := by rw [hk]; rfl
  have e3 : (tag.toList == [65, 68, 67]) = false := by rw [hk]; rfl
  have e4 : (tag.toList == [83, 66, 67]) = false := by rw [hk]; rfl
  have e5 : (tag.toList == [67, 77, 80]) = false := by rw [hk]; rfl
  have e6 : (tag.toList == [67, 80, 88]) = false := by rw [hk]; rfl
  have e7 : (tag.toList == [67, 80, 89]) = false := by rw [hk]; rfl
  have e8 : (tag.toList == [66, 73, 84]) = false := by rw [hk]; rfl
  have e9 : (tag.toList == [76, 65, 88]) = false := by rw [hk]; rfl
  have e10 : (tag.toList == [76, 68, 65]) = false := by rw [hk]; rfl
  have e11 : (tag.toList == [76, 68, 88]) = false := by rw [hk]; rfl
  have e12 : (tag.toList == [76, 68, 89]) = false := by rw [hk]; rfl
  have e13 : (tag.toList == [76, 65, 83]) = false := by rw [hk]; rfl
  have e14 : (tag.toList == [65, 78, 67]) = false := by rw [hk]; rfl
  have e15 : (tag.toList == [65, 76, 82]) = false := by rw [hk]; rfl
  have e16 : (tag.toList == [65, 82, 82]) = false := by rw [hk]; rfl
  have e17 : (tag.toList == [65, 78, 69]) = false := by rw [hk]; rfl
  have e18 : (tag.toList == [76, 88, 65]) = true := by rw [hk]; rfl
  clear hk
  obtain ⟨a, x, y, s, p, pc⟩ := r
  obtain ⟨a0, a1, x0, x1, y0, y1, s0, s1, p0, p1, pc0, pc1⟩ := ok
  simp only [] at a0 a1 x0 x1 y0 y1 s0 s1 p0 p1 pc0 pc1
  have q1 := Ex.orF_bits a 238 a0 a1 (by omega) (by omega)
  have o1 := Ex.orF_in a 238 a0 a1 (by omega) (by omega)
  have q2 := Alu.comF_and (Ex.orF a 238) m o1.1 o1.2 g0 g1
  have o2 := Alu.comF_in (Ex.orF a 238) m o1.1 o1.2
  unfold rgU
  go_enter Tryd.func8, Tryd.ntmps8
  iterate 29 go_step
  refine wp_abs _ (fileS_start _ a x y s p pc w) ?_
  generalize w.heap.size + 1 = R
  rintro W hS
  have hS' := hS
  obtain ⟨c0, c1, c2, c3, c4, c5, f0, f1, f2, f3, f4, f5, d0, d1, d2, d3, d4, d5, r0, r1, r2, r3, r4, r5, hb, hn, hF⟩ := hS'
  (repeat (first | (with_reducible refine inBlock_far (by decide) ?_) | (with_reducible refine then_exit ?_) | (with_reducible refine inBlock_here ?_) | ((fail_if_success (with_reducible refine calls_id ?_)); go_step)))
  refine (fmark_any _ p _ _ c4 f4 p0 p1 o2.1 o2.2).mono ?_
  rintro e w' ⟨rfl, rfl⟩
  simp only []
  all_goals (repeat (first | (with_reducible refine inBlock_far (by decide) ?_) | (with_reducible refine then_exit ?_) | (with_reducible refine inBlock_here ?_) | ((fail_if_success (with_reducible refine calls_id ?_)); go_step)))
  all_goals refine bodyPost_ret (v := .agg #[.int .u8 (Alu.comF (Ex.orF a 238) m), .int .u8 (Alu.comF (Ex.orF a 238) m), .int .u8 (y), .int .u8 (s), .int .u8 (Alu.markF p (Alu.comF (Ex.orF a 238) m)), .int .u16 (pc)]) (by simp [results, Tryd.results8, go_sem, *]) rfl ⟨rfl, ?_⟩
  all_goals (repeat (first | (with_reducible exact hb) | (with_reducible exact hb.drew) | (with_reducible refine Below.drew ?_) | (with_reducible refine Below.setCell ?_ (by simp only []; omega) _)))
end Go.Proofs.YthepcjecmlkaiaaDoor
