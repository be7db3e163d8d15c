/- The walks of exec.Read for some names. -/
import Derived.Test.YthepcjecmlkaiaaDoorZExecFile
import Derived.RegionTactic
import Derived.Deep.RegionWith
import Derived.ChangeAlike
import Derived.BigRegion
namespace Go.Proofs.YthepcjecmlkaiaaDoor
open Go.RowKit
set_option linter.unusedVariables false
set_option linter.unusedSimpArgs false
set_option maxRecDepth 100000 in
set_option maxHeartbeats 4000000 in
theorem read_LDA (r : Ex.Rg) (ok : r.ok) (m : Int) (g0 : 0 ≤ m) (g1 : m ≤ 255) (tag : ByteArray) (hk : tag.toList = [76, 68, 65]) (w : World) :
    Calls Tryd.prog 8 #[.string tag, rgU r, .int .u8 m] w fun e w' => e = .returned (rgU (Ex.readF .LDA r m)) ∧ Below w.heap.size w w' := by
  have e0 : (tag.toList == [79, 82, 65]) = false := by rw [hk]; rfl
  have e1 : (tag.toList == [65, 78, 68]) = false := by rw [hk]; rfl
  have e2 : (tag.toList == [69, 79, 82]) = false := by rw [hk]; rfl
  have e3 : (tag.toList == [65, 68, 67]) = false := by rw [hk]; rfl
  have e4 : (tag.toList == [83, 66, 67]) = false := by rw [hk]; rfl
  have e5 : (tag.toList == [67, 77, 80]) = false := by rw [hk]; rfl
  have e6 : (tag.toList == [67, 80, 88]) = false := by rw [hk]; rfl
  have e7 : (tag.toList == [67, 80, 89]) = false := by rw [hk]; rfl
  have e8 : (tag.toList == [66, 73, 84]) = false := by rw [hk]; rfl
  have e9 : (tag.toList == [76, 65, 88]) = false := by rw [hk]; rfl
  have e10 : (tag.toList == [76, 68, 65]) = true := by rw [hk]; rfl
  clear hk
  obtain ⟨a, x, y, s, p, pc⟩ := r
  obtain ⟨a0, a1, x0, x1, y0, y1, s0, s1, p0, p1, pc0, pc1⟩ := ok
  simp only [] at a0 a1 x0 x1 y0 y1 s0 s1 p0 p1 pc0 pc1
  have o1 : 0 ≤ m ∧ m ≤ 255 := ⟨g0, g1⟩
  unfold rgU
  go_enter Tryd.func8, Tryd.ntmps8
  iterate 29 go_step
  refine wp_abs _ (fileS_start _ a x y s p pc w) ?_
  generalize w.heap.size + 1 = R
  rintro W hS
  have hS' := hS
  obtain ⟨c0, c1, c2, c3, c4, c5, f0, f1, f2, f3, f4, f5, d0, d1, d2, d3, d4, d5, r0, r1, r2, r3, r4, r5, hb, hn, hF⟩ := hS'
  (repeat (first | (with_reducible refine inBlock_far (by decide) ?_) | (with_reducible refine then_exit ?_) | (with_reducible refine inBlock_here ?_) | ((fail_if_success (with_reducible refine calls_id ?_)); go_step)))
  refine (fmark_any _ p _ _ c4 f4 p0 p1 o1.1 o1.2).mono ?_
  rintro e w' ⟨rfl, rfl⟩
  simp only []
  all_goals (repeat (first | (with_reducible refine inBlock_far (by decide) ?_) | (with_reducible refine then_exit ?_) | (with_reducible refine inBlock_here ?_) | ((fail_if_success (with_reducible refine calls_id ?_)); go_step)))
  all_goals refine bodyPost_ret (v := .agg #[.int .u8 (m), .int .u8 (x), .int .u8 (y), .int .u8 (s), .int .u8 (Alu.markF p m), .int .u16 (pc)]) (by simp [results, Tryd.results8, go_sem, *]) rfl ⟨rfl, ?_⟩
  all_goals (repeat (first | (with_reducible exact hb) | (with_reducible exact hb.drew) | (with_reducible refine Below.drew ?_) | (with_reducible refine Below.setCell ?_ (by simp only []; omega) _)))
set_option maxRecDepth 100000 in
set_option maxHeartbeats 4000000 in
theorem read_CMP (r : Ex.Rg) (ok : r.ok) (m : Int) (g0 : 0 ≤ m) (g1 : m ≤ 255) (tag : ByteArray) (hk : tag.toList = [67, 77, 80]) (w : World) :
    Calls Tryd.prog 8 #[.string tag, rgU r, .int .u8 m] w fun e w' => e = .returned (rgU (Ex.readF .CMP r m)) ∧ Below w.heap.size w w' := by
  have e0 : (tag.toList == [79, 82, 65]) = false := by rw [hk]; rfl
  have e1 : (tag.toList == [65, 78, 68]) = false := by rw [hk]; rfl
  have e2 : (tag.toList == [69, 79, 82]) = false := by rw [hk]; rfl
  have e3 : (tag.toList == [65, 68, 67]) = false := by rw [hk]; rfl
  have e4 : (tag.toList == [83, 66, 67]) = false := by rw [hk]; rfl
  have e5 : (tag.toList == [67, 77, 80]) = true := by rw [hk]; rfl
  clear hk
  obtain ⟨a, x, y, s, p, pc⟩ := r
  obtain ⟨a0, a1, x0, x1, y0, y1, s0, s1, p0, p1, pc0, pc1⟩ := ok
  simp only [] at a0 a1 x0 x1 y0 y1 s0 s1 p0 p1 pc0 pc1
  unfold rgU
  go_enter Tryd.func8, Tryd.ntmps8
  iterate 29 go_step
  refine wp_abs _ (fileS_start _ a x y s p pc w) ?_
  generalize w.heap.size + 1 = R
  rintro W hS
  have hS' := hS
  obtain ⟨c0, c1, c2, c3, c4, c5, f0, f1, f2, f3, f4, f5, d0, d1, d2, d3, d4, d5, r0, r1, r2, r3, r4, r5, hb, hn, hF⟩ := hS'
  (repeat (first | (with_reducible refine inBlock_far (by decide) ?_) | (with_reducible refine then_exit ?_) | (with_reducible refine inBlock_here ?_) | ((fail_if_success (with_reducible refine calls_id ?_)); go_step)))
  refine (fcompare_any _ p a m _ c4 f4 p0 p1 a0 a1 g0 g1).mono ?_
  rintro e w' ⟨rfl, rfl⟩
  simp only []
  all_goals (repeat (first | (with_reducible refine inBlock_far (by decide) ?_) | (with_reducible refine then_exit ?_) | (with_reducible refine inBlock_here ?_) | ((fail_if_success (with_reducible refine calls_id ?_)); go_step)))
  all_goals refine bodyPost_ret (v := .agg #[.int .u8 (a), .int .u8 (x), .int .u8 (y), .int .u8 (s), .int .u8 (Alu.cmpQ a m p), .int .u16 (pc)]) (by simp [results, Tryd.results8, go_sem, *]) rfl ⟨rfl, ?_⟩
  all_goals (repeat (first | (with_reducible exact hb) | (with_reducible exact hb.drew) | (with_reducible refine Below.drew ?_) | (with_reducible refine Below.setCell ?_ (by simp only []; omega) _)))
set_option maxRecDepth 100000 in
set_option maxHeartbeats 4000000 in
theorem read_other (r : Ex.Rg) (ok : r.ok) (m : Int) (g0 : 0 ≤ m) (g1 : m ≤ 255) (tag : ByteArray) (hk : ∀ l ∈ Ex.rdNames, tag.toList ≠ l) (w : World) :
    Calls Tryd.prog 8 #[.string tag, rgU r, .int .u8 m] w fun e w' => e = .returned (rgU (Ex.readF .other r m)) ∧ Below w.heap.size w w' := by
  have e0 : (tag.toList == [79, 82, 65]) = false := beq_eq_false_iff_ne.2 (hk _ (by decide))
  have e1 : (tag.toList == [65, 78, 68]) = false := beq_eq_false_iff_ne.2 (hk _ (by decide))
  have e2 : (tag.toList == [69, 79, 82]) = false := beq_eq_false_iff_ne.2 (hk _ (by decide))
  have e3 : (tag.toList == [65, 68, 67]) = false := beq_eq_false_iff_ne.2 (hk _ (by decide))
  have e4 : (tag.toList == [83, 66, 67]) = false := beq_eq_false_iff_ne.2 (hk _ (by decide))
  have e5 : (tag.toList == [67, 77, 80]) = false := beq_eq_false_iff_ne.2 (hk _ (by decide))
  have e6 : (tag.toList == [67, 80, 88]) = false := beq_eq_false_iff_ne.2 (hk _ (by decide))
  have e7 : (tag.toList == [67, 80, 89]) = false := beq_eq_false_iff_ne.2 (hk _ (by decide))
  have e8 : (tag.toList == [66, 73, 84]) = false := beq_eq_false_iff_ne.2 (hk _ (by decide))
  have e9 : (tag.toList == [76, 65, 88]) = false := beq_eq_false_iff_ne.2 (hk _ (by decide))
  have e10 : (tag.toList == [76, 68, 65]) = false := beq_eq_false_iff_ne.2 (hk _ (by decide))
  have e11 : (tag.toList == [76, 68, 88]) = false := beq_eq_false_iff_ne.2 (hk _ (by decide))
  have e12 : (tag.toList == [76, 68, 89]) = false := beq_eq_false_iff_ne.2 (hk _ (by decide))
  have e13 : (tag.toList == [76, 65, 83]) = false := beq_eq_false_iff_ne.2 (hk _ (by decide))
  have e14 : (tag.toList == [65, 78, 67]) = false := beq_eq_false_iff_ne.2 (hk _ (by decide))
  have e15 : (tag.toList == [65, 76, 82]) = false := beq_eq_false_iff_ne.2 (hk _ (by decide))
  have e16 : (tag.toList == [65, 82, 82]) = false := beq_eq_false_iff_ne.2 (hk _ (by decide))
  have e17 : (tag.toList == [65, 78, 69]) = false := beq_eq_false_iff_ne.2 (hk _ (by decide))
  have e18 : (tag.toList == [76, 88, 65]) = false := beq_eq_false_iff_ne.2 (hk _ (by decide))
  have e19 : (tag.toList == [83, 66, 88]) = false := beq_eq_false_iff_ne.2 (hk _ (by decide))
  clear hk
  obtain ⟨a, x, y, s, p, pc⟩ := r
  obtain ⟨a0, a1, x0, x1, y0, y1, s0, s1, p0, p1, pc0, pc1⟩ := ok
  simp only [] at a0 a1 x0 x1 y0 y1 s0 s1 p0 p1 pc0 pc1
  unfold rgU
  go_enter Tryd.func8, Tryd.ntmps8
  iterate 29 go_step
  refine wp_abs _ (fileS_start _ a x y s p pc w) ?_
  generalize w.heap.size + 1 = R
  rintro W hS
  have hS' := hS
  obtain ⟨c0, c1, c2, c3, c4, c5, f0, f1, f2, f3, f4, f5, d0, d1, d2, d3, d4, d5, r0, r1, r2, r3, r4, r5, hb, hn, hF⟩ := hS'
  (repeat (first | (with_reducible refine inBlock_far (by decide) ?_) | (with_reducible refine then_exit ?_) | (with_reducible refine inBlock_here ?_) | ((fail_if_success (with_reducible refine calls_id ?_)); go_step)))
  skip
  all_goals (repeat (first | (with_reducible refine inBlock_far (by decide) ?_) | (with_reducible refine then_exit ?_) | (with_reducible refine inBlock_here ?_) | ((fail_if_success (with_reducible refine calls_id ?_)); go_step)))
  all_goals refine bodyPost_ret (v := .agg #[.int .u8 (a), .int .u8 (x), .int .u8 (y), .int .u8 (s), .int .u8 (p), .int .u16 (pc)]) (by simp [results, Tryd.results8, go_sem, *]) rfl ⟨rfl, ?_⟩
  all_goals (repeat (first | (with_reducible exact hb) | (with_reducible exact hb.drew) | (with_reducible refine Below.drew ?_) | (with_reducible refine Below.setCell ?_ (by simp only []; omega) _)))
end Go.Proofs.YthepcjecmlkaiaaDoor
/- The walks of exec.Read for some names. -/
namespace Go.Proofs.YthepcjecmlkaiaaDoor
open Go.RowKit
set_option linter.unusedVariables false
set_option linter.unusedSimpArgs false
set_option maxRecDepth 100000 in
set_option maxHeartbeats 4000000 in
theorem read_ORA (r : Ex.Rg) (ok : r.ok) (m : Int) (g0 : 0 ≤ m) (g1 : m ≤ 255) (tag : ByteArray) (hk : tag.toList = [79, 82, 65]) (w : World) :
    Calls Tryd.prog 8 #[.string tag, rgU r, .int .u8 m] w fun e w' => e = .returned (rgU (Ex.readF .ORA r m)) ∧ Below w.heap.size w w' := by
  have e0 : (tag.toList == [79, 82, 65]) = true := by rw [hk]; rfl
  clear hk
  obtain ⟨a, x, y, s, p, pc⟩ := r
  obtain ⟨a0, a1, x0, x1, y0, y1, s0, s1, p0, p1, pc0, pc1⟩ := ok
  simp only [] at a0 a1 x0 x1 y0 y1 s0 s1 p0 p1 pc0 pc1
  have q1 := Ex.orF_bits a m a0 a1 g0 g1
  have o1 := Ex.orF_in a m a0 a1 g0 g1
  unfold rgU
  go_enter Tryd.func8, Tryd.ntmps8
  iterate 29 go_step
  refine wp_abs _ (fileS_start _ a x y s p pc w) ?_
  generalize w.heap.size + 1 = R
  rintro W hS
  have hS' := hS
  obtain ⟨c0, c1, c2, c3, c4, c5, f0, f1, f2, f3, f4, f5, d0, d1, d2, d3, d4, d5, r0, r1, r2, r3, r4, r5, hb, hn, hF⟩ := hS'
  (repeat (first | (with_reducible refine inBlock_far (by decide) ?_) | (with_reducible refine then_exit ?_) | (with_reducible refine inBlock_here ?_) | ((fail_if_success (with_reducible refine calls_id ?_)); go_step)))
  refine (fmark_any _ p _ _ c4 f4 p0 p1 o1.1 o1.2).mono ?_
  rintro e w' ⟨rfl, rfl⟩
  simp only []
  all_goals (repeat (first | (with_reducible refine inBlock_far (by decide) ?_) | (with_reducible refine then_exit ?_) | (with_reducible refine inBlock_here ?_) | ((fail_if_success (with_reducible refine calls_id ?_)); go_step)))
  all_goals refine bodyPost_ret (v := .agg #[.int .u8 (Ex.orF a m), .int .u8 (x), .int .u8 (y), .int .u8 (s), .int .u8 (Alu.markF p (Ex.orF a m)), .int .u16 (pc)]) (by simp [results, Tryd.results8, go_sem, *]) rfl ⟨rfl, ?_⟩
  all_goals (repeat (first | (with_reducible exact hb) | (with_reducible exact hb.drew) | (with_reducible refine Below.drew ?_) | (with_reducible refine Below.setCell ?_ (by simp only []; omega) _)))
set_option maxRecDepth 100000 in
set_option maxHeartbeats 4000000 in
theorem read_AND (r : Ex.Rg) (ok : r.ok) (m : Int) (g0 : 0 ≤ m) (g1 : m ≤ 255) (tag : ByteArray) (hk : tag.toList = [65, 78, 68]) (w : World) :
    Calls Tryd.prog 8 #[.string tag, rgU r, .int .u8 m] w fun e w' => e = .returned (rgU (Ex.readF .AND r m)) ∧ Below w.heap.size w w' := by
  have e0 : (tag.toList == [79, 82, 65]) = false := by rw [hk]; rfl
  have e1 : (tag.toList == [65, 78, 68]) = true := by rw [hk]; rfl
  clear hk
  obtain ⟨a, x, y, s, p, pc⟩ := r
  obtain ⟨a0, a1, x0, x1, y0, y1, s0, s1, p0, p1, pc0, pc1⟩ := ok
  simp only [] at a0 a1 x0 x1 y0 y1 s0 s1 p0 p1 pc0 pc1
  have q1 := Alu.comF_and a m a0 a1 g0 g1
  have o1 := Alu.comF_in a m a0 a1
  unfold rgU
  go_enter Tryd.func8, Tryd.ntmps8
  iterate 29 go_step
  refine wp_abs _ (fileS_start _ a x y s p pc w) ?_
  generalize w.heap.size + 1 = R
  rintro W hS
  have hS' := hS
  obtain ⟨c0, c1, c2, c3, c4, c5, f0, f1, f2, f3, f4, f5, d0, d1, d2, d3, d4, d5, r0, r1, r2, r3, r4, r5, hb, hn, hF⟩ := hS'
  (repeat (first | (with_reducible refine inBlock_far (by decide) ?_) | (with_reducible refine then_exit ?_) | (with_reducible refine inBlock_here ?_) | ((fail_if_success (with_reducible refine calls_id ?_)); go_step)))
  refine (fmark_any _ p _ _ c4 f4 p0 p1 o1.1 o1.2).mono ?_
  rintro e w' ⟨rfl, rfl⟩
  simp only []
  all_goals (repeat (first | (with_reducible refine inBlock_far (by decide) ?_) | (with_reducible refine then_exit ?_) | (with_reducible refine inBlock_here ?_) | ((fail_if_success (with_reducible refine calls_id ?_)); go_step)))
  all_goals refine bodyPost_ret (v := .agg #[.int .u8 (Alu.comF a m), .int .u8 (x), .int .u8 (y), .int .u8 (s), .int .u8 (Alu.markF p (Alu.comF a m)), .int .u16 (pc)]) (by simp [results, Tryd.results8, go_sem, *]) rfl ⟨rfl, ?_⟩
  all_goals (repeat (first | (with_reducible exact hb) | (with_reducible exact hb.drew) | (with_reducible refine Below.drew ?_) | (with_reducible refine Below.setCell ?_ (by simp only []; omega) _)))
set_option maxRecDepth 100000 in
set_option maxHeartbeats 4000000 in
theorem read_EOR (r : Ex.Rg) (ok : r.ok) (m : Int) (g0 : 0 ≤ m) (g1 : m ≤ 255) (tag : ByteArray) (hk : tag.toList = [69, 79, 82]) (w : World) :
    Calls Tryd.prog 8 #[.string tag, rgU r, .int .u8 m] w fun e w' => e = .returned (rgU (Ex.readF .EOR r m)) ∧ Below w.heap.size w w' := by
  have e0 : (tag.toList == [79, 82, 65]) = false := by rw [hk]; rfl
  have e1 : (tag.toList == [65, 78, 68]) = false := by rw [hk]; rfl
  have e2 : (tag.toList == [69, 79, 82]) = true := by rw [hk]; rfl
  clear hk
  obtain ⟨a, x, y, s, p, pc⟩ := r
  obtain ⟨a0, a1, x0, x1, y0, y1, s0, s1, p0, p1, pc0, pc1⟩ := ok
  simp only [] at a0 a1 x0 x1 y0 y1 s0 s1 p0 p1 pc0 pc1
  have q1 := Ex.xorF_bits a m a0 a1 g0 g1
  have o1 := Ex.xorF_in a m a0 a1 g0 g1
  unfold rgU
  go_enter Tryd.func8, Tryd.ntmps8
  iterate 29 go_step
  refine wp_abs _ (fileS_start _ a x y s p pc w) ?_
  generalize w.heap.size + 1 = R
  rintro W hS
  have hS' := hS
  obtain ⟨c0, c1, c2, c3, c4, c5, f0, f1, f2, f3, f4, f5, d0, d1, d2, d3, d4, d5, r0, r1, r2, r3, r4, r5, hb, hn, hF⟩ := hS'
  (repeat (first | (with_reducible refine inBlock_far (by decide) ?_) | (with_reducible refine then_exit ?_) | (with_reducible refine inBlock_here ?_) | ((fail_if_success (with_reducible refine calls_id ?_)); go_step)))
  refine (fmark_any _ p _ _ c4 f4 p0 p1 o1.1 o1.2).mono ?_
  rintro e w' ⟨rfl, rfl⟩
  simp only []
  all_goals (repeat (first | (with_reducible refine inBlock_far (by decide) ?_) | (with_reducible refine then_exit ?_) | (with_reducible refine inBlock_here ?_) | ((fail_if_success (with_reducible refine calls_id ?_)); go_step)))
  all_goals refine bodyPost_ret (v := .agg #[.int .u8 (Ex.xorF a m), .int .u8 (x), .int .u8 (y), .int .u8 (s), .int .u8 (Alu.markF p (Ex.xorF a m)), .int .u16 (pc)]) (by simp [results, Tryd.results8, go_sem, *]) rfl ⟨rfl, ?_⟩
  all_goals (repeat (first | (with_reducible exact hb) | (with_reducible exact hb.drew) | (with_reducible refine Below.drew ?_) | (with_reducible refine Below.setCell ?_ (by simp only []; omega) _)))
set_option maxRecDepth 100000 in
set_option maxHeartbeats 4000000 in
theorem read_ADC (r : Ex.Rg) (ok : r.ok) (m : Int) (g0 : 0 ≤ m) (g1 : m ≤ 255) (tag : ByteArray) (hk : tag.toList = [65, 68, 67]) (w : World) :
    Calls Tryd.prog 8 #[.string tag, rgU r, .int .u8 m] w fun e w' => e = .returned (rgU (Ex.readF .ADC r m)) ∧ Below w.heap.size w w' := by
  have e0 : (tag.toList == [79, 82, 65]) = false := by rw [hk]; rfl
  have e1 : (tag.toList == [65, 78, 68]) = false := by rw [hk]; rfl
  have e2 : (tag.toList == [69, 79, 82]) = false := by rw [hk]; rfl
  have e3 : (tag.toList == [65, 68, 67]) = true := by rw [hk]; rfl
  clear hk
  obtain ⟨a, x, y, s, p, pc⟩ := r
  obtain ⟨a0, a1, x0, x1, y0, y1, s0, s1, p0, p1, pc0, pc1⟩ := ok
  simp only [] at a0 a1 x0 x1 y0 y1 s0 s1 p0 p1 pc0 pc1
  unfold rgU
  go_enter Tryd.func8, Tryd.ntmps8
  iterate 29 go_step
  refine wp_abs _ (fileS_start _ a x y s p pc w) ?_
  generalize w.heap.size + 1 = R
  rintro W hS
  have hS' := hS
  obtain ⟨c0, c1, c2, c3, c4, c5, f0, f1, f2, f3, f4, f5, d0, d1, d2, d3, d4, d5, r0, r1, r2, r3, r4, r5, hb, hn, hF⟩ := hS'
  (repeat (first | (with_reducible refine inBlock_far (by decide) ?_) | (with_reducible refine then_exit ?_) | (with_reducible refine inBlock_here ?_) | ((fail_if_success (with_reducible refine calls_id ?_)); go_step)))
  refine (fadd_any (R + 1) a p m W hF c0 c4 f0 f4 p0 p1 a0 a1 g0 g1).mono ?_
  rintro e w' ⟨rfl, w1, hw, rfl⟩
  obtain ⟨c0, c1, c2, c3, c4, c5, f0, f1, f2, f3, f4, f5, d0, d1, d2, d3, d4, d5, r0, r1, r2, r3, r4, r5, hb, hn, hF⟩ := hS.next hw (Nat.le_refl _) hb.size
  simp only []
  all_goals (repeat (first | (with_reducible refine inBlock_far (by decide) ?_) | (with_reducible refine then_exit ?_) | (with_reducible refine inBlock_here ?_) | ((fail_if_success (with_reducible refine calls_id ?_)); go_step)))
  all_goals refine bodyPost_ret (v := .agg #[.int .u8 (Alu.addV a m p), .int .u8 (x), .int .u8 (y), .int .u8 (s), .int .u8 (Alu.addQ a m p), .int .u16 (pc)]) (by simp [results, Tryd.results8, go_sem, *]) rfl ⟨rfl, ?_⟩
  all_goals (repeat (first | (with_reducible exact hb) | (with_reducible exact hb.drew) | (with_reducible refine Below.drew ?_) | (with_reducible refine Below.setCell ?_ (by simp only []; omega) _)))
set_option maxRecDepth 100000 in
set_option maxHeartbeats 4000000 in
theorem read_SBC (r : Ex.Rg) (ok : r.ok) (m : Int) (g0 : 0 ≤ m) (g1 : m ≤ 255) (tag : ByteArray) (hk : tag.toList = [83, 66, 67]) (w : World) :
    Calls Tryd.prog 8 #[.string tag, rgU r, .int .u8 m] w fun e w' => e = .returned (rgU (Ex.readF .SBC r m)) ∧ Below w.heap.size w w' := by
  have e0 : (tag.toList == [79, 82, 65]) = false := by rw [hk]; rfl
  have e1 : (tag.toList == [65, 78, 68]) = false := by rw [hk]; rfl
  have e2 : (tag.toList == [69, 79, 82]) = false := by rw [hk]; rfl
  have e3 : (tag.toList == [65, 68, 67]) = false := by rw [hk]; rfl
  have e4 : (tag.toList == [83, 66, 67]) = true := by rw [hk]; rfl
  clear hk
  obtain ⟨a, x, y, s, p, pc⟩ := r
  obtain ⟨a0, a1, x0, x1, y0, y1, s0, s1, p0, p1, pc0, pc1⟩ := ok
  simp only [] at a0 a1 x0 x1 y0 y1 s0 s1 p0 p1 pc0 pc1
  unfold rgU
  go_enter Tryd.func8, Tryd.ntmps8
  iterate 29 go_step
  refine wp_abs _ (fileS_start _ a x y s p pc w) ?_
  generalize w.heap.size + 1 = R
  rintro W hS
  have hS' := hS
  obtain ⟨c0, c1, c2, c3, c4, c5, f0, f1, f2, f3, f4, f5, d0, d1, d2, d3, d4, d5, r0, r1, r2, r3, r4, r5, hb, hn, hF⟩ := hS'
  (repeat (first | (with_reducible refine inBlock_far (by decide) ?_) | (with_reducible refine then_exit ?_) | (with_reducible refine inBlock_here ?_) | ((fail_if_success (with_reducible refine calls_id ?_)); go_step)))
  refine (fsub_any (R + 1) a p m W hF c0 c4 f0 f4 p0 p1 a0 a1 g0 g1).mono ?_
  rintro e w' ⟨rfl, w1, hw, rfl⟩
  obtain ⟨c0, c1, c2, c3, c4, c5, f0, f1, f2, f3, f4, f5, d0, d1, d2, d3, d4, d5, r0, r1, r2, r3, r4, r5, hb, hn, hF⟩ := hS.next hw (Nat.le_refl _) hb.size
  simp only []
  all_goals (repeat (first | (with_reducible refine inBlock_far (by decide) ?_) | (with_reducible refine then_exit ?_) | (with_reducible refine inBlock_here ?_) | ((fail_if_success (with_reducible refine calls_id ?_)); go_step)))
  all_goals refine bodyPost_ret (v := .agg #[.int .u8 (Alu.subV a m p), .int .u8 (x), .int .u8 (y), .int .u8 (s), .int .u8 (Alu.subQ a m p), .int .u16 (pc)]) (by simp [results, Tryd.results8, go_sem, *]) rfl ⟨rfl, ?_⟩
  all_goals (repeat (first | (with_reducible exact hb) | (with_reducible exact hb.drew) | (with_reducible refine Below.drew ?_) | (with_reducible refine Below.setCell ?_ (by simp only []; omega) _)))
end Go.Proofs.YthepcjecmlkaiaaDoor
