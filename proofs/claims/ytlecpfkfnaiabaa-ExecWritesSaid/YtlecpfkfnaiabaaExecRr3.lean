/- The walks of the reference of layer 11: Read. -/
import Derived.Test.YtlecpfkfnaiabaaExecRef
import Derived.RegionTactic
import Derived.Deep.RegionWith
import Derived.ChangeAlike
import Derived.BigRegion
namespace Go.Proofs.Ytlecpfkfnaiabaa
open Go.RowKit
set_option linter.unusedVariables false
set_option linter.unusedSimpArgs false
set_option maxRecDepth 100000 in
set_option maxHeartbeats 4000000 in
theorem rread_LAS (r : Ex.Rg) (ok : r.ok) (m : Int) (g0 : 0 ≤ m) (g1 : m ≤ 255) (tag : ByteArray) (hk : tag.toList = [76, 65, 83]) (w : World) :
    Calls Try.prog 11 #[.string tag, rgI r, .int .i64 m] w fun e w' => e = .returned (rgI (Ex.readF .LAS r m)) ∧ Below w.heap.size w w' := by
  have e0 : (tag.toList == [79, 82, 65]) = false := by rw [hk]; rfl
  have e1 : (tag.toList == [65, 78, 68]) = false := by rw [hk]; rfl
  have e2 : (tag.toList == [69, 79, 82]) = false := by rw [hk]; rfl
  have e3 : (tag.toList == [65, 68, 67]) = false := by rw [hk]; rfl
  have e4 : (tag.toList == [83, 66, 67]) = false := by rw [hk]; rfl
  have e5 : (tag.toList == [67, 77, 80]) = false := by rw [hk]; rfl
  have e6 : (tag.toList == [67, 80, 88]) = false := by rw [hk]; rfl
  have e7 : (tag.toList == [67, 80, 89]) = false := by rw [hk]; rfl
  have e8 : (tag.toList == [66, 73, 84]) = false := by rw [hk]; rfl
  have e9 : (tag.toList == [76, 68, 65]) = false := by rw [hk]; rfl
  have e10 : (tag.toList == [76, 68, 88]) = false := by rw [hk]; rfl
  have e11 : (tag.toList == [76, 68, 89]) = false := by rw [hk]; rfl
  have e12 : (tag.toList == [76, 65, 88]) = false := by rw [hk]; rfl
  have e13 : (tag.toList == [76, 65, 83]) = true := by rw [hk]; rfl
  have e14 : (tag.toList == [65, 78, 67]) = false := by rw [hk]; rfl
  have e15 : (tag.toList == [65, 76, 82]) = false := by rw [hk]; rfl
  have e16 : (tag.toList == [65, 82, 82]) = false := by rw [hk]; rfl
  have e17 : (tag.toList == [65, 78, 69]) = false := by rw [hk]; rfl
  have e18 : (tag.toList == [76, 88, 65]) = false := by rw [hk]; rfl
  have e19 : (tag.toList == [83, 66, 88]) = false := by rw [hk]; rfl
  clear hk
  obtain ⟨a, x, y, s, p, pc⟩ := r
  obtain ⟨a0, a1, x0, x1, y0, y1, s0, s1, p0, p1, pc0, pc1⟩ := ok
  simp only [] at a0 a1 x0 x1 y0 y1 s0 s1 p0 p1 pc0 pc1
  have o1 := Alu.comF_in m s g0 g1
  unfold rgI
  go_enter Try.func11, Try.ntmps11
  repeat (first | (with_reducible refine wp_abs _ (boxS_start .i64 .i64 _ _ a x y s p pc w) ?_) | go_step)
  rintro W hS
  have hS' := hS
  obtain ⟨c0, c1, c2, c3, c4, c5, f0, f1, f2, f3, f4, f5, d0, d1, d2, d3, d4, d5, r0, r1, r2, r3, r4, r5, hb, hn, hF⟩ := hS'
  (repeat (first | (with_reducible refine inBlock_far (by decide) ?_) | (with_reducible refine then_exit ?_) | (with_reducible refine inBlock_here ?_) | ((fail_if_success (with_reducible refine calls_id ?_)); go_step)))
  refine (rcommonC_any m s _ g0 g1 s0 s1).mono ?_
  rintro e w' ⟨rfl, rfl⟩
  simp only []
  (repeat (first | (with_reducible refine inBlock_far (by decide) ?_) | (with_reducible refine then_exit ?_) | (with_reducible refine inBlock_here ?_) | ((fail_if_success (with_reducible refine calls_id ?_)); go_step)))
  refine calls_abs _ (((hS.set0 (Alu.comF m s)).set1 (Alu.comF m s)).set3 (Alu.comF m s)) ?_
  clear hS c0 c1 c2 c3 c4 c5 f0 f1 f2 f3 f4 f5 d0 d1 d2 d3 d4 d5 r0 r1 r2 r3 r4 r5 hb hn hF
  rintro W1 hS
  refine (rmarked_any (Alu.comF m s) (Alu.comF m s) (y) (Alu.comF m s) (p) (pc) (Alu.comF m s) W1 p0 p1 o1.1 o1.2).mono ?_
  rintro e w1 ⟨rfl, hw1⟩
  simp only []
  have hS2 := hS.next hw1 (Nat.le_refl _) hS.b.size
  clear hS
  obtain ⟨c0, c1, c2, c3, c4, c5, f0, f1, f2, f3, f4, f5, d0, d1, d2, d3, d4, d5, r0, r1, r2, r3, r4, r5, hb, hn, hF⟩ := hS2
  (repeat (first | (with_reducible refine inBlock_far (by decide) ?_) | (with_reducible refine then_exit ?_) | (with_reducible refine inBlock_here ?_) | ((fail_if_success (with_reducible refine calls_id ?_)); go_step)))
  all_goals refine bodyPost_ret (v := .agg #[.int .i64 (Alu.comF m s), .int .i64 (Alu.comF m s), .int .i64 (y), .int .i64 (Alu.comF m s), .int .i64 (Alu.markF p (Alu.comF m s)), .int .i64 (pc)]) (by simp [results, Try.results11, go_sem, *]) rfl ⟨rfl, ?_⟩
  all_goals (repeat (first | (with_reducible exact hb) | (with_reducible exact hb.drew) | (with_reducible refine Below.drew ?_) | (with_reducible refine Below.setCell ?_ (by simp only []; omega) _)))
set_option maxRecDepth 100000 in
set_option maxHeartbeats 4000000 in
theorem rread_ANC (r : Ex.Rg) (ok : r.ok) (m : Int) (g0 : 0 ≤ m) (g1 : m ≤ 255) (tag : ByteArray) (hk : tag.toList = [65, 78, 67]) (w : World) :
    Calls Try.prog 11 #[.string tag, rgI r, .int .i64 m] w fun e w' => e = .returned (rgI (Ex.readF .ANC r m)) ∧ Below w.heap.size w w' := by
  have e0 : (tag.toList == [79, 82, 65]) = false := by rw [hk]; rfl
  have e1 : (tag.toList == [65, 78, 68]) = false := by rw [hk]; rfl
  have e2 : (tag.toList == [69, 79, 82]) = false := by rw [hk]; rfl
  have e3 : (tag.toList == [65, 68, 67]) = false := by rw [hk]; rfl
  have e4 : (tag.toList == [83, 66, 67]) = false := by rw [hk]; rfl
  have e5 : (tag.toList == [67, 77, 80]) = false := by rw [hk]; rfl
  have e6 : (tag.toList == [67, 80, 88]) = false := by rw [hk]; rfl
  have e7 : (tag.toList == [67, 80, 89]) = false := by rw [hk]; rfl
  have e8 : (tag.toList == [66, 73, 84]) = false := by rw [hk]; rfl
  have e9 : (tag.toList == [76, 68, 65]) = false := by rw [hk]; rfl
  have e10 : (tag.toList == [76, 68, 88]) = false := by rw [hk]; rfl
  have e11 : (tag.toList == [76, 68, 89]) = false := by rw [hk]; rfl
  have e12 : (tag.toList == [76, 65, 88]) = false := by rw [hk]; rfl
  have e13 : (tag.toList == [76, 65, 83]) = false := by rw [hk]; rfl
  have e14 : (tag.toList == [65, 78, 67]) = true := by rw [hk]; rfl
  have e15 : (tag.toList == [65, 76, 82]) = false := by rw [hk]; rfl
  have e16 : (tag.toList == [65, 82, 82]) = false := by rw [hk]; rfl
  have e17 : (tag.toList == [65, 78, 69]) = false := by rw [hk]; rfl
  have e18 : (tag.toList == [76, 88, 65]) = false := by rw [hk]; rfl
  have e19 : (tag.toList == [83, 66, 88]) = false := by rw [hk]; rfl
  clear hk
  obtain ⟨a, x, y, s, p, pc⟩ := r
  obtain ⟨a0, a1, x0, x1, y0, y1, s0, s1, p0, p1, pc0, pc1⟩ := ok
  simp only [] at a0 a1 x0 x1 y0 y1 s0 s1 p0 p1 pc0 pc1
  have o1 := Alu.comF_in a m a0 a1
  have o2 := Alu.markF_in p (Alu.comF a m) p0 p1
  unfold rgI
  go_enter Try.func11, Try.ntmps11
  repeat (first | (with_reducible refine wp_abs _ (boxS_start .i64 .i64 _ _ a x y s p pc w) ?_) | go_step)
  rintro W hS
  have hS' := hS
  obtain ⟨c0, c1, c2, c3, c4, c5, f0, f1, f2, f3, f4, f5, d0, d1, d2, d3, d4, d5, r0, r1, r2, r3, r4, r5, hb, hn, hF⟩ := hS'
  (repeat (first | (with_reducible refine inBlock_far (by decide) ?_) | (with_reducible refine then_exit ?_) | (with_reducible refine inBlock_here ?_) | ((fail_if_success (with_reducible refine calls_id ?_)); go_step)))
  refine (rcommonC_any a m _ a0 a1 g0 g1).mono ?_
  rintro e w' ⟨rfl, rfl⟩
  simp only []
  (repeat (first | (with_reducible refine inBlock_far (by decide) ?_) | (with_reducible refine then_exit ?_) | (with_reducible refine inBlock_here ?_) | ((fail_if_success (with_reducible refine calls_id ?_)); go_step)))
  refine calls_abs _ (hS.set0 (Alu.comF a m)) ?_
  clear hS c0 c1 c2 c3 c4 c5 f0 f1 f2 f3 f4 f5 d0 d1 d2 d3 d4 d5 r0 r1 r2 r3 r4 r5 hb hn hF
  rintro W1 hS
  refine (rmarked_any (Alu.comF a m) (x) (y) (s) (p) (pc) (Alu.comF a m) W1 p0 p1 o1.1 o1.2).mono ?_
  rintro e w1 ⟨rfl, hw1⟩
  simp only []
  have hS3 := hS.next hw1 (Nat.le_refl _) hS.b.size
  clear hS
  have hS3c := hS3
  obtain ⟨c0, c1, c2, c3, c4, c5, f0, f1, f2, f3, f4, f5, d0, d1, d2, d3, d4, d5, r0, r1, r2, r3, r4, r5, hb, hn, hF⟩ := hS3c
  (repeat (first | (with_reducible refine inBlock_far (by decide) ?_) | (with_reducible refine then_exit ?_) | (with_reducible refine inBlock_here ?_) | ((fail_if_success (with_reducible refine calls_id ?_)); go_step)))
  refine calls_abs _ ((((((hS3.set0 _).set1 _).set2 _).set3 _).set4 _).set5 _) ?_
  clear hS3 c0 c1 c2 c3 c4 c5 f0 f1 f2 f3 f4 f5 d0 d1 d2 d3 d4 d5 r0 r1 r2 r3 r4 r5 hb hn hF
  rintro W2 hS4
  obtain ⟨c0, c1, c2, c3, c4, c5, f0, f1, f2, f3, f4, f5, d0, d1, d2, d3, d4, d5, r0, r1, r2, r3, r4, r5, hb, hn, hF⟩ := hS4
  refine (rwith_any (Alu.markF p (Alu.comF a m)) 1 (decide (128 ≤ Alu.comF a m)) _ o2.1 o2.2 (by omega) (by omega)).mono ?_
  rintro e w' ⟨rfl, rfl⟩
  simp only []
  (repeat (first | (with_reducible refine inBlock_far (by decide) ?_) | (with_reducible refine then_exit ?_) | (with_reducible refine inBlock_here ?_) | ((fail_if_success (with_reducible refine calls_id ?_)); go_step)))
  all_goals refine bodyPost_ret (v := .agg #[.int .i64 (Alu.comF a m), .int .i64 (x), .int .i64 (y), .int .i64 (s), .int .i64 (Alu.setF (Alu.markF p (Alu.comF a m)) 1 (decide (128 ≤ Alu.comF a m))), .int .i64 (pc)]) (by simp [results, Try.results11, go_sem, *]) rfl ⟨rfl, ?_⟩
  all_goals (repeat (first | (with_reducible exact hb) | (with_reducible exact hb.drew) | (with_reducible refine Below.drew ?_) | (with_reducible refine Below.setCell ?_ (by simp only []; omega) _)))
set_option maxRecDepth 100000 in
set_option maxHeartbeats 4000000 in
theorem rread_ALR (r : Ex.Rg) (ok : r.ok) (m : Int) (g0 : 0 ≤ m) (g1 : m ≤ 255) (tag : ByteArray) (hk : tag.toList = [65, 76, 82]) (w : World) :
    Calls Try.prog 11 #[.string tag, rgI r, .int .i64 m] w fun e w' => e = .returned (rgI (Ex.readF .ALR r m)) ∧ Below w.heap.size w w' := by
  have e0 : (tag.toList == [79, 82, 65]) = false := by rw [hk]; rfl
  have e1 : (tag.toList == [65, 78, 68]) = false := by rw [hk]; rfl
  have e2 : (tag.toList == [69, 79, 82]) = false := by rw [hk]; rfl
  have e3 : (tag.toList == [65, 68, 67]) = false := by rw [hk]; rfl
  have e4 : (tag.toList == [83, 66, 67]) = false := by rw [hk]; rfl
  have e5 : (tag.toList == [67, 77, 80]) = false := by rw [hk]; rfl
  have e6 : (tag.toList == [67, 80, 88]) = false := by rw [hk]; rfl
  have e7 : (tag.toList == [67, 80, 89]) = false := by rw [hk]; rfl
  have e8 : (tag.toList == [66, 73, 84]) = false := by rw [hk]; rfl
  have e9 : (tag.toList == [76, 68, 65]) = false := by rw [hk]; rfl
  have e10 : (tag.toList == [76, 68, 88]) = false := by rw [hk]; rfl
  have e11 : (tag.toList == [76, 68, 89]) = false := by rw [hk]; rfl
  have e12 : (tag.toList == [76, 65, 88]) = false := by rw [hk]; rfl
  have e13 : (tag.toList == [76, 65, 83]) = false := by rw [hk]; rfl
  have e14 : (tag.toList == [65, 78, 67]) = false := by rw [hk]; rfl
  have e15 : (tag.toList == [65, 76, 82]) = true := by rw [hk]; rfl
  have e16 : (tag.toList == [65, 82, 82]) = false := by rw [hk]; rfl
  have e17 : (tag.toList == [65, 78, 69]) = false := by rw [hk]; rfl
  have e18 : (tag.toList == [76, 88, 65]) = false := by rw [hk]; rfl
  have e19 : (tag.toList == [83, 66, 88]) = false := by rw [hk]; rfl
  clear hk
  obtain ⟨a, x, y, s, p, pc⟩ := r
  obtain ⟨a0, a1, x0, x1, y0, y1, s0, s1, p0, p1, pc0, pc1⟩ := ok
  simp only [] at a0 a1 x0 x1 y0 y1 s0 s1 p0 p1 pc0 pc1
  have o1 := Alu.comF_in a m a0 a1
  have k1 := fun w' => rcommonC_any a m w' a0 a1 g0 g1
  have k2 := fun w' => rright_any (Alu.comF a m) p false w' o1.1 o1.2 p0 p1
  unfold rgI
  go_enter Try.func11, Try.ntmps11
  repeat (first | (with_reducible refine wp_abs _ (boxS_start .i64 .i64 _ _ a x y s p pc w) ?_) | go_step)
  rintro W hS
  have hS' := hS
  obtain ⟨c0, c1, c2, c3, c4, c5, f0, f1, f2, f3, f4, f5, d0, d1, d2, d3, d4, d5, r0, r1, r2, r3, r4, r5, hb, hn, hF⟩ := hS'
  (repeat (first | (with_reducible refine inBlock_far (by decide) ?_) | (with_reducible refine then_exit ?_) | (with_reducible refine inBlock_here ?_) | ((fail_if_success (with_reducible refine calls_id ?_)); go_step)))
  go_region_with (first | (go_at_call 34; refine (k1 _).mono ?_; rintro e w1 ⟨rfl, rfl⟩) | (go_at_call 41; refine (k2 _).mono ?_; rintro e w1 ⟨rfl, rfl⟩))
  · all_goals (repeat (first | (with_reducible refine inBlock_far (by decide) ?_) | (with_reducible refine then_exit ?_) | (with_reducible refine inBlock_here ?_) | ((fail_if_success (with_reducible refine calls_id ?_)); go_step)))
    all_goals refine bodyPost_ret (v := .agg #[.int .i64 (Alu.rightV (Alu.comF a m) p false), .int .i64 (x), .int .i64 (y), .int .i64 (s), .int .i64 (Alu.rightQ (Alu.comF a m) p false), .int .i64 (pc)]) (by simp [results, Try.results11, go_sem, *]) rfl ⟨rfl, ?_⟩
    all_goals (repeat (first | (with_reducible exact hb) | (with_reducible exact hb.drew) | (with_reducible refine Below.drew ?_) | (with_reducible refine Below.setCell ?_ (by simp only []; omega) _)))
  · all_goals (repeat (first | (with_reducible refine inBlock_far (by decide) ?_) | (with_reducible refine then_exit ?_) | (with_reducible refine inBlock_here ?_) | ((fail_if_success (with_reducible refine calls_id ?_)); go_step)))
    all_goals refine bodyPost_ret (v := .agg #[.int .i64 (Alu.rightV (Alu.comF a m) p false), .int .i64 (x), .int .i64 (y), .int .i64 (s), .int .i64 (Alu.rightQ (Alu.comF a m) p false), .int .i64 (pc)]) (by simp [results, Try.results11, go_sem, *]) rfl ⟨rfl, ?_⟩
    all_goals (repeat (first | (with_reducible exact hb) | (with_reducible exact hb.drew) | (with_reducible refine Below.drew ?_) | (with_reducible refine Below.setCell ?_ (by simp only []; omega) _)))
  · all_goals (repeat (first | (with_reducible refine inBlock_far (by decide) ?_) | (with_reducible refine then_exit ?_) | (with_reducible refine inBlock_here ?_) | ((fail_if_success (with_reducible refine calls_id ?_)); go_step)))
    all_goals refine bodyPost_ret (v := .agg #[.int .i64 (Alu.rightV (Alu.comF a m) p false), .int .i64 (x), .int .i64 (y), .int .i64 (s), .int .i64 (Alu.rightQ (Alu.comF a m) p false), .int .i64 (pc)]) (by simp [results, Try.results11, go_sem, *]) rfl ⟨rfl, ?_⟩
    all_goals (repeat (first | (with_reducible exact hb) | (with_reducible exact hb.drew) | (with_reducible refine Below.drew ?_) | (with_reducible refine Below.setCell ?_ (by simp only []; omega) _)))
end Go.Proofs.Ytlecpfkfnaiabaa
