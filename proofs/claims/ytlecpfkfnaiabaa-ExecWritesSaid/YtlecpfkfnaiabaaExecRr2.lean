/- The walks of the reference of layer 11: Read. -/
import Derived.Test.YtlecpfkfnaiabaaExecRef
import Derived.RegionTactic
import Derived.Deep.RegionWith
import Derived.ChangeAlike
import Derived.BigRegion
namespace Go.Proofs.Ytlecpfkfnaiabaa
open Go.RowKit
set_option linter.unusedVariables false
set_option linter.unusedSimpArgs false
set_option maxRecDepth 100000 in
set_option maxHeartbeats 4000000 in
theorem rread_CPX (r : Ex.Rg) (ok : r.ok) (m : Int) (g0 : 0 ≤ m) (g1 : m ≤ 255) (tag : ByteArray) (hk : tag.toList = [67, 80, 88]) (w : World) :
    Calls Try.prog 11 #[.string tag, rgI r, .int .i64 m] w fun e w' => e = .returned (rgI (Ex.readF .CPX r m)) ∧ Below w.heap.size w w' := by
  have e0 : (tag.toList == [79, 82, 65]) = false := by rw [hk]; rfl
  have e1 : (tag.toList == [65, 78, 68]) = false := by rw [hk]; rfl
  have e2 : (tag.toList == [69, 79, 82]) = false := by rw [hk]; rfl
  have e3 : (tag.toList == [65, 68, 67]) = false := by rw [hk]; rfl
  have e4 : (tag.toList == [83, 66, 67]) = false := by rw [hk]; rfl
  have e5 : (tag.toList == [67, 77, 80]) = false := by rw [hk]; rfl
  have e6 : (tag.toList == [67, 80, 88]) = true := by rw [hk]; rfl
  have e7 : (tag.toList == [67, 80, 89]) = false := by rw [hk]; rfl
  have e8 : (tag.toList == [66, 73, 84]) = false := by rw [hk]; rfl
  have e9 : (tag.toList == [76, 68, 65]) = false := by rw [hk]; rfl
  have e10 : (tag.toList == [76, 68, 88]) = false := by rw [hk]; rfl
  have e11 : (tag.toList == [76, 68, 89]) = false := by rw [hk]; rfl
  have e12 : (tag.toList == [76, 65, 88]) = false := by rw [hk]; rfl
  have e13 : (tag.toList == [76, 65, 83]) = false := by rw [hk]; rfl
  have e14 : (tag.toList == [65, 78, 67]) = false := by rw [hk]; rfl
  have e15 : (tag.toList == [65, 76, 82]) = false := by rw [hk]; rfl
  have e16 : (tag.toList == [65, 82, 82]) = false := by rw [hk]; rfl
  have e17 : (tag.toList == [65, 78, 69]) = false := by rw [hk]; rfl
  have e18 : (tag.toList == [76, 88, 65]) = false := by rw [hk]; rfl
  have e19 : (tag.toList == [83, 66, 88]) = false := by rw [hk]; rfl
  clear hk
  obtain ⟨a, x, y, s, p, pc⟩ := r
  obtain ⟨a0, a1, x0, x1, y0, y1, s0, s1, p0, p1, pc0, pc1⟩ := ok
  simp only [] at a0 a1 x0 x1 y0 y1 s0 s1 p0 p1 pc0 pc1
  unfold rgI
  go_enter Try.func11, Try.ntmps11
  repeat (first | (with_reducible refine wp_abs _ (boxS_start .i64 .i64 _ _ a x y s p pc w) ?_) | go_step)
  rintro W hS
  have hS' := hS
  obtain ⟨c0, c1, c2, c3, c4, c5, f0, f1, f2, f3, f4, f5, d0, d1, d2, d3, d4, d5, r0, r1, r2, r3, r4, r5, hb, hn, hF⟩ := hS'
  (repeat (first | (with_reducible refine inBlock_far (by decide) ?_) | (with_reducible refine then_exit ?_) | (with_reducible refine inBlock_here ?_) | ((fail_if_success (with_reducible refine calls_id ?_)); go_step)))
  refine (rcompare_any x m p _ x0 x1 g0 g1 p0 p1).mono ?_
  rintro e w' ⟨rfl, rfl⟩
  simp only []
  (repeat (first | (with_reducible refine inBlock_far (by decide) ?_) | (with_reducible refine then_exit ?_) | (with_reducible refine inBlock_here ?_) | ((fail_if_success (with_reducible refine calls_id ?_)); go_step)))
  all_goals refine bodyPost_ret (v := .agg #[.int .i64 (a), .int .i64 (x), .int .i64 (y), .int .i64 (s), .int .i64 (Alu.cmpQ x m p), .int .i64 (pc)]) (by simp [results, Try.results11, go_sem, *]) rfl ⟨rfl, ?_⟩
  all_goals (repeat (first | (with_reducible exact hb) | (with_reducible exact hb.drew) | (with_reducible refine Below.drew ?_) | (with_reducible refine Below.setCell ?_ (by simp only []; omega) _)))
set_option maxRecDepth 100000 in
set_option maxHeartbeats 4000000 in
theorem rread_CPY (r : Ex.Rg) (ok : r.ok) (m : Int) (g0 : 0 ≤ m) (g1 : m ≤ 255) (tag : ByteArray) (hk : tag.toList = [67, 80, 89]) (w : World) :
    Calls Try.prog 11 #[.string tag, rgI r, .int .i64 m] w fun e w' => e = .returned (rgI (Ex.readF .CPY r m)) ∧ Below w.heap.size w w' := by
  have e0 : (tag.toList == [79, 82, 65]) = false := by rw [hk]; rfl
  have e1 : (tag.toList == [65, 78, 68]) = false := by rw [hk]; rfl
  have e2 : (tag.toList == [69, 79, 82]) = false := by rw [hk]; rfl
  have e3 : (tag.toList == [65, 68, 67]) = false := by rw [hk]; rfl
  have e4 : (tag.toList == [83, 66, 67]) = false := by rw [hk]; rfl
  have e5 : (tag.toList == [67, 77, 80]) = false := by rw [hk]; rfl
  have e6 : (tag.toList == [67, 80, 88]) = false := by rw [hk]; rfl
  have e7 : (tag.toList == [67, 80, 89]) = true := by rw [hk]; rfl
  have e8 : (tag.toList == [66, 73, 84]) = false := by rw [hk]; rfl
  have e9 : (tag.toList == [76, 68, 65]) = false := by rw [hk]; rfl
  have e10 : (tag.toList == [76, 68, 88]) = false := by rw [hk]; rfl
  have e11 : (tag.toList == [76, 68, 89]) = false := by rw [hk]; rfl
  have e12 : (tag.toList == [76, 65, 88]) = false := by rw [hk]; rfl
  have e13 : (tag.toList == [76, 65, 83]) = false := by rw [hk]; rfl
  have e14 : (tag.toList == [65, 78, 67]) = false := by rw [hk]; rfl
  have e15 : (tag.toList == [65, 76, 82]) = false := by rw [hk]; rfl
  have e16 : (tag.toList == [65, 82, 82]) = false := by rw [hk]; rfl
  have e17 : (tag.toList == [65, 78, 69]) = false := by rw [hk]; rfl
  have e18 : (tag.toList == [76, 88, 65]) = false := by rw [hk]; rfl
  have e19 : (tag.toList == [83, 66, 88]) = false := by rw [hk]; rfl
  clear hk
  obtain ⟨a, x, y, s, p, pc⟩ := r
  obtain ⟨a0, a1, x0, x1, y0, y1, s0, s1, p0, p1, pc0, pc1⟩ := ok
  simp only [] at a0 a1 x0 x1 y0 y1 s0 s1 p0 p1 pc0 pc1
  unfold rgI
  go_enter Try.func11, Try.ntmps11
  repeat (first | (with_reducible refine wp_abs _ (boxS_start .i64 .i64 _ _ a x y s p pc w) ?_) | go_step)
  rintro W hS
  have hS' := hS
  obtain ⟨c0, c1, c2, c3, c4, c5, f0, f1, f2, f3, f4, f5, d0, d1, d2, d3, d4, d5, r0, r1, r2, r3, r4, r5, hb, hn, hF⟩ := hS'
  (repeat (first | (with_reducible refine inBlock_far (by decide) ?_) | (with_reducible refine then_exit ?_) | (with_reducible refine inBlock_here ?_) | ((fail_if_success (with_reducible refine calls_id ?_)); go_step)))
  refine (rcompare_any y m p _ y0 y1 g0 g1 p0 p1).mono ?_
  rintro e w' ⟨rfl, rfl⟩
  simp only []
  (repeat (first | (with_reducible refine inBlock_far (by decide) ?_) | (with_reducible refine then_exit ?_) | (with_reducible refine inBlock_here ?_) | ((fail_if_success (with_reducible refine calls_id ?_)); go_step)))
  all_goals refine bodyPost_ret (v := .agg #[.int .i64 (a), .int .i64 (x), .int .i64 (y), .int .i64 (s), .int .i64 (Alu.cmpQ y m p), .int .i64 (pc)]) (by simp [results, Try.results11, go_sem, *]) rfl ⟨rfl, ?_⟩
  all_goals (repeat (first | (with_reducible exact hb) | (with_reducible exact hb.drew) | (with_reducible refine Below.drew ?_) | (with_reducible refine Below.setCell ?_ (by simp only []; omega) _)))
set_option maxRecDepth 100000 in
set_option maxHeartbeats 4000000 in
theorem rread_BIT (r : Ex.Rg) (ok : r.ok) (m : Int) (g0 : 0 ≤ m) (g1 : m ≤ 255) (tag : ByteArray) (hk : tag.toList = [66, 73, 84]) (w : World) :
    Calls Try.prog 11 #[.string tag, rgI r, .int .i64 m] w fun e w' => e = .returned (rgI (Ex.readF .BIT r m)) ∧ Below w.heap.size w w' := by
  have e0 : (tag.toList == [79, 82, 65]) = false := by rw [hk]; rfl
  have e1 : (tag.toList == [65, 78, 68]) = false := by rw [hk]; rfl
  have e2 : (tag.toList == [69, 79, 82]) = false := by rw [hk]; rfl
  have e3 : (tag.toList == [65, 68, 67]) = false := by rw [hk]; rfl
  have e4 : (tag.toList == [83, 66, 67]) = false := by rw [hk]; rfl
  have e5 : (tag.toList == [67, 77, 80]) = false := by rw [hk]; rfl
  have e6 : (tag.toList == [67, 80, 88]) = false := by rw [hk]; rfl
  have e7 : (tag.toList == [67, 80, 89]) = false := by rw [hk]; rfl
  have e8 : (tag.toList == [66, 73, 84]) = true := by rw [hk]; rfl
  have e9 : (tag.toList == [76, 68, 65]) = false := by rw [hk]; rfl
  have e10 : (tag.toList == [76, 68, 88]) = false := by rw [hk]; rfl
  have e11 : (tag.toList == [76, 68, 89]) = false := by rw [hk]; rfl
  have e12 : (tag.toList == [76, 65, 88]) = false := by rw [hk]; rfl
  have e13 : (tag.toList == [76, 65, 83]) = false := by rw [hk]; rfl
  have e14 : (tag.toList == [65, 78, 67]) = false := by rw [hk]; rfl
  have e15 : (tag.toList == [65, 76, 82]) = false := by rw [hk]; rfl
  have e16 : (tag.toList == [65, 82, 82]) = false := by rw [hk]; rfl
  have e17 : (tag.toList == [65, 78, 69]) = false := by rw [hk]; rfl
  have e18 : (tag.toList == [76, 88, 65]) = false := by rw [hk]; rfl
  have e19 : (tag.toList == [83, 66, 88]) = false := by rw [hk]; rfl
  clear hk
  obtain ⟨a, x, y, s, p, pc⟩ := r
  obtain ⟨a0, a1, x0, x1, y0, y1, s0, s1, p0, p1, pc0, pc1⟩ := ok
  simp only [] at a0 a1 x0 x1 y0 y1 s0 s1 p0 p1 pc0 pc1
  unfold rgI
  go_enter Try.func11, Try.ntmps11
  repeat (first | (with_reducible refine wp_abs _ (boxS_start .i64 .i64 _ _ a x y s p pc w) ?_) | go_step)
  rintro W hS
  have hS' := hS
  obtain ⟨c0, c1, c2, c3, c4, c5, f0, f1, f2, f3, f4, f5, d0, d1, d2, d3, d4, d5, r0, r1, r2, r3, r4, r5, hb, hn, hF⟩ := hS'
  (repeat (first | (with_reducible refine inBlock_far (by decide) ?_) | (with_reducible refine then_exit ?_) | (with_reducible refine inBlock_here ?_) | ((fail_if_success (with_reducible refine calls_id ?_)); go_step)))
  refine (rbit_any a m p _ a0 a1 g0 g1 p0 p1).mono ?_
  rintro e w' ⟨rfl, rfl⟩
  simp only []
  (repeat (first | (with_reducible refine inBlock_far (by decide) ?_) | (with_reducible refine then_exit ?_) | (with_reducible refine inBlock_here ?_) | ((fail_if_success (with_reducible refine calls_id ?_)); go_step)))
  all_goals refine bodyPost_ret (v := .agg #[.int .i64 (a), .int .i64 (x), .int .i64 (y), .int .i64 (s), .int .i64 (Alu.bitQ a m p), .int .i64 (pc)]) (by simp [results, Try.results11, go_sem, *]) rfl ⟨rfl, ?_⟩
  all_goals (repeat (first | (with_reducible exact hb) | (with_reducible exact hb.drew) | (with_reducible refine Below.drew ?_) | (with_reducible refine Below.setCell ?_ (by simp only []; omega) _)))
set_option maxRecDepth 100000 in
set_option maxHeartbeats 4000000 in
theorem rread_LAX (r : Ex.Rg) (ok : r.ok) (m : Int) (g0 : 0 ≤ m) (g1 : m ≤ 255) (tag : ByteArray) (hk : tag.toList = [76, 65, 88]) (w : World) :
    Calls Try.prog 11 #[.string tag, rgI r, .int .i64 m] w fun e w' => e = .returned (rgI (Ex.readF .LAX r m)) ∧ Below w.heap.size w w' := by
  have e0 : (tag.toList == [79, 82, 65]) = false := by rw [hk]; rfl
  have e1 : (tag.toList == [65, 78, 68]) = false := by rw [hk]; rfl
  have e2 : (tag.toList == [69, 79, 82]) = false := by rw [hk]; rfl
  have e3 : (tag.toList == [65, 68, 67]) = false := by rw [hk]; rfl
  have e4 : (tag.toList == [83, 66, 67]) = false := by rw [hk]; rfl
  have e5 : (tag.toList == [67, 77, 80]) = false := by rw [hk]; rfl
  have e6 : (tag.toList == [67, 80, 88]) = false := by rw [hk]; rfl
  have e7 : (tag.toList == [67, 80, 89]) = false := by rw [hk]; rfl
  have e8 : (tag.toList == [66, 73, 84]) = false := by rw [hk]; rfl
  have e9 : (tag.toList == [76, 68, 65]) = false := by rw [hk]; rfl
  have e10 : (tag.toList == [76, 68, 88]) = false := by rw [hk]; rfl
  have e11 : (tag.toList == [76, 68, 89]) = false := by rw [hk]; rfl
  have e12 : (tag.toList == [76, 65, 88]) = true := by rw [hk]; rfl
  have e13 : (tag.toList == [76, 65, 83]) = false := by rw [hk]; rfl
  have e14 : (tag.toList == [65, 78, 67]) = false := by rw [hk]; rfl
  have e15 : (tag.toList == [65, 76, 82]) = false := by rw [hk]; rfl
  have e16 : (tag.toList == [65, 82, 82]) = false := by rw [hk]; rfl
  have e17 : (tag.toList == [65, 78, 69]) = false := by rw [hk]; rfl
  have e18 : (tag.toList == [76, 88, 65]) = false := by rw [hk]; rfl
  have e19 : (tag.toList == [83, 66, 88]) = false := by rw [hk]; rfl
  clear hk
  obtain ⟨a, x, y, s, p, pc⟩ := r
  obtain ⟨a0, a1, x0, x1, y0, y1, s0, s1, p0, p1, pc0, pc1⟩ := ok
  simp only [] at a0 a1 x0 x1 y0 y1 s0 s1 p0 p1 pc0 pc1
  unfold rgI
  go_enter Try.func11, Try.ntmps11
  repeat (first | (with_reducible refine wp_abs _ (boxS_start .i64 .i64 _ _ a x y s p pc w) ?_) | go_step)
  rintro W hS
  have hS' := hS
  obtain ⟨c0, c1, c2, c3, c4, c5, f0, f1, f2, f3, f4, f5, d0, d1, d2, d3, d4, d5, r0, r1, r2, r3, r4, r5, hb, hn, hF⟩ := hS'
  (repeat (first | (with_reducible refine inBlock_far (by decide) ?_) | (with_reducible refine then_exit ?_) | (with_reducible refine inBlock_here ?_) | ((fail_if_success (with_reducible refine calls_id ?_)); go_step)))
  refine calls_abs _ ((hS.set0 (m)).set1 (m)) ?_
  clear hS c0 c1 c2 c3 c4 c5 f0 f1 f2 f3 f4 f5 d0 d1 d2 d3 d4 d5 r0 r1 r2 r3 r4 r5 hb hn hF
  rintro W1 hS
  refine (rmarked_any (m) (m) (y) (s) (p) (pc) (m) W1 p0 p1 g0 g1).mono ?_
  rintro e w1 ⟨rfl, hw1⟩
  simp only []
  have hS2 := hS.next hw1 (Nat.le_refl _) hS.b.size
  clear hS
  obtain ⟨c0, c1, c2, c3, c4, c5, f0, f1, f2, f3, f4, f5, d0, d1, d2, d3, d4, d5, r0, r1, r2, r3, r4, r5, hb, hn, hF⟩ := hS2
  (repeat (first | (with_reducible refine inBlock_far (by decide) ?_) | (with_reducible refine then_exit ?_) | (with_reducible refine inBlock_here ?_) | ((fail_if_success (with_reducible refine calls_id ?_)); go_step)))
  all_goals refine bodyPost_ret (v := .agg #[.int .i64 (m), .int .i64 (m), .int .i64 (y), .int .i64 (s), .int .i64 (Alu.markF p m), .int .i64 (pc)]) (by simp [results, Try.results11, go_sem, *]) rfl ⟨rfl, ?_⟩
  all_goals (repeat (first | (with_reducible exact hb) | (with_reducible exact hb.drew) | (with_reducible refine Below.drew ?_) | (with_reducible refine Below.setCell ?_ (by simp only []; omega) _)))
set_option maxRecDepth 100000 in
set_option maxHeartbeats 4000000 in
theorem rread_LDA (r : Ex.Rg) (ok : r.ok) (m : Int) (g0 : 0 ≤ m) (g1 : m ≤ 255) (tag : ByteArray) (hk : tag.toList = [76, 68, 65]) (w : World) :
    Calls Try.prog 11 #[.string tag, rgI r, .int .i64 m] w fun e w' => e = .returned (rgI (Ex.readF .LDA r m)) ∧ Below w.heap.size w w' := by
  have e0 : (tag.toList == [79, 82, 65]) = false := by rw [hk]; rfl
  have e1 : (tag.toList == [65, 78, 68]) = false := by rw [hk]; rfl
  have e2 : (tag.toList == [69, 79, 82]) = false := by rw [hk]; rfl
  have e3 : (tag.toList == [65, 68, 67]) = false := by rw [hk]; rfl
  have e4 : (tag.toList == [83, 66, 67]) = false := by rw [hk]; rfl
  have e5 : (tag.toList == [67, 77, 80]) = false := by rw [hk]; rfl
  have e6 : (tag.toList == [67, 80, 88]) = false := by rw [hk]; rfl
  have e7 : (tag.toList == [67, 80, 89]) = false := by rw [hk]; rfl
  have e8 : (tag.toList == [66, 73, 84]) = false := by rw [hk]; rfl
  have e9 : (tag.toList == [76, 68, 65]) = true := by rw [hk]; rfl
  have e10 : (tag.toList == [76, 68, 88]) = false := by rw [hk]; rfl
  have e11 : (tag.toList == [76, 68, 89]) = false := by rw [hk]; rfl
  have e12 : (tag.toList == [76, 65, 88]) = false := by rw [hk]; rfl
  have e13 : (tag.toList == [76, 65, 83]) = false := by rw [hk]; rfl
  have e14 : (tag.toList == [65, 78, 67]) = false := by rw [hk]; rfl
  have e15 : (tag.toList == [65, 76, 82]) = false := by rw [hk]; rfl
  have e16 : (tag.toList == [65, 82, 82]) = false := by rw [hk]; rfl
  have e17 : (tag.toList == [65, 78, 69]) = false := by rw [hk]; rfl
  have e18 : (tag.toList == [76, 88, 65]) = false := by rw [hk]; rfl
  have e19 : (tag.toList == [83, 66, 88]) = false := by rw [hk]; rfl
  clear hk
  obtain ⟨a, x, y, s, p, pc⟩ := r
  obtain ⟨a0, a1, x0, x1, y0, y1, s0, s1, p0, p1, pc0, pc1⟩ := ok
  simp only [] at a0 a1 x0 x1 y0 y1 s0 s1 p0 p1 pc0 pc1
  unfold rgI
  go_enter Try.func11, Try.ntmps11
  repeat (first | (with_reducible refine wp_abs _ (boxS_start .i64 .i64 _ _ a x y s p pc w) ?_) | go_step)
  rintro W hS
  have hS' := hS
  obtain ⟨c0, c1, c2, c3, c4, c5, f0, f1, f2, f3, f4, f5, d0, d1, d2, d3, d4, d5, r0, r1, r2, r3, r4, r5, hb, hn, hF⟩ := hS'
  (repeat (first | (with_reducible refine inBlock_far (by decide) ?_) | (with_reducible refine then_exit ?_) | (with_reducible refine inBlock_here ?_) | ((fail_if_success (with_reducible refine calls_id ?_)); go_step)))
  refine calls_abs _ (hS.set0 (m)) ?_
  clear hS c0 c1 c2 c3 c4 c5 f0 f1 f2 f3 f4 f5 d0 d1 d2 d3 d4 d5 r0 r1 r2 r3 r4 r5 hb hn hF
  rintro W1 hS
  refine (rmarked_any (m) (x) (y) (s) (p) (pc) (m) W1 p0 p1 g0 g1).mono ?_
  rintro e w1 ⟨rfl, hw1⟩
  simp only []
  have hS2 := hS.next hw1 (Nat.le_refl _) hS.b.size
  clear hS
  obtain ⟨c0, c1, c2, c3, c4, c5, f0, f1, f2, f3, f4, f5, d0, d1, d2, d3, d4, d5, r0, r1, r2, r3, r4, r5, hb, hn, hF⟩ := hS2
  (repeat (first | (with_reducible refine inBlock_far (by decide) ?_) | (with_reducible refine then_exit ?_) | (with_reducible refine inBlock_here ?_) | ((fail_if_success (with_reducible refine calls_id ?_)); go_step)))
  all_goals refine bodyPost_ret (v := .agg #[.int .i64 (m), .int .i64 (x), .int .i64 (y), .int .i64 (s), .int .i64 (Alu.markF p m), .int .i64 (pc)]) (by simp [results, Try.results11, go_sem, *]) rfl ⟨rfl, ?_⟩
  all_goals (repeat (first | (with_reducible exact hb) | (with_reducible exact hb.drew) | (with_reducible refine Below.drew ?_) | (with_reducible refine Below.setCell ?_ (by simp only []; omega) _)))
set_option maxRecDepth 100000 in
set_option maxHeartbeats 4000000 in
theorem rread_LDX (r : Ex.Rg) (ok : r.ok) (m : Int) (g0 : 0 ≤ m) (g1 : m ≤ 255) (tag : ByteArray) (hk : tag.toList = [76, 68, 88]) (w : World) :
    Calls Try.prog 11 #[.string tag, rgI r, .int .i64 m] w fun e w' => e = .returned (rgI (Ex.readF .LDX r m)) ∧ Below w.heap.size w w' := by
  have e0 : (tag.toList == [79, 82, 65]) = false := by rw [hk]; rfl
  have e1 : (tag.toList == [65, 78, 68]) = false := by rw [hk]; rfl
  have e2 : (tag.toList == [69, 79, 82]) = false := by rw [hk]; rfl
  have e3 : (tag.toList == [65, 68, 67]) = false := by rw [hk]; rfl
  have e4 : (tag.toList == [83, 66, 67]) = false := by rw [hk]; rfl
  have e5 : (tag.toList == [67, 77, 80]) = false := by rw [hk]; rfl
  have e6 : (tag.toList == [67, 80, 88]) = false := by rw [hk]; rfl
  have e7 : (tag.toList == [67, 80, 89]) = false := by rw [hk]; rfl
  have e8 : (tag.toList == [66, 73, 84]) = false := by rw [hk]; rfl
  have e9 : (tag.toList == [76, 68, 65]) = false := by rw [hk]; rfl
  have e10 : (tag.toList == [76, 68, 88]) = true := by rw [hk]; rfl
  have e11 : (tag.toList == [76, 68, 89]) = false := by rw [hk]; rfl
  have e12 : (tag.toList == [76, 65, 88]) = false := by rw [hk]; rfl
  have e13 : (tag.toList == [76, 65, 83]) = false := by rw [hk]; rfl
  have e14 : (tag.toList == [65, 78, 67]) = false := by rw [hk]; rfl
  have e15 : (tag.toList == [65, 76, 82]) = false := by rw [hk]; rfl
  have e16 : (tag.toList == [65, 82, 82]) = false := by rw [hk]; rfl
  have e17 : (tag.toList == [65, 78, 69]) = false := by rw [hk]; rfl
  have e18 : (tag.toList == [76, 88, 65]) = false := by rw [hk]; rfl
  have e19 : (tag.toList == [83, 66, 88]) = false := by rw [hk]; rfl
  clear hk
  obtain ⟨a, x, y, s, p, pc⟩ := r
  obtain ⟨a0, a1, x0, x1, y0, y1, s0, s1, p0, p1, pc0, pc1⟩ := ok
  simp only [] at a0 a1 x0 x1 y0 y1 s0 s1 p0 p1 pc0 pc1
  unfold rgI
  go_enter Try.func11, Try.ntmps11
  repeat (first | (with_reducible refine wp_abs _ (boxS_start .i64 .i64 _ _ a x y s p pc w) ?_) | go_step)
  rintro W hS
  have hS' := hS
  obtain ⟨c0, c1, c2, c3, c4, c5, f0, f1, f2, f3, f4, f5, d0, d1, d2, d3, d4, d5, r0, r1, r2, r3, r4, r5, hb, hn, hF⟩ := hS'
  (repeat (first | (with_reducible refine inBlock_far (by decide) ?_) | (with_reducible refine then_exit ?_) | (with_reducible refine inBlock_here ?_) | ((fail_if_success (with_reducible refine calls_id ?_)); go_step)))
  refine calls_abs _ (hS.set1 (m)) ?_
  clear hS c0 c1 c2 c3 c4 c5 f0 f1 f2 f3 f4 f5 d0 d1 d2 d3 d4 d5 r0 r1 r2 r3 r4 r5 hb hn hF
  rintro W1 hS
  refine (rmarked_any (a) (m) (y) (s) (p) (pc) (m) W1 p0 p1 g0 g1).mono ?_
  rintro e w1 ⟨rfl, hw1⟩
  simp only []
  have hS2 := hS.next hw1 (Nat.le_refl _) hS.b.size
  clear hS
  obtain ⟨c0, c1, c2, c3, c4, c5, f0, f1, f2, f3, f4, f5, d0, d1, d2, d3, d4, d5, r0, r1, r2, r3, r4, r5, hb, hn, hF⟩ := hS2
  (repeat (first | (with_reducible refine inBlock_far (by decide) ?_) | (with_reducible refine then_exit ?_) | (with_reducible refine inBlock_here ?_) | ((fail_if_success (with_reducible refine calls_id ?_)); go_step)))
  all_goals refine bodyPost_ret (v := .agg #[.int .i64 (a), .int .i64 (m), .int .i64 (y), .int .i64 (s), .int .i64 (Alu.markF p m), .int .i64 (pc)]) (by simp [results, Try.results11, go_sem, *]) rfl ⟨rfl, ?_⟩
  all_goals (repeat (first | (with_reducible exact hb) | (with_reducible exact hb.drew) | (with_reducible refine Below.drew ?_) | (with_reducible refine Below.setCell ?_ (by simp only []; omega) _)))
set_option maxRecDepth 100000 in
set_option maxHeartbeats 4000000 in
theorem rread_LDY (r : Ex.Rg) (ok : r.ok) (m : Int) (g0 : 0 ≤ m) (g1 : m ≤ 255) (tag : ByteArray) (hk : tag.toList = [76, 68, 89]) (w : World) :
    Calls Try.prog 11 #[.string tag, rgI r, .int .i64 m] w fun e w' => e = .returned (rgI (Ex.readF .LDY r m)) ∧ Below w.heap.size w w' := by
  have e0 : (tag.toList == [79, 82, 65]) = false := by rw [hk]; rfl
  have e1 : (tag.toList == [65, 78, 68]) = false := by rw [hk]; rfl
  have e2 : (tag.toList == [69, 79, 82]) = false := by rw [hk]; rfl
  have e3 : (tag.toList == [65, 68, 67]) = false := by rw [hk]; rfl
  have e4 : (tag.toList == [83, 66, 67]) = false := by rw [hk]; rfl
  have e5 : (tag.toList == [67, 77, 80]) = false := by rw [hk]; rfl
  have e6 : (tag.toList == [67, 80, 88]) = false := by rw [hk]; rfl
  have e7 : (tag.toList == [67, 80, 89]) = false := by rw [hk]; rfl
  have e8 : (tag.toList == [66, 73, 84]) = false := by rw [hk]; rfl
  have e9 : (tag.toList == [76, 68, 65]) = false := by rw [hk]; rfl
  have e10 : (tag.toList == [76, 68, 88]) = false := by rw [hk]; rfl
  have e11 : (tag.toList == [76, 68, 89]) = true := by rw [hk]; rfl
  have e12 : (tag.toList == [76, 65, 88]) = false := by rw [hk]; rfl
  have e13 : (tag.toList == [76, 65, 83]) = false := by rw [hk]; rfl
  have e14 : (tag.toList == [65, 78, 67]) = false := by rw [hk]; rfl
  have e15 : (tag.toList == [65, 76, 82]) = false := by rw [hk]; rfl
  have e16 : (tag.toList == [65, 82, 82]) = false := by rw [hk]; rfl
  have e17 : (tag.toList == [65, 78, 69]) = false := by rw [hk]; rfl
  have e18 : (tag.toList == [76, 88, 65]) = false := by rw [hk]; rfl
  have e19 : (tag.toList == [83, 66, 88]) = false := by rw [hk]; rfl
  clear hk
  obtain ⟨a, x, y, s, p, pc⟩ := r
  obtain ⟨a0, a1, x0, x1, y0, y1, s0, s1, p0, p1, pc0, pc1⟩ := ok
  simp only [] at a0 a1 x0 x1 y0 y1 s0 s1 p0 p1 pc0 pc1
  unfold rgI
  go_enter Try.func11, Try.ntmps11
  repeat (first | (with_reducible refine wp_abs _ (boxS_start .i64 .i64 _ _ a x y s p pc w) ?_) | go_step)
  rintro W hS
  have hS' := hS
  obtain ⟨c0, c1, c2, c3, c4, c5, f0, f1, f2, f3, f4, f5, d0, d1, d2, d3, d4, d5, r0, r1, r2, r3, r4, r5, hb, hn, hF⟩ := hS'
  (repeat (first | (with_reducible refine inBlock_far (by decide) ?_) | (with_reducible refine then_exit ?_) | (with_reducible refine inBlock_here ?_) | ((fail_if_success (with_reducible refine calls_id ?_)); go_step)))
  refine calls_abs _ (hS.set2 (m)) ?_
  clear hS c0 c1 c2 c3 c4 c5 f0 f1 f2 f3 f4 f5 d0 d1 d2 d3 d4 d5 r0 r1 r2 r3 r4 r5 hb hn hF
  rintro W1 hS
  refine (rmarked_any (a) (x) (m) (s) (p) (pc) (m) W1 p0 p1 g0 g1).mono ?_
  rintro e w1 ⟨rfl, hw1⟩
  simp only []
  have hS2 := hS.next hw1 (Nat.le_refl _) hS.b.size
  clear hS
  obtain ⟨c0, c1, c2, c3, c4, c5, f0, f1, f2, f3, f4, f5, d0, d1, d2, d3, d4, d5, r0, r1, r2, r3, r4, r5, hb, hn, hF⟩ := hS2
  (repeat (first | (with_reducible refine inBlock_far (by decide) ?_) | (with_reducible refine then_exit ?_) | (with_reducible refine inBlock_here ?_) | ((fail_if_success (with_reducible refine calls_id ?_)); go_step)))
  all_goals refine bodyPost_ret (v := .agg #[.int .i64 (a), .int .i64 (x), .int .i64 (m), .int .i64 (s), .int .i64 (Alu.markF p m), .int .i64 (pc)]) (by simp [results, Try.results11, go_sem, *]) rfl ⟨rfl, ?_⟩
  all_goals (repeat (first | (with_reducible exact hb) | (with_reducible exact hb.drew) | (with_reducible refine Below.drew ?_) | (with_reducible refine Below.setCell ?_ (by simp only []; omega) _)))
end Go.Proofs.Ytlecpfkfnaiabaa
