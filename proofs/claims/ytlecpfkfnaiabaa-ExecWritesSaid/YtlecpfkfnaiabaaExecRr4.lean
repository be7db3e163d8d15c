/- The walks of the reference of layer 11: Read. -/
import Derived.Test.YtlecpfkfnaiabaaExecRef
import Derived.RegionTactic
import Derived.Deep.RegionWith
import Derived.ChangeAlike
import Derived.BigRegion
namespace Go.Proofs.Ytlecpfkfnaiabaa
open Go.RowKit
set_option linter.unusedVariables false
set_option linter.unusedSimpArgs false
set_option maxRecDepth 100000 in
set_option maxHeartbeats 4000000 in
theorem rread_ARR (r : Ex.Rg) (ok : r.ok) (m : Int) (g0 : 0 ≤ m) (g1 : m ≤ 255) (tag : ByteArray) (hk : tag.toList = [65, 82, 82]) (w : World) :
    Calls Try.prog 11 #[.string tag, rgI r, .int .i64 m] w fun e w' => e = .returned (rgI (Ex.readF .ARR r m)) ∧ Below w.heap.size w w' := by
  have e0 : (tag.toList == [79, 82, 65]) = false := by rw [hk]; rfl
  have e1 : (tag.toList == [65, 78, 68]) = false := by rw [hk]; rfl
  have e2 : (tag.toList == [69, 79, 82]) = false := by rw [hk]; rfl
  have e3 : (tag.toList == [65, 68, 67]) = false := by rw [hk]; rfl
  have e4 : (tag.toList == [83, 66, 67]) = false := by rw [hk]; rfl
  have e5 : (tag.toList == [67, 77, 80]) = false := by rw [hk]; rfl
  have e6 : (tag.toList == [67, 80, 88]) = false := by rw [hk]; rfl
  have e7 : (tag.toList == [67, 80, 89]) = false := by rw [hk]; rfl
  have e8 : (tag.toList == [66, 73, 84]) = false := by rw [hk]; rfl
  have e9 : (tag.toList == [76, 68, 65]) = false := by rw [hk]; rfl
  have e10 : (tag.toList == [76, 68, 88]) = false := by rw [hk]; rfl
  have e11 : (tag.toList == [76, 68, 89]) = false := by rw [hk]; rfl
  have e12 : (tag.toList == [76, 65, 88]) = false := by rw [hk]; rfl
  have e13 : (tag.toList == [76, 65, 83]) = false := by rw [hk]; rfl
  have e14 : (tag.toList == [65, 78, 67]) = false := by rw [hk]; rfl
  have e15 : (tag.toList == [65, 76, 82]) = false := by rw [hk]; rfl
  have e16 : (tag.toList == [65, 82, 82]) = true := by rw [hk]; rfl
  have e17 : (tag.toList == [65, 78, 69]) = false := by rw [hk]; rfl
  have e18 : (tag.toList == [76, 88, 65]) = false := by rw [hk]; rfl
  have e19 : (tag.toList == [83, 66, 88]) = false := by rw [hk]; rfl
  clear hk
  obtain ⟨a, x, y, s, p, pc⟩ := r
  obtain ⟨a0, a1, x0, x1, y0, y1, s0, s1, p0, p1, pc0, pc1⟩ := ok
  simp only [] at a0 a1 x0 x1 y0 y1 s0 s1 p0 p1 pc0 pc1
  unfold rgI
  go_enter Try.func11, Try.ntmps11
  repeat (first | (with_reducible refine wp_abs _ (boxS_start .i64 .i64 _ _ a x y s p pc w) ?_) | go_step)
  rintro W hS
  have hS' := hS
  obtain ⟨c0, c1, c2, c3, c4, c5, f0, f1, f2, f3, f4, f5, d0, d1, d2, d3, d4, d5, r0, r1, r2, r3, r4, r5, hb, hn, hF⟩ := hS'
  (repeat (first | (with_reducible refine inBlock_far (by decide) ?_) | (with_reducible refine then_exit ?_) | (with_reducible refine inBlock_here ?_) | ((fail_if_success (with_reducible refine calls_id ?_)); go_step)))
  refine (rodd_any a m p _ a0 a1 g0 g1 p0 p1).mono ?_
  rintro e w' ⟨rfl, rfl⟩
  simp only []
  (repeat (first | (with_reducible refine inBlock_far (by decide) ?_) | (with_reducible refine then_exit ?_) | (with_reducible refine inBlock_here ?_) | ((fail_if_success (with_reducible refine calls_id ?_)); go_step)))
  all_goals refine bodyPost_ret (v := .agg #[.int .i64 (Alu.oddV a m p), .int .i64 (x), .int .i64 (y), .int .i64 (s), .int .i64 (Alu.oddQ a m p), .int .i64 (pc)]) (by simp [results, Try.results11, go_sem, *]) rfl ⟨rfl, ?_⟩
  all_goals (repeat (first | (with_reducible exact hb) | (with_reducible exact hb.drew) | (with_reducible refine Below.drew ?_) | (with_reducible refine Below.setCell ?_ (by simp only []; omega) _)))
set_option maxRecDepth 100000 in
set_option maxHeartbeats 4000000 in
theorem rread_ANE (r : Ex.Rg) (ok : r.ok) (m : Int) (g0 : 0 ≤ m) (g1 : m ≤ 255) (tag : ByteArray) (hk : tag.toList = [65, 78, 69]) (w : World) :
    Calls Try.prog 11 #[.string tag, rgI r, .int .i64 m] w fun e w' => e = .returned (rgI (Ex.readF .ANE r m)) ∧ Below w.heap.size w w' := by
  have e0 : (tag.toList == [79, 82, 65]) = false := by rw [hk]; rfl
  have e1 : (tag.toList == [65, 78, 68]) = false := by rw [hk]; rfl
  have e2 : (tag.toList == [69, 79, 82]) = false := by rw [hk]; rfl
  have e3 : (tag.toList == [65, 68, 67]) = false := by rw [hk]; rfl
  have e4 : (tag.toList == [83, 66, 67]) = false := by rw [hk]; rfl
  have e5 : (tag.toList == [67, 77, 80]) = false := by rw [hk]; rfl
  have e6 : (tag.toList == [67, 80, 88]) = false := by rw [hk]; rfl
  have e7 : (tag.toList == [67, 80, 89]) = false := by rw [hk]; rfl
  have e8 : (tag.toList == [66, 73, 84]) = false := by rw [hk]; rfl
  have e9 : (tag.toList == [76, 68, 65]) = false := by rw [hk]; rfl
  have e10 : (tag.toList == [76, 68, 88]) = false := by rw [hk]; rfl
  have e11 : (tag.toList == [76, 68, 89]) = false := by rw [hk]; rfl
  have e12 : (tag.toList == [76, 65, 88]) = false := by rw [hk]; rfl
  have e13 : (tag.toList == [76, 65, 83]) = false := by rw [hk]; rfl
  have e14 : (tag.toList == [65, 78, 67]) = false := by rw [hk]; rfl
  have e15 : (tag.toList == [65, 76, 82]) = false := by rw [hk]; rfl
  have e16 : (tag.toList == [65, 82, 82]) = false := by rw [hk]; rfl
  have e17 : (tag.toList == [65, 78, 69]) = true := by rw [hk]; rfl
  have e18 : (tag.toList == [76, 88, 65]) = false := by rw [hk]; rfl
  have e19 : (tag.toList == [83, 66, 88]) = false := by rw [hk]; rfl
  clear hk
  obtain ⟨a, x, y, s, p, pc⟩ := r
  obtain ⟨a0, a1, x0, x1, y0, y1, s0, s1, p0, p1, pc0, pc1⟩ := ok
  simp only [] at a0 a1 x0 x1 y0 y1 s0 s1 p0 p1 pc0 pc1
  have o1 := Ex.orF_in a 238 a0 a1 (by omega) (by omega)
  have o2 := Alu.comF_in (Ex.orF a 238) x o1.1 o1.2
  have o3 := Alu.comF_in (Alu.comF (Ex.orF a 238) x) m o2.1 o2.2
  have k1 := fun w' => reither_any a 238 w' a0 a1 (by omega) (by omega)
  have k2 := fun w' => rcommonC_any (Ex.orF a 238) x w' o1.1 o1.2 x0 x1
  have k3 := fun w' => rcommonC_any (Alu.comF (Ex.orF a 238) x) m w' o2.1 o2.2 g0 g1
  unfold rgI
  go_enter Try.func11, Try.ntmps11
  repeat (first | (with_reducible refine wp_abs _ (boxS_start .i64 .i64 _ _ a x y s p pc w) ?_) | go_step)
  rintro W hS
  have hS' := hS
  obtain ⟨c0, c1, c2, c3, c4, c5, f0, f1, f2, f3, f4, f5, d0, d1, d2, d3, d4, d5, r0, r1, r2, r3, r4, r5, hb, hn, hF⟩ := hS'
  (repeat (first | (with_reducible refine inBlock_far (by decide) ?_) | (with_reducible refine then_exit ?_) | (with_reducible refine inBlock_here ?_) | ((fail_if_success (with_reducible refine calls_id ?_)); go_step)))
  go_region_with (first | (go_at_call 32; refine (k1 _).mono ?_; rintro e w1 ⟨rfl, rfl⟩) | (go_at_call 34; refine (k2 _).mono ?_; rintro e w1 ⟨rfl, rfl⟩) | (go_at_call 34; refine (k3 _).mono ?_; rintro e w1 ⟨rfl, rfl⟩))
  all_goals (repeat (first | (with_reducible refine inBlock_far (by decide) ?_) | (with_reducible refine then_exit ?_) | (with_reducible refine inBlock_here ?_) | ((fail_if_success (with_reducible refine calls_id ?_)); go_step)))
  all_goals refine calls_abs _ (hS.drew.set0 _) ?_
  all_goals clear hS c0 c1 c2 c3 c4 c5 f0 f1 f2 f3 f4 f5 d0 d1 d2 d3 d4 d5 r0 r1 r2 r3 r4 r5 hb hn hF
  all_goals rintro W1 hS
  all_goals refine (rmarked_any (Alu.comF (Alu.comF (Ex.orF a 238) x) m) x y s p pc (Alu.comF (Alu.comF (Ex.orF a 238) x) m) W1 p0 p1 o3.1 o3.2).mono ?_
  all_goals rintro e w1 ⟨rfl, hw1⟩
  all_goals simp only []
  all_goals have hS2 := hS.next hw1 (Nat.le_refl _) hS.b.size
  all_goals clear hS
  all_goals obtain ⟨c0, c1, c2, c3, c4, c5, f0, f1, f2, f3, f4, f5, d0, d1, d2, d3, d4, d5, r0, r1, r2, r3, r4, r5, hb, hn, hF⟩ := hS2
  all_goals (repeat (first | (with_reducible refine inBlock_far (by decide) ?_) | (with_reducible refine then_exit ?_) | (with_reducible refine inBlock_here ?_) | ((fail_if_success (with_reducible refine calls_id ?_)); go_step)))
  all_goals refine bodyPost_ret (v := .agg #[.int .i64 (Alu.comF (Alu.comF (Ex.orF a 238) x) m), .int .i64 (x), .int .i64 (y), .int .i64 (s), .int .i64 (Alu.markF p (Alu.comF (Alu.comF (Ex.orF a 238) x) m)), .int .i64 (pc)]) (by simp [results, Try.results11, go_sem, *]) rfl ⟨rfl, ?_⟩
  all_goals (repeat (first | (with_reducible exact hb) | (with_reducible exact hb.drew) | (with_reducible refine Below.drew ?_) | (with_reducible refine Below.setCell ?_ (by simp only []; omega) _)))
set_option maxRecDepth 100000 in
set_option maxHeartbeats 4000000 in
theorem rread_LXA (r : Ex.Rg) (ok : r.ok) (m : Int) (g0 : 0 ≤ m) (g1 : m ≤ 255) (tag : ByteArray) (hk : tag.toList = [76, 88, 65]) (w : World) :
    Calls Try.prog 11 #[.string tag, rgI r, .int .i64 m] w fun e w' => e = .returned (rgI (Ex.readF .LXA r m)) ∧ Below w.heap.size w w' := by
  have e0 : (tag.toList == [79, 82, 65]) = false := by rw [hk]; rfl
  have e1 : (tag.toList == [65, 78, 68]) = false := by rw [hk]; rfl
  have e2 : (tag.toList == [69, 79, 82]) = false := by rw [hk]; rfl
  have e3 : (tag.toList == [65, 68, 67]) = false := by rw [hk]; rfl
  have e4 : (tag.toList == [83, 66, 67]) = false := by rw [hk]; rfl
  have e5 : (tag.toList == [67, 77, 80]) = false := by rw [hk]; rfl
  have e6 : (tag.toList == [67, 80, 88]) = false := by rw [hk]; rfl
  have e7 : (tag.toList == [67, 80, 89]) = false := by rw [hk]; rfl
  have e8 : (tag.toList == [66, 73, 84]) = false := by rw [hk]; rfl
  have e9 : (tag.toList == [76, 68, 65]) = false := by rw [hk]; rfl
  have e10 : (tag.toList == [76, 68, 88]) = false := by rw [hk]; rfl
  have e11 : (tag.toList == [76, 68, 89]) = false := by rw [hk]; rfl
  have e12 : (tag.toList == [76, 65, 88]) = false := by rw [hk]; rfl
  have e13 : (tag.toList == [76, 65, 83]) = false := by rw [hk]; rfl
  have e14 : (tag.toList == [65, 78, 67]) = false := by rw [hk]; rfl
  have e15 : (tag.toList == [65, 76, 82]) = false := by rw [hk]; rfl
  have e16 : (tag.toList == [65, 82, 82]) = false := by rw [hk]; rfl
  have e17 : (tag.toList == [65, 78, 69]) = false := by rw [hk]; rfl
  have e18 : (tag.toList == [76, 88, 65]) = true := by rw [hk]; rfl
  have e19 : (tag.toList == [83, 66, 88]) = false := by rw [hk]; rfl
  clear hk
  obtain ⟨a, x, y, s, p, pc⟩ := r
  obtain ⟨a0, a1, x0, x1, y0, y1, s0, s1, p0, p1, pc0, pc1⟩ := ok
  simp only [] at a0 a1 x0 x1 y0 y1 s0 s1 p0 p1 pc0 pc1
  have o1 := Ex.orF_in a 238 a0 a1 (by omega) (by omega)
  have o2 := Alu.comF_in (Ex.orF a 238) m o1.1 o1.2
  unfold rgI
  go_enter Try.func11, Try.ntmps11
  repeat (first | (with_reducible refine wp_abs _ (boxS_start .i64 .i64 _ _ a x y s p pc w) ?_) | go_step)
  rintro W hS
  have hS' := hS
  obtain ⟨c0, c1, c2, c3, c4, c5, f0, f1, f2, f3, f4, f5, d0, d1, d2, d3, d4, d5, r0, r1, r2, r3, r4, r5, hb, hn, hF⟩ := hS'
  (repeat (first | (with_reducible refine inBlock_far (by decide) ?_) | (with_reducible refine then_exit ?_) | (with_reducible refine inBlock_here ?_) | ((fail_if_success (with_reducible refine calls_id ?_)); go_step)))
  refine (reither_any a 238 _ a0 a1 (by omega) (by omega)).mono ?_
  rintro e w' ⟨rfl, rfl⟩
  simp only []
  (repeat (first | (with_reducible refine inBlock_far (by decide) ?_) | (with_reducible refine then_exit ?_) | (with_reducible refine inBlock_here ?_) | ((fail_if_success (with_reducible refine calls_id ?_)); go_step)))
  refine (rcommonC_any (Ex.orF a 238) m _ o1.1 o1.2 g0 g1).mono ?_
  rintro e w' ⟨rfl, rfl⟩
  simp only []
  (repeat (first | (with_reducible refine inBlock_far (by decide) ?_) | (with_reducible refine then_exit ?_) | (with_reducible refine inBlock_here ?_) | ((fail_if_success (with_reducible refine calls_id ?_)); go_step)))
  refine calls_abs _ ((hS.set0 (Alu.comF (Ex.orF a 238) m)).set1 (Alu.comF (Ex.orF a 238) m)) ?_
  clear hS c0 c1 c2 c3 c4 c5 f0 f1 f2 f3 f4 f5 d0 d1 d2 d3 d4 d5 r0 r1 r2 r3 r4 r5 hb hn hF
  rintro W1 hS
  refine (rmarked_any (Alu.comF (Ex.orF a 238) m) (Alu.comF (Ex.orF a 238) m) (y) (s) (p) (pc) (Alu.comF (Ex.orF a 238) m) W1 p0 p1 o2.1 o2.2).mono ?_
  rintro e w1 ⟨rfl, hw1⟩
  simp only []
  have hS2 := hS.next hw1 (Nat.le_refl _) hS.b.size
  clear hS
  obtain ⟨c0, c1, c2, c3, c4, c5, f0, f1, f2, f3, f4, f5, d0, d1, d2, d3, d4, d5, r0, r1, r2, r3, r4, r5, hb, hn, hF⟩ := hS2
  (repeat (first | (with_reducible refine inBlock_far (by decide) ?_) | (with_reducible refine then_exit ?_) | (with_reducible refine inBlock_here ?_) | ((fail_if_success (with_reducible refine calls_id ?_)); go_step)))
  all_goals refine bodyPost_ret (v := .agg #[.int .i64 (Alu.comF (Ex.orF a 238) m), .int .i64 (Alu.comF (Ex.orF a 238) m), .int .i64 (y), .int .i64 (s), .int .i64 (Alu.markF p (Alu.comF (Ex.orF a 238) m)), .int .i64 (pc)]) (by simp [results, Try.results11, go_sem, *]) rfl ⟨rfl, ?_⟩
  all_goals (repeat (first | (with_reducible exact hb) | (with_reducible exact hb.drew) | (with_reducible refine Below.drew ?_) | (with_reducible refine Below.setCell ?_ (by simp only []; omega) _)))
set_option maxRecDepth 100000 in
set_option maxHeartbeats 4000000 in
theorem rread_SBX (r : Ex.Rg) (ok : r.ok) (m : Int) (g0 : 0 ≤ m) (g1 : m ≤ 255) (tag : ByteArray) (hk : tag.toList = [83, 66, 88]) (w : World) :
    Calls Try.prog 11 #[.string tag, rgI r, .int .i64 m] w fun e w' => e = .returned (rgI (Ex.readF .SBX r m)) ∧ Below w.heap.size w w' := by
  have e0 : (tag.toList == [79, 82, 65]) = false := by rw [hk]; rfl
  have e1 : (tag.toList == [65, 78, 68]) = false := by rw [hk]; rfl
  have e2 : (tag.toList == [69, 79, 82]) = false := by rw [hk]; rfl
  have e3 : (tag.toList == [65, 68, 67]) = false := by rw [hk]; rfl
  have e4 : (tag.toList == [83, 66, 67]) = false := by rw [hk]; rfl
  have e5 : (tag.toList == [67, 77, 80]) = false := by rw [hk]; rfl
  have e6 : (tag.toList == [67, 80, 88]) = false := by rw [hk]; rfl
  have e7 : (tag.toList == [67, 80, 89]) = false := by rw [hk]; rfl
  have e8 : (tag.toList == [66, 73, 84]) = false := by rw [hk]; rfl
  have e9 : (tag.toList == [76, 68, 65]) = false := by rw [hk]; rfl
  have e10 : (tag.toList == [76, 68, 88]) = false := by rw [hk]; rfl
  have e11 : (tag.toList == [76, 68, 89]) = false := by rw [hk]; rfl
  have e12 : (tag.toList == [76, 65, 88]) = false := by rw [hk]; rfl
  have e13 : (tag.toList == [76, 65, 83]) = false := by rw [hk]; rfl
  have e14 : (tag.toList == [65, 78, 67]) = false := by rw [hk]; rfl
  have e15 : (tag.toList == [65, 76, 82]) = false := by rw [hk]; rfl
  have e16 : (tag.toList == [65, 82, 82]) = false := by rw [hk]; rfl
  have e17 : (tag.toList == [65, 78, 69]) = false := by rw [hk]; rfl
  have e18 : (tag.toList == [76, 88, 65]) = false := by rw [hk]; rfl
  have e19 : (tag.toList == [83, 66, 88]) = true := by rw [hk]; rfl
  clear hk
  obtain ⟨a, x, y, s, p, pc⟩ := r
  obtain ⟨a0, a1, x0, x1, y0, y1, s0, s1, p0, p1, pc0, pc1⟩ := ok
  simp only [] at a0 a1 x0 x1 y0 y1 s0 s1 p0 p1 pc0 pc1
  have o1 := Alu.comF_in a x a0 a1
  have q1 : (Alu.comF a x - m + 256) % 256 = (Alu.comF a x - m) % 256 := by omega
  unfold rgI
  go_enter Try.func11, Try.ntmps11
  repeat (first | (with_reducible refine wp_abs _ (boxS_start .i64 .i64 _ _ a x y s p pc w) ?_) | go_step)
  rintro W hS
  have hS' := hS
  obtain ⟨c0, c1, c2, c3, c4, c5, f0, f1, f2, f3, f4, f5, d0, d1, d2, d3, d4, d5, r0, r1, r2, r3, r4, r5, hb, hn, hF⟩ := hS'
  (repeat (first | (with_reducible refine inBlock_far (by decide) ?_) | (with_reducible refine then_exit ?_) | (with_reducible refine inBlock_here ?_) | ((fail_if_success (with_reducible refine calls_id ?_)); go_step)))
  refine (rcommonC_any a x _ a0 a1 x0 x1).mono ?_
  rintro e w' ⟨rfl, rfl⟩
  simp only []
  (repeat (first | (with_reducible refine inBlock_far (by decide) ?_) | (with_reducible refine then_exit ?_) | (with_reducible refine inBlock_here ?_) | ((fail_if_success (with_reducible refine calls_id ?_)); go_step)))
  refine (rcompare_any (Alu.comF a x) m p _ o1.1 o1.2 g0 g1 p0 p1).mono ?_
  rintro e w' ⟨rfl, rfl⟩
  simp only []
  (repeat (first | (with_reducible refine inBlock_far (by decide) ?_) | (with_reducible refine then_exit ?_) | (with_reducible refine inBlock_here ?_) | ((fail_if_success (with_reducible refine calls_id ?_)); go_step)))
  all_goals refine bodyPost_ret (v := .agg #[.int .i64 (a), .int .i64 ((Alu.comF a x - m) % 256), .int .i64 (y), .int .i64 (s), .int .i64 (Alu.cmpQ (Alu.comF a x) m p), .int .i64 (pc)]) (by simp [results, Try.results11, go_sem, *]) rfl ⟨rfl, ?_⟩
  all_goals (repeat (first | (with_reducible exact hb) | (with_reducible exact hb.drew) | (with_reducible refine Below.drew ?_) | (with_reducible refine Below.setCell ?_ (by simp only []; omega) _)))
set_option maxRecDepth 100000 in
set_option maxHeartbeats 4000000 in
theorem rread_other (r : Ex.Rg) (ok : r.ok) (m : Int) (g0 : 0 ≤ m) (g1 : m ≤ 255) (tag : ByteArray) (hk : ∀ l ∈ Ex.rdNames, tag.toList ≠ l) (w : World) :
    Calls Try.prog 11 #[.string tag, rgI r, .int .i64 m] w fun e w' => e = .returned (rgI (Ex.readF .other r m)) ∧ Below w.heap.size w w' := by
  have e0 : (tag.toList == [79, 82, 65]) = false := beq_eq_false_iff_ne.2 (hk _ (by decide))
  have e1 : (tag.toList == [65, 78, 68]) = false := beq_eq_false_iff_ne.2 (hk _ (by decide))
  have e2 : (tag.toList == [69, 79, 82]) = false := beq_eq_false_iff_ne.2 (hk _ (by decide))
  have e3 : (tag.toList == [65, 68, 67]) = false := beq_eq_false_iff_ne.2 (hk _ (by decide))
  have e4 : (tag.toList == [83, 66, 67]) = false := beq_eq_false_iff_ne.2 (hk _ (by decide))
  have e5 : (tag.toList == [67, 77, 80]) = false := beq_eq_false_iff_ne.2 (hk _ (by decide))
  have e6 : (tag.toList == [67, 80, 88]) = false := beq_eq_false_iff_ne.2 (hk _ (by decide))
  have e7 : (tag.toList == [67, 80, 89]) = false := beq_eq_false_iff_ne.2 (hk _ (by decide))
  have e8 : (tag.toList == [66, 73, 84]) = false := beq_eq_false_iff_ne.2 (hk _ (by decide))
  have e9 : (tag.toList == [76, 68, 65]) = false := beq_eq_false_iff_ne.2 (hk _ (by decide))
  have e10 : (tag.toList == [76, 68, 88]) = false := beq_eq_false_iff_ne.2 (hk _ (by decide))
  have e11 : (tag.toList == [76, 68, 89]) = false := beq_eq_false_iff_ne.2 (hk _ (by decide))
  have e12 : (tag.toList == [76, 65, 88]) = false := beq_eq_false_iff_ne.2 (hk _ (by decide))
  have e13 : (tag.toList == [76, 65, 83]) = false := beq_eq_false_iff_ne.2 (hk _ (by decide))
  have e14 : (tag.toList == [65, 78, 67]) = false := beq_eq_false_iff_ne.2 (hk _ (by decide))
  have e15 : (tag.toList == [65, 76, 82]) = false := beq_eq_false_iff_ne.2 (hk _ (by decide))
  have e16 : (tag.toList == [65, 82, 82]) = false := beq_eq_false_iff_ne.2 (hk _ (by decide))
  have e17 : (tag.toList == [65, 78, 69]) = false := beq_eq_false_iff_ne.2 (hk _ (by decide))
  have e18 : (tag.toList == [76, 88, 65]) = false := beq_eq_false_iff_ne.2 (hk _ (by decide))
  have e19 : (tag.toList == [83, 66, 88]) = false := beq_eq_false_iff_ne.2 (hk _ (by decide))
  clear hk
  obtain ⟨a, x, y, s, p, pc⟩ := r
  obtain ⟨a0, a1, x0, x1, y0, y1, s0, s1, p0, p1, pc0, pc1⟩ := ok
  simp only [] at a0 a1 x0 x1 y0 y1 s0 s1 p0 p1 pc0 pc1
  unfold rgI
  go_enter Try.func11, Try.ntmps11
  repeat (first | (with_reducible refine wp_abs _ (boxS_start .i64 .i64 _ _ a x y s p pc w) ?_) | go_step)
  rintro W hS
  have hS' := hS
  obtain ⟨c0, c1, c2, c3, c4, c5, f0, f1, f2, f3, f4, f5, d0, d1, d2, d3, d4, d5, r0, r1, r2, r3, r4, r5, hb, hn, hF⟩ := hS'
  (repeat (first | (with_reducible refine inBlock_far (by decide) ?_) | (with_reducible refine then_exit ?_) | (with_reducible refine inBlock_here ?_) | ((fail_if_success (with_reducible refine calls_id ?_)); go_step)))
  all_goals refine bodyPost_ret (v := .agg #[.int .i64 (a), .int .i64 (x), .int .i64 (y), .int .i64 (s), .int .i64 (p), .int .i64 (pc)]) (by simp [results, Try.results11, go_sem, *]) rfl ⟨rfl, ?_⟩
  all_goals (repeat (first | (with_reducible exact hb) | (with_reducible exact hb.drew) | (with_reducible refine Below.drew ?_) | (with_reducible refine Below.setCell ?_ (by simp only []; omega) _)))
end Go.Proofs.Ytlecpfkfnaiabaa
