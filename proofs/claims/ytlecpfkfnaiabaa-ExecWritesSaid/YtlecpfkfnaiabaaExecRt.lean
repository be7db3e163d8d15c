/- The walks of the reference of layer 11: Turn. -/
import Derived.Test.YtlecpfkfnaiabaaExecRef
import Derived.Test.YtlecpfkfnaiabaaExecRr1
import Derived.Test.YtlecpfkfnaiabaaExecRr2
import Derived.Test.YtlecpfkfnaiabaaExecRr3
import Derived.Test.YtlecpfkfnaiabaaExecRr4
import Derived.RegionTactic
import Derived.Deep.RegionWith
import Derived.ChangeAlike
import Derived.BigRegion
namespace Go.Proofs.Ytlecpfkfnaiabaa
open Go.RowKit
set_option linter.unusedVariables false
set_option linter.unusedSimpArgs false
set_option maxRecDepth 100000 in
set_option maxHeartbeats 4000000 in
theorem rturn_ASL (r : Ex.Rg) (ok : r.ok) (m : Int) (g0 : 0 ≤ m) (g1 : m ≤ 255) (tag : ByteArray) (hk : tag.toList = [65, 83, 76]) (w : World) :
    Calls Try.prog 17 #[.string tag, rgI r, .int .i64 m] w fun e w' => e = .returned (.tuple #[.int .i64 (Ex.turnV .ASL r.p m), rgI (Ex.turnR .ASL r m)]) ∧ Below w.heap.size w w' := by
  have e0 : (tag.toList == [65, 83, 76]) = true := by rw [hk]; rfl
  have e1 : (tag.toList == [82, 79, 76]) = false := by rw [hk]; rfl
  have e2 : (tag.toList == [76, 83, 82]) = false := by rw [hk]; rfl
  have e3 : (tag.toList == [82, 79, 82]) = false := by rw [hk]; rfl
  have e4 : (tag.toList == [73, 78, 67]) = false := by rw [hk]; rfl
  have e5 : (tag.toList == [68, 69, 67]) = false := by rw [hk]; rfl
  have e6 : (tag.toList == [83, 76, 79]) = false := by rw [hk]; rfl
  have e7 : (tag.toList == [82, 76, 65]) = false := by rw [hk]; rfl
  have e8 : (tag.toList == [83, 82, 69]) = false := by rw [hk]; rfl
  have e9 : (tag.toList == [82, 82, 65]) = false := by rw [hk]; rfl
  have e10 : (tag.toList == [68, 67, 80]) = false := by rw [hk]; rfl
  have e11 : (tag.toList == [73, 83, 67]) = false := by rw [hk]; rfl
  clear hk
  obtain ⟨a, x, y, s, p, pc⟩ := r
  obtain ⟨a0, a1, x0, x1, y0, y1, s0, s1, p0, p1, pc0, pc1⟩ := ok
  simp only [] at a0 a1 x0 x1 y0 y1 s0 s1 p0 p1 pc0 pc1
  unfold rgI
  go_enter Try.func17, Try.ntmps17
  repeat (first | (with_reducible refine wp_abs _ (boxS_start .i64 .i64 _ _ a x y s p pc w) ?_) | go_step)
  rintro W hS
  have hS' := hS
  obtain ⟨c0, c1, c2, c3, c4, c5, f0, f1, f2, f3, f4, f5, d0, d1, d2, d3, d4, d5, r0, r1, r2, r3, r4, r5, hb, hn, hF⟩ := hS'
  (repeat (first | (with_reducible refine inBlock_far (by decide) ?_) | (with_reducible refine then_exit ?_) | (with_reducible refine inBlock_here ?_) | ((fail_if_success (with_reducible refine calls_id ?_)); go_step)))
  refine (rleft_any m p false _ g0 g1 p0 p1).mono ?_
  rintro e w' ⟨rfl, rfl⟩
  simp only []
  (repeat (first | (with_reducible refine inBlock_far (by decide) ?_) | (with_reducible refine then_exit ?_) | (with_reducible refine inBlock_here ?_) | ((fail_if_success (with_reducible refine calls_id ?_)); go_step)))
  go_region
  all_goals (repeat (first | (with_reducible refine inBlock_far (by decide) ?_) | (with_reducible refine then_exit ?_) | (with_reducible refine inBlock_here ?_) | ((fail_if_success (with_reducible refine calls_id ?_)); go_step)))
  all_goals refine bodyPost_ret (v := .tuple #[.int .i64 (Alu.leftV m p false), .agg #[.int .i64 (a), .int .i64 (x), .int .i64 (y), .int .i64 (s), .int .i64 (Alu.leftQ m p false), .int .i64 (pc)]]) (by simp [results, Try.results17, go_sem, *]) rfl ⟨rfl, ?_⟩
  all_goals (repeat (first | (with_reducible exact hb) | (with_reducible exact hb.drew) | (with_reducible refine Below.drew ?_) | (with_reducible refine Below.setCell ?_ (by simp only []; omega) _)))
set_option maxRecDepth 100000 in
set_option maxHeartbeats 4000000 in
theorem rturn_ROL (r : Ex.Rg) (ok : r.ok) (m : Int) (g0 : 0 ≤ m) (g1 : m ≤ 255) (tag : ByteArray) (hk : tag.toList = [82, 79, 76]) (w : World) :
    Calls Try.prog 17 #[.string tag, rgI r, .int .i64 m] w fun e w' => e = .returned (.tuple #[.int .i64 (Ex.turnV .ROL r.p m), rgI (Ex.turnR .ROL r m)]) ∧ Below w.heap.size w w' := by
  have e0 : (tag.toList == [65, 83, 76]) = false := by rw [hk]; rfl
  have e1 : (tag.toList == [82, 79, 76]) = true := by rw [hk]; rfl
  have e2 : (tag.toList == [76, 83, 82]) = false := by rw [hk]; rfl
  have e3 : (tag.toList == [82, 79, 82]) = false := by rw [hk]; rfl
  have e4 : (tag.toList == [73, 78, 67]) = false := by rw [hk]; rfl
  have e5 : (tag.toList == [68, 69, 67]) = false := by rw [hk]; rfl
  have e6 : (tag.toList == [83, 76, 79]) = false := by rw [hk]; rfl
  have e7 : (tag.toList == [82, 76, 65]) = false := by rw [hk]; rfl
  have e8 : (tag.toList == [83, 82, 69]) = false := by rw [hk]; rfl
  have e9 : (tag.toList == [82, 82, 65]) = false := by rw [hk]; rfl
  have e10 : (tag.toList == [68, 67, 80]) = false := by rw [hk]; rfl
  have e11 : (tag.toList == [73, 83, 67]) = false := by rw [hk]; rfl
  clear hk
  obtain ⟨a, x, y, s, p, pc⟩ := r
  obtain ⟨a0, a1, x0, x1, y0, y1, s0, s1, p0, p1, pc0, pc1⟩ := ok
  simp only [] at a0 a1 x0 x1 y0 y1 s0 s1 p0 p1 pc0 pc1
  unfold rgI
  go_enter Try.func17, Try.ntmps17
  repeat (first | (with_reducible refine wp_abs _ (boxS_start .i64 .i64 _ _ a x y s p pc w) ?_) | go_step)
  rintro W hS
  have hS' := hS
  obtain ⟨c0, c1, c2, c3, c4, c5, f0, f1, f2, f3, f4, f5, d0, d1, d2, d3, d4, d5, r0, r1, r2, r3, r4, r5, hb, hn, hF⟩ := hS'
  (repeat (first | (with_reducible refine inBlock_far (by decide) ?_) | (with_reducible refine then_exit ?_) | (with_reducible refine inBlock_here ?_) | ((fail_if_success (with_reducible refine calls_id ?_)); go_step)))
  refine (rleft_any m p true _ g0 g1 p0 p1).mono ?_
  rintro e w' ⟨rfl, rfl⟩
  simp only []
  (repeat (first | (with_reducible refine inBlock_far (by decide) ?_) | (with_reducible refine then_exit ?_) | (with_reducible refine inBlock_here ?_) | ((fail_if_success (with_reducible refine calls_id ?_)); go_step)))
  go_region
  all_goals (repeat (first | (with_reducible refine inBlock_far (by decide) ?_) | (with_reducible refine then_exit ?_) | (with_reducible refine inBlock_here ?_) | ((fail_if_success (with_reducible refine calls_id ?_)); go_step)))
  all_goals refine bodyPost_ret (v := .tuple #[.int .i64 (Alu.leftV m p true), .agg #[.int .i64 (a), .int .i64 (x), .int .i64 (y), .int .i64 (s), .int .i64 (Alu.leftQ m p true), .int .i64 (pc)]]) (by simp [results, Try.results17, go_sem, *]) rfl ⟨rfl, ?_⟩
  all_goals (repeat (first | (with_reducible exact hb) | (with_reducible exact hb.drew) | (with_reducible refine Below.drew ?_) | (with_reducible refine Below.setCell ?_ (by simp only []; omega) _)))
set_option maxRecDepth 100000 in
set_option maxHeartbeats 4000000 in
theorem rturn_LSR (r : Ex.Rg) (ok : r.ok) (m : Int) (g0 : 0 ≤ m) (g1 : m ≤ 255) (tag : ByteArray) (hk : tag.toList = [76, 83, 82]) (w : World) :
    Calls Try.prog 17 #[.string tag, rgI r, .int .i64 m] w fun e w' => e = .returned (.tuple #[.int .i64 (Ex.turnV .LSR r.p m), rgI (Ex.turnR .LSR r m)]) ∧ Below w.heap.size w w' := by
  have e0 : (tag.toList == [65, 83, 76]) = false := by rw [hk]; rfl
  have e1 : (tag.toList == [82, 79, 76]) = false := by rw [hk]; rfl
  have e2 : (tag.toList == [76, 83, 82]) = true := by rw [hk]; rfl
  have e3 : (tag.toList == [82, 79, 82]) = false := by rw [hk]; rfl
  have e4 : (tag.toList == [73, 78, 67]) = false := by rw [hk]; rfl
  have e5 : (tag.toList == [68, 69, 67]) = false := by rw [hk]; rfl
  have e6 : (tag.toList == [83, 76, 79]) = false := by rw [hk]; rfl
  have e7 : (tag.toList == [82, 76, 65]) = false := by rw [hk]; rfl
  have e8 : (tag.toList == [83, 82, 69]) = false := by rw [hk]; rfl
  have e9 : (tag.toList == [82, 82, 65]) = false := by rw [hk]; rfl
  have e10 : (tag.toList == [68, 67, 80]) = false := by rw [hk]; rfl
  have e11 : (tag.toList == [73, 83, 67]) = false := by rw [hk]; rfl
  clear hk
  obtain ⟨a, x, y, s, p, pc⟩ := r
  obtain ⟨a0, a1, x0, x1, y0, y1, s0, s1, p0, p1, pc0, pc1⟩ := ok
  simp only [] at a0 a1 x0 x1 y0 y1 s0 s1 p0 p1 pc0 pc1
  unfold rgI
  go_enter Try.func17, Try.ntmps17
  repeat (first | (with_reducible refine wp_abs _ (boxS_start .i64 .i64 _ _ a x y s p pc w) ?_) | go_step)
  rintro W hS
  have hS' := hS
  obtain ⟨c0, c1, c2, c3, c4, c5, f0, f1, f2, f3, f4, f5, d0, d1, d2, d3, d4, d5, r0, r1, r2, r3, r4, r5, hb, hn, hF⟩ := hS'
  (repeat (first | (with_reducible refine inBlock_far (by decide) ?_) | (with_reducible refine then_exit ?_) | (with_reducible refine inBlock_here ?_) | ((fail_if_success (with_reducible refine calls_id ?_)); go_step)))
  refine (rright_any m p false _ g0 g1 p0 p1).mono ?_
  rintro e w' ⟨rfl, rfl⟩
  simp only []
  (repeat (first | (with_reducible refine inBlock_far (by decide) ?_) | (with_reducible refine then_exit ?_) | (with_reducible refine inBlock_here ?_) | ((fail_if_success (with_reducible refine calls_id ?_)); go_step)))
  go_region
  all_goals (repeat (first | (with_reducible refine inBlock_far (by decide) ?_) | (with_reducible refine then_exit ?_) | (with_reducible refine inBlock_here ?_) | ((fail_if_success (with_reducible refine calls_id ?_)); go_step)))
  all_goals refine bodyPost_ret (v := .tuple #[.int .i64 (Alu.rightV m p false), .agg #[.int .i64 (a), .int .i64 (x), .int .i64 (y), .int .i64 (s), .int .i64 (Alu.rightQ m p false), .int .i64 (pc)]]) (by simp [results, Try.results17, go_sem, *]) rfl ⟨rfl, ?_⟩
  all_goals (repeat (first | (with_reducible exact hb) | (with_reducible exact hb.drew) | (with_reducible refine Below.drew ?_) | (with_reducible refine Below.setCell ?_ (by simp only []; omega) _)))
set_option maxRecDepth 100000 in
set_option maxHeartbeats 4000000 in
theorem rturn_ROR (r : Ex.Rg) (ok : r.ok) (m : Int) (g0 : 0 ≤ m) (g1 : m ≤ 255) (tag : ByteArray) (hk : tag.toList = [82, 79, 82]) (w : World) :
    Calls Try.prog 17 #[.string tag, rgI r, .int .i64 m] w fun e w' => e = .returned (.tuple #[.int .i64 (Ex.turnV .ROR r.p m), rgI (Ex.turnR .ROR r m)]) ∧ Below w.heap.size w w' := by
  have e0 : (tag.toList == [65, 83, 76]) = false := by rw [hk]; rfl
  have e1 : (tag.toList == [82, 79, 76]) = false := by rw [hk]; rfl
  have e2 : (tag.toList == [76, 83, 82]) = false := by rw [hk]; rfl
  have e3 : (tag.toList == [82, 79, 82]) = true := by rw [hk]; rfl
  have e4 : (tag.toList == [73, 78, 67]) = false := by rw [hk]; rfl
  have e5 : (tag.toList == [68, 69, 67]) = false := by rw [hk]; rfl
  have e6 : (tag.toList == [83, 76, 79]) = false := by rw [hk]; rfl
  have e7 : (tag.toList == [82, 76, 65]) = false := by rw [hk]; rfl
  have e8 : (tag.toList == [83, 82, 69]) = false := by rw [hk]; rfl
  have e9 : (tag.toList == [82, 82, 65]) = false := by rw [hk]; rfl
  have e10 : (tag.toList == [68, 67, 80]) = false := by rw [hk]; rfl
  have e11 : (tag.toList == [73, 83, 67]) = false := by rw [hk]; rfl
  clear hk
  obtain ⟨a, x, y, s, p, pc⟩ := r
  obtain ⟨a0, a1, x0, x1, y0, y1, s0, s1, p0, p1, pc0, pc1⟩ := ok
  simp only [] at a0 a1 x0 x1 y0 y1 s0 s1 p0 p1 pc0 pc1
  unfold rgI
  go_enter Try.func17, Try.ntmps17
  repeat (first | (with_reducible refine wp_abs _ (boxS_start .i64 .i64 _ _ a x y s p pc w) ?_) | go_step)
  rintro W hS
  have hS' := hS
  obtain ⟨c0, c1, c2, c3, c4, c5, f0, f1, f2, f3, f4, f5, d0, d1, d2, d3, d4, d5, r0, r1, r2, r3, r4, r5, hb, hn, hF⟩ := hS'
  (repeat (first | (with_reducible refine inBlock_far (by decide) ?_) | (with_reducible refine then_exit ?_) | (with_reducible refine inBlock_here ?_) | ((fail_if_success (with_reducible refine calls_id ?_)); go_step)))
  refine (rright_any m p true _ g0 g1 p0 p1).mono ?_
  rintro e w' ⟨rfl, rfl⟩
  simp only []
  (repeat (first | (with_reducible refine inBlock_far (by decide) ?_) | (with_reducible refine then_exit ?_) | (with_reducible refine inBlock_here ?_) | ((fail_if_success (with_reducible refine calls_id ?_)); go_step)))
  go_region
  all_goals (repeat (first | (with_reducible refine inBlock_far (by decide) ?_) | (with_reducible refine then_exit ?_) | (with_reducible refine inBlock_here ?_) | ((fail_if_success (with_reducible refine calls_id ?_)); go_step)))
  all_goals refine bodyPost_ret (v := .tuple #[.int .i64 (Alu.rightV m p true), .agg #[.int .i64 (a), .int .i64 (x), .int .i64 (y), .int .i64 (s), .int .i64 (Alu.rightQ m p true), .int .i64 (pc)]]) (by simp [results, Try.results17, go_sem, *]) rfl ⟨rfl, ?_⟩
  all_goals (repeat (first | (with_reducible exact hb) | (with_reducible exact hb.drew) | (with_reducible refine Below.drew ?_) | (with_reducible refine Below.setCell ?_ (by simp only []; omega) _)))
set_option maxRecDepth 100000 in
set_option maxHeartbeats 4000000 in
theorem rturn_INC (r : Ex.Rg) (ok : r.ok) (m : Int) (g0 : 0 ≤ m) (g1 : m ≤ 255) (tag : ByteArray) (hk : tag.toList = [73, 78, 67]) (w : World) :
    Calls Try.prog 17 #[.string tag, rgI r, .int .i64 m] w fun e w' => e = .returned (.tuple #[.int .i64 (Ex.turnV .INC r.p m), rgI (Ex.turnR .INC r m)]) ∧ Below w.heap.size w w' := by
  have e0 : (tag.toList == [65, 83, 76]) = false := by rw [hk]; rfl
  have e1 : (tag.toList == [82, 79, 76]) = false := by rw [hk]; rfl
  have e2 : (tag.toList == [76, 83, 82]) = false := by rw [hk]; rfl
  have e3 : (tag.toList == [82, 79, 82]) = false := by rw [hk]; rfl
  have e4 : (tag.toList == [73, 78, 67]) = true := by rw [hk]; rfl
  have e5 : (tag.toList == [68, 69, 67]) = false := by rw [hk]; rfl
  have e6 : (tag.toList == [83, 76, 79]) = false := by rw [hk]; rfl
  have e7 : (tag.toList == [82, 76, 65]) = false := by rw [hk]; rfl
  have e8 : (tag.toList == [83, 82, 69]) = false := by rw [hk]; rfl
  have e9 : (tag.toList == [82, 82, 65]) = false := by rw [hk]; rfl
  have e10 : (tag.toList == [68, 67, 80]) = false := by rw [hk]; rfl
  have e11 : (tag.toList == [73, 83, 67]) = false := by rw [hk]; rfl
  clear hk
  obtain ⟨a, x, y, s, p, pc⟩ := r
  obtain ⟨a0, a1, x0, x1, y0, y1, s0, s1, p0, p1, pc0, pc1⟩ := ok
  simp only [] at a0 a1 x0 x1 y0 y1 s0 s1 p0 p1 pc0 pc1
  unfold rgI
  go_enter Try.func17, Try.ntmps17
  repeat (first | (with_reducible refine wp_abs _ (boxS_start .i64 .i64 _ _ a x y s p pc w) ?_) | go_step)
  rintro W hS
  have hS' := hS
  obtain ⟨c0, c1, c2, c3, c4, c5, f0, f1, f2, f3, f4, f5, d0, d1, d2, d3, d4, d5, r0, r1, r2, r3, r4, r5, hb, hn, hF⟩ := hS'
  (repeat (first | (with_reducible refine inBlock_far (by decide) ?_) | (with_reducible refine then_exit ?_) | (with_reducible refine inBlock_here ?_) | ((fail_if_success (with_reducible refine calls_id ?_)); go_step)))
  refine calls_abs _ hS ?_
  clear hS c0 c1 c2 c3 c4 c5 f0 f1 f2 f3 f4 f5 d0 d1 d2 d3 d4 d5 r0 r1 r2 r3 r4 r5 hb hn hF
  rintro W1 hS
  refine (rmarked_any (a) (x) (y) (s) (p) (pc) ((m + 1) % 256) W1 p0 p1 (by omega) (by omega)).mono ?_
  rintro e w1 ⟨rfl, hw1⟩
  simp only []
  have hS2 := hS.next hw1 (Nat.le_refl _) hS.b.size
  clear hS
  obtain ⟨c0, c1, c2, c3, c4, c5, f0, f1, f2, f3, f4, f5, d0, d1, d2, d3, d4, d5, r0, r1, r2, r3, r4, r5, hb, hn, hF⟩ := hS2
  (repeat (first | (with_reducible refine inBlock_far (by decide) ?_) | (with_reducible refine then_exit ?_) | (with_reducible refine inBlock_here ?_) | ((fail_if_success (with_reducible refine calls_id ?_)); go_step)))
  all_goals refine bodyPost_ret (v := .tuple #[.int .i64 ((m + 1) % 256), .agg #[.int .i64 (a), .int .i64 (x), .int .i64 (y), .int .i64 (s), .int .i64 (Alu.markF p ((m + 1) % 256)), .int .i64 (pc)]]) (by simp [results, Try.results17, go_sem, *]) rfl ⟨rfl, ?_⟩
  all_goals (repeat (first | (with_reducible exact hb) | (with_reducible exact hb.drew) | (with_reducible refine Below.drew ?_) | (with_reducible refine Below.setCell ?_ (by simp only []; omega) _)))
set_option maxRecDepth 100000 in
set_option maxHeartbeats 4000000 in
theorem rturn_DEC (r : Ex.Rg) (ok : r.ok) (m : Int) (g0 : 0 ≤ m) (g1 : m ≤ 255) (tag : ByteArray) (hk : tag.toList = [68, 69, 67]) (w : World) :
    Calls Try.prog 17 #[.string tag, rgI r, .int .i64 m] w fun e w' => e = .returned (.tuple #[.int .i64 (Ex.turnV .DEC r.p m), rgI (Ex.turnR .DEC r m)]) ∧ Below w.heap.size w w' := by
  have e0 : (tag.toList == [65, 83, 76]) = false := by rw [hk]; rfl
  have e1 : (tag.toList == [82, 79, 76]) = false := by rw [hk]; rfl
  have e2 : (tag.toList == [76, 83, 82]) = false := by rw [hk]; rfl
  have e3 : (tag.toList == [82, 79, 82]) = false := by rw [hk]; rfl
  have e4 : (tag.toList == [73, 78, 67]) = false := by rw [hk]; rfl
  have e5 : (tag.toList == [68, 69, 67]) = true := by rw [hk]; rfl
  have e6 : (tag.toList == [83, 76, 79]) = false := by rw [hk]; rfl
  have e7 : (tag.toList == [82, 76, 65]) = false := by rw [hk]; rfl
  have e8 : (tag.toList == [83, 82, 69]) = false := by rw [hk]; rfl
  have e9 : (tag.toList == [82, 82, 65]) = false := by rw [hk]; rfl
  have e10 : (tag.toList == [68, 67, 80]) = false := by rw [hk]; rfl
  have e11 : (tag.toList == [73, 83, 67]) = false := by rw [hk]; rfl
  clear hk
  obtain ⟨a, x, y, s, p, pc⟩ := r
  obtain ⟨a0, a1, x0, x1, y0, y1, s0, s1, p0, p1, pc0, pc1⟩ := ok
  simp only [] at a0 a1 x0 x1 y0 y1 s0 s1 p0 p1 pc0 pc1
  have q1 : (m + 255) % 256 = (m - 1) % 256 := by omega
  unfold rgI
  go_enter Try.func17, Try.ntmps17
  repeat (first | (with_reducible refine wp_abs _ (boxS_start .i64 .i64 _ _ a x y s p pc w) ?_) | go_step)
  rintro W hS
  have hS' := hS
  obtain ⟨c0, c1, c2, c3, c4, c5, f0, f1, f2, f3, f4, f5, d0, d1, d2, d3, d4, d5, r0, r1, r2, r3, r4, r5, hb, hn, hF⟩ := hS'
  (repeat (first | (with_reducible refine inBlock_far (by decide) ?_) | (with_reducible refine then_exit ?_) | (with_reducible refine inBlock_here ?_) | ((fail_if_success (with_reducible refine calls_id ?_)); go_step)))
  refine calls_abs _ hS ?_
  clear hS c0 c1 c2 c3 c4 c5 f0 f1 f2 f3 f4 f5 d0 d1 d2 d3 d4 d5 r0 r1 r2 r3 r4 r5 hb hn hF
  rintro W1 hS
  refine (rmarked_any (a) (x) (y) (s) (p) (pc) ((m - 1) % 256) W1 p0 p1 (by omega) (by omega)).mono ?_
  rintro e w1 ⟨rfl, hw1⟩
  simp only []
  have hS2 := hS.next hw1 (Nat.le_refl _) hS.b.size
  clear hS
  obtain ⟨c0, c1, c2, c3, c4, c5, f0, f1, f2, f3, f4, f5, d0, d1, d2, d3, d4, d5, r0, r1, r2, r3, r4, r5, hb, hn, hF⟩ := hS2
  (repeat (first | (with_reducible refine inBlock_far (by decide) ?_) | (with_reducible refine then_exit ?_) | (with_reducible refine inBlock_here ?_) | ((fail_if_success (with_reducible refine calls_id ?_)); go_step)))
  all_goals refine bodyPost_ret (v := .tuple #[.int .i64 ((m - 1) % 256), .agg #[.int .i64 (a), .int .i64 (x), .int .i64 (y), .int .i64 (s), .int .i64 (Alu.markF p ((m - 1) % 256)), .int .i64 (pc)]]) (by simp [results, Try.results17, go_sem, *]) rfl ⟨rfl, ?_⟩
  all_goals (repeat (first | (with_reducible exact hb) | (with_reducible exact hb.drew) | (with_reducible refine Below.drew ?_) | (with_reducible refine Below.setCell ?_ (by simp only []; omega) _)))
set_option maxRecDepth 100000 in
set_option maxHeartbeats 4000000 in
theorem rturn_SLO (r : Ex.Rg) (ok : r.ok) (m : Int) (g0 : 0 ≤ m) (g1 : m ≤ 255) (tag : ByteArray) (hk : tag.toList = [83, 76, 79]) (w : World) :
    Calls Try.prog 17 #[.string tag, rgI r, .int .i64 m] w fun e w' => e = .returned (.tuple #[.int .i64 (Ex.turnV .SLO r.p m), rgI (Ex.turnR .SLO r m)]) ∧ Below w.heap.size w w' := by
  have e0 : (tag.toList == [65, 83, 76]) = false := by rw [hk]; rfl
  have e1 : (tag.toList == [82, 79, 76]) = false := by rw [hk]; rfl
  have e2 : (tag.toList == [76, 83, 82]) = false := by rw [hk]; rfl
  have e3 : (tag.toList == [82, 79, 82]) = false := by rw [hk]; rfl
  have e4 : (tag.toList == [73, 78, 67]) = false := by rw [hk]; rfl
  have e5 : (tag.toList == [68, 69, 67]) = false := by rw [hk]; rfl
  have e6 : (tag.toList == [83, 76, 79]) = true := by rw [hk]; rfl
  have e7 : (tag.toList == [82, 76, 65]) = false := by rw [hk]; rfl
  have e8 : (tag.toList == [83, 82, 69]) = false := by rw [hk]; rfl
  have e9 : (tag.toList == [82, 82, 65]) = false := by rw [hk]; rfl
  have e10 : (tag.toList == [68, 67, 80]) = false := by rw [hk]; rfl
  have e11 : (tag.toList == [73, 83, 67]) = false := by rw [hk]; rfl
  clear hk
  have v := Ex.turnV_in .SLO r.p m g0 g1
  have q := Ex.turnP_in .SLO r.p m ok.p0 ok.p1
  have hR := fun w' => rread_ORA { r with p := Ex.turnP .SLO r.p m } ⟨ok.a0, ok.a1, ok.x0, ok.x1, ok.y0, ok.y1, ok.s0, ok.s1, q.1, q.2, ok.pc0, ok.pc1⟩ (Ex.turnV .SLO r.p m) v.1 v.2 ⟨#[79, 82, 65]⟩ (by decide +kernel) w'
  rw [show Ex.readF .ORA { r with p := Ex.turnP .SLO r.p m } (Ex.turnV .SLO r.p m) = Ex.turnR .SLO r m from rfl] at hR
  have hT := fun w' => rturn_ASL r ok m g0 g1 ⟨#[65, 83, 76]⟩ (by decide +kernel) w'
  rw [show Ex.turnR .ASL r m = { r with p := Ex.turnP .SLO r.p m } from rfl, show Ex.turnV .ASL r.p m = Ex.turnV .SLO r.p m from rfl] at hT
  generalize Ex.turnR .SLO r m = E at *
  obtain ⟨ea, ex, ey, es, ep, epc⟩ := E
  obtain ⟨a, x, y, s, p, pc⟩ := r
  obtain ⟨a0, a1, x0, x1, y0, y1, s0, s1, p0, p1, pc0, pc1⟩ := ok
  simp only [] at a0 a1 x0 x1 y0 y1 s0 s1 p0 p1 pc0 pc1
  simp only [rgI] at hR hT
  unfold rgI
  go_enter Try.func17, Try.ntmps17
  repeat (first | (with_reducible refine wp_abs _ (boxS_start .i64 .i64 _ _ a x y s p pc w) ?_) | go_step)
  rintro W hS
  have hS' := hS
  obtain ⟨c0, c1, c2, c3, c4, c5, f0, f1, f2, f3, f4, f5, d0, d1, d2, d3, d4, d5, r0, r1, r2, r3, r4, r5, hb, hn, hF⟩ := hS'
  (repeat (first | (with_reducible refine inBlock_far (by decide) ?_) | (with_reducible refine then_exit ?_) | (with_reducible refine inBlock_here ?_) | ((fail_if_success (with_reducible refine calls_id ?_)); go_step)))
  refine (hT _).mono ?_
  rintro e w1 ⟨rfl, hw1⟩
  simp only []
  have hS2 := hS.next hw1 (Nat.le_refl _) hS.b.size
  clear hS c0 c1 c2 c3 c4 c5 f0 f1 f2 f3 f4 f5 d0 d1 d2 d3 d4 d5 r0 r1 r2 r3 r4 r5 hb hn hF
  have hS2b := hS2
  obtain ⟨c0, c1, c2, c3, c4, c5, f0, f1, f2, f3, f4, f5, d0, d1, d2, d3, d4, d5, r0, r1, r2, r3, r4, r5, hb, hn, hF⟩ := hS2b
  (repeat (first | (with_reducible refine inBlock_far (by decide) ?_) | (with_reducible refine then_exit ?_) | (with_reducible refine inBlock_here ?_) | ((fail_if_success (with_reducible refine calls_id ?_)); go_step)))
  refine (hR _).mono ?_
  rintro e w2 ⟨rfl, hw2⟩
  simp only []
  have hS3 := (hS2.next ((Below.refl _ _).alloc (Nat.le_refl _) _) (Nat.le_refl _) hS2.b.size).next hw2 (Nat.le_refl _) (by have := hS2.b.size; simp only [World.size_alloc]; omega)
  clear hS2 c0 c1 c2 c3 c4 c5 f0 f1 f2 f3 f4 f5 d0 d1 d2 d3 d4 d5 r0 r1 r2 r3 r4 r5 hb hn hF
  obtain ⟨c0, c1, c2, c3, c4, c5, f0, f1, f2, f3, f4, f5, d0, d1, d2, d3, d4, d5, r0, r1, r2, r3, r4, r5, hb, hn, hF⟩ := hS3
  (repeat (first | (with_reducible refine inBlock_far (by decide) ?_) | (with_reducible refine then_exit ?_) | (with_reducible refine inBlock_here ?_) | ((fail_if_success (with_reducible refine calls_id ?_)); go_step)))
  all_goals refine bodyPost_ret (v := .tuple #[.int .i64 (Ex.turnV .SLO p m), .agg #[.int .i64 (ea), .int .i64 (ex), .int .i64 (ey), .int .i64 (es), .int .i64 (ep), .int .i64 (epc)]]) (by simp [results, Try.results17, go_sem, *]) rfl ⟨rfl, ?_⟩
  all_goals (repeat (first | (with_reducible exact hb) | (with_reducible exact hb.drew) | (with_reducible refine Below.drew ?_) | (with_reducible refine Below.setCell ?_ (by simp only []; omega) _)))
set_option maxRecDepth 100000 in
set_option maxHeartbeats 4000000 in
theorem rturn_RLA (r : Ex.Rg) (ok : r.ok) (m : Int) (g0 : 0 ≤ m) (g1 : m ≤ 255) (tag : ByteArray) (hk : tag.toList = [82, 76, 65]) (w : World) :
    Calls Try.prog 17 #[.string tag, rgI r, .int .i64 m] w fun e w' => e = .returned (.tuple #[.int .i64 (Ex.turnV .RLA r.p m), rgI (Ex.turnR .RLA r m)]) ∧ Below w.heap.size w w' := by
  have e0 : (tag.toList == [65, 83, 76]) = false := by rw [hk]; rfl
  have e1 : (tag.toList == [82, 79, 76]) = false := by rw [hk]; rfl
  have e2 : (tag.toList == [76, 83, 82]) = false := by rw [hk]; rfl
  have e3 : (tag.toList == [82, 79, 82]) = false := by rw [hk]; rfl
  have e4 : (tag.toList == [73, 78, 67]) = false := by rw [hk]; rfl
  have e5 : (tag.toList == [68, 69, 67]) = false := by rw [hk]; rfl
  have e6 : (tag.toList == [83, 76, 79]) = false := by rw [hk]; rfl
  have e7 : (tag.toList == [82, 76, 65]) = true := by rw [hk]; rfl
  have e8 : (tag.toList == [83, 82, 69]) = false := by rw [hk]; rfl
  have e9 : (tag.toList == [82, 82, 65]) = false := by rw [hk]; rfl
  have e10 : (tag.toList == [68, 67, 80]) = false := by rw [hk]; rfl
  have e11 : (tag.toList == [73, 83, 67]) = false := by rw [hk]; rfl
  clear hk
  have v := Ex.turnV_in .RLA r.p m g0 g1
  have q := Ex.turnP_in .RLA r.p m ok.p0 ok.p1
  have hR := fun w' => rread_AND { r with p := Ex.turnP .RLA r.p m } ⟨ok.a0, ok.a1, ok.x0, ok.x1, ok.y0, ok.y1, ok.s0, ok.s1, q.1, q.2, ok.pc0, ok.pc1⟩ (Ex.turnV .RLA r.p m) v.1 v.2 ⟨#[65, 78, 68]⟩ (by decide +kernel) w'
  rw [show Ex.readF .AND { r with p := Ex.turnP .RLA r.p m } (Ex.turnV .RLA r.p m) = Ex.turnR .RLA r m from rfl] at hR
  have hT := fun w' => rturn_ROL r ok m g0 g1 ⟨#[82, 79, 76]⟩ (by decide +kernel) w'
  rw [show Ex.turnR .ROL r m = { r with p := Ex.turnP .RLA r.p m } from rfl, show Ex.turnV .ROL r.p m = Ex.turnV .RLA r.p m from rfl] at hT
  generalize Ex.turnR .RLA r m = E at *
  obtain ⟨ea, ex, ey, es, ep, epc⟩ := E
  obtain ⟨a, x, y, s, p, pc⟩ := r
  obtain ⟨a0, a1, x0, x1, y0, y1, s0, s1, p0, p1, pc0, pc1⟩ := ok
  simp only [] at a0 a1 x0 x1 y0 y1 s0 s1 p0 p1 pc0 pc1
  simp only [rgI] at hR hT
  unfold rgI
  go_enter Try.func17, Try.ntmps17
  repeat (first | (with_reducible refine wp_abs _ (boxS_start .i64 .i64 _ _ a x y s p pc w) ?_) | go_step)
  rintro W hS
  have hS' := hS
  obtain ⟨c0, c1, c2, c3, c4, c5, f0, f1, f2, f3, f4, f5, d0, d1, d2, d3, d4, d5, r0, r1, r2, r3, r4, r5, hb, hn, hF⟩ := hS'
  (repeat (first | (with_reducible refine inBlock_far (by decide) ?_) | (with_reducible refine then_exit ?_) | (with_reducible refine inBlock_here ?_) | ((fail_if_success (with_reducible refine calls_id ?_)); go_step)))
  refine (hT _).mono ?_
  rintro e w1 ⟨rfl, hw1⟩
  simp only []
  have hS2 := hS.next hw1 (Nat.le_refl _) hS.b.size
  clear hS c0 c1 c2 c3 c4 c5 f0 f1 f2 f3 f4 f5 d0 d1 d2 d3 d4 d5 r0 r1 r2 r3 r4 r5 hb hn hF
  have hS2b := hS2
  obtain ⟨c0, c1, c2, c3, c4, c5, f0, f1, f2, f3, f4, f5, d0, d1, d2, d3, d4, d5, r0, r1, r2, r3, r4, r5, hb, hn, hF⟩ := hS2b
  (repeat (first | (with_reducible refine inBlock_far (by decide) ?_) | (with_reducible refine then_exit ?_) | (with_reducible refine inBlock_here ?_) | ((fail_if_success (with_reducible refine calls_id ?_)); go_step)))
  refine (hR _).mono ?_
  rintro e w2 ⟨rfl, hw2⟩
  simp only []
  have hS3 := (hS2.next ((Below.refl _ _).alloc (Nat.le_refl _) _) (Nat.le_refl _) hS2.b.size).next hw2 (Nat.le_refl _) (by have := hS2.b.size; simp only [World.size_alloc]; omega)
  clear hS2 c0 c1 c2 c3 c4 c5 f0 f1 f2 f3 f4 f5 d0 d1 d2 d3 d4 d5 r0 r1 r2 r3 r4 r5 hb hn hF
  obtain ⟨c0, c1, c2, c3, c4, c5, f0, f1, f2, f3, f4, f5, d0, d1, d2, d3, d4, d5, r0, r1, r2, r3, r4, r5, hb, hn, hF⟩ := hS3
  (repeat (first | (with_reducible refine inBlock_far (by decide) ?_) | (with_reducible refine then_exit ?_) | (with_reducible refine inBlock_here ?_) | ((fail_if_success (with_reducible refine calls_id ?_)); go_step)))
  all_goals refine bodyPost_ret (v := .tuple #[.int .i64 (Ex.turnV .RLA p m), .agg #[.int .i64 (ea), .int .i64 (ex), .int .i64 (ey), .int .i64 (es), .int .i64 (ep), .int .i64 (epc)]]) (by simp [results, Try.results17, go_sem, *]) rfl ⟨rfl, ?_⟩
  all_goals (repeat (first | (with_reducible exact hb) | (with_reducible exact hb.drew) | (with_reducible refine Below.drew ?_) | (with_reducible refine Below.setCell ?_ (by simp only []; omega) _)))
set_option maxRecDepth 100000 in
set_option maxHeartbeats 4000000 in
theorem rturn_SRE (r : Ex.Rg) (ok : r.ok) (m : Int) (g0 : 0 ≤ m) (g1 : m ≤ 255) (tag : ByteArray) (hk : tag.toList = [83, 82, 69]) (w : World) :
    Calls Try.prog 17 #[.string tag, rgI r, .int .i64 m] w fun e w' => e = .returned (.tuple #[.int .i64 (Ex.turnV .SRE r.p m), rgI (Ex.turnR .SRE r m)]) ∧ Below w.heap.size w w' := by
  have e0 : (tag.toList == [65, 83, 76]) = false := by rw [hk]; rfl
  have e1 : (tag.toList == [82, 79, 76]) = false := by rw [hk]; rfl
  have e2 : (tag.toList == [76, 83, 82]) = false := by rw [hk]; rfl
  have e3 : (tag.toList == [82, 79, 82]) = false := by rw [hk]; rfl
  have e4 : (tag.toList == [73, 78, 67]) = false := by rw [hk]; rfl
  have e5 : (tag.toList == [68, 69, 67]) = false := by rw [hk]; rfl
  have e6 : (tag.toList == [83, 76, 79]) = false := by rw [hk]; rfl
  have e7 : (tag.toList == [82, 76, 65]) = false := by rw [hk]; rfl
  have e8 : (tag.toList == [83, 82, 69]) = true := by rw [hk]; rfl
  have e9 : (tag.toList == [82, 82, 65]) = false := by rw [hk]; rfl
  have e10 : (tag.toList == [68, 67, 80]) = false := by rw [hk]; rfl
  have e11 : (tag.toList == [73, 83, 67]) = false := by rw [hk]; rfl
  clear hk
  have v := Ex.turnV_in .SRE r.p m g0 g1
  have q := Ex.turnP_in .SRE r.p m ok.p0 ok.p1
  have hR := fun w' => rread_EOR { r with p := Ex.turnP .SRE r.p m } ⟨ok.a0, ok.a1, ok.x0, ok.x1, ok.y0, ok.y1, ok.s0, ok.s1, q.1, q.2, ok.pc0, ok.pc1⟩ (Ex.turnV .SRE r.p m) v.1 v.2 ⟨#[69, 79, 82]⟩ (by decide +kernel) w'
  rw [show Ex.readF .EOR { r with p := Ex.turnP .SRE r.p m } (Ex.turnV .SRE r.p m) = Ex.turnR .SRE r m from rfl] at hR
  have hT := fun w' => rturn_LSR r ok m g0 g1 ⟨#[76, 83, 82]⟩ (by decide +kernel) w'
  rw [show Ex.turnR .LSR r m = { r with p := Ex.turnP .SRE r.p m } from rfl, show Ex.turnV .LSR r.p m = Ex.turnV .SRE r.p m from rfl] at hT
  generalize Ex.turnR .SRE r m = E at *
  obtain ⟨ea, ex, ey, es, ep, epc⟩ := E
  obtain ⟨a, x, y, s, p, pc⟩ := r
  obtain ⟨a0, a1, x0, x1, y0, y1, s0, s1, p0, p1, pc0, pc1⟩ := ok
  simp only [] at a0 a1 x0 x1 y0 y1 s0 s1 p0 p1 pc0 pc1
  simp only [rgI] at hR hT
  unfold rgI
  go_enter Try.func17, Try.ntmps17
  repeat (first | (with_reducible refine wp_abs _ (boxS_start .i64 .i64 _ _ a x y s p pc w) ?_) | go_step)
  rintro W hS
  have hS' := hS
  obtain ⟨c0, c1, c2, c3, c4, c5, f0, f1, f2, f3, f4, f5, d0, d1, d2, d3, d4, d5, r0, r1, r2, r3, r4, r5, hb, hn, hF⟩ := hS'
  (repeat (first | (with_reducible refine inBlock_far (by decide) ?_) | (with_reducible refine then_exit ?_) | (with_reducible refine inBlock_here ?_) | ((fail_if_success (with_reducible refine calls_id ?_)); go_step)))
  refine (hT _).mono ?_
  rintro e w1 ⟨rfl, hw1⟩
  simp only []
  have hS2 := hS.next hw1 (Nat.le_refl _) hS.b.size
  clear hS c0 c1 c2 c3 c4 c5 f0 f1 f2 f3 f4 f5 d0 d1 d2 d3 d4 d5 r0 r1 r2 r3 r4 r5 hb hn hF
  have hS2b := hS2
  obtain ⟨c0, c1, c2, c3, c4, c5, f0, f1, f2, f3, f4, f5, d0, d1, d2, d3, d4, d5, r0, r1, r2, r3, r4, r5, hb, hn, hF⟩ := hS2b
  (repeat (first | (with_reducible refine inBlock_far (by decide) ?_) | (with_reducible refine then_exit ?_) | (with_reducible refine inBlock_here ?_) | ((fail_if_success (with_reducible refine calls_id ?_)); go_step)))
  refine (hR _).mono ?_
  rintro e w2 ⟨rfl, hw2⟩
  simp only []
  have hS3 := (hS2.next ((Below.refl _ _).alloc (Nat.le_refl _) _) (Nat.le_refl _) hS2.b.size).next hw2 (Nat.le_refl _) (by have := hS2.b.size; simp only [World.size_alloc]; omega)
  clear hS2 c0 c1 c2 c3 c4 c5 f0 f1 f2 f3 f4 f5 d0 d1 d2 d3 d4 d5 r0 r1 r2 r3 r4 r5 hb hn hF
  obtain ⟨c0, c1, c2, c3, c4, c5, f0, f1, f2, f3, f4, f5, d0, d1, d2, d3, d4, d5, r0, r1, r2, r3, r4, r5, hb, hn, hF⟩ := hS3
  (repeat (first | (with_reducible refine inBlock_far (by decide) ?_) | (with_reducible refine then_exit ?_) | (with_reducible refine inBlock_here ?_) | ((fail_if_success (with_reducible refine calls_id ?_)); go_step)))
  all_goals refine bodyPost_ret (v := .tuple #[.int .i64 (Ex.turnV .SRE p m), .agg #[.int .i64 (ea), .int .i64 (ex), .int .i64 (ey), .int .i64 (es), .int .i64 (ep), .int .i64 (epc)]]) (by simp [results, Try.results17, go_sem, *]) rfl ⟨rfl, ?_⟩
  all_goals (repeat (first | (with_reducible exact hb) | (with_reducible exact hb.drew) | (with_reducible refine Below.drew ?_) | (with_reducible refine Below.setCell ?_ (by simp only []; omega) _)))
set_option maxRecDepth 100000 in
set_option maxHeartbeats 4000000 in
theorem rturn_RRA (r : Ex.Rg) (ok : r.ok) (m : Int) (g0 : 0 ≤ m) (g1 : m ≤ 255) (tag : ByteArray) (hk : tag.toList = [82, 82, 65]) (w : World) :
    Calls Try.prog 17 #[.string tag, rgI r, .int .i64 m] w fun e w' => e = .returned (.tuple #[.int .i64 (Ex.turnV .RRA r.p m), rgI (Ex.turnR .RRA r m)]) ∧ Below w.heap.size w w' := by
  have e0 : (tag.toList == [65, 83, 76]) = false := by rw [hk]; rfl
  have e1 : (tag.toList == [82, 79, 76]) = false := by rw [hk]; rfl
  have e2 : (tag.toList == [76, 83, 82]) = false := by rw [hk]; rfl
  have e3 : (tag.toList == [82, 79, 82]) = false := by rw [hk]; rfl
  have e4 : (tag.toList == [73, 78, 67]) = false := by rw [hk]; rfl
  have e5 : (tag.toList == [68, 69, 67]) = false := by rw [hk]; rfl
  have e6 : (tag.toList == [83, 76, 79]) = false := by rw [hk]; rfl
  have e7 : (tag.toList == [82, 76, 65]) = false := by rw [hk]; rfl
  have e8 : (tag.toList == [83, 82, 69]) = false := by rw [hk]; rfl
  have e9 : (tag.toList == [82, 82, 65]) = true := by rw [hk]; rfl
  have e10 : (tag.toList == [68, 67, 80]) = false := by rw [hk]; rfl
  have e11 : (tag.toList == [73, 83, 67]) = false := by rw [hk]; rfl
  clear hk
  have v := Ex.turnV_in .RRA r.p m g0 g1
  have q := Ex.turnP_in .RRA r.p m ok.p0 ok.p1
  have hR := fun w' => rread_ADC { r with p := Ex.turnP .RRA r.p m } ⟨ok.a0, ok.a1, ok.x0, ok.x1, ok.y0, ok.y1, ok.s0, ok.s1, q.1, q.2, ok.pc0, ok.pc1⟩ (Ex.turnV .RRA r.p m) v.1 v.2 ⟨#[65, 68, 67]⟩ (by decide +kernel) w'
  rw [show Ex.readF .ADC { r with p := Ex.turnP .RRA r.p m } (Ex.turnV .RRA r.p m) = Ex.turnR .RRA r m from rfl] at hR
  have hT := fun w' => rturn_ROR r ok m g0 g1 ⟨#[82, 79, 82]⟩ (by decide +kernel) w'
  rw [show Ex.turnR .ROR r m = { r with p := Ex.turnP .RRA r.p m } from rfl, show Ex.turnV .ROR r.p m = Ex.turnV .RRA r.p m from rfl] at hT
  generalize Ex.turnR .RRA r m = E at *
  obtain ⟨ea, ex, ey, es, ep, epc⟩ := E
  obtain ⟨a, x, y, s, p, pc⟩ := r
  obtain ⟨a0, a1, x0, x1, y0, y1, s0, s1, p0, p1, pc0, pc1⟩ := ok
  simp only [] at a0 a1 x0 x1 y0 y1 s0 s1 p0 p1 pc0 pc1
  simp only [rgI] at hR hT
  unfold rgI
  go_enter Try.func17, Try.ntmps17
  repeat (first | (with_reducible refine wp_abs _ (boxS_start .i64 .i64 _ _ a x y s p pc w) ?_) | go_step)
  rintro W hS
  have hS' := hS
  obtain ⟨c0, c1, c2, c3, c4, c5, f0, f1, f2, f3, f4, f5, d0, d1, d2, d3, d4, d5, r0, r1, r2, r3, r4, r5, hb, hn, hF⟩ := hS'
  (repeat (first | (with_reducible refine inBlock_far (by decide) ?_) | (with_reducible refine then_exit ?_) | (with_reducible refine inBlock_here ?_) | ((fail_if_success (with_reducible refine calls_id ?_)); go_step)))
  refine (hT _).mono ?_
  rintro e w1 ⟨rfl, hw1⟩
  simp only []
  have hS2 := hS.next hw1 (Nat.le_refl _) hS.b.size
  clear hS c0 c1 c2 c3 c4 c5 f0 f1 f2 f3 f4 f5 d0 d1 d2 d3 d4 d5 r0 r1 r2 r3 r4 r5 hb hn hF
  have hS2b := hS2
  obtain ⟨c0, c1, c2, c3, c4, c5, f0, f1, f2, f3, f4, f5, d0, d1, d2, d3, d4, d5, r0, r1, r2, r3, r4, r5, hb, hn, hF⟩ := hS2b
  (repeat (first | (with_reducible refine inBlock_far (by decide) ?_) | (with_reducible refine then_exit ?_) | (with_reducible refine inBlock_here ?_) | ((fail_if_success (with_reducible refine calls_id ?_)); go_step)))
  refine (hR _).mono ?_
  rintro e w2 ⟨rfl, hw2⟩
  simp only []
  have hS3 := (hS2.next ((Below.refl _ _).alloc (Nat.le_refl _) _) (Nat.le_refl _) hS2.b.size).next hw2 (Nat.le_refl _) (by have := hS2.b.size; simp only [World.size_alloc]; omega)
  clear hS2 c0 c1 c2 c3 c4 c5 f0 f1 f2 f3 f4 f5 d0 d1 d2 d3 d4 d5 r0 r1 r2 r3 r4 r5 hb hn hF
  obtain ⟨c0, c1, c2, c3, c4, c5, f0, f1, f2, f3, f4, f5, d0, d1, d2, d3, d4, d5, r0, r1, r2, r3, r4, r5, hb, hn, hF⟩ := hS3
  (repeat (first | (with_reducible refine inBlock_far (by decide) ?_) | (with_reducible refine then_exit ?_) | (with_reducible refine inBlock_here ?_) | ((fail_if_success (with_reducible refine calls_id ?_)); go_step)))
  all_goals refine bodyPost_ret (v := .tuple #[.int .i64 (Ex.turnV .RRA p m), .agg #[.int .i64 (ea), .int .i64 (ex), .int .i64 (ey), .int .i64 (es), .int .i64 (ep), .int .i64 (epc)]]) (by simp [results, Try.results17, go_sem, *]) rfl ⟨rfl, ?_⟩
  all_goals (repeat (first | (with_reducible exact hb) | (with_reducible exact hb.drew) | (with_reducible refine Below.drew ?_) | (with_reducible refine Below.setCell ?_ (by simp only []; omega) _)))
set_option maxRecDepth 100000 in
set_option maxHeartbeats 4000000 in
theorem rturn_DCP (r : Ex.Rg) (ok : r.ok) (m : Int) (g0 : 0 ≤ m) (g1 : m ≤ 255) (tag : ByteArray) (hk : tag.toList = [68, 67, 80]) (w : World) :
    Calls Try.prog 17 #[.string tag, rgI r, .int .i64 m] w fun e w' => e = .returned (.tuple #[.int .i64 (Ex.turnV .DCP r.p m), rgI (Ex.turnR .DCP r m)]) ∧ Below w.heap.size w w' := by
  have e0 : (tag.toList == [65, 83, 76]) = false := by rw [hk]; rfl
  have e1 : (tag.toList == [82, 79, 76]) = false := by rw [hk]; rfl
  have e2 : (tag.toList == [76, 83, 82]) = false := by rw [hk]; rfl
  have e3 : (tag.toList == [82, 79, 82]) = false := by rw [hk]; rfl
  have e4 : (tag.toList == [73, 78, 67]) = false := by rw [hk]; rfl
  have e5 : (tag.toList == [68, 69, 67]) = false := by rw [hk]; rfl
  have e6 : (tag.toList == [83, 76, 79]) = false := by rw [hk]; rfl
  have e7 : (tag.toList == [82, 76, 65]) = false := by rw [hk]; rfl
  have e8 : (tag.toList == [83, 82, 69]) = false := by rw [hk]; rfl
  have e9 : (tag.toList == [82, 82, 65]) = false := by rw [hk]; rfl
  have e10 : (tag.toList == [68, 67, 80]) = true := by rw [hk]; rfl
  have e11 : (tag.toList == [73, 83, 67]) = false := by rw [hk]; rfl
  clear hk
  have v := Ex.turnV_in .DCP r.p m g0 g1
  have q := Ex.turnP_in .DCP r.p m ok.p0 ok.p1
  have hR := fun w' => rread_CMP { r with p := Ex.turnP .DCP r.p m } ⟨ok.a0, ok.a1, ok.x0, ok.x1, ok.y0, ok.y1, ok.s0, ok.s1, q.1, q.2, ok.pc0, ok.pc1⟩ (Ex.turnV .DCP r.p m) v.1 v.2 ⟨#[67, 77, 80]⟩ (by decide +kernel) w'
  rw [show Ex.readF .CMP { r with p := Ex.turnP .DCP r.p m } (Ex.turnV .DCP r.p m) = Ex.turnR .DCP r m from rfl] at hR
  generalize Ex.turnR .DCP r m = E at *
  obtain ⟨ea, ex, ey, es, ep, epc⟩ := E
  obtain ⟨a, x, y, s, p, pc⟩ := r
  obtain ⟨a0, a1, x0, x1, y0, y1, s0, s1, p0, p1, pc0, pc1⟩ := ok
  simp only [] at a0 a1 x0 x1 y0 y1 s0 s1 p0 p1 pc0 pc1
  simp only [rgI] at hR
  have q1 : (m + 255) % 256 = Ex.turnV .DCP p m := by show (m + 255) % 256 = (m - 1) % 256; omega
  rw [show Ex.turnP .DCP p m = p from rfl] at hR
  unfold rgI
  go_enter Try.func17, Try.ntmps17
  repeat (first | (with_reducible refine wp_abs _ (boxS_start .i64 .i64 _ _ a x y s p pc w) ?_) | go_step)
  rintro W hS
  have hS' := hS
  obtain ⟨c0, c1, c2, c3, c4, c5, f0, f1, f2, f3, f4, f5, d0, d1, d2, d3, d4, d5, r0, r1, r2, r3, r4, r5, hb, hn, hF⟩ := hS'
  (repeat (first | (with_reducible refine inBlock_far (by decide) ?_) | (with_reducible refine then_exit ?_) | (with_reducible refine inBlock_here ?_) | ((fail_if_success (with_reducible refine calls_id ?_)); go_step)))
  refine (hR _).mono ?_
  rintro e w2 ⟨rfl, hw2⟩
  simp only []
  have hS3 := hS.next hw2 (Nat.le_refl _) hS.b.size
  clear hS c0 c1 c2 c3 c4 c5 f0 f1 f2 f3 f4 f5 d0 d1 d2 d3 d4 d5 r0 r1 r2 r3 r4 r5 hb hn hF
  obtain ⟨c0, c1, c2, c3, c4, c5, f0, f1, f2, f3, f4, f5, d0, d1, d2, d3, d4, d5, r0, r1, r2, r3, r4, r5, hb, hn, hF⟩ := hS3
  (repeat (first | (with_reducible refine inBlock_far (by decide) ?_) | (with_reducible refine then_exit ?_) | (with_reducible refine inBlock_here ?_) | ((fail_if_success (with_reducible refine calls_id ?_)); go_step)))
  all_goals refine bodyPost_ret (v := .tuple #[.int .i64 (Ex.turnV .DCP p m), .agg #[.int .i64 (ea), .int .i64 (ex), .int .i64 (ey), .int .i64 (es), .int .i64 (ep), .int .i64 (epc)]]) (by simp [results, Try.results17, go_sem, *]) rfl ⟨rfl, ?_⟩
  all_goals (repeat (first | (with_reducible exact hb) | (with_reducible exact hb.drew) | (with_reducible refine Below.drew ?_) | (with_reducible refine Below.setCell ?_ (by simp only []; omega) _)))
set_option maxRecDepth 100000 in
set_option maxHeartbeats 4000000 in
theorem rturn_ISC (r : Ex.Rg) (ok : r.ok) (m : Int) (g0 : 0 ≤ m) (g1 : m ≤ 255) (tag : ByteArray) (hk : tag.toList = [73, 83, 67]) (w : World) :
    Calls Try.prog 17 #[.string tag, rgI r, .int .i64 m] w fun e w' => e = .returned (.tuple #[.int .i64 (Ex.turnV .ISC r.p m), rgI (Ex.turnR .ISC r m)]) ∧ Below w.heap.size w w' := by
  have e0 : (tag.toList == [65, 83, 76]) = false := by rw [hk]; rfl
  have e1 : (tag.toList == [82, 79, 76]) = false := by rw [hk]; rfl
  have e2 : (tag.toList == [76, 83, 82]) = false := by rw [hk]; rfl
  have e3 : (tag.toList == [82, 79, 82]) = false := by rw [hk]; rfl
  have e4 : (tag.toList == [73, 78, 67]) = false := by rw [hk]; rfl
  have e5 : (tag.toList == [68, 69, 67]) = false := by rw [hk]; rfl
  have e6 : (tag.toList == [83, 76, 79]) = false := by rw [hk]; rfl
  have e7 : (tag.toList == [82, 76, 65]) = false := by rw [hk]; rfl
  have e8 : (tag.toList == [83, 82, 69]) = false := by rw [hk]; rfl
  have e9 : (tag.toList == [82, 82, 65]) = false := by rw [hk]; rfl
  have e10 : (tag.toList == [68, 67, 80]) = false := by rw [hk]; rfl
  have e11 : (tag.toList == [73, 83, 67]) = true := by rw [hk]; rfl
  clear hk
  have v := Ex.turnV_in .ISC r.p m g0 g1
  have q := Ex.turnP_in .ISC r.p m ok.p0 ok.p1
  have hR := fun w' => rread_SBC { r with p := Ex.turnP .ISC r.p m } ⟨ok.a0, ok.a1, ok.x0, ok.x1, ok.y0, ok.y1, ok.s0, ok.s1, q.1, q.2, ok.pc0, ok.pc1⟩ (Ex.turnV .ISC r.p m) v.1 v.2 ⟨#[83, 66, 67]⟩ (by decide +kernel) w'
  rw [show Ex.readF .SBC { r with p := Ex.turnP .ISC r.p m } (Ex.turnV .ISC r.p m) = Ex.turnR .ISC r m from rfl] at hR
  generalize Ex.turnR .ISC r m = E at *
  obtain ⟨ea, ex, ey, es, ep, epc⟩ := E
  obtain ⟨a, x, y, s, p, pc⟩ := r
  obtain ⟨a0, a1, x0, x1, y0, y1, s0, s1, p0, p1, pc0, pc1⟩ := ok
  simp only [] at a0 a1 x0 x1 y0 y1 s0 s1 p0 p1 pc0 pc1
  simp only [rgI] at hR
  have q1 : (m + 1) % 256 = Ex.turnV .ISC p m := rfl
  rw [show Ex.turnP .ISC p m = p from rfl] at hR
  unfold rgI
  go_enter Try.func17, Try.ntmps17
  repeat (first | (with_reducible refine wp_abs _ (boxS_start .i64 .i64 _ _ a x y s p pc w) ?_) | go_step)
  rintro W hS
  have hS' := hS
  obtain ⟨c0, c1, c2, c3, c4, c5, f0, f1, f2, f3, f4, f5, d0, d1, d2, d3, d4, d5, r0, r1, r2, r3, r4, r5, hb, hn, hF⟩ := hS'
  (repeat (first | (with_reducible refine inBlock_far (by decide) ?_) | (with_reducible refine then_exit ?_) | (with_reducible refine inBlock_here ?_) | ((fail_if_success (with_reducible refine calls_id ?_)); go_step)))
  refine (hR _).mono ?_
  rintro e w2 ⟨rfl, hw2⟩
  simp only []
  have hS3 := hS.next hw2 (Nat.le_refl _) hS.b.size
  clear hS c0 c1 c2 c3 c4 c5 f0 f1 f2 f3 f4 f5 d0 d1 d2 d3 d4 d5 r0 r1 r2 r3 r4 r5 hb hn hF
  obtain ⟨c0, c1, c2, c3, c4, c5, f0, f1, f2, f3, f4, f5, d0, d1, d2, d3, d4, d5, r0, r1, r2, r3, r4, r5, hb, hn, hF⟩ := hS3
  (repeat (first | (with_reducible refine inBlock_far (by decide) ?_) | (with_reducible refine then_exit ?_) | (with_reducible refine inBlock_here ?_) | ((fail_if_success (with_reducible refine calls_id ?_)); go_step)))
  all_goals refine bodyPost_ret (v := .tuple #[.int .i64 (Ex.turnV .ISC p m), .agg #[.int .i64 (ea), .int .i64 (ex), .int .i64 (ey), .int .i64 (es), .int .i64 (ep), .int .i64 (epc)]]) (by simp [results, Try.results17, go_sem, *]) rfl ⟨rfl, ?_⟩
  all_goals (repeat (first | (with_reducible exact hb) | (with_reducible exact hb.drew) | (with_reducible refine Below.drew ?_) | (with_reducible refine Below.setCell ?_ (by simp only []; omega) _)))
set_option maxRecDepth 100000 in
set_option maxHeartbeats 4000000 in
theorem rturn_other (r : Ex.Rg) (ok : r.ok) (m : Int) (g0 : 0 ≤ m) (g1 : m ≤ 255) (tag : ByteArray) (hk : ∀ l ∈ Ex.tuNames, tag.toList ≠ l) (w : World) :
    Calls Try.prog 17 #[.string tag, rgI r, .int .i64 m] w fun e w' => e = .returned (.tuple #[.int .i64 (Ex.turnV .other r.p m), rgI (Ex.turnR .other r m)]) ∧ Below w.heap.size w w' := by
  have e0 : (tag.toList == [65, 83, 76]) = false := beq_eq_false_iff_ne.2 (hk _ (by decide))
  have e1 : (tag.toList == [82, 79, 76]) = false := beq_eq_false_iff_ne.2 (hk _ (by decide))
  have e2 : (tag.toList == [76, 83, 82]) = false := beq_eq_false_iff_ne.2 (hk _ (by decide))
  have e3 : (tag.toList == [82, 79, 82]) = false := beq_eq_false_iff_ne.2 (hk _ (by decide))
  have e4 : (tag.toList == [73, 78, 67]) = false := beq_eq_false_iff_ne.2 (hk _ (by decide))
  have e5 : (tag.toList == [68, 69, 67]) = false := beq_eq_false_iff_ne.2 (hk _ (by decide))
  have e6 : (tag.toList == [83, 76, 79]) = false := beq_eq_false_iff_ne.2 (hk _ (by decide))
  have e7 : (tag.toList == [82, 76, 65]) = false := beq_eq_false_iff_ne.2 (hk _ (by decide))
  have e8 : (tag.toList == [83, 82, 69]) = false := beq_eq_false_iff_ne.2 (hk _ (by decide))
  have e9 : (tag.toList == [82, 82, 65]) = false := beq_eq_false_iff_ne.2 (hk _ (by decide))
  have e10 : (tag.toList == [68, 67, 80]) = false := beq_eq_false_iff_ne.2 (hk _ (by decide))
  have e11 : (tag.toList == [73, 83, 67]) = false := beq_eq_false_iff_ne.2 (hk _ (by decide))
  clear hk
  obtain ⟨a, x, y, s, p, pc⟩ := r
  obtain ⟨a0, a1, x0, x1, y0, y1, s0, s1, p0, p1, pc0, pc1⟩ := ok
  simp only [] at a0 a1 x0 x1 y0 y1 s0 s1 p0 p1 pc0 pc1
  unfold rgI
  go_enter Try.func17, Try.ntmps17
  repeat (first | (with_reducible refine wp_abs _ (boxS_start .i64 .i64 _ _ a x y s p pc w) ?_) | go_step)
  rintro W hS
  have hS' := hS
  obtain ⟨c0, c1, c2, c3, c4, c5, f0, f1, f2, f3, f4, f5, d0, d1, d2, d3, d4, d5, r0, r1, r2, r3, r4, r5, hb, hn, hF⟩ := hS'
  (repeat (first | (with_reducible refine inBlock_far (by decide) ?_) | (with_reducible refine then_exit ?_) | (with_reducible refine inBlock_here ?_) | ((fail_if_success (with_reducible refine calls_id ?_)); go_step)))
  go_region
  all_goals (repeat (first | (with_reducible refine inBlock_far (by decide) ?_) | (with_reducible refine then_exit ?_) | (with_reducible refine inBlock_here ?_) | ((fail_if_success (with_reducible refine calls_id ?_)); go_step)))
  all_goals refine bodyPost_ret (v := .tuple #[.int .i64 (m), .agg #[.int .i64 (a), .int .i64 (x), .int .i64 (y), .int .i64 (s), .int .i64 (p), .int .i64 (pc)]]) (by simp [results, Try.results17, go_sem, *]) rfl ⟨rfl, ?_⟩
  all_goals (repeat (first | (with_reducible exact hb) | (with_reducible exact hb.drew) | (with_reducible refine Below.drew ?_) | (with_reducible refine Below.setCell ?_ (by simp only []; omega) _)))
end Go.Proofs.Ytlecpfkfnaiabaa
