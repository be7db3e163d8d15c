/- The walks of the reference of layer 11: Store, Goes, Unsure. -/
import Derived.Test.YtlecpfkfnaiabaaExecRef
import Derived.RegionTactic
import Derived.Deep.RegionWith
import Derived.ChangeAlike
import Derived.BigRegion
namespace Go.Proofs.Ytlecpfkfnaiabaa
open Go.RowKit
set_option linter.unusedVariables false
set_option linter.unusedSimpArgs false
set_option maxRecDepth 100000 in
set_option maxHeartbeats 4000000 in
theorem rstore_STA (r : Ex.Rg) (ok : r.ok) (m : Int) (g0 : 0 ≤ m) (g1 : m ≤ 255) (tag : ByteArray) (hk : tag.toList = [83, 84, 65]) (w : World) :
    Calls Try.prog 15 #[.string tag, rgI r, .int .i64 m] w fun e w' => e = .returned (.tuple #[.int .i64 (Ex.storeV .STA r m), rgI (Ex.storeR .STA r)]) ∧ Below w.heap.size w w' := by
  have e0 : (tag.toList == [83, 84, 65]) = true := by rw [hk]; rfl
  have e1 : (tag.toList == [83, 84, 88]) = false := by rw [hk]; rfl
  have e2 : (tag.toList == [83, 84, 89]) = false := by rw [hk]; rfl
  have e3 : (tag.toList == [83, 65, 88]) = false := by rw [hk]; rfl
  have e4 : (tag.toList == [83, 72, 65]) = false := by rw [hk]; rfl
  have e5 : (tag.toList == [83, 72, 88]) = false := by rw [hk]; rfl
  have e6 : (tag.toList == [83, 72, 89]) = false := by rw [hk]; rfl
  have e7 : (tag.toList == [84, 65, 83]) = false := by rw [hk]; rfl
  clear hk
  obtain ⟨a, x, y, s, p, pc⟩ := r
  obtain ⟨a0, a1, x0, x1, y0, y1, s0, s1, p0, p1, pc0, pc1⟩ := ok
  simp only [] at a0 a1 x0 x1 y0 y1 s0 s1 p0 p1 pc0 pc1
  have o1 := Alu.comF_in a x a0 a1
  unfold rgI
  go_enter Try.func15, Try.ntmps15
  repeat (first | (with_reducible refine wp_abs _ (boxS_start .i64 .i64 _ _ a x y s p pc w) ?_) | go_step)
  rintro W hS
  have hS' := hS
  obtain ⟨c0, c1, c2, c3, c4, c5, f0, f1, f2, f3, f4, f5, d0, d1, d2, d3, d4, d5, r0, r1, r2, r3, r4, r5, hb, hn, hF⟩ := hS'
  (repeat (first | (with_reducible refine inBlock_far (by decide) ?_) | (with_reducible refine then_exit ?_) | (with_reducible refine inBlock_here ?_) | ((fail_if_success (with_reducible refine calls_id ?_)); go_step)))
  refine (rcommonC_any a x _ a0 a1 x0 x1).mono ?_
  rintro e w' ⟨rfl, rfl⟩
  simp only []
  (repeat (first | (with_reducible refine inBlock_far (by decide) ?_) | (with_reducible refine then_exit ?_) | (with_reducible refine inBlock_here ?_) | ((fail_if_success (with_reducible refine calls_id ?_)); go_step)))
  go_region
  all_goals (repeat (first | (with_reducible refine inBlock_far (by decide) ?_) | (with_reducible refine then_exit ?_) | (with_reducible refine inBlock_here ?_) | ((fail_if_success (with_reducible refine calls_id ?_)); go_step)))
  all_goals refine bodyPost_ret (v := .tuple #[.int .i64 (a), .agg #[.int .i64 (a), .int .i64 (x), .int .i64 (y), .int .i64 (s), .int .i64 (p), .int .i64 (pc)]]) (by simp [results, Try.results15, go_sem, *]) rfl ⟨rfl, ?_⟩
  all_goals (repeat (first | (with_reducible exact hb) | (with_reducible exact hb.drew) | (with_reducible refine Below.drew ?_) | (with_reducible refine Below.setCell ?_ (by simp only []; omega) _)))
set_option maxRecDepth 100000 in
set_option maxHeartbeats 4000000 in
theorem rstore_STX (r : Ex.Rg) (ok : r.ok) (m : Int) (g0 : 0 ≤ m) (g1 : m ≤ 255) (tag : ByteArray) (hk : tag.toList = [83, 84, 88]) (w : World) :
    Calls Try.prog 15 #[.string tag, rgI r, .int .i64 m] w fun e w' => e = .returned (.tuple #[.int .i64 (Ex.storeV .STX r m), rgI (Ex.storeR .STX r)]) ∧ Below w.heap.size w w' := by
  have e0 : (tag.toList == [83, 84, 65]) = false := by rw [hk]; rfl
  have e1 : (tag.toList == [83, 84, 88]) = true := by rw [hk]; rfl
  have e2 : (tag.toList == [83, 84, 89]) = false := by rw [hk]; rfl
  have e3 : (tag.toList == [83, 65, 88]) = false := by rw [hk]; rfl
  have e4 : (tag.toList == [83, 72, 65]) = false := by rw [hk]; rfl
  have e5 : (tag.toList == [83, 72, 88]) = false := by rw [hk]; rfl
  have e6 : (tag.toList == [83, 72, 89]) = false := by rw [hk]; rfl
  have e7 : (tag.toList == [84, 65, 83]) = false := by rw [hk]; rfl
  clear hk
  obtain ⟨a, x, y, s, p, pc⟩ := r
  obtain ⟨a0, a1, x0, x1, y0, y1, s0, s1, p0, p1, pc0, pc1⟩ := ok
  simp only [] at a0 a1 x0 x1 y0 y1 s0 s1 p0 p1 pc0 pc1
  have o1 := Alu.comF_in a x a0 a1
  unfold rgI
  go_enter Try.func15, Try.ntmps15
  repeat (first | (with_reducible refine wp_abs _ (boxS_start .i64 .i64 _ _ a x y s p pc w) ?_) | go_step)
  rintro W hS
  have hS' := hS
  obtain ⟨c0, c1, c2, c3, c4, c5, f0, f1, f2, f3, f4, f5, d0, d1, d2, d3, d4, d5, r0, r1, r2, r3, r4, r5, hb, hn, hF⟩ := hS'
  (repeat (first | (with_reducible refine inBlock_far (by decide) ?_) | (with_reducible refine then_exit ?_) | (with_reducible refine inBlock_here ?_) | ((fail_if_success (with_reducible refine calls_id ?_)); go_step)))
  refine (rcommonC_any a x _ a0 a1 x0 x1).mono ?_
  rintro e w' ⟨rfl, rfl⟩
  simp only []
  (repeat (first | (with_reducible refine inBlock_far (by decide) ?_) | (with_reducible refine then_exit ?_) | (with_reducible refine inBlock_here ?_) | ((fail_if_success (with_reducible refine calls_id ?_)); go_step)))
  go_region
  all_goals (repeat (first | (with_reducible refine inBlock_far (by decide) ?_) | (with_reducible refine then_exit ?_) | (with_reducible refine inBlock_here ?_) | ((fail_if_success (with_reducible refine calls_id ?_)); go_step)))
  all_goals refine bodyPost_ret (v := .tuple #[.int .i64 (x), .agg #[.int .i64 (a), .int .i64 (x), .int .i64 (y), .int .i64 (s), .int .i64 (p), .int .i64 (pc)]]) (by simp [results, Try.results15, go_sem, *]) rfl ⟨rfl, ?_⟩
  all_goals (repeat (first | (with_reducible exact hb) | (with_reducible exact hb.drew) | (with_reducible refine Below.drew ?_) | (with_reducible refine Below.setCell ?_ (by simp only []; omega) _)))
set_option maxRecDepth 100000 in
set_option maxHeartbeats 4000000 in
theorem rstore_STY (r : Ex.Rg) (ok : r.ok) (m : Int) (g0 : 0 ≤ m) (g1 : m ≤ 255) (tag : ByteArray) (hk : tag.toList = [83, 84, 89]) (w : World) :
    Calls Try.prog 15 #[.string tag, rgI r, .int .i64 m] w fun e w' => e = .returned (.tuple #[.int .i64 (Ex.storeV .STY r m), rgI (Ex.storeR .STY r)]) ∧ Below w.heap.size w w' := by
  have e0 : (tag.toList == [83, 84, 65]) = false := by rw [hk]; rfl
  have e1 : (tag.toList == [83, 84, 88]) = false := by rw [hk]; rfl
  have e2 : (tag.toList == [83, 84, 89]) = true := by rw [hk]; rfl
  have e3 : (tag.toList == [83, 65, 88]) = false := by rw [hk]; rfl
  have e4 : (tag.toList == [83, 72, 65]) = false := by rw [hk]; rfl
  have e5 : (tag.toList == [83, 72, 88]) = false := by rw [hk]; rfl
  have e6 : (tag.toList == [83, 72, 89]) = false := by rw [hk]; rfl
  have e7 : (tag.toList == [84, 65, 83]) = false := by rw [hk]; rfl
  clear hk
  obtain ⟨a, x, y, s, p, pc⟩ := r
  obtain ⟨a0, a1, x0, x1, y0, y1, s0, s1, p0, p1, pc0, pc1⟩ := ok
  simp only [] at a0 a1 x0 x1 y0 y1 s0 s1 p0 p1 pc0 pc1
  have o1 := Alu.comF_in a x a0 a1
  unfold rgI
  go_enter Try.func15, Try.ntmps15
  repeat (first | (with_reducible refine wp_abs _ (boxS_start .i64 .i64 _ _ a x y s p pc w) ?_) | go_step)
  rintro W hS
  have hS' := hS
  obtain ⟨c0, c1, c2, c3, c4, c5, f0, f1, f2, f3, f4, f5, d0, d1, d2, d3, d4, d5, r0, r1, r2, r3, r4, r5, hb, hn, hF⟩ := hS'
  (repeat (first | (with_reducible refine inBlock_far (by decide) ?_) | (with_reducible refine then_exit ?_) | (with_reducible refine inBlock_here ?_) | ((fail_if_success (with_reducible refine calls_id ?_)); go_step)))
  refine (rcommonC_any a x _ a0 a1 x0 x1).mono ?_
  rintro e w' ⟨rfl, rfl⟩
  simp only []
  (repeat (first | (with_reducible refine inBlock_far (by decide) ?_) | (with_reducible refine then_exit ?_) | (with_reducible refine inBlock_here ?_) | ((fail_if_success (with_reducible refine calls_id ?_)); go_step)))
  go_region
  all_goals (repeat (first | (with_reducible refine inBlock_far (by decide) ?_) | (with_reducible refine then_exit ?_) | (with_reducible refine inBlock_here ?_) | ((fail_if_success (with_reducible refine calls_id ?_)); go_step)))
  all_goals refine bodyPost_ret (v := .tuple #[.int .i64 (y), .agg #[.int .i64 (a), .int .i64 (x), .int .i64 (y), .int .i64 (s), .int .i64 (p), .int .i64 (pc)]]) (by simp [results, Try.results15, go_sem, *]) rfl ⟨rfl, ?_⟩
  all_goals (repeat (first | (with_reducible exact hb) | (with_reducible exact hb.drew) | (with_reducible refine Below.drew ?_) | (with_reducible refine Below.setCell ?_ (by simp only []; omega) _)))
set_option maxRecDepth 100000 in
set_option maxHeartbeats 4000000 in
theorem rstore_SAX (r : Ex.Rg) (ok : r.ok) (m : Int) (g0 : 0 ≤ m) (g1 : m ≤ 255) (tag : ByteArray) (hk : tag.toList = [83, 65, 88]) (w : World) :
    Calls Try.prog 15 #[.string tag, rgI r, .int .i64 m] w fun e w' => e = .returned (.tuple #[.int .i64 (Ex.storeV .SAX r m), rgI (Ex.storeR .SAX r)]) ∧ Below w.heap.size w w' := by
  have e0 : (tag.toList == [83, 84, 65]) = false := by rw [hk]; rfl
  have e1 : (tag.toList == [83, 84, 88]) = false := by rw [hk]; rfl
  have e2 : (tag.toList == [83, 84, 89]) = false := by rw [hk]; rfl
  have e3 : (tag.toList == [83, 65, 88]) = true := by rw [hk]; rfl
  have e4 : (tag.toList == [83, 72, 65]) = false := by rw [hk]; rfl
  have e5 : (tag.toList == [83, 72, 88]) = false := by rw [hk]; rfl
  have e6 : (tag.toList == [83, 72, 89]) = false := by rw [hk]; rfl
  have e7 : (tag.toList == [84, 65, 83]) = false := by rw [hk]; rfl
  clear hk
  obtain ⟨a, x, y, s, p, pc⟩ := r
  obtain ⟨a0, a1, x0, x1, y0, y1, s0, s1, p0, p1, pc0, pc1⟩ := ok
  simp only [] at a0 a1 x0 x1 y0 y1 s0 s1 p0 p1 pc0 pc1
  have o1 := Alu.comF_in a x a0 a1
  unfold rgI
  go_enter Try.func15, Try.ntmps15
  repeat (first | (with_reducible refine wp_abs _ (boxS_start .i64 .i64 _ _ a x y s p pc w) ?_) | go_step)
  rintro W hS
  have hS' := hS
  obtain ⟨c0, c1, c2, c3, c4, c5, f0, f1, f2, f3, f4, f5, d0, d1, d2, d3, d4, d5, r0, r1, r2, r3, r4, r5, hb, hn, hF⟩ := hS'
  (repeat (first | (with_reducible refine inBlock_far (by decide) ?_) | (with_reducible refine then_exit ?_) | (with_reducible refine inBlock_here ?_) | ((fail_if_success (with_reducible refine calls_id ?_)); go_step)))
  refine (rcommonC_any a x _ a0 a1 x0 x1).mono ?_
  rintro e w' ⟨rfl, rfl⟩
  simp only []
  (repeat (first | (with_reducible refine inBlock_far (by decide) ?_) | (with_reducible refine then_exit ?_) | (with_reducible refine inBlock_here ?_) | ((fail_if_success (with_reducible refine calls_id ?_)); go_step)))
  go_region
  all_goals (repeat (first | (with_reducible refine inBlock_far (by decide) ?_) | (with_reducible refine then_exit ?_) | (with_reducible refine inBlock_here ?_) | ((fail_if_success (with_reducible refine calls_id ?_)); go_step)))
  all_goals refine bodyPost_ret (v := .tuple #[.int .i64 (Alu.comF a x), .agg #[.int .i64 (a), .int .i64 (x), .int .i64 (y), .int .i64 (s), .int .i64 (p), .int .i64 (pc)]]) (by simp [results, Try.results15, go_sem, *]) rfl ⟨rfl, ?_⟩
  all_goals (repeat (first | (with_reducible exact hb) | (with_reducible exact hb.drew) | (with_reducible refine Below.drew ?_) | (with_reducible refine Below.setCell ?_ (by simp only []; omega) _)))
set_option maxRecDepth 100000 in
set_option maxHeartbeats 4000000 in
theorem rstore_SHA (r : Ex.Rg) (ok : r.ok) (m : Int) (g0 : 0 ≤ m) (g1 : m ≤ 255) (tag : ByteArray) (hk : tag.toList = [83, 72, 65]) (w : World) :
    Calls Try.prog 15 #[.string tag, rgI r, .int .i64 m] w fun e w' => e = .returned (.tuple #[.int .i64 (Ex.storeV .SHA r m), rgI (Ex.storeR .SHA r)]) ∧ Below w.heap.size w w' := by
  have e0 : (tag.toList == [83, 84, 65]) = false := by rw [hk]; rfl
  have e1 : (tag.toList == [83, 84, 88]) = false := by rw [hk]; rfl
  have e2 : (tag.toList == [83, 84, 89]) = false := by rw [hk]; rfl
  have e3 : (tag.toList == [83, 65, 88]) = false := by rw [hk]; rfl
  have e4 : (tag.toList == [83, 72, 65]) = true := by rw [hk]; rfl
  have e5 : (tag.toList == [83, 72, 88]) = false := by rw [hk]; rfl
  have e6 : (tag.toList == [83, 72, 89]) = false := by rw [hk]; rfl
  have e7 : (tag.toList == [84, 65, 83]) = false := by rw [hk]; rfl
  clear hk
  obtain ⟨a, x, y, s, p, pc⟩ := r
  obtain ⟨a0, a1, x0, x1, y0, y1, s0, s1, p0, p1, pc0, pc1⟩ := ok
  simp only [] at a0 a1 x0 x1 y0 y1 s0 s1 p0 p1 pc0 pc1
  have o1 := Alu.comF_in a x a0 a1
  unfold rgI
  go_enter Try.func15, Try.ntmps15
  repeat (first | (with_reducible refine wp_abs _ (boxS_start .i64 .i64 _ _ a x y s p pc w) ?_) | go_step)
  rintro W hS
  have hS' := hS
  obtain ⟨c0, c1, c2, c3, c4, c5, f0, f1, f2, f3, f4, f5, d0, d1, d2, d3, d4, d5, r0, r1, r2, r3, r4, r5, hb, hn, hF⟩ := hS'
  (repeat (first | (with_reducible refine inBlock_far (by decide) ?_) | (with_reducible refine then_exit ?_) | (with_reducible refine inBlock_here ?_) | ((fail_if_success (with_reducible refine calls_id ?_)); go_step)))
  refine (rcommonC_any a x _ a0 a1 x0 x1).mono ?_
  rintro e w' ⟨rfl, rfl⟩
  simp only []
  (repeat (first | (with_reducible refine inBlock_far (by decide) ?_) | (with_reducible refine then_exit ?_) | (with_reducible refine inBlock_here ?_) | ((fail_if_success (with_reducible refine calls_id ?_)); go_step)))
  have k1 := fun w' => rcommonC_any (Alu.comF a x) ((m + 1) % 256) w' o1.1 o1.2 (by omega) (by omega)
  go_region_with (go_at_call 34; refine (k1 _).mono ?_; rintro e w1 ⟨rfl, rfl⟩)
  all_goals (repeat (first | (with_reducible refine inBlock_far (by decide) ?_) | (with_reducible refine then_exit ?_) | (with_reducible refine inBlock_here ?_) | ((fail_if_success (with_reducible refine calls_id ?_)); go_step)))
  all_goals refine bodyPost_ret (v := .tuple #[.int .i64 (Alu.comF (Alu.comF a x) ((m + 1) % 256)), .agg #[.int .i64 (a), .int .i64 (x), .int .i64 (y), .int .i64 (s), .int .i64 (p), .int .i64 (pc)]]) (by simp [results, Try.results15, go_sem, *]) rfl ⟨rfl, ?_⟩
  all_goals (repeat (first | (with_reducible exact hb) | (with_reducible exact hb.drew) | (with_reducible refine Below.drew ?_) | (with_reducible refine Below.setCell ?_ (by simp only []; omega) _)))
set_option maxRecDepth 100000 in
set_option maxHeartbeats 4000000 in
theorem rstore_SHX (r : Ex.Rg) (ok : r.ok) (m : Int) (g0 : 0 ≤ m) (g1 : m ≤ 255) (tag : ByteArray) (hk : tag.toList = [83, 72, 88]) (w : World) :
    Calls Try.prog 15 #[.string tag, rgI r, .int .i64 m] w fun e w' => e = .returned (.tuple #[.int .i64 (Ex.storeV .SHX r m), rgI (Ex.storeR .SHX r)]) ∧ Below w.heap.size w w' := by
  have e0 : (tag.toList == [83, 84, 65]) = false := by rw [hk]; rfl
  have e1 : (tag.toList == [83, 84, 88]) = false := by rw [hk]; rfl
  have e2 : (tag.toList == [83, 84, 89]) = false := by rw [hk]; rfl
  have e3 : (tag.toList == [83, 65, 88]) = false := by rw [hk]; rfl
  have e4 : (tag.toList == [83, 72, 65]) = false := by rw [hk]; rfl
  have e5 : (tag.toList == [83, 72, 88]) = true := by rw [hk]; rfl
  have e6 : (tag.toList == [83, 72, 89]) = false := by rw [hk]; rfl
  have e7 : (tag.toList == [84, 65, 83]) = false := by rw [hk]; rfl
  clear hk
  obtain ⟨a, x, y, s, p, pc⟩ := r
  obtain ⟨a0, a1, x0, x1, y0, y1, s0, s1, p0, p1, pc0, pc1⟩ := ok
  simp only [] at a0 a1 x0 x1 y0 y1 s0 s1 p0 p1 pc0 pc1
  have o1 := Alu.comF_in a x a0 a1
  unfold rgI
  go_enter Try.func15, Try.ntmps15
  repeat (first | (with_reducible refine wp_abs _ (boxS_start .i64 .i64 _ _ a x y s p pc w) ?_) | go_step)
  rintro W hS
  have hS' := hS
  obtain ⟨c0, c1, c2, c3, c4, c5, f0, f1, f2, f3, f4, f5, d0, d1, d2, d3, d4, d5, r0, r1, r2, r3, r4, r5, hb, hn, hF⟩ := hS'
  (repeat (first | (with_reducible refine inBlock_far (by decide) ?_) | (with_reducible refine then_exit ?_) | (with_reducible refine inBlock_here ?_) | ((fail_if_success (with_reducible refine calls_id ?_)); go_step)))
  refine (rcommonC_any a x _ a0 a1 x0 x1).mono ?_
  rintro e w' ⟨rfl, rfl⟩
  simp only []
  (repeat (first | (with_reducible refine inBlock_far (by decide) ?_) | (with_reducible refine then_exit ?_) | (with_reducible refine inBlock_here ?_) | ((fail_if_success (with_reducible refine calls_id ?_)); go_step)))
  have k1 := fun w' => rcommonC_any (x) ((m + 1) % 256) w' x0 x1 (by omega) (by omega)
  go_region_with (go_at_call 34; refine (k1 _).mono ?_; rintro e w1 ⟨rfl, rfl⟩)
  all_goals (repeat (first | (with_reducible refine inBlock_far (by decide) ?_) | (with_reducible refine then_exit ?_) | (with_reducible refine inBlock_here ?_) | ((fail_if_success (with_reducible refine calls_id ?_)); go_step)))
  all_goals refine bodyPost_ret (v := .tuple #[.int .i64 (Alu.comF x ((m + 1) % 256)), .agg #[.int .i64 (a), .int .i64 (x), .int .i64 (y), .int .i64 (s), .int .i64 (p), .int .i64 (pc)]]) (by simp [results, Try.results15, go_sem, *]) rfl ⟨rfl, ?_⟩
  all_goals (repeat (first | (with_reducible exact hb) | (with_reducible exact hb.drew) | (with_reducible refine Below.drew ?_) | (with_reducible refine Below.setCell ?_ (by simp only []; omega) _)))
set_option maxRecDepth 100000 in
set_option maxHeartbeats 4000000 in
theorem rstore_SHY (r : Ex.Rg) (ok : r.ok) (m : Int) (g0 : 0 ≤ m) (g1 : m ≤ 255) (tag : ByteArray) (hk : tag.toList = [83, 72, 89]) (w : World) :
    Calls Try.prog 15 #[.string tag, rgI r, .int .i64 m] w fun e w' => e = .returned (.tuple #[.int .i64 (Ex.storeV .SHY r m), rgI (Ex.storeR .SHY r)]) ∧ Below w.heap.size w w' := by
  have e0 : (tag.toList == [83, 84, 65]) = false := by rw [hk]; rfl
  have e1 : (tag.toList == [83, 84, 88]) = false := by rw [hk]; rfl
  have e2 : (tag.toList == [83, 84, 89]) = false := by rw [hk]; rfl
  have e3 : (tag.toList == [83, 65, 88]) = false := by rw [hk]; rfl
  have e4 : (tag.toList == [83, 72, 65]) = false := by rw [hk]; rfl
  have e5 : (tag.toList == [83, 72, 88]) = false := by rw [hk]; rfl
  have e6 : (tag.toList == [83, 72, 89]) = true := by rw [hk]; rfl
  have e7 : (tag.toList == [84, 65, 83]) = false := by rw [hk]; rfl
  clear hk
  obtain ⟨a, x, y, s, p, pc⟩ := r
  obtain ⟨a0, a1, x0, x1, y0, y1, s0, s1, p0, p1, pc0, pc1⟩ := ok
  simp only [] at a0 a1 x0 x1 y0 y1 s0 s1 p0 p1 pc0 pc1
  have o1 := Alu.comF_in a x a0 a1
  unfold rgI
  go_enter Try.func15, Try.ntmps15
  repeat (first | (with_reducible refine wp_abs _ (boxS_start .i64 .i64 _ _ a x y s p pc w) ?_) | go_step)
  rintro W hS
  have hS' := hS
  obtain ⟨c0, c1, c2, c3, c4, c5, f0, f1, f2, f3, f4, f5, d0, d1, d2, d3, d4, d5, r0, r1, r2, r3, r4, r5, hb, hn, hF⟩ := hS'
  (repeat (first | (with_reducible refine inBlock_far (by decide) ?_) | (with_reducible refine then_exit ?_) | (with_reducible refine inBlock_here ?_) | ((fail_if_success (with_reducible refine calls_id ?_)); go_step)))
  refine (rcommonC_any a x _ a0 a1 x0 x1).mono ?_
  rintro e w' ⟨rfl, rfl⟩
  simp only []
  (repeat (first | (with_reducible refine inBlock_far (by decide) ?_) | (with_reducible refine then_exit ?_) | (with_reducible refine inBlock_here ?_) | ((fail_if_success (with_reducible refine calls_id ?_)); go_step)))
  have k1 := fun w' => rcommonC_any (y) ((m + 1) % 256) w' y0 y1 (by omega) (by omega)
  go_region_with (go_at_call 34; refine (k1 _).mono ?_; rintro e w1 ⟨rfl, rfl⟩)
  all_goals (repeat (first | (with_reducible refine inBlock_far (by decide) ?_) | (with_reducible refine then_exit ?_) | (with_reducible refine inBlock_here ?_) | ((fail_if_success (with_reducible refine calls_id ?_)); go_step)))
  all_goals refine bodyPost_ret (v := .tuple #[.int .i64 (Alu.comF y ((m + 1) % 256)), .agg #[.int .i64 (a), .int .i64 (x), .int .i64 (y), .int .i64 (s), .int .i64 (p), .int .i64 (pc)]]) (by simp [results, Try.results15, go_sem, *]) rfl ⟨rfl, ?_⟩
  all_goals (repeat (first | (with_reducible exact hb) | (with_reducible exact hb.drew) | (with_reducible refine Below.drew ?_) | (with_reducible refine Below.setCell ?_ (by simp only []; omega) _)))
set_option maxRecDepth 100000 in
set_option maxHeartbeats 4000000 in
theorem rstore_TAS (r : Ex.Rg) (ok : r.ok) (m : Int) (g0 : 0 ≤ m) (g1 : m ≤ 255) (tag : ByteArray) (hk : tag.toList = [84, 65, 83]) (w : World) :
    Calls Try.prog 15 #[.string tag, rgI r, .int .i64 m] w fun e w' => e = .returned (.tuple #[.int .i64 (Ex.storeV .TAS r m), rgI (Ex.storeR .TAS r)]) ∧ Below w.heap.size w w' := by
  have e0 : (tag.toList == [83, 84, 65]) = false := by rw [hk]; rfl
  have e1 : (tag.toList == [83, 84, 88]) = false := by rw [hk]; rfl
  have e2 : (tag.toList == [83, 84, 89]) = false := by rw [hk]; rfl
  have e3 : (tag.toList == [83, 65, 88]) = false := by rw [hk]; rfl
  have e4 : (tag.toList == [83, 72, 65]) = false := by rw [hk]; rfl
  have e5 : (tag.toList == [83, 72, 88]) = false := by rw [hk]; rfl
  have e6 : (tag.toList == [83, 72, 89]) = false := by rw [hk]; rfl
  have e7 : (tag.toList == [84, 65, 83]) = true := by rw [hk]; rfl
  clear hk
  obtain ⟨a, x, y, s, p, pc⟩ := r
  obtain ⟨a0, a1, x0, x1, y0, y1, s0, s1, p0, p1, pc0, pc1⟩ := ok
  simp only [] at a0 a1 x0 x1 y0 y1 s0 s1 p0 p1 pc0 pc1
  have o1 := Alu.comF_in a x a0 a1
  unfold rgI
  go_enter Try.func15, Try.ntmps15
  repeat (first | (with_reducible refine wp_abs _ (boxS_start .i64 .i64 _ _ a x y s p pc w) ?_) | go_step)
  rintro W hS
  have hS' := hS
  obtain ⟨c0, c1, c2, c3, c4, c5, f0, f1, f2, f3, f4, f5, d0, d1, d2, d3, d4, d5, r0, r1, r2, r3, r4, r5, hb, hn, hF⟩ := hS'
  (repeat (first | (with_reducible refine inBlock_far (by decide) ?_) | (with_reducible refine then_exit ?_) | (with_reducible refine inBlock_here ?_) | ((fail_if_success (with_reducible refine calls_id ?_)); go_step)))
  refine (rcommonC_any a x _ a0 a1 x0 x1).mono ?_
  rintro e w' ⟨rfl, rfl⟩
  simp only []
  (repeat (first | (with_reducible refine inBlock_far (by decide) ?_) | (with_reducible refine then_exit ?_) | (with_reducible refine inBlock_here ?_) | ((fail_if_success (with_reducible refine calls_id ?_)); go_step)))
  have k1 := fun w' => rcommonC_any (Alu.comF a x) ((m + 1) % 256) w' o1.1 o1.2 (by omega) (by omega)
  go_region_with (go_at_call 34; refine (k1 _).mono ?_; rintro e w1 ⟨rfl, rfl⟩)
  all_goals (repeat (first | (with_reducible refine inBlock_far (by decide) ?_) | (with_reducible refine then_exit ?_) | (with_reducible refine inBlock_here ?_) | ((fail_if_success (with_reducible refine calls_id ?_)); go_step)))
  all_goals refine bodyPost_ret (v := .tuple #[.int .i64 (Alu.comF (Alu.comF a x) ((m + 1) % 256)), .agg #[.int .i64 (a), .int .i64 (x), .int .i64 (y), .int .i64 (Alu.comF a x), .int .i64 (p), .int .i64 (pc)]]) (by simp [results, Try.results15, go_sem, *]) rfl ⟨rfl, ?_⟩
  all_goals (repeat (first | (with_reducible exact hb) | (with_reducible exact hb.drew) | (with_reducible refine Below.drew ?_) | (with_reducible refine Below.setCell ?_ (by simp only []; omega) _)))
set_option maxRecDepth 100000 in
set_option maxHeartbeats 4000000 in
theorem rstore_other (r : Ex.Rg) (ok : r.ok) (m : Int) (g0 : 0 ≤ m) (g1 : m ≤ 255) (tag : ByteArray) (hk : ∀ l ∈ Ex.stNames, tag.toList ≠ l) (w : World) :
    Calls Try.prog 15 #[.string tag, rgI r, .int .i64 m] w fun e w' => e = .returned (.tuple #[.int .i64 (Ex.storeV .other r m), rgI (Ex.storeR .other r)]) ∧ Below w.heap.size w w' := by
  have e0 : (tag.toList == [83, 84, 65]) = false := beq_eq_false_iff_ne.2 (hk _ (by decide))
  have e1 : (tag.toList == [83, 84, 88]) = false := beq_eq_false_iff_ne.2 (hk _ (by decide))
  have e2 : (tag.toList == [83, 84, 89]) = false := beq_eq_false_iff_ne.2 (hk _ (by decide))
  have e3 : (tag.toList == [83, 65, 88]) = false := beq_eq_false_iff_ne.2 (hk _ (by decide))
  have e4 : (tag.toList == [83, 72, 65]) = false := beq_eq_false_iff_ne.2 (hk _ (by decide))
  have e5 : (tag.toList == [83, 72, 88]) = false := beq_eq_false_iff_ne.2 (hk _ (by decide))
  have e6 : (tag.toList == [83, 72, 89]) = false := beq_eq_false_iff_ne.2 (hk _ (by decide))
  have e7 : (tag.toList == [84, 65, 83]) = false := beq_eq_false_iff_ne.2 (hk _ (by decide))
  clear hk
  obtain ⟨a, x, y, s, p, pc⟩ := r
  obtain ⟨a0, a1, x0, x1, y0, y1, s0, s1, p0, p1, pc0, pc1⟩ := ok
  simp only [] at a0 a1 x0 x1 y0 y1 s0 s1 p0 p1 pc0 pc1
  have o1 := Alu.comF_in a x a0 a1
  unfold rgI
  go_enter Try.func15, Try.ntmps15
  repeat (first | (with_reducible refine wp_abs _ (boxS_start .i64 .i64 _ _ a x y s p pc w) ?_) | go_step)
  rintro W hS
  have hS' := hS
  obtain ⟨c0, c1, c2, c3, c4, c5, f0, f1, f2, f3, f4, f5, d0, d1, d2, d3, d4, d5, r0, r1, r2, r3, r4, r5, hb, hn, hF⟩ := hS'
  (repeat (first | (with_reducible refine inBlock_far (by decide) ?_) | (with_reducible refine then_exit ?_) | (with_reducible refine inBlock_here ?_) | ((fail_if_success (with_reducible refine calls_id ?_)); go_step)))
  refine (rcommonC_any a x _ a0 a1 x0 x1).mono ?_
  rintro e w' ⟨rfl, rfl⟩
  simp only []
  (repeat (first | (with_reducible refine inBlock_far (by decide) ?_) | (with_reducible refine then_exit ?_) | (with_reducible refine inBlock_here ?_) | ((fail_if_success (with_reducible refine calls_id ?_)); go_step)))
  go_region
  all_goals (repeat (first | (with_reducible refine inBlock_far (by decide) ?_) | (with_reducible refine then_exit ?_) | (with_reducible refine inBlock_here ?_) | ((fail_if_success (with_reducible refine calls_id ?_)); go_step)))
  all_goals refine bodyPost_ret (v := .tuple #[.int .i64 (0), .agg #[.int .i64 (a), .int .i64 (x), .int .i64 (y), .int .i64 (s), .int .i64 (p), .int .i64 (pc)]]) (by simp [results, Try.results15, go_sem, *]) rfl ⟨rfl, ?_⟩
  all_goals (repeat (first | (with_reducible exact hb) | (with_reducible exact hb.drew) | (with_reducible refine Below.drew ?_) | (with_reducible refine Below.setCell ?_ (by simp only []; omega) _)))
set_option maxRecDepth 100000 in
set_option maxHeartbeats 4000000 in
theorem rgoes_BPL (p : Int) (p0 : 0 ≤ p) (p1 : p ≤ 255) (tag : ByteArray) (hk : tag.toList = [66, 80, 76]) (w : World) :
    Calls Try.prog 21 #[.string tag, .int .i64 p] w fun e w' => e = .returned (.bool (Ex.goesF .BPL p)) ∧ w = w' := by
  have e0 : (tag.toList == [66, 80, 76]) = true := by rw [hk]; rfl
  have e1 : (tag.toList == [66, 77, 73]) = false := by rw [hk]; rfl
  have e2 : (tag.toList == [66, 86, 67]) = false := by rw [hk]; rfl
  have e3 : (tag.toList == [66, 86, 83]) = false := by rw [hk]; rfl
  have e4 : (tag.toList == [66, 67, 67]) = false := by rw [hk]; rfl
  have e5 : (tag.toList == [66, 67, 83]) = false := by rw [hk]; rfl
  have e6 : (tag.toList == [66, 78, 69]) = false := by rw [hk]; rfl
  have e7 : (tag.toList == [66, 69, 81]) = false := by rw [hk]; rfl
  clear hk
  go_enter Try.func21, Try.ntmps21
  (repeat (first | (with_reducible refine inBlock_far (by decide) ?_) | (with_reducible refine then_exit ?_) | (with_reducible refine inBlock_here ?_) | ((fail_if_success (with_reducible refine calls_id ?_)); go_step)))
  refine (rhas_any p 128 _ p0 (by omega) (by omega) (by omega)).mono ?_
  rintro e w' ⟨rfl, rfl⟩
  simp only []
  (repeat (first | (with_reducible refine inBlock_far (by decide) ?_) | (with_reducible refine then_exit ?_) | (with_reducible refine inBlock_here ?_) | ((fail_if_success (with_reducible refine calls_id ?_)); go_step)))
  go_ret
  exact ⟨rfl, rfl⟩
set_option maxRecDepth 100000 in
set_option maxHeartbeats 4000000 in
theorem rgoes_BMI (p : Int) (p0 : 0 ≤ p) (p1 : p ≤ 255) (tag : ByteArray) (hk : tag.toList = [66, 77, 73]) (w : World) :
    Calls Try.prog 21 #[.string tag, .int .i64 p] w fun e w' => e = .returned (.bool (Ex.goesF .BMI p)) ∧ w = w' := by
  have e0 : (tag.toList == [66, 80, 76]) = false := by rw [hk]; rfl
  have e1 : (tag.toList == [66, 77, 73]) = true := by rw [hk]; rfl
  have e2 : (tag.toList == [66, 86, 67]) = false := by rw [hk]; rfl
  have e3 : (tag.toList == [66, 86, 83]) = false := by rw [hk]; rfl
  have e4 : (tag.toList == [66, 67, 67]) = false := by rw [hk]; rfl
  have e5 : (tag.toList == [66, 67, 83]) = false := by rw [hk]; rfl
  have e6 : (tag.toList == [66, 78, 69]) = false := by rw [hk]; rfl
  have e7 : (tag.toList == [66, 69, 81]) = false := by rw [hk]; rfl
  clear hk
  go_enter Try.func21, Try.ntmps21
  (repeat (first | (with_reducible refine inBlock_far (by decide) ?_) | (with_reducible refine then_exit ?_) | (with_reducible refine inBlock_here ?_) | ((fail_if_success (with_reducible refine calls_id ?_)); go_step)))
  refine (rhas_any p 128 _ p0 (by omega) (by omega) (by omega)).mono ?_
  rintro e w' ⟨rfl, rfl⟩
  simp only []
  (repeat (first | (with_reducible refine inBlock_far (by decide) ?_) | (with_reducible refine then_exit ?_) | (with_reducible refine inBlock_here ?_) | ((fail_if_success (with_reducible refine calls_id ?_)); go_step)))
  go_ret
  exact ⟨rfl, rfl⟩
set_option maxRecDepth 100000 in
set_option maxHeartbeats 4000000 in
theorem rgoes_BVC (p : Int) (p0 : 0 ≤ p) (p1 : p ≤ 255) (tag : ByteArray) (hk : tag.toList = [66, 86, 67]) (w : World) :
    Calls Try.prog 21 #[.string tag, .int .i64 p] w fun e w' => e = .returned (.bool (Ex.goesF .BVC p)) ∧ w = w' := by
  have e0 : (tag.toList == [66, 80, 76]) = false := by rw [hk]; rfl
  have e1 : (tag.toList == [66, 77, 73]) = false := by rw [hk]; rfl
  have e2 : (tag.toList == [66, 86, 67]) = true := by rw [hk]; rfl
  have e3 : (tag.toList == [66, 86, 83]) = false := by rw [hk]; rfl
  have e4 : (tag.toList == [66, 67, 67]) = false := by rw [hk]; rfl
  have e5 : (tag.toList == [66, 67, 83]) = false := by rw [hk]; rfl
  have e6 : (tag.toList == [66, 78, 69]) = false := by rw [hk]; rfl
  have e7 : (tag.toList == [66, 69, 81]) = false := by rw [hk]; rfl
  clear hk
  go_enter Try.func21, Try.ntmps21
  (repeat (first | (with_reducible refine inBlock_far (by decide) ?_) | (with_reducible refine then_exit ?_) | (with_reducible refine inBlock_here ?_) | ((fail_if_success (with_reducible refine calls_id ?_)); go_step)))
  refine (rhas_any p 64 _ p0 (by omega) (by omega) (by omega)).mono ?_
  rintro e w' ⟨rfl, rfl⟩
  simp only []
  (repeat (first | (with_reducible refine inBlock_far (by decide) ?_) | (with_reducible refine then_exit ?_) | (with_reducible refine inBlock_here ?_) | ((fail_if_success (with_reducible refine calls_id ?_)); go_step)))
  go_ret
  exact ⟨rfl, rfl⟩
set_option maxRecDepth 100000 in
set_option maxHeartbeats 4000000 in
theorem rgoes_BVS (p : Int) (p0 : 0 ≤ p) (p1 : p ≤ 255) (tag : ByteArray) (hk : tag.toList = [66, 86, 83]) (w : World) :
    Calls Try.prog 21 #[.string tag, .int .i64 p] w fun e w' => e = .returned (.bool (Ex.goesF .BVS p)) ∧ w = w' := by
  have e0 : (tag.toList == [66, 80, 76]) = false := by rw [hk]; rfl
  have e1 : (tag.toList == [66, 77, 73]) = false := by rw [hk]; rfl
  have e2 : (tag.toList == [66, 86, 67]) = false := by rw [hk]; rfl
  have e3 : (tag.toList == [66, 86, 83]) = true := by rw [hk]; rfl
  have e4 : (tag.toList == [66, 67, 67]) = false := by rw [hk]; rfl
  have e5 : (tag.toList == [66, 67, 83]) = false := by rw [hk]; rfl
  have e6 : (tag.toList == [66, 78, 69]) = false := by rw [hk]; rfl
  have e7 : (tag.toList == [66, 69, 81]) = false := by rw [hk]; rfl
  clear hk
  go_enter Try.func21, Try.ntmps21
  (repeat (first | (with_reducible refine inBlock_far (by decide) ?_) | (with_reducible refine then_exit ?_) | (with_reducible refine inBlock_here ?_) | ((fail_if_success (with_reducible refine calls_id ?_)); go_step)))
  refine (rhas_any p 64 _ p0 (by omega) (by omega) (by omega)).mono ?_
  rintro e w' ⟨rfl, rfl⟩
  simp only []
  (repeat (first | (with_reducible refine inBlock_far (by decide) ?_) | (with_reducible refine then_exit ?_) | (with_reducible refine inBlock_here ?_) | ((fail_if_success (with_reducible refine calls_id ?_)); go_step)))
  go_ret
  exact ⟨rfl, rfl⟩
set_option maxRecDepth 100000 in
set_option maxHeartbeats 4000000 in
theorem rgoes_BCC (p : Int) (p0 : 0 ≤ p) (p1 : p ≤ 255) (tag : ByteArray) (hk : tag.toList = [66, 67, 67]) (w : World) :
    Calls Try.prog 21 #[.string tag, .int .i64 p] w fun e w' => e = .returned (.bool (Ex.goesF .BCC p)) ∧ w = w' := by
  have e0 : (tag.toList == [66, 80, 76]) = false := by rw [hk]; rfl
  have e1 : (tag.toList == [66, 77, 73]) = false := by rw [hk]; rfl
  have e2 : (tag.toList == [66, 86, 67]) = false := by rw [hk]; rfl
  have e3 : (tag.toList == [66, 86, 83]) = false := by rw [hk]; rfl
  have e4 : (tag.toList == [66, 67, 67]) = true := by rw [hk]; rfl
  have e5 : (tag.toList == [66, 67, 83]) = false := by rw [hk]; rfl
  have e6 : (tag.toList == [66, 78, 69]) = false := by rw [hk]; rfl
  have e7 : (tag.toList == [66, 69, 81]) = false := by rw [hk]; rfl
  clear hk
  go_enter Try.func21, Try.ntmps21
  (repeat (first | (with_reducible refine inBlock_far (by decide) ?_) | (with_reducible refine then_exit ?_) | (with_reducible refine inBlock_here ?_) | ((fail_if_success (with_reducible refine calls_id ?_)); go_step)))
  refine (rhas_any p 1 _ p0 (by omega) (by omega) (by omega)).mono ?_
  rintro e w' ⟨rfl, rfl⟩
  simp only []
  (repeat (first | (with_reducible refine inBlock_far (by decide) ?_) | (with_reducible refine then_exit ?_) | (with_reducible refine inBlock_here ?_) | ((fail_if_success (with_reducible refine calls_id ?_)); go_step)))
  go_ret
  exact ⟨rfl, rfl⟩
set_option maxRecDepth 100000 in
set_option maxHeartbeats 4000000 in
theorem rgoes_BCS (p : Int) (p0 : 0 ≤ p) (p1 : p ≤ 255) (tag : ByteArray) (hk : tag.toList = [66, 67, 83]) (w : World) :
    Calls Try.prog 21 #[.string tag, .int .i64 p] w fun e w' => e = .returned (.bool (Ex.goesF .BCS p)) ∧ w = w' := by
  have e0 : (tag.toList == [66, 80, 76]) = false := by rw [hk]; rfl
  have e1 : (tag.toList == [66, 77, 73]) = false := by rw [hk]; rfl
  have e2 : (tag.toList == [66, 86, 67]) = false := by rw [hk]; rfl
  have e3 : (tag.toList == [66, 86, 83]) = false := by rw [hk]; rfl
  have e4 : (tag.toList == [66, 67, 67]) = false := by rw [hk]; rfl
  have e5 : (tag.toList == [66, 67, 83]) = true := by rw [hk]; rfl
  have e6 : (tag.toList == [66, 78, 69]) = false := by rw [hk]; rfl
  have e7 : (tag.toList == [66, 69, 81]) = false := by rw [hk]; rfl
  clear hk
  go_enter Try.func21, Try.ntmps21
  (repeat (first | (with_reducible refine inBlock_far (by decide) ?_) | (with_reducible refine then_exit ?_) | (with_reducible refine inBlock_here ?_) | ((fail_if_success (with_reducible refine calls_id ?_)); go_step)))
  refine (rhas_any p 1 _ p0 (by omega) (by omega) (by omega)).mono ?_
  rintro e w' ⟨rfl, rfl⟩
  simp only []
  (repeat (first | (with_reducible refine inBlock_far (by decide) ?_) | (with_reducible refine then_exit ?_) | (with_reducible refine inBlock_here ?_) | ((fail_if_success (with_reducible refine calls_id ?_)); go_step)))
  go_ret
  exact ⟨rfl, rfl⟩
set_option maxRecDepth 100000 in
set_option maxHeartbeats 4000000 in
theorem rgoes_BNE (p : Int) (p0 : 0 ≤ p) (p1 : p ≤ 255) (tag : ByteArray) (hk : tag.toList = [66, 78, 69]) (w : World) :
    Calls Try.prog 21 #[.string tag, .int .i64 p] w fun e w' => e = .returned (.bool (Ex.goesF .BNE p)) ∧ w = w' := by
  have e0 : (tag.toList == [66, 80, 76]) = false := by rw [hk]; rfl
  have e1 : (tag.toList == [66, 77, 73]) = false := by rw [hk]; rfl
  have e2 : (tag.toList == [66, 86, 67]) = false := by rw [hk]; rfl
  have e3 : (tag.toList == [66, 86, 83]) = false := by rw [hk]; rfl
  have e4 : (tag.toList == [66, 67, 67]) = false := by rw [hk]; rfl
  have e5 : (tag.toList == [66, 67, 83]) = false := by rw [hk]; rfl
  have e6 : (tag.toList == [66, 78, 69]) = true := by rw [hk]; rfl
  have e7 : (tag.toList == [66, 69, 81]) = false := by rw [hk]; rfl
  clear hk
  go_enter Try.func21, Try.ntmps21
  (repeat (first | (with_reducible refine inBlock_far (by decide) ?_) | (with_reducible refine then_exit ?_) | (with_reducible refine inBlock_here ?_) | ((fail_if_success (with_reducible refine calls_id ?_)); go_step)))
  refine (rhas_any p 2 _ p0 (by omega) (by omega) (by omega)).mono ?_
  rintro e w' ⟨rfl, rfl⟩
  simp only []
  (repeat (first | (with_reducible refine inBlock_far (by decide) ?_) | (with_reducible refine then_exit ?_) | (with_reducible refine inBlock_here ?_) | ((fail_if_success (with_reducible refine calls_id ?_)); go_step)))
  go_ret
  exact ⟨rfl, rfl⟩
set_option maxRecDepth 100000 in
set_option maxHeartbeats 4000000 in
theorem rgoes_BEQ (p : Int) (p0 : 0 ≤ p) (p1 : p ≤ 255) (tag : ByteArray) (hk : tag.toList = [66, 69, 81]) (w : World) :
    Calls Try.prog 21 #[.string tag, .int .i64 p] w fun e w' => e = .returned (.bool (Ex.goesF .BEQ p)) ∧ w = w' := by
  have e0 : (tag.toList == [66, 80, 76]) = false := by rw [hk]; rfl
  have e1 : (tag.toList == [66, 77, 73]) = false := by rw [hk]; rfl
  have e2 : (tag.toList == [66, 86, 67]) = false := by rw [hk]; rfl
  have e3 : (tag.toList == [66, 86, 83]) = false := by rw [hk]; rfl
  have e4 : (tag.toList == [66, 67, 67]) = false := by rw [hk]; rfl
  have e5 : (tag.toList == [66, 67, 83]) = false := by rw [hk]; rfl
  have e6 : (tag.toList == [66, 78, 69]) = false := by rw [hk]; rfl
  have e7 : (tag.toList == [66, 69, 81]) = true := by rw [hk]; rfl
  clear hk
  go_enter Try.func21, Try.ntmps21
  (repeat (first | (with_reducible refine inBlock_far (by decide) ?_) | (with_reducible refine then_exit ?_) | (with_reducible refine inBlock_here ?_) | ((fail_if_success (with_reducible refine calls_id ?_)); go_step)))
  refine (rhas_any p 2 _ p0 (by omega) (by omega) (by omega)).mono ?_
  rintro e w' ⟨rfl, rfl⟩
  simp only []
  (repeat (first | (with_reducible refine inBlock_far (by decide) ?_) | (with_reducible refine then_exit ?_) | (with_reducible refine inBlock_here ?_) | ((fail_if_success (with_reducible refine calls_id ?_)); go_step)))
  go_ret
  exact ⟨rfl, rfl⟩
set_option maxRecDepth 100000 in
set_option maxHeartbeats 4000000 in
theorem rgoes_other (p : Int) (p0 : 0 ≤ p) (p1 : p ≤ 255) (tag : ByteArray) (hk : ∀ l ∈ Ex.goNames, tag.toList ≠ l) (w : World) :
    Calls Try.prog 21 #[.string tag, .int .i64 p] w fun e w' => e = .returned (.bool (Ex.goesF .other p)) ∧ w = w' := by
  have e0 : (tag.toList == [66, 80, 76]) = false := beq_eq_false_iff_ne.2 (hk _ (by decide))
  have e1 : (tag.toList == [66, 77, 73]) = false := beq_eq_false_iff_ne.2 (hk _ (by decide))
  have e2 : (tag.toList == [66, 86, 67]) = false := beq_eq_false_iff_ne.2 (hk _ (by decide))
  have e3 : (tag.toList == [66, 86, 83]) = false := beq_eq_false_iff_ne.2 (hk _ (by decide))
  have e4 : (tag.toList == [66, 67, 67]) = false := beq_eq_false_iff_ne.2 (hk _ (by decide))
  have e5 : (tag.toList == [66, 67, 83]) = false := beq_eq_false_iff_ne.2 (hk _ (by decide))
  have e6 : (tag.toList == [66, 78, 69]) = false := beq_eq_false_iff_ne.2 (hk _ (by decide))
  have e7 : (tag.toList == [66, 69, 81]) = false := beq_eq_false_iff_ne.2 (hk _ (by decide))
  clear hk
  go_enter Try.func21, Try.ntmps21
  (repeat (first | (with_reducible refine inBlock_far (by decide) ?_) | (with_reducible refine then_exit ?_) | (with_reducible refine inBlock_here ?_) | ((fail_if_success (with_reducible refine calls_id ?_)); go_step)))
  go_ret
  exact ⟨rfl, rfl⟩
set_option maxRecDepth 100000 in
set_option maxHeartbeats 4000000 in
theorem runsure_SHA (tag : ByteArray) (hk : tag.toList = [83, 72, 65]) (w : World) :
    Calls Try.prog 23 #[.string tag] w fun e w' => e = .returned (.bool true) ∧ w = w' := by
  have e0 : (tag.toList == [83, 72, 65]) = true := by rw [hk]; rfl
  have e1 : (tag.toList == [83, 72, 88]) = false := by rw [hk]; rfl
  have e2 : (tag.toList == [83, 72, 89]) = false := by rw [hk]; rfl
  have e3 : (tag.toList == [84, 65, 83]) = false := by rw [hk]; rfl
  clear hk
  go_enter Try.func23, Try.ntmps23
  (repeat (first | (with_reducible refine inBlock_far (by decide) ?_) | (with_reducible refine then_exit ?_) | (with_reducible refine inBlock_here ?_) | ((fail_if_success (with_reducible refine calls_id ?_)); go_step)))
  go_ret
  exact ⟨rfl, rfl⟩
set_option maxRecDepth 100000 in
set_option maxHeartbeats 4000000 in
theorem runsure_SHX (tag : ByteArray) (hk : tag.toList = [83, 72, 88]) (w : World) :
    Calls Try.prog 23 #[.string tag] w fun e w' => e = .returned (.bool true) ∧ w = w' := by
  have e0 : (tag.toList == [83, 72, 65]) = false := by rw [hk]; rfl
  have e1 : (tag.toList == [83, 72, 88]) = true := by rw [hk]; rfl
  have e2 : (tag.toList == [83, 72, 89]) = false := by rw [hk]; rfl
  have e3 : (tag.toList == [84, 65, 83]) = false := by rw [hk]; rfl
  clear hk
  go_enter Try.func23, Try.ntmps23
  (repeat (first | (with_reducible refine inBlock_far (by decide) ?_) | (with_reducible refine then_exit ?_) | (with_reducible refine inBlock_here ?_) | ((fail_if_success (with_reducible refine calls_id ?_)); go_step)))
  go_ret
  exact ⟨rfl, rfl⟩
set_option maxRecDepth 100000 in
set_option maxHeartbeats 4000000 in
theorem runsure_SHY (tag : ByteArray) (hk : tag.toList = [83, 72, 89]) (w : World) :
    Calls Try.prog 23 #[.string tag] w fun e w' => e = .returned (.bool true) ∧ w = w' := by
  have e0 : (tag.toList == [83, 72, 65]) = false := by rw [hk]; rfl
  have e1 : (tag.toList == [83, 72, 88]) = false := by rw [hk]; rfl
  have e2 : (tag.toList == [83, 72, 89]) = true := by rw [hk]; rfl
  have e3 : (tag.toList == [84, 65, 83]) = false := by rw [hk]; rfl
  clear hk
  go_enter Try.func23, Try.ntmps23
  (repeat (first | (with_reducible refine inBlock_far (by decide) ?_) | (with_reducible refine then_exit ?_) | (with_reducible refine inBlock_here ?_) | ((fail_if_success (with_reducible refine calls_id ?_)); go_step)))
  go_ret
  exact ⟨rfl, rfl⟩
set_option maxRecDepth 100000 in
set_option maxHeartbeats 4000000 in
theorem runsure_TAS (tag : ByteArray) (hk : tag.toList = [84, 65, 83]) (w : World) :
    Calls Try.prog 23 #[.string tag] w fun e w' => e = .returned (.bool true) ∧ w = w' := by
  have e0 : (tag.toList == [83, 72, 65]) = false := by rw [hk]; rfl
  have e1 : (tag.toList == [83, 72, 88]) = false := by rw [hk]; rfl
  have e2 : (tag.toList == [83, 72, 89]) = false := by rw [hk]; rfl
  have e3 : (tag.toList == [84, 65, 83]) = true := by rw [hk]; rfl
  clear hk
  go_enter Try.func23, Try.ntmps23
  (repeat (first | (with_reducible refine inBlock_far (by decide) ?_) | (with_reducible refine then_exit ?_) | (with_reducible refine inBlock_here ?_) | ((fail_if_success (with_reducible refine calls_id ?_)); go_step)))
  go_ret
  exact ⟨rfl, rfl⟩
set_option maxRecDepth 100000 in
set_option maxHeartbeats 4000000 in
theorem runsure_other (tag : ByteArray) (hk : ∀ l ∈ [[83, 72, 65], [83, 72, 88], [83, 72, 89], [84, 65, 83]], tag.toList ≠ l) (w : World) :
    Calls Try.prog 23 #[.string tag] w fun e w' => e = .returned (.bool false) ∧ w = w' := by
  have e0 : (tag.toList == [83, 72, 65]) = false := beq_eq_false_iff_ne.2 (hk _ (by decide))
  have e1 : (tag.toList == [83, 72, 88]) = false := beq_eq_false_iff_ne.2 (hk _ (by decide))
  have e2 : (tag.toList == [83, 72, 89]) = false := beq_eq_false_iff_ne.2 (hk _ (by decide))
  have e3 : (tag.toList == [84, 65, 83]) = false := beq_eq_false_iff_ne.2 (hk _ (by decide))
  clear hk
  go_enter Try.func23, Try.ntmps23
  (repeat (first | (with_reducible refine inBlock_far (by decide) ?_) | (with_reducible refine then_exit ?_) | (with_reducible refine inBlock_here ?_) | ((fail_if_success (with_reducible refine calls_id ?_)); go_step)))
  go_ret
  exact ⟨rfl, rfl⟩
end Go.Proofs.Ytlecpfkfnaiabaa
