/- The walks of exec.Store of SHX, exec.Goes. -/
import Derived.Test.YthepcjecmlkaiaaDoorZExecThBox
import Derived.Test.YthepcjecmlkaiaaDoorZExecPl
import Derived.RegionTactic
import Derived.Deep.RegionWith
import Derived.ChangeAlike
import Derived.BigRegion
namespace Go.Proofs.YthepcjecmlkaiaaDoor
open Go.RowKit
set_option linter.unusedVariables false
set_option linter.unusedSimpArgs false
set_option maxRecDepth 100000 in
set_option maxHeartbeats 4000000 in
theorem store_SHX (r : Ex.Rg) (ok : r.ok) (m : Int) (g0 : 0 ≤ m) (g1 : m ≤ 255) (tag : ByteArray) (hk : tag.toList = [83, 72, 88]) (w : World) :
    Calls Tryd.prog 57 #[.string tag, rgU r, .int .u8 m] w fun e w' => e = .returned (.tuple #[.int .u8 (Ex.storeV .SHX r m), rgU (Ex.storeR .SHX r)]) ∧ Below w.heap.size w w' := by
  have e0 : (tag.toList == [83, 84, 65]) = false := by rw [hk]; rfl
  have e1 : (tag.toList == [83, 84, 88]) = false := by rw [hk]; rfl
  have e2 : (tag.toList == [83, 84, 89]) = false := by rw [hk]; rfl
  have e3 : (tag.toList == [83, 65, 88]) = false := by rw [hk]; rfl
  have e4 : (tag.toList == [83, 72, 65]) = false := by rw [hk]; rfl
  have e5 : (tag.toList == [83, 72, 88]) = true := by rw [hk]; rfl
  have e6 : (tag.toList == [83, 72, 89]) = false := by rw [hk]; rfl
  have e7 : (tag.toList == [84, 65, 83]) = false := by rw [hk]; rfl
  clear hk
  obtain ⟨a, x, y, s, p, pc⟩ := r
  obtain ⟨a0, a1, x0, x1, y0, y1, s0, s1, p0, p1, pc0, pc1⟩ := ok
  simp only [] at a0 a1 x0 x1 y0 y1 s0 s1 p0 p1 pc0 pc1
  have u : 0 ≤ (m + 1) % 256 ∧ (m + 1) % 256 ≤ 255 := by omega
  have q2 := Alu.comF_and x ((m + 1) % 256) x0 x1 u.1 u.2
  unfold rgU
  go_enter Tryd.func57, Tryd.ntmps57
  repeat (first | (with_reducible refine wp_abs _ (boxS_start .u8 .u16 _ _ a x y s p pc w) ?_) | go_step)
  rintro W hS
  have hS' := hS
  obtain ⟨c0, c1, c2, c3, c4, c5, f0, f1, f2, f3, f4, f5, d0, d1, d2, d3, d4, d5, r0, r1, r2, r3, r4, r5, hb, hn, hF⟩ := hS'
  (repeat (first | (with_reducible refine inBlock_far (by decide) ?_) | (with_reducible refine then_exit ?_) | (with_reducible refine inBlock_here ?_) | ((fail_if_success (with_reducible refine calls_id ?_)); go_step)))
  go_region
  all_goals (repeat (first | (with_reducible refine inBlock_far (by decide) ?_) | (with_reducible refine then_exit ?_) | (with_reducible refine inBlock_here ?_) | ((fail_if_success (with_reducible refine calls_id ?_)); go_step)))
  all_goals refine bodyPost_ret (v := .tuple #[.int .u8 (Alu.comF x ((m + 1) % 256)), .agg #[.int .u8 (a), .int .u8 (x), .int .u8 (y), .int .u8 (s), .int .u8 (p), .int .u16 (pc)]]) (by simp [results, Tryd.results57, go_sem, *]) rfl ⟨rfl, ?_⟩
  all_goals (repeat (first | (with_reducible exact hb) | (with_reducible exact hb.drew) | (with_reducible refine Below.drew ?_) | (with_reducible refine Below.setCell ?_ (by simp only []; omega) _)))
set_option maxRecDepth 100000 in
set_option maxHeartbeats 4000000 in
theorem goes_BPL (p : Int) (p0 : 0 ≤ p) (p1 : p ≤ 255) (tag : ByteArray) (hk : tag.toList = [66, 80, 76]) (w : World) :
    Calls Tryd.prog 61 #[.string tag, .int .u8 p] w fun e w' => e = .returned (.bool (Ex.goesF .BPL p)) ∧ w = w' := by
  have e0 : (tag.toList == [66, 80, 76]) = true := by rw [hk]; rfl
  have e1 : (tag.toList == [66, 77, 73]) = false := by rw [hk]; rfl
  have e2 : (tag.toList == [66, 86, 67]) = false := by rw [hk]; rfl
  have e3 : (tag.toList == [66, 86, 83]) = false := by rw [hk]; rfl
  have e4 : (tag.toList == [66, 67, 67]) = false := by rw [hk]; rfl
  have e5 : (tag.toList == [66, 67, 83]) = false := by rw [hk]; rfl
  have e6 : (tag.toList == [66, 78, 69]) = false := by rw [hk]; rfl
  have e7 : (tag.toList == [66, 69, 81]) = false := by rw [hk]; rfl
  clear hk
  have q := Ex.and_bit p 128 p0 p1 (by simp)
  go_enter Tryd.func61, Tryd.ntmps61
  (repeat (first | (with_reducible refine inBlock_far (by decide) ?_) | (with_reducible refine then_exit ?_) | (with_reducible refine inBlock_here ?_) | ((fail_if_success (with_reducible refine calls_id ?_)); go_step)))
  go_ret
  refine ⟨?_, rfl⟩
  simp only [Ex.goesF, q]
  first | rfl | (congr 2; done) | (congr 2; simp; done) | (cases Alu.has p 128 <;> rfl)
set_option maxRecDepth 100000 in
set_option maxHeartbeats 4000000 in
theorem goes_BMI (p : Int) (p0 : 0 ≤ p) (p1 : p ≤ 255) (tag : ByteArray) (hk : tag.toList = [66, 77, 73]) (w : World) :
    Calls Tryd.prog 61 #[.string tag, .int .u8 p] w fun e w' => e = .returned (.bool (Ex.goesF .BMI p)) ∧ w = w' := by
  have e0 : (tag.toList == [66, 80, 76]) = false := by rw [hk]; rfl
  have e1 : (tag.toList == [66, 77, 73]) = true := by rw [hk]; rfl
  have e2 : (tag.toList == [66, 86, 67]) = false := by rw [hk]; rfl
  have e3 : (tag.toList == [66, 86, 83]) = false := by rw [hk]; rfl
  have e4 : (tag.toList == [66, 67, 67]) = false := by rw [hk]; rfl
  have e5 : (tag.toList == [66, 67, 83]) = false := by rw [hk]; rfl
  have e6 : (tag.toList == [66, 78, 69]) = false := by rw [hk]; rfl
  have e7 : (tag.toList == [66, 69, 81]) = false := by rw [hk]; rfl
  clear hk
  have q := Ex.and_bit p 128 p0 p1 (by simp)
  go_enter Tryd.func61, Tryd.ntmps61
  (repeat (first | (with_reducible refine inBlock_far (by decide) ?_) | (with_reducible refine then_exit ?_) | (with_reducible refine inBlock_here ?_) | ((fail_if_success (with_reducible refine calls_id ?_)); go_step)))
  go_ret
  refine ⟨?_, rfl⟩
  simp only [Ex.goesF, q]
  first | rfl | (congr 2; done) | (congr 2; simp; done) | (cases Alu.has p 128 <;> rfl)
set_option maxRecDepth 100000 in
set_option maxHeartbeats 4000000 in
theorem goes_BVC (p : Int) (p0 : 0 ≤ p) (p1 : p ≤ 255) (tag : ByteArray) (hk : tag.toList = [66, 86, 67]) (w : World) :
    Calls Tryd.prog 61 #[.string tag, .int .u8 p] w fun e w' => e = .returned (.bool (Ex.goesF .BVC p)) ∧ w = w' := by
  have e0 : (tag.toList == [66, 80, 76]) = false := by rw [hk]; rfl
  have e1 : (tag.toList == [66, 77, 73]) = false := by rw [hk]; rfl
  have e2 : (tag.toList == [66, 86, 67]) = true := by rw [hk]; rfl
  have e3 : (tag.toList == [66, 86, 83]) = false := by rw [hk]; rfl
  have e4 : (tag.toList == [66, 67, 67]) = false := by rw [hk]; rfl
  have e5 : (tag.toList == [66, 67, 83]) = false := by rw [hk]; rfl
  have e6 : (tag.toList == [66, 78, 69]) = false := by rw [hk]; rfl
  have e7 : (tag.toList == [66, 69, 81]) = false := by rw [hk]; rfl
  clear hk
  have q := Ex.and_bit p 64 p0 p1 (by simp)
  go_enter Tryd.func61, Tryd.ntmps61
  (repeat (first | (with_reducible refine inBlock_far (by decide) ?_) | (with_reducible refine then_exit ?_) | (with_reducible refine inBlock_here ?_) | ((fail_if_success (with_reducible refine calls_id ?_)); go_step)))
  go_ret
  refine ⟨?_, rfl⟩
  simp only [Ex.goesF, q]
  first | rfl | (congr 2; done) | (congr 2; simp; done) | (cases Alu.has p 64 <;> rfl)
set_option maxRecDepth 100000 in
set_option maxHeartbeats 4000000 in
theorem goes_BVS (p : Int) (p0 : 0 ≤ p) (p1 : p ≤ 255) (tag : ByteArray) (hk : tag.toList = [66, 86, 83]) (w : World) :
    Calls Tryd.prog 61 #[.string tag, .int .u8 p] w fun e w' => e = .returned (.bool (Ex.goesF .BVS p)) ∧ w = w' := by
  have e0 : (tag.toList == [66, 80, 76]) = false := by rw [hk]; rfl
  have e1 : (tag.toList == [66, 77, 73]) = false := by rw [hk]; rfl
  have e2 : (tag.toList == [66, 86, 67]) = false := by rw [hk]; rfl
  have e3 : (tag.toList == [66, 86, 83]) = true := by rw [hk]; rfl
  have e4 : (tag.toList == [66, 67, 67]) = false := by rw [hk]; rfl
  have e5 : (tag.toList == [66, 67, 83]) = false := by rw [hk]; rfl
  have e6 : (tag.toList == [66, 78, 69]) = false := by rw [hk]; rfl
  have e7 : (tag.toList == [66, 69, 81]) = false := by rw [hk]; rfl
  clear hk
  have q := Ex.and_bit p 64 p0 p1 (by simp)
  go_enter Tryd.func61, Tryd.ntmps61
  (repeat (first | (with_reducible refine inBlock_far (by decide) ?_) | (with_reducible refine then_exit ?_) | (with_reducible refine inBlock_here ?_) | ((fail_if_success (with_reducible refine calls_id ?_)); go_step)))
  go_ret
  refine ⟨?_, rfl⟩
  simp only [Ex.goesF, q]
  first | rfl | (congr 2; done) | (congr 2; simp; done) | (cases Alu.has p 64 <;> rfl)
set_option maxRecDepth 100000 in
set_option maxHeartbeats 4000000 in
theorem goes_BCC (p : Int) (p0 : 0 ≤ p) (p1 : p ≤ 255) (tag : ByteArray) (hk : tag.toList = [66, 67, 67]) (w : World) :
    Calls Tryd.prog 61 #[.string tag, .int .u8 p] w fun e w' => e = .returned (.bool (Ex.goesF .BCC p)) ∧ w = w' := by
  have e0 : (tag.toList == [66, 80, 76]) = false := by rw [hk]; rfl
  have e1 : (tag.toList == [66, 77, 73]) = false := by rw [hk]; rfl
  have e2 : (tag.toList == [66, 86, 67]) = false := by rw [hk]; rfl
  have e3 : (tag.toList == [66, 86, 83]) = false := by rw [hk]; rfl
  have e4 : (tag.toList == [66, 67, 67]) = true := by rw [hk]; rfl
  have e5 : (tag.toList == [66, 67, 83]) = false := by rw [hk]; rfl
  have e6 : (tag.toList == [66, 78, 69]) = false := by rw [hk]; rfl
  have e7 : (tag.toList == [66, 69, 81]) = false := by rw [hk]; rfl
  clear hk
  have q := Ex.and_bit p 1 p0 p1 (by simp)
  go_enter Tryd.func61, Tryd.ntmps61
  (repeat (first | (with_reducible refine inBlock_far (by decide) ?_) | (with_reducible refine then_exit ?_) | (with_reducible refine inBlock_here ?_) | ((fail_if_success (with_reducible refine calls_id ?_)); go_step)))
  go_ret
  refine ⟨?_, rfl⟩
  simp only [Ex.goesF, q]
  first | rfl | (congr 2; done) | (congr 2; simp; done) | (cases Alu.has p 1 <;> rfl)
set_option maxRecDepth 100000 in
set_option maxHeartbeats 4000000 in
theorem goes_BCS (p : Int) (p0 : 0 ≤ p) (p1 : p ≤ 255) (tag : ByteArray) (hk : tag.toList = [66, 67, 83]) (w : World) :
    Calls Tryd.prog 61 #[.string tag, .int .u8 p] w fun e w' => e = .returned (.bool (Ex.goesF .BCS p)) ∧ w = w' := by
  have e0 : (tag.toList == [66, 80, 76]) = false := by rw [hk]; rfl
  have e1 : (tag.toList == [66, 77, 73]) = false := by rw [hk]; rfl
  have e2 : (tag.toList == [66, 86, 67]) = false := by rw [hk]; rfl
  have e3 : (tag.toList == [66, 86, 83]) = false := by rw [hk]; rfl
  have e4 : (tag.toList == [66, 67, 67]) = false := by rw [hk]; rfl
  have e5 : (tag.toList == [66, 67, 83]) = true := by rw [hk]; rfl
  have e6 : (tag.toList == [66, 78, 69]) = false := by rw [hk]; rfl
  have e7 : (tag.toList == [66, 69, 81]) = false := by rw [hk]; rfl
  clear hk
  have q := Ex.and_bit p 1 p0 p1 (by simp)
  go_enter Tryd.func61, Tryd.ntmps61
  (repeat (first | (with_reducible refine inBlock_far (by decide) ?_) | (with_reducible refine then_exit ?_) | (with_reducible refine inBlock_here ?_) | ((fail_if_success (with_reducible refine calls_id ?_)); go_step)))
  go_ret
  refine ⟨?_, rfl⟩
  simp only [Ex.goesF, q]
  first | rfl | (congr 2; done) | (congr 2; simp; done) | (cases Alu.has p 1 <;> rfl)
set_option maxRecDepth 100000 in
set_option maxHeartbeats 4000000 in
theorem goes_BNE (p : Int) (p0 : 0 ≤ p) (p1 : p ≤ 255) (tag : ByteArray) (hk : tag.toList = [66, 78, 69]) (w : World) :
    Calls Tryd.prog 61 #[.string tag, .int .u8 p] w fun e w' => e = .returned (.bool (Ex.goesF .BNE p)) ∧ w = w' := by
  have e0 : (tag.toList == [66, 80, 76]) = false := by rw [hk]; rfl
  have e1 : (tag.toList == [66, 77, 73]) = false := by rw [hk]; rfl
  have e2 : (tag.toList == [66, 86, 67]) = false := by rw [hk]; rfl
  have e3 : (tag.toList == [66, 86, 83]) = false := by rw [hk]; rfl
  have e4 : (tag.toList == [66, 67, 67]) = false := by rw [hk]; rfl
  have e5 : (tag.toList == [66, 67, 83]) = false := by rw [hk]; rfl
  have e6 : (tag.toList == [66, 78, 69]) = true := by rw [hk]; rfl
  have e7 : (tag.toList == [66, 69, 81]) = false := by rw [hk]; rfl
  clear hk
  have q := Ex.and_bit p 2 p0 p1 (by simp)
  go_enter Tryd.func61, Tryd.ntmps61
  (repeat (first | (with_reducible refine inBlock_far (by decide) ?_) | (with_reducible refine then_exit ?_) | (with_reducible refine inBlock_here ?_) | ((fail_if_success (with_reducible refine calls_id ?_)); go_step)))
  go_ret
  refine ⟨?_, rfl⟩
  simp only [Ex.goesF, q]
  first | rfl | (congr 2; done) | (congr 2; simp; done) | (cases Alu.has p 2 <;> rfl)
set_option maxRecDepth 100000 in
set_option maxHeartbeats 4000000 in
theorem goes_BEQ (p : Int) (p0 : 0 ≤ p) (p1 : p ≤ 255) (tag : ByteArray) (hk : tag.toList = [66, 69, 81]) (w : World) :
    Calls Tryd.prog 61 #[.string tag, .int .u8 p] w fun e w' => e = .returned (.bool (Ex.goesF .BEQ p)) ∧ w = w' := by
  have e0 : (tag.toList == [66, 80, 76]) = false := by rw [hk]; rfl
  have e1 : (tag.toList == [66, 77, 73]) = false := by rw [hk]; rfl
  have e2 : (tag.toList == [66, 86, 67]) = false := by rw [hk]; rfl
  have e3 : (tag.toList == [66, 86, 83]) = false := by rw [hk]; rfl
  have e4 : (tag.toList == [66, 67, 67]) = false := by rw [hk]; rfl
  have e5 : (tag.toList == [66, 67, 83]) = false := by rw [hk]; rfl
  have e6 : (tag.toList == [66, 78, 69]) = false := by rw [hk]; rfl
  have e7 : (tag.toList == [66, 69, 81]) = true := by rw [hk]; rfl
  clear hk
  have q := Ex.and_bit p 2 p0 p1 (by simp)
  go_enter Tryd.func61, Tryd.ntmps61
  (repeat (first | (with_reducible refine inBlock_far (by decide) ?_) | (with_reducible refine then_exit ?_) | (with_reducible refine inBlock_here ?_) | ((fail_if_success (with_reducible refine calls_id ?_)); go_step)))
  go_ret
  refine ⟨?_, rfl⟩
  simp only [Ex.goesF, q]
  first | rfl | (congr 2; done) | (congr 2; simp; done) | (cases Alu.has p 2 <;> rfl)
set_option maxRecDepth 100000 in
set_option maxHeartbeats 4000000 in
theorem goes_other (p : Int) (p0 : 0 ≤ p) (p1 : p ≤ 255) (tag : ByteArray) (hk : ∀ l ∈ Ex.goNames, tag.toList ≠ l) (w : World) :
    Calls Tryd.prog 61 #[.string tag, .int .u8 p] w fun e w' => e = .returned (.bool (Ex.goesF .other p)) ∧ w = w' := by
  have e0 : (tag.toList == [66, 80, 76]) = false := beq_eq_false_iff_ne.2 (hk _ (by decide))
  have e1 : (tag.toList == [66, 77, 73]) = false := beq_eq_false_iff_ne.2 (hk _ (by decide))
  have e2 : (tag.toList == [66, 86, 67]) = false := beq_eq_false_iff_ne.2 (hk _ (by decide))
  have e3 : (tag.toList == [66, 86, 83]) = false := beq_eq_false_iff_ne.2 (hk _ (by decide))
  have e4 : (tag.toList == [66, 67, 67]) = false := beq_eq_false_iff_ne.2 (hk _ (by decide))
  have e5 : (tag.toList == [66, 67, 83]) = false := beq_eq_false_iff_ne.2 (hk _ (by decide))
  have e6 : (tag.toList == [66, 78, 69]) = false := beq_eq_false_iff_ne.2 (hk _ (by decide))
  have e7 : (tag.toList == [66, 69, 81]) = false := beq_eq_false_iff_ne.2 (hk _ (by decide))
  clear hk
  go_enter Tryd.func61, Tryd.ntmps61
  (repeat (first | (with_reducible refine inBlock_far (by decide) ?_) | (with_reducible refine then_exit ?_) | (with_reducible refine inBlock_here ?_) | ((fail_if_success (with_reducible refine calls_id ?_)); go_step)))
  go_ret
  exact ⟨rfl, rfl⟩
end Go.Proofs.YthepcjecmlkaiaaDoor
/- The walks of exec.Store, Unsure. -/
namespace Go.Proofs.YthepcjecmlkaiaaDoor
open Go.RowKit
set_option linter.unusedVariables false
set_option linter.unusedSimpArgs false
set_option maxRecDepth 100000 in
set_option maxHeartbeats 4000000 in
theorem store_STA (r : Ex.Rg) (ok : r.ok) (m : Int) (g0 : 0 ≤ m) (g1 : m ≤ 255) (tag : ByteArray) (hk : tag.toList = [83, 84, 65]) (w : World) :
    Calls Tryd.prog 57 #[.string tag, rgU r, .int .u8 m] w fun e w' => e = .returned (.tuple #[.int .u8 (Ex.storeV .STA r m), rgU (Ex.storeR .STA r)]) ∧ Below w.heap.size w w' := by
  have e0 : (tag.toList == [83, 84, 65]) = true := by rw [hk]; rfl
  have e1 : (tag.toList == [83, 84, 88]) = false := by rw [hk]; rfl
  have e2 : (tag.toList == [83, 84, 89]) = false := by rw [hk]; rfl
  have e3 : (tag.toList == [83, 65, 88]) = false := by rw [hk]; rfl
  have e4 : (tag.toList == [83, 72, 65]) = false := by rw [hk]; rfl
  have e5 : (tag.toList == [83, 72, 88]) = false := by rw [hk]; rfl
  have e6 : (tag.toList == [83, 72, 89]) = false := by rw [hk]; rfl
  have e7 : (tag.toList == [84, 65, 83]) = false := by rw [hk]; rfl
  clear hk
  obtain ⟨a, x, y, s, p, pc⟩ := r
  obtain ⟨a0, a1, x0, x1, y0, y1, s0, s1, p0, p1, pc0, pc1⟩ := ok
  simp only [] at a0 a1 x0 x1 y0 y1 s0 s1 p0 p1 pc0 pc1
  have u : 0 ≤ (m + 1) % 256 ∧ (m + 1) % 256 ≤ 255 := by omega
  unfold rgU
  go_enter Tryd.func57, Tryd.ntmps57
  repeat (first | (with_reducible refine wp_abs _ (boxS_start .u8 .u16 _ _ a x y s p pc w) ?_) | go_step)
  rintro W hS
  have hS' := hS
  obtain ⟨c0, c1, c2, c3, c4, c5, f0, f1, f2, f3, f4, f5, d0, d1, d2, d3, d4, d5, r0, r1, r2, r3, r4, r5, hb, hn, hF⟩ := hS'
  (repeat (first | (with_reducible refine inBlock_far (by decide) ?_) | (with_reducible refine then_exit ?_) | (with_reducible refine inBlock_here ?_) | ((fail_if_success (with_reducible refine calls_id ?_)); go_step)))
  go_region
  all_goals (repeat (first | (with_reducible refine inBlock_far (by decide) ?_) | (with_reducible refine then_exit ?_) | (with_reducible refine inBlock_here ?_) | ((fail_if_success (with_reducible refine calls_id ?_)); go_step)))
  all_goals refine bodyPost_ret (v := .tuple #[.int .u8 (a), .agg #[.int .u8 (a), .int .u8 (x), .int .u8 (y), .int .u8 (s), .int .u8 (p), .int .u16 (pc)]]) (by simp [results, Tryd.results57, go_sem, *]) rfl ⟨rfl, ?_⟩
  all_goals (repeat (first | (with_reducible exact hb) | (with_reducible exact hb.drew) | (with_reducible refine Below.drew ?_) | (with_reducible refine Below.setCell ?_ (by simp only []; omega) _)))
set_option maxRecDepth 100000 in
set_option maxHeartbeats 4000000 in
theorem store_STX (r : Ex.Rg) (ok : r.ok) (m : Int) (g0 : 0 ≤ m) (g1 : m ≤ 255) (tag : ByteArray) (hk : tag.toList = [83, 84, 88]) (w : World) :
    Calls Tryd.prog 57 #[.string tag, rgU r, .int .u8 m] w fun e w' => e = .returned (.tuple #[.int .u8 (Ex.storeV .STX r m), rgU (Ex.storeR .STX r)]) ∧ Below w.heap.size w w' := by
  have e0 : (tag.toList == [83, 84, 65]) = false := by rw [hk]; rfl
  have e1 : (tag.toList == [83, 84, 88]) = true := by rw [hk]; rfl
  have e2 : (tag.toList == [83, 84, 89]) = false := by rw [hk]; rfl
  have e3 : (tag.toList == [83, 65, 88]) = false := by rw [hk]; rfl
  have e4 : (tag.toList == [83, 72, 65]) = false := by rw [hk]; rfl
  have e5 : (tag.toList == [83, 72, 88]) = false := by rw [hk]; rfl
  have e6 : (tag.toList == [83, 72, 89]) = false := by rw [hk]; rfl
  have e7 : (tag.toList == [84, 65, 83]) = false := by rw [hk]; rfl
  clear hk
  obtain ⟨a, x, y, s, p, pc⟩ := r
  obtain ⟨a0, a1, x0, x1, y0, y1, s0, s1, p0, p1, pc0, pc1⟩ := ok
  simp only [] at a0 a1 x0 x1 y0 y1 s0 s1 p0 p1 pc0 pc1
  have u : 0 ≤ (m + 1) % 256 ∧ (m + 1) % 256 ≤ 255 := by omega
  unfold rgU
  go_enter Tryd.func57, Tryd.ntmps57
  repeat (first | (with_reducible refine wp_abs _ (boxS_start .u8 .u16 _ _ a x y s p pc w) ?_) | go_step)
  rintro W hS
  have hS' := hS
  obtain ⟨c0, c1, c2, c3, c4, c5, f0, f1, f2, f3, f4, f5, d0, d1, d2, d3, d4, d5, r0, r1, r2, r3, r4, r5, hb, hn, hF⟩ := hS'
  (repeat (first | (with_reducible refine inBlock_far (by decide) ?_) | (with_reducible refine then_exit ?_) | (with_reducible refine inBlock_here ?_) | ((fail_if_success (with_reducible refine calls_id ?_)); go_step)))
  go_region
  all_goals (repeat (first | (with_reducible refine inBlock_far (by decide) ?_) | (with_reducible refine then_exit ?_) | (with_reducible refine inBlock_here ?_) | ((fail_if_success (with_reducible refine calls_id ?_)); go_step)))
  all_goals refine bodyPost_ret (v := .tuple #[.int .u8 (x), .agg #[.int .u8 (a), .int .u8 (x), .int .u8 (y), .int .u8 (s), .int .u8 (p), .int .u16 (pc)]]) (by simp [results, Tryd.results57, go_sem, *]) rfl ⟨rfl, ?_⟩
  all_goals (repeat (first | (with_reducible exact hb) | (with_reducible exact hb.drew) | (with_reducible refine Below.drew ?_) | (with_reducible refine Below.setCell ?_ (by simp only []; omega) _)))
set_option maxRecDepth 100000 in
set_option maxHeartbeats 4000000 in
theorem store_STY (r : Ex.Rg) (ok : r.ok) (m : Int) (g0 : 0 ≤ m) (g1 : m ≤ 255) (tag : ByteArray) (hk : tag.toList = [83, 84, 89]) (w : World) :
    Calls Tryd.prog 57 #[.string tag, rgU r, .int .u8 m] w fun e w' => e = .returned (.tuple #[.int .u8 (Ex.storeV .STY r m), rgU (Ex.storeR .STY r)]) ∧ Below w.heap.size w w' := by
  have e0 : (tag.toList == [83, 84, 65]) = false := by rw [hk]; rfl
  have e1 : (tag.toList == [83, 84, 88]) = false := by rw [hk]; rfl
  have e2 : (tag.toList == [83, 84, 89]) = true := by rw [hk]; rfl
  have e3 : (tag.toList == [83, 65, 88]) = false := by rw [hk]; rfl
  have e4 : (tag.toList == [83, 72, 65]) = false := by rw [hk]; rfl
  have e5 : (tag.toList == [83, 72, 88]) = false := by rw [hk]; rfl
  have e6 : (tag.toList == [83, 72, 89]) = false := by rw [hk]; rfl
  have e7 : (tag.toList == [84, 65, 83]) = false := by rw [hk]; rfl
  clear hk
  obtain ⟨a, x, y, s, p, pc⟩ := r
  obtain ⟨a0, a1, x0, x1, y0, y1, s0, s1, p0, p1, pc0, pc1⟩ := ok
  simp only [] at a0 a1 x0 x1 y0 y1 s0 s1 p0 p1 pc0 pc1
  have u : 0 ≤ (m + 1) % 256 ∧ (m + 1) % 256 ≤ 255 := by omega
  unfold rgU
  go_enter Tryd.func57, Tryd.ntmps57
  repeat (first | (with_reducible refine wp_abs _ (boxS_start .u8 .u16 _ _ a x y s p pc w) ?_) | go_step)
  rintro W hS
  have hS' := hS
  obtain ⟨c0, c1, c2, c3, c4, c5, f0, f1, f2, f3, f4, f5, d0, d1, d2, d3, d4, d5, r0, r1, r2, r3, r4, r5, hb, hn, hF⟩ := hS'
  (repeat (first | (with_reducible refine inBlock_far (by decide) ?_) | (with_reducible refine then_exit ?_) | (with_reducible refine inBlock_here ?_) | ((fail_if_success (with_reducible refine calls_id ?_)); go_step)))
  go_region
  all_goals (repeat (first | (with_reducible refine inBlock_far (by decide) ?_) | (with_reducible refine then_exit ?_) | (with_reducible refine inBlock_here ?_) | ((fail_if_success (with_reducible refine calls_id ?_)); go_step)))
  all_goals refine bodyPost_ret (v := .tuple #[.int .u8 (y), .agg #[.int .u8 (a), .int .u8 (x), .int .u8 (y), .int .u8 (s), .int .u8 (p), .int .u16 (pc)]]) (by simp [results, Tryd.results57, go_sem, *]) rfl ⟨rfl, ?_⟩
  all_goals (repeat (first | (with_reducible exact hb) | (with_reducible exact hb.drew) | (with_reducible refine Below.drew ?_) | (with_reducible refine Below.setCell ?_ (by simp only []; omega) _)))
set_option maxRecDepth 100000 in
set_option maxHeartbeats 4000000 in
theorem store_SAX (r : Ex.Rg) (ok : r.ok) (m : Int) (g0 : 0 ≤ m) (g1 : m ≤ 255) (tag : ByteArray) (hk : tag.toList = [83, 65, 88]) (w : World) :
    Calls Tryd.prog 57 #[.string tag, rgU r, .int .u8 m] w fun e w' => e = .returned (.tuple #[.int .u8 (Ex.storeV .SAX r m), rgU (Ex.storeR .SAX r)]) ∧ Below w.heap.size w w' := by
  have e0 : (tag.toList == [83, 84, 65]) = false := by rw [hk]; rfl
  have e1 : (tag.toList == [83, 84, 88]) = false := by rw [hk]; rfl
  have e2 : (tag.toList == [83, 84, 89]) = false := by rw [hk]; rfl
  have e3 : (tag.toList == [83, 65, 88]) = true := by rw [hk]; rfl
  have e4 : (tag.toList == [83, 72, 65]) = false := by rw [hk]; rfl
  have e5 : (tag.toList == [83, 72, 88]) = false := by rw [hk]; rfl
  have e6 : (tag.toList == [83, 72, 89]) = false := by rw [hk]; rfl
  have e7 : (tag.toList == [84, 65, 83]) = false := by rw [hk]; rfl
  clear hk
  obtain ⟨a, x, y, s, p, pc⟩ := r
  obtain ⟨a0, a1, x0, x1, y0, y1, s0, s1, p0, p1, pc0, pc1⟩ := ok
  simp only [] at a0 a1 x0 x1 y0 y1 s0 s1 p0 p1 pc0 pc1
  have u : 0 ≤ (m + 1) % 256 ∧ (m + 1) % 256 ≤ 255 := by omega
  have q1 := Alu.comF_and a x a0 a1 x0 x1
  have o1 := Alu.comF_in a x a0 a1
  unfold rgU
  go_enter Tryd.func57, Tryd.ntmps57
  repeat (first | (with_reducible refine wp_abs _ (boxS_start .u8 .u16 _ _ a x y s p pc w) ?_) | go_step)
  rintro W hS
  have hS' := hS
  obtain ⟨c0, c1, c2, c3, c4, c5, f0, f1, f2, f3, f4, f5, d0, d1, d2, d3, d4, d5, r0, r1, r2, r3, r4, r5, hb, hn, hF⟩ := hS'
  (repeat (first | (with_reducible refine inBlock_far (by decide) ?_) | (with_reducible refine then_exit ?_) | (with_reducible refine inBlock_here ?_) | ((fail_if_success (with_reducible refine calls_id ?_)); go_step)))
  go_region
  all_goals (repeat (first | (with_reducible refine inBlock_far (by decide) ?_) | (with_reducible refine then_exit ?_) | (with_reducible refine inBlock_here ?_) | ((fail_if_success (with_reducible refine calls_id ?_)); go_step)))
  all_goals refine bodyPost_ret (v := .tuple #[.int .u8 (Alu.comF a x), .agg #[.int .u8 (a), .int .u8 (x), .int .u8 (y), .int .u8 (s), .int .u8 (p), .int .u16 (pc)]]) (by simp [results, Tryd.results57, go_sem, *]) rfl ⟨rfl, ?_⟩
  all_goals (repeat (first | (with_reducible exact hb) | (with_reducible exact hb.drew) | (with_reducible refine Below.drew ?_) | (with_reducible refine Below.setCell ?_ (by simp only []; omega) _)))
set_option maxRecDepth 100000 in
set_option maxHeartbeats 4000000 in
theorem store_SHA (r : Ex.Rg) (ok : r.ok) (m : Int) (g0 : 0 ≤ m) (g1 : m ≤ 255) (tag : ByteArray) (hk : tag.toList = [83, 72, 65]) (w : World) :
    Calls Tryd.prog 57 #[.string tag, rgU r, .int .u8 m] w fun e w' => e = .returned (.tuple #[.int .u8 (Ex.storeV .SHA r m), rgU (Ex.storeR .SHA r)]) ∧ Below w.heap.size w w' := by
  have e0 : (tag.toList == [83, 84, 65]) = false := by rw [hk]; rfl
  have e1 : (tag.toList == [83, 84, 88]) = false := by rw [hk]; rfl
  have e2 : (tag.toList == [83, 84, 89]) = false := by rw [hk]; rfl
  have e3 : (tag.toList == [83, 65, 88]) = false := by rw [hk]; rfl
  have e4 : (tag.toList == [83, 72, 65]) = true := by rw [hk]; rfl
  have e5 : (tag.toList == [83, 72, 88]) = false := by rw [hk]; rfl
  have e6 : (tag.toList == [83, 72, 89]) = false := by rw [hk]; rfl
  have e7 : (tag.toList == [84, 65, 83]) = false := by rw [hk]; rfl
  clear hk
  obtain ⟨a, x, y, s, p, pc⟩ := r
  obtain ⟨a0, a1, x0, x1, y0, y1, s0, s1, p0, p1, pc0, pc1⟩ := ok
  simp only [] at a0 a1 x0 x1 y0 y1 s0 s1 p0 p1 pc0 pc1
  have u : 0 ≤ (m + 1) % 256 ∧ (m + 1) % 256 ≤ 255 := by omega
  have q1 := Alu.comF_and a x a0 a1 x0 x1
  have o1 := Alu.comF_in a x a0 a1
  have q2 := Alu.comF_and (Alu.comF a x) ((m + 1) % 256) o1.1 o1.2 u.1 u.2
  unfold rgU
  go_enter Tryd.func57, Tryd.ntmps57
  repeat (first | (with_reducible refine wp_abs _ (boxS_start .u8 .u16 _ _ a x y s p pc w) ?_) | go_step)
  rintro W hS
  have hS' := hS
  obtain ⟨c0, c1, c2, c3, c4, c5, f0, f1, f2, f3, f4, f5, d0, d1, d2, d3, d4, d5, r0, r1, r2, r3, r4, r5, hb, hn, hF⟩ := hS'
  (repeat (first | (with_reducible refine inBlock_far (by decide) ?_) | (with_reducible refine then_exit ?_) | (with_reducible refine inBlock_here ?_) | ((fail_if_success (with_reducible refine calls_id ?_)); go_step)))
  go_region
  all_goals (repeat (first | (with_reducible refine inBlock_far (by decide) ?_) | (with_reducible refine then_exit ?_) | (with_reducible refine inBlock_here ?_) | ((fail_if_success (with_reducible refine calls_id ?_)); go_step)))
  all_goals refine bodyPost_ret (v := .tuple #[.int .u8 (Alu.comF (Alu.comF a x) ((m + 1) % 256)), .agg #[.int .u8 (a), .int .u8 (x), .int .u8 (y), .int .u8 (s), .int .u8 (p), .int .u16 (pc)]]) (by simp [results, Tryd.results57, go_sem, *]) rfl ⟨rfl, ?_⟩
  all_goals (repeat (first | (with_reducible exact hb) | (with_reducible exact hb.drew) | (with_reducible refine Below.drew ?_) | (with_reducible refine Below.setCell ?_ (by simp only []; omega) _)))
set_option maxRecDepth 100000 in
set_option maxHeartbeats 4000000 in
theorem store_SHY (r : Ex.Rg) (ok : r.ok) (m : Int) (g0 : 0 ≤ m) (g1 : m ≤ 255) (tag : ByteArray) (hk : tag.toList = [83, 72, 89]) (w : World) :
    Calls Tryd.prog 57 #[.string tag, rgU r, .int .u8 m] w fun e w' => e = .returned (.tuple #[.int .u8 (Ex.storeV .SHY r m), rgU (Ex.storeR .SHY r)]) ∧ Below w.heap.size w w' := by
  have e0 : (tag.toList == [83, 84, 65]) = false := by rw [hk]; rfl
  have e1 : (tag.toList == [83, 84, 88]) = false := by rw [hk]; rfl
  have e2 : (tag.toList == [83, 84, 89]) = false := by rw [hk]; rfl
  have e3 : (tag.toList == [83, 65, 88]) = false := by rw [hk]; rfl
  have e4 : (tag.toList == [83, 72, 65]) = false := by rw [hk]; rfl
  have e5 : (tag.toList == [83, 72, 88]) = false := by rw [hk]; rfl
  have e6 : (tag.toList == [83, 72, 89]) = true := by rw [hk]; rfl
  have e7 : (tag.toList == [84, 65, 83]) = false := by rw [hk]; rfl
  clear hk
  obtain ⟨a, x, y, s, p, pc⟩ := r
  obtain ⟨a0, a1, x0, x1, y0, y1, s0, s1, p0, p1, pc0, pc1⟩ := ok
  simp only [] at a0 a1 x0 x1 y0 y1 s0 s1 p0 p1 pc0 pc1
  have u : 0 ≤ (m + 1) % 256 ∧ (m + 1) % 256 ≤ 255 := by omega
  have q2 := Alu.comF_and y ((m + 1) % 256) y0 y1 u.1 u.2
  unfold rgU
  go_enter Tryd.func57, Tryd.ntmps57
  repeat (first | (with_reducible refine wp_abs _ (boxS_start .u8 .u16 _ _ a x y s p pc w) ?_) | go_step)
  rintro W hS
  have hS' := hS
  obtain ⟨c0, c1, c2, c3, c4, c5, f0, f1, f2, f3, f4, f5, d0, d1, d2, d3, d4, d5, r0, r1, r2, r3, r4, r5, hb, hn, hF⟩ := hS'
  (repeat (first | (with_reducible refine inBlock_far (by decide) ?_) | (with_reducible refine then_exit ?_) | (with_reducible refine inBlock_here ?_) | ((fail_if_success (with_reducible refine calls_id ?_)); go_step)))
  go_region
  all_goals (repeat (first | (with_reducible refine inBlock_far (by decide) ?_) | (with_reducible refine then_exit ?_) | (with_reducible refine inBlock_here ?_) | ((fail_if_success (with_reducible refine calls_id ?_)); go_step)))
  all_goals refine bodyPost_ret (v := .tuple #[.int .u8 (Alu.comF y ((m + 1) % 256)), .agg #[.int .u8 (a), .int .u8 (x), .int .u8 (y), .int .u8 (s), .int .u8 (p), .int .u16 (pc)]]) (by simp [results, Tryd.results57, go_sem, *]) rfl ⟨rfl, ?_⟩
  all_goals (repeat (first | (with_reducible exact hb) | (with_reducible exact hb.drew) | (with_reducible refine Below.drew ?_) | (with_reducible refine Below.setCell ?_ (by simp only []; omega) _)))
set_option maxRecDepth 100000 in
set_option maxHeartbeats 4000000 in
theorem store_TAS (r : Ex.Rg) (ok : r.ok) (m : Int) (g0 : 0 ≤ m) (g1 : m ≤ 255) (tag : ByteArray) (hk : tag.toList = [84, 65, 83]) (w : World) :
    Calls Tryd.prog 57 #[.string tag, rgU r, .int .u8 m] w fun e w' => e = .returned (.tuple #[.int .u8 (Ex.storeV .TAS r m), rgU (Ex.storeR .TAS r)]) ∧ Below w.heap.size w w' := by
  have e0 : (tag.toList == [83, 84, 65]) = false := by rw [hk]; rfl
  have e1 : (tag.toList == [83, 84, 88]) = false := by rw [hk]; rfl
  have e2 : (tag.toList == [83, 84, 89]) = false := by rw [hk]; rfl
  have e3 : (tag.toList == [83, 65, 88]) = false := by rw [hk]; rfl
  have e4 : (tag.toList == [83, 72, 65]) = false := by rw [hk]; rfl
  have e5 : (tag.toList == [83, 72, 88]) = false := by rw [hk]; rfl
  have e6 : (tag.toList == [83, 72, 89]) = false := by rw [hk]; rfl
  have e7 : (tag.toList == [84, 65, 83]) = true := by rw [hk]; rfl
  clear hk
  obtain ⟨a, x, y, s, p, pc⟩ := r
  obtain ⟨a0, a1, x0, x1, y0, y1, s0, s1, p0, p1, pc0, pc1⟩ := ok
  simp only [] at a0 a1 x0 x1 y0 y1 s0 s1 p0 p1 pc0 pc1
  have u : 0 ≤ (m + 1) % 256 ∧ (m + 1) % 256 ≤ 255 := by omega
  have q1 := Alu.comF_and a x a0 a1 x0 x1
  have o1 := Alu.comF_in a x a0 a1
  have q2 := Alu.comF_and (Alu.comF a x) ((m + 1) % 256) o1.1 o1.2 u.1 u.2
  unfold rgU
  go_enter Tryd.func57, Tryd.ntmps57
  repeat (first | (with_reducible refine wp_abs _ (boxS_start .u8 .u16 _ _ a x y s p pc w) ?_) | go_step)
  rintro W hS
  have hS' := hS
  obtain ⟨c0, c1, c2, c3, c4, c5, f0, f1, f2, f3, f4, f5, d0, d1, d2, d3, d4, d5, r0, r1, r2, r3, r4, r5, hb, hn, hF⟩ := hS'
  (repeat (first | (with_reducible refine inBlock_far (by decide) ?_) | (with_reducible refine then_exit ?_) | (with_reducible refine inBlock_here ?_) | ((fail_if_success (with_reducible refine calls_id ?_)); go_step)))
  go_region
  all_goals (repeat (first | (with_reducible refine inBlock_far (by decide) ?_) | (with_reducible refine then_exit ?_) | (with_reducible refine inBlock_here ?_) | ((fail_if_success (with_reducible refine calls_id ?_)); go_step)))
  all_goals refine bodyPost_ret (v := .tuple #[.int .u8 (Alu.comF (Alu.comF a x) ((m + 1) % 256)), .agg #[.int .u8 (a), .int .u8 (x), .int .u8 (y), .int .u8 (Alu.comF a x), .int .u8 (p), .int .u16 (pc)]]) (by simp [results, Tryd.results57, go_sem, *]) rfl ⟨rfl, ?_⟩
  all_goals (repeat (first | (with_reducible exact hb) | (with_reducible exact hb.drew) | (with_reducible refine Below.drew ?_) | (with_reducible refine Below.setCell ?_ (by simp only []; omega) _)))
set_option maxRecDepth 100000 in
set_option maxHeartbeats 4000000 in
theorem store_other (r : Ex.Rg) (ok : r.ok) (m : Int) (g0 : 0 ≤ m) (g1 : m ≤ 255) (tag : ByteArray) (hk : ∀ l ∈ Ex.stNames, tag.toList ≠ l) (w : World) :
    Calls Tryd.prog 57 #[.string tag, rgU r, .int .u8 m] w fun e w' => e = .returned (.tuple #[.int .u8 (Ex.storeV .other r m), rgU (Ex.storeR .other r)]) ∧ Below w.heap.size w w' := by
  have e0 : (tag.toList == [83, 84, 65]) = false := beq_eq_false_iff_ne.2 (hk _ (by decide))
  have e1 : (tag.toList == [83, 84, 88]) = false := beq_eq_false_iff_ne.2 (hk _ (by decide))
  have e2 : (tag.toList == [83, 84, 89]) = false := beq_eq_false_iff_ne.2 (hk _ (by decide))
  have e3 : (tag.toList == [83, 65, 88]) = false := beq_eq_false_iff_ne.2 (hk _ (by decide))
  have e4 : (tag.toList == [83, 72, 65]) = false := beq_eq_false_iff_ne.2 (hk _ (by decide))
  have e5 : (tag.toList == [83, 72, 88]) = false := beq_eq_false_iff_ne.2 (hk _ (by decide))
  have e6 : (tag.toList == [83, 72, 89]) = false := beq_eq_false_iff_ne.2 (hk _ (by decide))
  have e7 : (tag.toList == [84, 65, 83]) = false := beq_eq_false_iff_ne.2 (hk _ (by decide))
  clear hk
  obtain ⟨a, x, y, s, p, pc⟩ := r
  obtain ⟨a0, a1, x0, x1, y0, y1, s0, s1, p0, p1, pc0, pc1⟩ := ok
  simp only [] at a0 a1 x0 x1 y0 y1 s0 s1 p0 p1 pc0 pc1
  have u : 0 ≤ (m + 1) % 256 ∧ (m + 1) % 256 ≤ 255 := by omega
  unfold rgU
  go_enter Tryd.func57, Tryd.ntmps57
  repeat (first | (with_reducible refine wp_abs _ (boxS_start .u8 .u16 _ _ a x y s p pc w) ?_) | go_step)
  rintro W hS
  have hS' := hS
  obtain ⟨c0, c1, c2, c3, c4, c5, f0, f1, f2, f3, f4, f5, d0, d1, d2, d3, d4, d5, r0, r1, r2, r3, r4, r5, hb, hn, hF⟩ := hS'
  (repeat (first | (with_reducible refine inBlock_far (by decide) ?_) | (with_reducible refine then_exit ?_) | (with_reducible refine inBlock_here ?_) | ((fail_if_success (with_reducible refine calls_id ?_)); go_step)))
  go_region
  all_goals (repeat (first | (with_reducible refine inBlock_far (by decide) ?_) | (with_reducible refine then_exit ?_) | (with_reducible refine inBlock_here ?_) | ((fail_if_success (with_reducible refine calls_id ?_)); go_step)))
  all_goals refine bodyPost_ret (v := .tuple #[.int .u8 (0), .agg #[.int .u8 (a), .int .u8 (x), .int .u8 (y), .int .u8 (s), .int .u8 (p), .int .u16 (pc)]]) (by simp [results, Tryd.results57, go_sem, *]) rfl ⟨rfl, ?_⟩
  all_goals (repeat (first | (with_reducible exact hb) | (with_reducible exact hb.drew) | (with_reducible refine Below.drew ?_) | (with_reducible refine Below.setCell ?_ (by simp only []; omega) _)))
set_option maxRecDepth 100000 in
set_option maxHeartbeats 4000000 in
theorem unsure_SHA (tag : ByteArray) (hk : tag.toList = [83, 72, 65]) (w : World) :
    Calls Tryd.prog 59 #[.string tag] w fun e w' => e = .returned (.bool true) ∧ w = w' := by
  have e0 : (tag.toList == [83, 72, 65]) = true := by rw [hk]; rfl
  have e1 : (tag.toList == [83, 72, 88]) = false := by rw [hk]; rfl
  have e2 : (tag.toList == [83, 72, 89]) = false := by rw [hk]; rfl
  have e3 : (tag.toList == [84, 65, 83]) = false := by rw [hk]; rfl
  clear hk
  go_enter Tryd.func59, Tryd.ntmps59
  (repeat (first | (with_reducible refine inBlock_far (by decide) ?_) | (with_reducible refine then_exit ?_) | (with_reducible refine inBlock_here ?_) | ((fail_if_success (with_reducible refine calls_id ?_)); go_step)))
  go_ret
  exact ⟨rfl, rfl⟩
set_option maxRecDepth 100000 in
set_option maxHeartbeats 4000000 in
theorem unsure_SHX (tag : ByteArray) (hk : tag.toList = [83, 72, 88]) (w : World) :
    Calls Tryd.prog 59 #[.string tag] w fun e w' => e = .returned (.bool true) ∧ w = w' := by
  have e0 : (tag.toList == [83, 72, 65]) = false := by rw [hk]; rfl
  have e1 : (tag.toList == [83, 72, 88]) = true := by rw [hk]; rfl
  have e2 : (tag.toList == [83, 72, 89]) = false := by rw [hk]; rfl
  have e3 : (tag.toList == [84, 65, 83]) = false := by rw [hk]; rfl
  clear hk
  go_enter Tryd.func59, Tryd.ntmps59
  (repeat (first | (with_reducible refine inBlock_far (by decide) ?_) | (with_reducible refine then_exit ?_) | (with_reducible refine inBlock_here ?_) | ((fail_if_success (with_reducible refine calls_id ?_)); go_step)))
  go_ret
  exact ⟨rfl, rfl⟩
set_option maxRecDepth 100000 in
set_option maxHeartbeats 4000000 in
theorem unsure_SHY (tag : ByteArray) (hk : tag.toList = [83, 72, 89]) (w : World) :
    Calls Tryd.prog 59 #[.string tag] w fun e w' => e = .returned (.bool true) ∧ w = w' := by
  have e0 : (tag.toList == [83, 72, 65]) = false := by rw [hk]; rfl
  have e1 : (tag.toList == [83, 72, 88]) = false := by rw [hk]; rfl
  have e2 : (tag.toList == [83, 72, 89]) = true := by rw [hk]; rfl
  have e3 : (tag.toList == [84, 65, 83]) = false := by rw [hk]; rfl
  clear hk
  go_enter Tryd.func59, Tryd.ntmps59
  (repeat (first | (with_reducible refine inBlock_far (by decide) ?_) | (with_reducible refine then_exit ?_) | (with_reducible refine inBlock_here ?_) | ((fail_if_success (with_reducible refine calls_id ?_)); go_step)))
  go_ret
  exact ⟨rfl, rfl⟩
set_option maxRecDepth 100000 in
set_option maxHeartbeats 4000000 in
theorem unsure_TAS (tag : ByteArray) (hk : tag.toList = [84, 65, 83]) (w : World) :
    Calls Tryd.prog 59 #[.string tag] w fun e w' => e = .returned (.bool true) ∧ w = w' := by
  have e0 : (tag.toList == [83, 72, 65]) = false := by rw [hk]; rfl
  have e1 : (tag.toList == [83, 72, 88]) = false := by rw [hk]; rfl
  have e2 : (tag.toList == [83, 72, 89]) = false := by rw [hk]; rfl
  have e3 : (tag.toList == [84, 65, 83]) = true := by rw [hk]; rfl
  clear hk
  go_enter Tryd.func59, Tryd.ntmps59
  (repeat (first | (with_reducible refine inBlock_far (by decide) ?_) | (with_reducible refine then_exit ?_) | (with_reducible refine inBlock_here ?_) | ((fail_if_success (with_reducible refine calls_id ?_)); go_step)))
  go_ret
  exact ⟨rfl, rfl⟩
set_option maxRecDepth 100000 in
set_option maxHeartbeats 4000000 in
theorem unsure_other (tag : ByteArray) (hk : ∀ l ∈ [[83, 72, 65], [83, 72, 88], [83, 72, 89], [84, 65, 83]], tag.toList ≠ l) (w : World) :
    Calls Tryd.prog 59 #[.string tag] w fun e w' => e = .returned (.bool false) ∧ w = w' := by
  have e0 : (tag.toList == [83, 72, 65]) = false := beq_eq_false_iff_ne.2 (hk _ (by decide))
  have e1 : (tag.toList == [83, 72, 88]) = false := beq_eq_false_iff_ne.2 (hk _ (by decide))
  have e2 : (tag.toList == [83, 72, 89]) = false := beq_eq_false_iff_ne.2 (hk _ (by decide))
  have e3 : (tag.toList == [84, 65, 83]) = false := beq_eq_false_iff_ne.2 (hk _ (by decide))
  clear hk
  go_enter Tryd.func59, Tryd.ntmps59
  (repeat (first | (with_reducible refine inBlock_far (by decide) ?_) | (with_reducible refine then_exit ?_) | (with_reducible refine inBlock_here ?_) | ((fail_if_success (with_reducible refine calls_id ?_)); go_step)))
  go_ret
  exact ⟨rfl, rfl⟩
end Go.Proofs.YthepcjecmlkaiaaDoor
