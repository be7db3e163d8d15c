/- The walks of the reference of layer 11: the small ones. -/
import Derived.Test.YtlecpfkfnaiabaaAluRef
import Derived.Test.YtlecpfkfnaiabaaExecBox
import Derived.Test.YtlecpfkfnaiabaaExecB
import Derived.RegionTactic
import Derived.Deep.RegionWith
import Derived.ChangeAlike
import Derived.BigRegion
namespace Go.Proofs.Ytlecpfkfnaiabaa
open Go.RowKit
set_option linter.unusedVariables false
set_option linter.unusedSimpArgs false

def rgI (r : Ex.Rg) : Value := .agg #[.int .i64 r.a, .int .i64 r.x, .int .i64 r.y, .int .i64 r.s, .int .i64 r.p, .int .i64 r.pc]
set_option maxRecDepth 100000 in
set_option maxHeartbeats 4000000 in
theorem rcommonC_any (a m : Int) (w : World) (a0 : 0 ≤ a) (a1 : a ≤ 255) (g0 : 0 ≤ m) (g1 : m ≤ 255) :
    Calls Try.prog 34 #[.int .i64 a, .int .i64 m] w fun e w' => e = .returned (.int .i64 (Alu.comF a m)) ∧ w = w' := by
  have o1 := Alu.comF_in a m a0 a1
  go_enter Try.func34, Try.ntmps34
  go_wp2_with fail
  refine (rcommon_any a m _ a0 a1 g0 g1).mono ?_
  rintro e w' ⟨rfl, rfl⟩
  go_wp2_with fail
  go_ret
  exact ⟨rfl, rfl⟩
set_option maxRecDepth 100000 in
set_option maxHeartbeats 4000000 in
theorem reither_any (a m : Int) (w : World) (a0 : 0 ≤ a) (a1 : a ≤ 255) (g0 : 0 ≤ m) (g1 : m ≤ 255) :
    Calls Try.prog 32 #[.int .i64 a, .int .i64 m] w fun e w' => e = .returned (.int .i64 (Ex.orF a m)) ∧ w = w' := by
  have o1 := Alu.comF_in a m a0 a1
  go_enter Try.func32, Try.ntmps32
  go_wp2_with fail
  refine (rcommon_any a m _ a0 a1 g0 g1).mono ?_
  rintro e w' ⟨rfl, rfl⟩
  go_wp2_with fail
  go_ret
  exact ⟨rfl, rfl⟩
set_option maxRecDepth 100000 in
set_option maxHeartbeats 4000000 in
theorem rapart_any (a m : Int) (w : World) (a0 : 0 ≤ a) (a1 : a ≤ 255) (g0 : 0 ≤ m) (g1 : m ≤ 255) :
    Calls Try.prog 35 #[.int .i64 a, .int .i64 m] w fun e w' => e = .returned (.int .i64 (Ex.xorF a m)) ∧ w = w' := by
  have o1 := Alu.comF_in a m a0 a1
  go_enter Try.func35, Try.ntmps35
  go_wp2_with fail
  refine (rcommon_any a m _ a0 a1 g0 g1).mono ?_
  rintro e w' ⟨rfl, rfl⟩
  go_wp2_with fail
  go_ret
  exact ⟨rfl, rfl⟩
set_option maxRecDepth 100000 in
set_option maxHeartbeats 4000000 in
theorem rmarked_any (a x y s p pc v : Int) (w : World) (p0 : 0 ≤ p) (p1 : p ≤ 255) (v0 : 0 ≤ v) (v1 : v ≤ 255) :
    Calls Try.prog 33 #[.agg #[.int .i64 a, .int .i64 x, .int .i64 y, .int .i64 s, .int .i64 p, .int .i64 pc], .int .i64 v] w fun e w' => e = .returned (.agg #[.int .i64 a, .int .i64 x, .int .i64 y, .int .i64 s, .int .i64 (Alu.markF p v), .int .i64 pc]) ∧ Below w.heap.size w w' := by
  have o1 := Alu.markF_in p v p0 p1
  go_enter Try.func33, Try.ntmps33
  repeat (first | (with_reducible refine wp_abs _ (boxS_start .i64 .i64 _ _ a x y s p pc w) ?_) | go_step)
  rintro W hS
  have hS' := hS
  obtain ⟨c0, c1, c2, c3, c4, c5, f0, f1, f2, f3, f4, f5, d0, d1, d2, d3, d4, d5, r0, r1, r2, r3, r4, r5, hb, hn, hF⟩ := hS'
  (repeat (first | (with_reducible refine inBlock_far (by decide) ?_) | (with_reducible refine then_exit ?_) | (with_reducible refine inBlock_here ?_) | ((fail_if_success (with_reducible refine calls_id ?_)); go_step)))
  refine (rmark_any p v _ p0 p1 v0 v1).mono ?_
  rintro e w' ⟨rfl, rfl⟩
  simp only []
  (repeat (first | (with_reducible refine inBlock_far (by decide) ?_) | (with_reducible refine then_exit ?_) | (with_reducible refine inBlock_here ?_) | ((fail_if_success (with_reducible refine calls_id ?_)); go_step)))
  all_goals refine bodyPost_ret (v := .agg #[.int .i64 (a), .int .i64 (x), .int .i64 (y), .int .i64 (s), .int .i64 (Alu.markF p v), .int .i64 (pc)]) (by simp [results, Try.results33, go_sem, *]) rfl ⟨rfl, ?_⟩
  all_goals (repeat (first | (with_reducible exact hb) | (with_reducible exact hb.drew) | (with_reducible refine Below.drew ?_) | (with_reducible refine Below.setCell ?_ (by simp only []; omega) _)))
set_option maxRecDepth 100000 in
set_option maxHeartbeats 4000000 in
theorem rof_any (r : Ex.Rg) (ok : r.ok) (w : World) :
    Calls Try.prog 12 #[rgU r] w fun e w' => e = .returned (rgI r) ∧ Below w.heap.size w w' := by
  obtain ⟨a, x, y, s, p, pc⟩ := r
  obtain ⟨a0, a1, x0, x1, y0, y1, s0, s1, p0, p1, pc0, pc1⟩ := ok
  simp only [] at a0 a1 x0 x1 y0 y1 s0 s1 p0 p1 pc0 pc1
  unfold rgI rgU
  go_enter Try.func12, Try.ntmps12
  go_wp2_with fail
  refine bodyPost_ret (v := .agg #[.int .i64 (a), .int .i64 (x), .int .i64 (y), .int .i64 (s), .int .i64 (p), .int .i64 (pc)]) (by simp [results, Try.results12, go_sem]) rfl ⟨rfl, ?_⟩
  exact ((Below.refl _ _).alloc (Nat.le_refl _) _).alloc (by simp) _
set_option maxRecDepth 100000 in
set_option maxHeartbeats 4000000 in
theorem rto_any (r : Ex.Rg) (ok : r.ok) (w : World) :
    Calls Try.prog 10 #[rgI r] w fun e w' => e = .returned (rgU r) ∧ Below w.heap.size w w' := by
  obtain ⟨a, x, y, s, p, pc⟩ := r
  obtain ⟨a0, a1, x0, x1, y0, y1, s0, s1, p0, p1, pc0, pc1⟩ := ok
  simp only [] at a0 a1 x0 x1 y0 y1 s0 s1 p0 p1 pc0 pc1
  have q0 : a % 256 = a := by omega
  have q1 : x % 256 = x := by omega
  have q2 : y % 256 = y := by omega
  have q3 : s % 256 = s := by omega
  have q4 : p % 256 = p := by omega
  have q5 : pc % 65536 = pc := by omega
  unfold rgI rgU
  go_enter Try.func10, Try.ntmps10
  go_wp2_with fail
  refine bodyPost_ret (v := .agg #[.int .u8 (a), .int .u8 (x), .int .u8 (y), .int .u8 (s), .int .u8 (p), .int .u16 (pc)]) (by simp [results, Try.results10, go_sem]) rfl ⟨rfl, ?_⟩
  exact ((Below.refl _ _).alloc (Nat.le_refl _) _).alloc (by simp) _
theorem bytes3 (tag : ByteArray) (a b c : UInt8) (h : tag.toList = [a, b, c]) : tag = ⟨#[a, b, c]⟩ := by
  rw [ByteArray.toList_eq] at h
  obtain ⟨⟨l⟩⟩ := tag
  simp only at h
  rw [h]
def flagOf (c : UInt8) : Int := if c = 67 then 1 else if c = 68 then 8 else if c = 73 then 4 else 64
set_option maxRecDepth 100000 in
set_option maxHeartbeats 4000000 in
theorem rflag_any (tag : ByteArray) (c : UInt8) (f : Int) (w : World) (hk : ∃ a b, tag.toList = [a, b, c]) (hc : (c = 67 ∧ f = 1) ∨ (c = 68 ∧ f = 8) ∨ (c = 73 ∧ f = 4) ∨ (c = 86 ∧ f = 64)) :
    Calls Try.prog 46 #[.string tag] w fun e w' => e = .returned (.int .i64 f) ∧ w = w' := by
  obtain ⟨a, b, hk⟩ := hk
  obtain rfl := bytes3 tag a b c hk
  rcases hc with ⟨rfl, rfl⟩ | ⟨rfl, rfl⟩ | ⟨rfl, rfl⟩ | ⟨rfl, rfl⟩
  all_goals
    go_enter Try.func46, Try.ntmps46
    (repeat (first | (with_reducible refine inBlock_far (by decide) ?_) | (with_reducible refine then_exit ?_) | (with_reducible refine inBlock_here ?_) | ((fail_if_success (with_reducible refine calls_id ?_)); go_step)))
    go_ret
    exact ⟨rfl, rfl⟩
end Go.Proofs.Ytlecpfkfnaiabaa
