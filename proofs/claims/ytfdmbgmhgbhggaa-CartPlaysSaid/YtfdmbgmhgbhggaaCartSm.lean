/- Package cart: its small functions. -/
import Derived.Test.YtfdmbgmhgbhggaaCart
import Derived.BigQuiet
namespace Go.Proofs.Ytfdmbgmhgbhggaa.Ca
open Go.RowKit Go.Deep Go.Proofs.Ytfdmbgmhgbhggaa Go.Proofs.Ytfdmbgmhgbhggaa.Cl
set_option linter.unusedVariables false
set_option linter.unusedSimpArgs false

theorem num16_no (W : World) (x first many : Int) (h0 : 0 ≤ x) (h1 : x ≤ 65535) (f0 : 0 ≤ first) (f1 : first ≤ 65535) (m0 : 0 ≤ many) (m1 : many ≤ 65535) (h : x < first ∨ many ≤ x - first) :
    Calls Try.prog 35 #[.int .u16 x, .int .u16 first, .int .i64 many] W fun e W' => e = .returned (.tuple #[.int .i64 0, .bool false]) ∧ W' = W := by
  by_cases hx : x < first
  · go_enter Try.func35, Try.ntmps35
    go_wp2_with fail
    go_ret2
    exact ⟨rfl, rfl⟩
  · have hw : IntKind.u16.wrap (x - first) = x - first := by show (x - first) % 65536 = _; omega
    have hw2 : IntKind.i64.wrap (x - first) = x - first := IntWalk.i64_in _ (by omega)
    have hy : many ≤ x - first := by omega
    go_enter Try.func35, Try.ntmps35
    go_wp2_with fail
    go_ret2
    exact ⟨rfl, rfl⟩
theorem num16_yes (W : World) (x first many : Int) (h0 : 0 ≤ x) (h1 : x ≤ 65535) (f0 : 0 ≤ first) (f1 : first ≤ 65535) (m0 : 0 ≤ many) (m1 : many ≤ 65535) (hx : first ≤ x) (hy : x - first < many) :
    Calls Try.prog 35 #[.int .u16 x, .int .u16 first, .int .i64 many] W fun e W' => e = .returned (.tuple #[.int .i64 (x - first), .bool true]) ∧ W' = W := by
  have hw : IntKind.u16.wrap (x - first) = x - first := by show (x - first) % 65536 = _; omega
  have hw2 : IntKind.i64.wrap (x - first) = x - first := IntWalk.i64_in _ (by omega)
  have hx' : ¬ x < first := by omega
  have hy' : ¬ many ≤ x - first := by omega
  go_enter Try.func35, Try.ntmps35
  go_wp2_with fail
  go_ret2
  exact ⟨rfl, rfl⟩
theorem num64_no (W : World) (x first many : Int) (h0 : 0 ≤ x) (h1 : x ≤ 65535) (f0 : 0 ≤ first) (f1 : first ≤ 65535) (m0 : 0 ≤ many) (m1 : many ≤ 65535) (h : x < first ∨ many ≤ x - first) :
    Calls Try.prog 45 #[.int .i64 x, .int .i64 first, .int .i64 many] W fun e W' => e = .returned (.tuple #[.int .i64 0, .bool false]) ∧ W' = W := by
  by_cases hx : x < first
  · go_enter Try.func45, Try.ntmps45
    go_wp2_with fail
    go_ret2
    exact ⟨rfl, rfl⟩
  · have hw2 : IntKind.i64.wrap (x - first) = x - first := IntWalk.i64_in _ (by omega)
    have hy : many ≤ x - first := by omega
    go_enter Try.func45, Try.ntmps45
    go_wp2_with fail
    go_ret2
    exact ⟨rfl, rfl⟩
theorem num64_yes (W : World) (x first many : Int) (h0 : 0 ≤ x) (h1 : x ≤ 65535) (f0 : 0 ≤ first) (f1 : first ≤ 65535) (m0 : 0 ≤ many) (m1 : many ≤ 65535) (hx : first ≤ x) (hy : x - first < many) :
    Calls Try.prog 45 #[.int .i64 x, .int .i64 first, .int .i64 many] W fun e W' => e = .returned (.tuple #[.int .i64 (x - first), .bool true]) ∧ W' = W := by
  have hw2 : IntKind.i64.wrap (x - first) = x - first := IntWalk.i64_in _ (by omega)
  have hx' : ¬ x < first := by omega
  have hy' : ¬ many ≤ x - first := by omega
  go_enter Try.func45, Try.ntmps45
  go_wp2_with fail
  go_ret2
  exact ⟨rfl, rfl⟩
theorem banks_any (W : World) (base b ib icap sb scap : Nat) (c : Ct) (hS : CartS W base b ib icap sb scap c) (hF : Fine c) :
    Calls Try.prog 38 #[.pointer (some ⟨b, 0, none⟩)] W fun e W' => e = .returned (.int .i64 c.banks) ∧ W' = W.drew := by
  obtain ⟨p1, p2, p3, p4, p5, p6, _⟩ := fine_nums c hF
  have c0 := hS.c0
  have c1 := hS.c1
  have hn : c.n = (c.im.length : Int) := rfl
  have hz : ¬ c.sz = 0 := by omega
  have hq : (c.im.length : Int) / c.sz = c.banks := by
    rw [← hn, ← p3, Int.mul_ediv_cancel _ hz]
  have hq2 : Int.tdiv (c.im.length : Int) c.sz = c.banks := by
    rw [Int.tdiv_eq_ediv_of_nonneg (by omega)]; exact hq
  have hb : c.banks ≤ 524288 := by
    have : c.banks * 1 ≤ c.banks * c.sz := Int.mul_le_mul_of_nonneg_left (by omega) (by omega)
    omega
  have hw : IntKind.i64.wrap c.banks = c.banks := IntWalk.i64_in _ (by omega)
  generalize hSZ : c.sz = S at *
  go_enter Try.func38, Try.ntmps38
  go_wp2_with fail
  go_region
  go_wp2
  go_ret
  exact ⟨rfl, rfl⟩
theorem turn_any (W : World) (base b ib icap sb scap : Nat) (c : Ct) (hS : CartS W base b ib icap sb scap c) (i : Nat) (hi : i < c.sh.length) (v : Int) :
    Calls Try.prog 37 #[.pointer (some ⟨b, 0, none⟩), .int .i64 i, .int .i64 v] W fun e W' => e = .returned (.tuple #[]) ∧ W' = W.setCell ⟨sb, i, none⟩ (.int .i64 v) := by
  have c2 := hS.c2
  have cs := hS.csh i hi
  have fs := hS.fs i
  have i0 : ¬ (i : Int) < 0 := by omega
  have i1 : ¬ (c.sh.length : Int) ≤ (i : Int) := by omega
  go_enter Try.func37, Try.ntmps37
  go_wp2_with fail
  exact bodyPost_end (results_none rfl _ _ _) rfl ⟨rfl, rfl⟩
theorem wheres_any (W : World) (base b ib icap sb scap : Nat) (c : Ct) (hS : CartS W base b ib icap sb scap c) (hF : Fine c) (o : Int) (o0 : 0 ≤ o) (o1 : o ≤ 4095) :
    Calls Try.prog 40 #[.pointer (some ⟨b, 0, none⟩), .int .i64 o] W fun e W' => e = .returned (.int .i64 (c.sh.getD (o / c.sz).toNat 0 * c.sz + o % c.sz)) ∧ W' = W.drew := by
  obtain ⟨p1, p2, p3, p4, p5, p6, _⟩ := fine_nums c hF
  have c1 := hS.c1
  have c2 := hS.c2
  have hz : ¬ c.sz = 0 := by omega
  have hzp : 0 < c.sz := by omega
  have hlen : c.sh.length ≤ 4 := by rcases p1 with e | e | e <;> rw [e] at p2 <;> omega
  have q0 : 0 ≤ o / c.sz := Int.ediv_nonneg o0 (by omega)
  have q1 : o / c.sz < c.sh.length := Int.ediv_lt_of_lt_mul hzp (by rw [Int.mul_comm]; omega)
  obtain ⟨q, hq⟩ := Int.eq_ofNat_of_zero_le q0
  have hql : q < c.sh.length := by omega
  have hv := hF.inb (c.sh.getD q 0) (by simp [List.getD, hql])
  have cs := hS.csh q hql
  have r0 := Int.emod_nonneg o hz
  have r1 := Int.emod_lt_of_pos o hzp
  rw [hq, Int.toNat_natCast]
  generalize c.sh.getD q 0 = v at *
  have hm : v * c.sz ≤ c.banks * c.sz - c.sz := by
    have : v * c.sz ≤ (c.banks - 1) * c.sz := Int.mul_le_mul_of_nonneg_right (by omega) (by omega)
    rw [Int.sub_mul] at this; omega
  have hm0 : 0 ≤ v * c.sz := Int.mul_nonneg hv.1 (by omega)
  have t1 : Int.tdiv o c.sz = q := by rw [Int.tdiv_eq_ediv_of_nonneg o0, hq]
  have t2 : Int.tmod o c.sz = o % c.sz := Int.tmod_eq_emod_of_nonneg o0
  generalize c.sz = S at *
  generalize o % S = R at *
  generalize hM : v * S = M at *
  have hw1 : IntKind.i64.wrap M = M := IntWalk.i64_in _ (by omega)
  have hw2 : IntKind.i64.wrap (M + R) = M + R := IntWalk.i64_in _ (by omega)
  have hw3 : IntKind.i64.wrap (q : Int) = q := IntWalk.i64_in _ (by omega)
  have hw4 : IntKind.i64.wrap R = R := IntWalk.i64_in _ (by omega)
  have i0 : ¬ (q : Int) < 0 := by omega
  have i1 : ¬ (c.sh.length : Int) ≤ (q : Int) := by omega
  go_enter Try.func40, Try.ntmps40
  go_wp2_with fail
  go_region
  go_wp2
  go_ret
  exact ⟨rfl, rfl⟩
end Go.Proofs.Ytfdmbgmhgbhggaa.Ca
