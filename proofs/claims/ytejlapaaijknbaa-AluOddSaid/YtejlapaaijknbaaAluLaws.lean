/- The walks of the laws on sums, shifts and comparisons: each comes to true, and turns nothing of what was there. -/
import Derived.Test.YtejlapaaijknbaaAluRef
namespace Go.Proofs.Ytejlapaaijknbaa
open Go.RowKit

set_option maxHeartbeats 400000 in
theorem aluSums_walk (a m p : Int) (w : World) (h0 : 0 ≤ a) (h1 : a ≤ 255) (g0 : 0 ≤ m) (g1 : m ≤ 255) (p0 : 0 ≤ p) (p1 : p ≤ 255) :
    Calls Try.prog 3 #[.int .u8 a, .int .u8 m, .int .u8 p] w fun e w' => e = .returned (.bool true) ∧ Below w.heap.size w w' := by
  have v := Alu.addV_in a m p
  have q := Alu.addQ_in a m p p0 p1
  go_enter Try.func3, Try.ntmps3
  go_wp2_with fail
  refine (add_any _ _ _ _ h0 h1 g0 g1 p0 p1).mono ?_
  rintro e w1 ⟨rfl, hb1⟩
  go_wp2_with fail
  refine (radd_any _ _ _ _ h0 h1 g0 g1 p0 p1).mono ?_
  rintro e w' ⟨rfl, rfl⟩
  go_wp2_with fail
  refine (told_any _ _ _ _ _ v.1 v.2 q.1 q.2 rfl rfl).mono ?_
  rintro e w' ⟨rfl, rfl⟩
  go_wp2_with fail
  refine (awake_any _).mono ?_
  rintro e w2 ⟨rfl, hb2⟩
  go_wp2_with fail
  go_ret
  exact ⟨rfl, hb1.trans (hb2.mono hb1.size)⟩
set_option maxHeartbeats 400000 in
theorem aluDifferences_walk (a m p : Int) (w : World) (h0 : 0 ≤ a) (h1 : a ≤ 255) (g0 : 0 ≤ m) (g1 : m ≤ 255) (p0 : 0 ≤ p) (p1 : p ≤ 255) :
    Calls Try.prog 5 #[.int .u8 a, .int .u8 m, .int .u8 p] w fun e w' => e = .returned (.bool true) ∧ Below w.heap.size w w' := by
  have v := Alu.subV_in a m p
  have q := Alu.subQ_in a m p p0 p1
  have c := Alu.cmpQ_in a m p p0 p1
  go_enter Try.func5, Try.ntmps5
  go_wp2_with fail
  refine (sub_any _ _ _ _ h0 h1 g0 g1 p0 p1).mono ?_
  rintro e w1 ⟨rfl, hb1⟩
  go_wp2_with fail
  refine (rsub_any _ _ _ _ h0 h1 g0 g1 p0 p1).mono ?_
  rintro e w' ⟨rfl, rfl⟩
  go_wp2_with fail
  refine (told_any _ _ _ _ _ v.1 v.2 q.1 q.2 rfl rfl).mono ?_
  rintro e w' ⟨rfl, rfl⟩
  go_wp2_with fail
  refine (compare_any _ _ _ _ h0 h1 g0 g1 p0 p1).mono ?_
  rintro e w' ⟨rfl, rfl⟩
  go_wp2_with fail
  refine (rcompare_any _ _ _ _ h0 h1 g0 g1 p0 p1).mono ?_
  rintro e w' ⟨rfl, rfl⟩
  go_wp2_with fail
  refine (awake_any _).mono ?_
  rintro e w2 ⟨rfl, hb2⟩
  go_wp2_with fail
  go_ret
  exact ⟨rfl, hb1.trans (hb2.mono hb1.size)⟩
set_option maxHeartbeats 400000 in
theorem aluOdd_walk (a m p : Int) (w : World) (h0 : 0 ≤ a) (h1 : a ≤ 255) (g0 : 0 ≤ m) (g1 : m ≤ 255) (p0 : 0 ≤ p) (p1 : p ≤ 255) :
    Calls Try.prog 8 #[.int .u8 a, .int .u8 m, .int .u8 p] w fun e w' => e = .returned (.bool true) ∧ Below w.heap.size w w' := by
  have v := Alu.oddV_in a m p h0 h1
  have q := Alu.oddQ_in a m p p0 p1
  go_enter Try.func8, Try.ntmps8
  go_wp2_with fail
  refine (odd_any _ _ _ _ h0 h1 g0 g1 p0 p1).mono ?_
  rintro e w1 ⟨rfl, hb1⟩
  go_wp2_with fail
  refine (rodd_any _ _ _ _ h0 h1 g0 g1 p0 p1).mono ?_
  rintro e w' ⟨rfl, rfl⟩
  go_wp2_with fail
  refine (told_any _ _ _ _ _ v.1 v.2 q.1 q.2 rfl rfl).mono ?_
  rintro e w' ⟨rfl, rfl⟩
  go_wp2_with fail
  refine (awake_any _).mono ?_
  rintro e w2 ⟨rfl, hb2⟩
  go_wp2_with fail
  go_ret
  exact ⟨rfl, hb1.trans (hb2.mono hb1.size)⟩
set_option maxHeartbeats 400000 in
theorem aluBack_walk (a m p : Int) (w : World) (h0 : 0 ≤ a) (h1 : a ≤ 255) (g0 : 0 ≤ m) (g1 : m ≤ 255) (p0 : 0 ≤ p) (p1 : p ≤ 255) :
    Calls Try.prog 6 #[.int .u8 a, .int .u8 m, .int .u8 p] w fun e w' => e = .returned (.bool true) ∧ Below w.heap.size w w' := by
  have c := Alu.clear8 p p0 p1
  have o := Alu.or_set (bits .andNot .u8 p 8) 1 c.1 c.2.1 (by simp)
  have s := Alu.setF_in (bits .andNot .u8 p 8) 1 true c.1 c.2.1 (by simp)
  have v := Alu.addV_in a m (Alu.setF (bits .andNot .u8 p 8) 1 true)
  have q := Alu.addQ_in a m (Alu.setF (bits .andNot .u8 p 8) 1 true) s.1 s.2
  have n := Alu.andnot_set (Alu.addQ a m (Alu.setF (bits .andNot .u8 p 8) 1 true)) 1 q.1 q.2 (by simp)
  have r := Alu.setF_in (Alu.addQ a m (Alu.setF (bits .andNot .u8 p 8) 1 true)) 1 false q.1 q.2 (by simp)
  have lv := Alu.leftV_in a (bits .andNot .u8 p 8) false
  have lq := Alu.leftQ_in a (bits .andNot .u8 p 8) false c.1 c.2.1
  have B1 := Alu.back a m _ h0 h1 c.1 c.2.1 c.2.2
  have B2 := Alu.back2 a _ h0 h1 c.1 c.2.1
  go_enter Try.func6, Try.ntmps6
  go_wp2_with fail
  refine (add_any _ _ _ _ h0 h1 g0 g1 s.1 s.2).mono ?_
  rintro e w1 ⟨rfl, hb1⟩
  go_wp2_with fail
  refine (sub_any _ _ _ _ v.1 v.2 g0 g1 r.1 r.2).mono ?_
  rintro e w2 ⟨rfl, hb2⟩
  go_wp2_with fail
  refine (left_any _ _ _ _ h0 h1 c.1 c.2.1).mono ?_
  rintro e w' ⟨rfl, rfl⟩
  go_wp2_with fail
  refine (right_any _ _ _ _ lv.1 lv.2 lq.1 lq.2).mono ?_
  rintro e w' ⟨rfl, rfl⟩
  go_wp2_with fail
  refine (awake_any _).mono ?_
  rintro e w3 ⟨rfl, hb3⟩
  go_wp2_with fail
  go_ret
  exact ⟨rfl, (hb1.trans (hb2.mono hb1.size)).trans (hb3.mono (Nat.le_trans hb1.size hb2.size))⟩
set_option maxHeartbeats 400000 in
theorem aluShifts_walk (a m p : Int) (w : World) (h0 : 0 ≤ a) (h1 : a ≤ 255) (g0 : 0 ≤ m) (g1 : m ≤ 255) (p0 : 0 ≤ p) (p1 : p ≤ 255) :
    Calls Try.prog 7 #[.int .u8 a, .int .u8 m, .int .u8 p] w fun e w' => e = .returned (.bool true) ∧ Below w.heap.size w w' := by
  go_enter Try.func7, Try.ntmps7
  go_wp2_with fail
  have bq := Alu.bitQ_in a m p p0 p1
  have mq := Alu.markF_in p m p0 p1
  go_loop [7] (fun k => ∃ n : Nat, n ≤ 2 ∧ k = .int .i64 n) (fun k => (2 - intOf k).toNat)
  case atStart => exact ⟨0, by omega, rfl⟩
  case round =>
    obtain ⟨n, hn, rfl⟩ := hrel
    by_cases hlt : n < 2
    · have lv := Alu.leftV_in m p ((n : Int) == 1)
      have lq := Alu.leftQ_in m p ((n : Int) == 1) p0 p1
      have rv := Alu.rightV_in m p ((n : Int) == 1) g0 g1
      have rq := Alu.rightQ_in m p ((n : Int) == 1) p0 p1
      go_wp2_with fail
      refine (left_any _ _ _ _ g0 g1 p0 p1).mono ?_
      rintro e w' ⟨rfl, rfl⟩
      go_wp2_with fail
      refine (rleft_any _ _ _ _ g0 g1 p0 p1).mono ?_
      rintro e w' ⟨rfl, rfl⟩
      go_wp2_with fail
      refine (right_any _ _ _ _ g0 g1 p0 p1).mono ?_
      rintro e w' ⟨rfl, rfl⟩
      go_wp2_with fail
      refine (rright_any _ _ _ _ g0 g1 p0 p1).mono ?_
      rintro e w' ⟨rfl, rfl⟩
      go_wp2_with fail
      refine (told_any _ _ _ _ _ lv.1 lv.2 lq.1 lq.2 rfl rfl).mono ?_
      rintro e w' ⟨rfl, rfl⟩
      go_wp2_with fail
      refine (told_any _ _ _ _ _ rv.1 rv.2 rq.1 rq.2 rfl rfl).mono ?_
      rintro e w' ⟨rfl, rfl⟩
      go_wp2_with fail
      go_round
      case rel => exact ⟨n + 1, by omega, by go_num⟩
      case measure => simp [intOf]; omega
    · go_wp2_with fail
      refine (bit_any _ _ _ _ h0 h1 g0 g1 p0 p1).mono ?_
      rintro e w' ⟨rfl, rfl⟩
      go_wp2_with fail
      refine (rbit_any _ _ _ _ h0 h1 g0 g1 p0 p1).mono ?_
      rintro e w' ⟨rfl, rfl⟩
      go_wp2_with fail
      refine (mark_any _ _ _ p0 p1 g0 g1).mono ?_
      rintro e w' ⟨rfl, rfl⟩
      go_wp2_with fail
      refine (rmark_any _ _ _ p0 p1 g0 g1).mono ?_
      rintro e w' ⟨rfl, rfl⟩
      go_wp2_with fail
      refine (awake_any _).mono ?_
      rintro e w1 ⟨rfl, hb1⟩
      go_wp2_with fail
      go_ret
      exact ⟨rfl, hb1⟩
set_option maxHeartbeats 400000 in
theorem aluStill_walk (a m p : Int) (w : World) (h0 : 0 ≤ a) (h1 : a ≤ 255) (g0 : 0 ≤ m) (g1 : m ≤ 255) (p0 : 0 ≤ p) (p1 : p ≤ 255) :
    Calls Try.prog 9 #[.int .u8 a, .int .u8 m, .int .u8 p] w fun e w' => e = .returned (.bool true) ∧ Below w.heap.size w w' := by
  have hall : bits .and .u8 (bits .or .u8 (bits .or .u8 (bits .or .u8 (bits .or .u8 (bits .or .u8 (bits .or .u8 (bits .or .u8 (bits .xor .u8 (Alu.addQ a m p) p) (bits .xor .u8 (Alu.subQ a m p) p)) (bits .xor .u8 (Alu.leftQ m p true) p)) (bits .xor .u8 (Alu.rightQ m p true) p)) (bits .xor .u8 (Alu.oddQ a m p) p)) (bits .xor .u8 (Alu.cmpQ a m p) p)) (bits .xor .u8 (Alu.bitQ a m p) p)) (bits .xor .u8 (Alu.markF p m) p)) 60 = 0 := (((((((((Alu.add60 a m p p0 p1).nil p0 p1 (by omega) (by omega)).or ((Alu.sub60 a m p p0 p1).nil p0 p1 (by omega) (by omega)) (by omega) (by omega)).or ((Alu.left60 m p true p0 p1).nil p0 p1 (by omega) (by omega)) (by omega) (by omega)).or ((Alu.right60 m p true p0 p1).nil p0 p1 (by omega) (by omega)) (by omega) (by omega)).or ((Alu.odd60 a m p p0 p1).nil p0 p1 (by omega) (by omega)) (by omega) (by omega)).or ((Alu.cmp60 a m p p0 p1).nil p0 p1 (by omega) (by omega)) (by omega) (by omega)).or ((Alu.bit60 a m p p0 p1).nil p0 p1 (by omega) (by omega)) (by omega) (by omega)).or (((Alu.Agr.refl 60 p p0 p1).mark60 m).nil p0 p1 (by omega) (by omega)) (by omega) (by omega)).2.2
  have hpl : bits .and .u8 (bits .or .u8 (bits .or .u8 (bits .or .u8 (bits .xor .u8 (Alu.leftQ m p true) p) (bits .xor .u8 (Alu.rightQ m p true) p)) (bits .xor .u8 (Alu.cmpQ a m p) p)) (bits .xor .u8 (Alu.markF p m) p)) 64 = 0 := (((((Alu.left64 m p true p0 p1).nil p0 p1 (by omega) (by omega)).or ((Alu.right64 m p true p0 p1).nil p0 p1 (by omega) (by omega)) (by omega) (by omega)).or ((Alu.cmp64 a m p p0 p1).nil p0 p1 (by omega) (by omega)) (by omega) (by omega)).or (((Alu.Agr.refl 64 p p0 p1).mark64 m).nil p0 p1 (by omega) (by omega)) (by omega) (by omega)).2.2
  go_enter Try.func9, Try.ntmps9
  go_wp2_with fail
  refine (add_any _ _ _ _ h0 h1 g0 g1 p0 p1).mono ?_
  rintro e w1 ⟨rfl, hb1⟩
  go_wp2_with fail
  refine (sub_any _ _ _ _ h0 h1 g0 g1 p0 p1).mono ?_
  rintro e w2 ⟨rfl, hb2⟩
  go_wp2_with fail
  refine (left_any _ _ _ _ g0 g1 p0 p1).mono ?_
  rintro e w' ⟨rfl, rfl⟩
  go_wp2_with fail
  refine (right_any _ _ _ _ g0 g1 p0 p1).mono ?_
  rintro e w' ⟨rfl, rfl⟩
  go_wp2_with fail
  refine (odd_any _ _ _ _ h0 h1 g0 g1 p0 p1).mono ?_
  rintro e w3 ⟨rfl, hb3⟩
  go_wp2_with fail
  refine (compare_any _ _ _ _ h0 h1 g0 g1 p0 p1).mono ?_
  rintro e w' ⟨rfl, rfl⟩
  go_wp2_with fail
  refine (bit_any _ _ _ _ h0 h1 g0 g1 p0 p1).mono ?_
  rintro e w' ⟨rfl, rfl⟩
  go_wp2_with fail
  refine (mark_any _ _ _ p0 p1 g0 g1).mono ?_
  rintro e w' ⟨rfl, rfl⟩
  go_wp2_with fail
  refine (compare_any _ _ _ _ h0 h1 g0 g1 p0 p1).mono ?_
  rintro e w' ⟨rfl, rfl⟩
  go_wp2_with fail
  refine (mark_any _ _ _ p0 p1 g0 g1).mono ?_
  rintro e w' ⟨rfl, rfl⟩
  go_wp2_with fail
  refine (awake_any _).mono ?_
  rintro e w4 ⟨rfl, hb4⟩
  go_wp2_with fail
  go_ret
  have s1 := hb1.size
  have s2 := hb2.size
  have s3 := hb3.size
  exact ⟨rfl, ((hb1.trans (hb2.mono s1)).trans (hb3.mono (by omega))).trans (hb4.mono (by omega))⟩
theorem ret_bool {b : Bool} (h : b = true) : Ending.returned (.bool b) = .returned (.bool true) := by rw [h]
set_option maxHeartbeats 3000000 in
theorem aluDecimal_walk (a m : Int) (carry : Bool) (w : World) (h0 : 0 ≤ a) (h1 : a ≤ 255) (g0 : 0 ≤ m) (g1 : m ≤ 255) :
    Calls Try.prog 4 #[.int .u8 a, .int .u8 m, .bool carry] w fun e w' => e = .returned (.bool true) ∧ Below w.heap.size w w' := by
  by_cases ha : 100 ≤ a
  · go_enter Try.func4, Try.ntmps4
    go_wp2_with fail
    go_ret
    exact ⟨rfl, Below.refl _ _⟩
  · by_cases hm : 100 ≤ m
    · go_enter Try.func4, Try.ntmps4
      go_wp2_with fail
      go_ret
      exact ⟨rfl, Below.refl _ _⟩
    · cases carry
      · have xn : 0 ≤ a / 10 * 16 + a % 10 ∧ a / 10 * 16 + a % 10 ≤ 255 := by omega
        have yn : 0 ≤ m / 10 * 16 + m % 10 ∧ m / 10 * 16 + m % 10 ≤ 255 := by omega
        have q := Alu.addQ_in (a / 10 * 16 + a % 10) (m / 10 * 16 + m % 10) 8 (by omega) (by omega)
        have r := Alu.subQ_in (a / 10 * 16 + a % 10) (m / 10 * 16 + m % 10) 8 (by omega) (by omega)
        have f1 : Alu.addV (a / 10 * 16 + a % 10) (m / 10 * 16 + m % 10) 8 = (a + m) % 100 / 10 * 16 + (a + m) % 10 := by rw [show (8 : Int) = 8 + 0 from rfl, (Alu.dec_addV a m 0 h0 (by omega) g0 (by omega) (by simp)).1]; (try simp only [Int.add_zero]); omega
        have f2 : Alu.subV (a / 10 * 16 + a % 10) (m / 10 * 16 + m % 10) 8 = (a - m - 1) % 100 / 10 * 16 + (a - m - 1) % 10 := by rw [show (8 : Int) = 8 + 0 from rfl, Alu.dec_subV a m 0 h0 (by omega) g0 (by omega) (by simp)]; omega
        have f3 : bits .and .u8 (Alu.addQ (a / 10 * 16 + a % 10) (m / 10 * 16 + m % 10) 8) 1 = if 100 ≤ a + m then 1 else 0 := by rw [Alu.and1 _ q.1 q.2]; have := Alu.dec_addQ a m 0 h0 (by omega) g0 (by omega) (by simp); simpa using this
        have f4 : bits .and .u8 (Alu.subQ (a / 10 * 16 + a % 10) (m / 10 * 16 + m % 10) 8) 1 = if 0 ≤ a - m - 1 then 1 else 0 := by rw [Alu.and1 _ r.1 r.2]; have := Alu.dec_subQ a m 0 h0 (by omega) g0 (by omega) (by simp); simpa using this
        have ADD := Lib.hid (fun w => add_any (a / 10 * 16 + a % 10) (m / 10 * 16 + m % 10) 8 w xn.1 xn.2 yn.1 yn.2 (by omega) (by omega))
        have SUB := Lib.hid (fun w => sub_any (a / 10 * 16 + a % 10) (m / 10 * 16 + m % 10) 8 w xn.1 xn.2 yn.1 yn.2 (by omega) (by omega))
        rw [f1] at ADD
        rw [f2] at SUB
        generalize Alu.addQ (a / 10 * 16 + a % 10) (m / 10 * 16 + m % 10) 8 = Q at *
        generalize Alu.subQ (a / 10 * 16 + a % 10) (m / 10 * 16 + m % 10) 8 = R at *
        clear f1 f2 xn yn q r
        by_cases hs : 100 ≤ a + m <;> by_cases hd : 0 ≤ a - m - 1
        all_goals
          simp only [hs, hd, if_true, if_false] at f3 f4
          go_enter Try.func4, Try.ntmps4
          go_wp2_with fail
          refine (ADD.out _).mono ?_
          rintro e w1 ⟨rfl, hb1⟩
          go_wp2_with fail
          refine (SUB.out _).mono ?_
          rintro e w2 ⟨rfl, hb2⟩
          go_wp2_with fail
          refine (awake_any _).mono ?_
          rintro e w3 ⟨rfl, hb3⟩
          go_wp2_with fail
          go_ret
          exact ⟨by first | rfl | exact ret_bool (by simp; omega), (hb1.trans (hb2.mono hb1.size)).trans (hb3.mono (Nat.le_trans hb1.size hb2.size))⟩
      · have xn : 0 ≤ a / 10 * 16 + a % 10 ∧ a / 10 * 16 + a % 10 ≤ 255 := by omega
        have yn : 0 ≤ m / 10 * 16 + m % 10 ∧ m / 10 * 16 + m % 10 ≤ 255 := by omega
        have q := Alu.addQ_in (a / 10 * 16 + a % 10) (m / 10 * 16 + m % 10) 9 (by omega) (by omega)
        have r := Alu.subQ_in (a / 10 * 16 + a % 10) (m / 10 * 16 + m % 10) 9 (by omega) (by omega)
        have f1 : Alu.addV (a / 10 * 16 + a % 10) (m / 10 * 16 + m % 10) 9 = (a + m + 1) % 100 / 10 * 16 + (a + m + 1) % 10 := by rw [show (9 : Int) = 8 + 1 from rfl, (Alu.dec_addV a m 1 h0 (by omega) g0 (by omega) (by simp)).1]; (try simp only [Int.add_zero]); omega
        have f2 : Alu.subV (a / 10 * 16 + a % 10) (m / 10 * 16 + m % 10) 9 = (a - m) % 100 / 10 * 16 + (a - m) % 10 := by rw [show (9 : Int) = 8 + 1 from rfl, Alu.dec_subV a m 1 h0 (by omega) g0 (by omega) (by simp)]; omega
        have f3 : bits .and .u8 (Alu.addQ (a / 10 * 16 + a % 10) (m / 10 * 16 + m % 10) 9) 1 = if 100 ≤ a + m + 1 then 1 else 0 := by rw [Alu.and1 _ q.1 q.2]; have := Alu.dec_addQ a m 1 h0 (by omega) g0 (by omega) (by simp); simpa using this
        have f4 : bits .and .u8 (Alu.subQ (a / 10 * 16 + a % 10) (m / 10 * 16 + m % 10) 9) 1 = if 0 ≤ a - m - 1 + 1 then 1 else 0 := by rw [Alu.and1 _ r.1 r.2]; have := Alu.dec_subQ a m 1 h0 (by omega) g0 (by omega) (by simp); simpa using this
        have ADD := Lib.hid (fun w => add_any (a / 10 * 16 + a % 10) (m / 10 * 16 + m % 10) 9 w xn.1 xn.2 yn.1 yn.2 (by omega) (by omega))
        have SUB := Lib.hid (fun w => sub_any (a / 10 * 16 + a % 10) (m / 10 * 16 + m % 10) 9 w xn.1 xn.2 yn.1 yn.2 (by omega) (by omega))
        rw [f1] at ADD
        rw [f2] at SUB
        generalize Alu.addQ (a / 10 * 16 + a % 10) (m / 10 * 16 + m % 10) 9 = Q at *
        generalize Alu.subQ (a / 10 * 16 + a % 10) (m / 10 * 16 + m % 10) 9 = R at *
        clear f1 f2 xn yn q r
        by_cases hs : 100 ≤ a + m + 1 <;> by_cases hd : 0 ≤ a - m - 1 + 1
        all_goals
          simp only [hs, hd, if_true, if_false] at f3 f4
          go_enter Try.func4, Try.ntmps4
          go_wp2_with fail
          refine (ADD.out _).mono ?_
          rintro e w1 ⟨rfl, hb1⟩
          go_wp2_with fail
          refine (SUB.out _).mono ?_
          rintro e w2 ⟨rfl, hb2⟩
          go_wp2_with fail
          refine (awake_any _).mono ?_
          rintro e w3 ⟨rfl, hb3⟩
          go_wp2_with fail
          go_ret
          exact ⟨by first | rfl | exact ret_bool (by simp; omega), (hb1.trans (hb2.mono hb1.size)).trans (hb3.mono (Nat.le_trans hb1.size hb2.size))⟩
end Go.Proofs.Ytejlapaaijknbaa
