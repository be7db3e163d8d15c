/- The contracts of the reference of package alu: each call answers what the plain functions of the text Alu say, and leaves the world as it was. -/
import Derived.Test.YtlecpfkfnaiabaaAluWalks
namespace Go.Proofs.Ytlecpfkfnaiabaa
open Go.RowKit
set_option linter.unusedVariables false

set_option maxHeartbeats 400000 in
theorem rhas_any (n b : Int) (w : World) (h0 : 0 ≤ n) (h1 : n ≤ 100000) (b0 : 1 ≤ b) (b1 : b ≤ 100000) :
    Calls Try.prog 47 #[.int .i64 n, .int .i64 b] w fun e w' => e = .returned (.bool (Alu.has n b)) ∧ w = w' := by
  have hq := Int.ediv_le_self b h0
  have hq0 := Int.ediv_nonneg h0 (show 0 ≤ b by omega)
  go_enter Try.func47, Try.ntmps47
  go_wp2_with fail
  go_ret
  exact ⟨rfl, rfl⟩
set_option maxHeartbeats 400000 in
theorem rwith_any (p b : Int) (x : Bool) (w : World) (h0 : 0 ≤ p) (h1 : p ≤ 255) (b0 : 1 ≤ b) (b1 : b ≤ 255) :
    Calls Try.prog 40 #[.int .i64 p, .int .i64 b, .bool x] w fun e w' => e = .returned (.int .i64 (Alu.setF p b x)) ∧ w = w' := by
  cases hh : Alu.has p b <;> cases x
  all_goals
    have H := Lib.hid hh
    have hp := hh
    clear hh
    go_enter Try.func40, Try.ntmps40
    go_wp2_with fail
    refine (rhas_any _ _ _ h0 (by omega) b0 (by omega)).mono ?_
    rintro e w' ⟨rfl, rfl⟩
    go_wp2_with fail
    go_ret
    exact ⟨ret_int (by unfold Alu.setF; rw [H.out]; rfl), rfl⟩
set_option maxHeartbeats 400000 in
theorem rmark_any (p v : Int) (w : World) (h0 : 0 ≤ p) (h1 : p ≤ 255) (g0 : 0 ≤ v) (g1 : v ≤ 255) :
    Calls Try.prog 57 #[.int .i64 p, .int .i64 v] w fun e w' => e = .returned (.int .i64 (Alu.markF p v)) ∧ w = w' := by
  have hs := Alu.setF_in p 2 (v == 0) h0 h1 (by simp)
  go_enter Try.func57, Try.ntmps57
  go_wp2_with fail
  refine (rwith_any _ _ _ _ h0 h1 (by omega) (by omega)).mono ?_
  rintro e w' ⟨rfl, rfl⟩
  go_wp2_with fail
  refine (rwith_any _ _ _ _ hs.1 hs.2 (by omega) (by omega)).mono ?_
  rintro e w' ⟨rfl, rfl⟩
  go_wp2_with fail
  go_ret
  exact ⟨rfl, rfl⟩
set_option maxHeartbeats 400000 in
theorem rone_any (b : Bool) (w : World)  :
    Calls Try.prog 60 #[.bool b] w fun e w' => e = .returned (.int .i64 (oneI b)) ∧ w = w' := by
  cases b
  all_goals
    go_enter Try.func60, Try.ntmps60
    go_wp2_with fail
    go_ret
    exact ⟨rfl, rfl⟩
set_option maxHeartbeats 400000 in
theorem rover_any (a m t : Int) (w : World) (h0 : 0 ≤ a) (h1 : a ≤ 255) (g0 : 0 ≤ m) (g1 : m ≤ 255) (t0 : 0 ≤ t) (t1 : t ≤ 600) :
    Calls Try.prog 59 #[.int .i64 a, .int .i64 m, .int .i64 t] w fun e w' => e = .returned (.bool (Alu.overF a m t)) ∧ w = w' := by
  have Ho := Lib.hid (show Alu.overF a m t = ((Alu.has a 128 == Alu.has m 128) && (Alu.has t 128 != Alu.has a 128)) from rfl)
  by_cases hc : Alu.has a 128 = Alu.has m 128
  · have hb : (Alu.has a 128 == Alu.has m 128) = true := by rw [hc]; simp
    have Hb := Lib.hid hb
    clear hc
    go_enter Try.func59, Try.ntmps59
    go_wp2_with fail
    refine (rhas_any a _ _ h0 (by omega) (by omega) (by omega)).mono ?_
    rintro e w' ⟨rfl, rfl⟩
    go_wp2_with fail
    refine (rhas_any m _ _ g0 (by omega) (by omega) (by omega)).mono ?_
    rintro e w' ⟨rfl, rfl⟩
    go_wp2_with fail
    refine (rhas_any t _ _ t0 (by omega) (by omega) (by omega)).mono ?_
    rintro e w' ⟨rfl, rfl⟩
    go_wp2_with fail
    refine (rhas_any a _ _ h0 (by omega) (by omega) (by omega)).mono ?_
    rintro e w' ⟨rfl, rfl⟩
    go_wp2_with fail
    go_ret
    exact ⟨by rw [Ho.out, Hb.out]; rfl, rfl⟩
  · have hb : (Alu.has a 128 == Alu.has m 128) = false := by simpa using hc
    have Hb := Lib.hid hb
    clear hc
    go_enter Try.func59, Try.ntmps59
    go_wp2_with fail
    refine (rhas_any a _ _ h0 (by omega) (by omega) (by omega)).mono ?_
    rintro e w' ⟨rfl, rfl⟩
    go_wp2_with fail
    refine (rhas_any m _ _ g0 (by omega) (by omega) (by omega)).mono ?_
    rintro e w' ⟨rfl, rfl⟩
    go_wp2_with fail
    go_ret
    exact ⟨by rw [Ho.out, Hb.out]; rfl, rfl⟩
set_option maxHeartbeats 400000 in
theorem rbinary_any (a m p : Int) (w : World) (h0 : 0 ≤ a) (h1 : a ≤ 255) (g0 : 0 ≤ m) (g1 : m ≤ 255) (p0 : 0 ≤ p) (p1 : p ≤ 255) :
    Calls Try.prog 58 #[.int .i64 a, .int .i64 m, .int .i64 p] w fun e w' => e = .returned (.tuple #[.int .i64 (Alu.binV a m p), .int .i64 (Alu.binQ a m p)]) ∧ w = w' := by
  have s1 := Alu.setF_in p 1 (decide (255 < Alu.binT a m p)) p0 p1 (by simp)
  have s2 := Alu.setF_in _ 64 (Alu.overF a m (Alu.binV a m p)) s1.1 s1.2 (by simp)
  go_enter Try.func58, Try.ntmps58
  go_wp2_with fail
  refine (rwith_any _ _ _ _ p0 p1 (by omega) (by omega)).mono ?_
  rintro e w' ⟨rfl, rfl⟩
  go_wp2_with fail
  refine (rover_any _ _ _ _ h0 h1 g0 g1 (by omega) (by omega)).mono ?_
  rintro e w' ⟨rfl, rfl⟩
  go_wp2_with fail
  refine (rwith_any _ _ _ _ s1.1 s1.2 (by omega) (by omega)).mono ?_
  rintro e w' ⟨rfl, rfl⟩
  go_wp2_with fail
  refine (rmark_any _ _ _ s2.1 s2.2 (by omega) (by omega)).mono ?_
  rintro e w' ⟨rfl, rfl⟩
  go_wp2_with fail
  go_ret2
  exact ⟨rfl, rfl⟩
set_option maxHeartbeats 400000 in
theorem radd_any (a m p : Int) (w : World) (h0 : 0 ≤ a) (h1 : a ≤ 255) (g0 : 0 ≤ m) (g1 : m ≤ 255) (p0 : 0 ≤ p) (p1 : p ≤ 255) :
    Calls Try.prog 36 #[.int .i64 a, .int .i64 m, .int .i64 p] w fun e w' => e = .returned (.tuple #[.int .i64 (Alu.addV a m p), .int .i64 (Alu.addQ a m p)]) ∧ w = w' := by
  cases hd : Alu.has p 8
  · have H := Lib.hid hd
    go_enter Try.func36, Try.ntmps36
    go_wp2_with fail
    refine (rbinary_any _ _ _ _ h0 h1 g0 g1 p0 p1).mono ?_
    rintro e w' ⟨rfl, rfl⟩
    go_wp2_with fail
    refine (rhas_any _ _ _ p0 (by omega) (by omega) (by omega)).mono ?_
    rintro e w' ⟨rfl, rfl⟩
    go_wp2_with fail
    go_ret2
    refine ⟨ret_int2 ?_ ?_, rfl⟩
    · unfold Alu.addV; rw [H.out]; rfl
    · unfold Alu.addQ; rw [H.out]; rfl
  · have H := Lib.hid hd
    have b0 := Alu.binQ_in a m p p0 p1
    have s1 := Alu.setF_in (Alu.binQ a m p) 128 (Alu.has (Alu.addT a m p) 128) b0.1 b0.2 (by simp)
    have s2 := Alu.setF_in _ 64 (Alu.overF a m (Alu.addT a m p)) s1.1 s1.2 (by simp)
    have tn := Alu.addT_in a m p h0 h1 g0 g1
    have Hz := Lib.hid (show Alu.setF (Alu.binQ a m p) 2 (Alu.binV a m p == 0) = Alu.binQ a m p from by
      unfold Alu.binQ
      have k1 := Alu.setF_in p 1 (decide (255 < Alu.binT a m p)) p0 p1 (by simp)
      have k2 := Alu.setF_in _ 64 (Alu.overF a m (Alu.binV a m p)) k1.1 k1.2 (by simp)
      exact Alu.mark_again _ _ k2.1 k2.2)
    have Hu := Lib.hid (show (if 160 ≤ Alu.addT a m p then Alu.addT a m p + 96 else Alu.addT a m p) = Alu.addU a m p from rfl)
    by_cases hl : 9 < a % 16 + m % 16 + p % 2
    · have Ht := Lib.hid (show a / 16 * 16 + m / 16 * 16 + ((a % 16 + m % 16 + p % 2 + 6) % 16 + 16) = Alu.addT a m p by unfold Alu.addT Alu.addL; rw [if_pos hl])
      go_enter Try.func36, Try.ntmps36
      go_wp2_with fail
      refine (rbinary_any _ _ _ _ h0 h1 g0 g1 p0 p1).mono ?_
      rintro e w' ⟨rfl, rfl⟩
      go_wp2_with fail
      refine (rhas_any _ _ _ p0 (by omega) (by omega) (by omega)).mono ?_
      rintro e w' ⟨rfl, rfl⟩
      go_wp2_with fail
      rw [Ht.out]
      refine (rwith_any _ _ _ _ b0.1 b0.2 (by omega) (by omega)).mono ?_
      rintro e w' ⟨rfl, rfl⟩
      go_wp2_with fail
      rw [Hz.out]
      refine (rhas_any _ _ _ tn.1 (by omega) (by omega) (by omega)).mono ?_
      rintro e w' ⟨rfl, rfl⟩
      go_wp2_with fail
      refine (rwith_any _ _ _ _ b0.1 b0.2 (by omega) (by omega)).mono ?_
      rintro e w' ⟨rfl, rfl⟩
      go_wp2_with fail
      refine (rover_any _ _ _ _ h0 h1 g0 g1 tn.1 (by omega)).mono ?_
      rintro e w' ⟨rfl, rfl⟩
      go_wp2_with fail
      refine (rwith_any _ _ _ _ s1.1 s1.2 (by omega) (by omega)).mono ?_
      rintro e w' ⟨rfl, rfl⟩
      by_cases hu : 160 ≤ Alu.addT a m p
      · have Hu2 := Lib.hid (show Alu.addU a m p = Alu.addT a m p + 96 by rw [← Hu.out, if_pos hu])
        go_wp2_with fail
        refine (rwith_any _ _ _ _ s2.1 s2.2 (by omega) (by omega)).mono ?_
        rintro e w' ⟨rfl, rfl⟩
        go_wp2_with fail
        go_ret2
        refine ⟨ret_int2 ?_ ?_, rfl⟩
        · unfold Alu.addV; rw [H.out, Hu2.out]; rfl
        · unfold Alu.addQ; rw [H.out, Hu2.out]; rfl
      · have Hu2 := Lib.hid (show Alu.addU a m p = Alu.addT a m p by rw [← Hu.out, if_neg hu])
        go_wp2_with fail
        refine (rwith_any _ _ _ _ s2.1 s2.2 (by omega) (by omega)).mono ?_
        rintro e w' ⟨rfl, rfl⟩
        go_wp2_with fail
        go_ret2
        refine ⟨ret_int2 ?_ ?_, rfl⟩
        · unfold Alu.addV; rw [H.out, Hu2.out]; rfl
        · unfold Alu.addQ; rw [H.out, Hu2.out]; rfl
    · have Ht := Lib.hid (show a / 16 * 16 + m / 16 * 16 + (a % 16 + m % 16 + p % 2) = Alu.addT a m p by unfold Alu.addT Alu.addL; rw [if_neg hl])
      go_enter Try.func36, Try.ntmps36
      go_wp2_with fail
      refine (rbinary_any _ _ _ _ h0 h1 g0 g1 p0 p1).mono ?_
      rintro e w' ⟨rfl, rfl⟩
      go_wp2_with fail
      refine (rhas_any _ _ _ p0 (by omega) (by omega) (by omega)).mono ?_
      rintro e w' ⟨rfl, rfl⟩
      go_wp2_with fail
      rw [Ht.out]
      refine (rwith_any _ _ _ _ b0.1 b0.2 (by omega) (by omega)).mono ?_
      rintro e w' ⟨rfl, rfl⟩
      go_wp2_with fail
      rw [Hz.out]
      refine (rhas_any _ _ _ tn.1 (by omega) (by omega) (by omega)).mono ?_
      rintro e w' ⟨rfl, rfl⟩
      go_wp2_with fail
      refine (rwith_any _ _ _ _ b0.1 b0.2 (by omega) (by omega)).mono ?_
      rintro e w' ⟨rfl, rfl⟩
      go_wp2_with fail
      refine (rover_any _ _ _ _ h0 h1 g0 g1 tn.1 (by omega)).mono ?_
      rintro e w' ⟨rfl, rfl⟩
      go_wp2_with fail
      refine (rwith_any _ _ _ _ s1.1 s1.2 (by omega) (by omega)).mono ?_
      rintro e w' ⟨rfl, rfl⟩
      by_cases hu : 160 ≤ Alu.addT a m p
      · have Hu2 := Lib.hid (show Alu.addU a m p = Alu.addT a m p + 96 by rw [← Hu.out, if_pos hu])
        go_wp2_with fail
        refine (rwith_any _ _ _ _ s2.1 s2.2 (by omega) (by omega)).mono ?_
        rintro e w' ⟨rfl, rfl⟩
        go_wp2_with fail
        go_ret2
        refine ⟨ret_int2 ?_ ?_, rfl⟩
        · unfold Alu.addV; rw [H.out, Hu2.out]; rfl
        · unfold Alu.addQ; rw [H.out, Hu2.out]; rfl
      · have Hu2 := Lib.hid (show Alu.addU a m p = Alu.addT a m p by rw [← Hu.out, if_neg hu])
        go_wp2_with fail
        refine (rwith_any _ _ _ _ s2.1 s2.2 (by omega) (by omega)).mono ?_
        rintro e w' ⟨rfl, rfl⟩
        go_wp2_with fail
        go_ret2
        refine ⟨ret_int2 ?_ ?_, rfl⟩
        · unfold Alu.addV; rw [H.out, Hu2.out]; rfl
        · unfold Alu.addQ; rw [H.out, Hu2.out]; rfl
set_option maxHeartbeats 400000 in
theorem rsub_any (a m p : Int) (w : World) (h0 : 0 ≤ a) (h1 : a ≤ 255) (g0 : 0 ≤ m) (g1 : m ≤ 255) (p0 : 0 ≤ p) (p1 : p ≤ 255) :
    Calls Try.prog 37 #[.int .i64 a, .int .i64 m, .int .i64 p] w fun e w' => e = .returned (.tuple #[.int .i64 (Alu.subV a m p), .int .i64 (Alu.subQ a m p)]) ∧ w = w' := by
  cases hd : Alu.has p 8
  · have H := Lib.hid hd
    go_enter Try.func37, Try.ntmps37
    go_wp2_with fail
    refine (rbinary_any _ _ _ _ h0 h1 (by omega) (by omega) p0 p1).mono ?_
    rintro e w' ⟨rfl, rfl⟩
    go_wp2_with fail
    refine (rhas_any _ _ _ p0 (by omega) (by omega) (by omega)).mono ?_
    rintro e w' ⟨rfl, rfl⟩
    go_wp2_with fail
    go_ret2
    refine ⟨ret_int2 ?_ ?_, rfl⟩
    · unfold Alu.subV; rw [H.out]; rfl
    · unfold Alu.subQ; rfl
  · have H := Lib.hid hd
    have tn := Alu.subT_in a m p h0 h1 g0 g1
    have Hu := Lib.hid (show (if Alu.subT a m p < 0 then Alu.subT a m p - 96 else Alu.subT a m p) = Alu.subU a m p from rfl)
    by_cases hl : a % 16 - m % 16 - (1 - p % 2) < 0
    · by_cases hl2 : a % 16 - m % 16 - (1 - p % 2) < -10
      · have hm : (a % 16 - m % 16 - (1 - p % 2) + 10).tmod 16 = a % 16 - m % 16 - (1 - p % 2) + 10 := by rw [Alu.tmod_neg _ _ (by omega)]; omega
        have Ht := Lib.hid (show a / 16 * 16 - m / 16 * 16 + (a % 16 - m % 16 - (1 - p % 2) + 10) = Alu.subT a m p by unfold Alu.subT Alu.subL; rw [if_pos hl]; omega)
        by_cases hu : a / 16 * 16 - m / 16 * 16 + (a % 16 - m % 16 - (1 - p % 2) + 10) < 0
        · have Hu2 := Lib.hid (show Alu.subU a m p = a / 16 * 16 - m / 16 * 16 + (a % 16 - m % 16 - (1 - p % 2) + 10) - 96 by rw [← Hu.out, ← Ht.out, if_pos hu])
          have Hs := Lib.hid (Alu.sub_end (a / 16 * 16 - m / 16 * 16 + (a % 16 - m % 16 - (1 - p % 2) + 10) - 96) (by omega) (by omega))
          go_enter Try.func37, Try.ntmps37
          go_wp2_with fail
          refine (rbinary_any _ _ _ _ h0 h1 (by omega) (by omega) p0 p1).mono ?_
          rintro e w' ⟨rfl, rfl⟩
          go_wp2_with fail
          refine (rhas_any _ _ _ p0 (by omega) (by omega) (by omega)).mono ?_
          rintro e w' ⟨rfl, rfl⟩
          go_wp2_with fail
          go_ret2
          refine ⟨ret_int2 ?_ ?_, rfl⟩
          · unfold Alu.subV; rw [H.out, if_pos rfl, Hu2.out]; exact Hs.out
          · unfold Alu.subQ; rfl
        · have Hu2 := Lib.hid (show Alu.subU a m p = a / 16 * 16 - m / 16 * 16 + (a % 16 - m % 16 - (1 - p % 2) + 10) by rw [← Hu.out, ← Ht.out, if_neg hu])
          go_enter Try.func37, Try.ntmps37
          go_wp2_with fail
          refine (rbinary_any _ _ _ _ h0 h1 (by omega) (by omega) p0 p1).mono ?_
          rintro e w' ⟨rfl, rfl⟩
          go_wp2_with fail
          refine (rhas_any _ _ _ p0 (by omega) (by omega) (by omega)).mono ?_
          rintro e w' ⟨rfl, rfl⟩
          go_wp2_with fail
          go_ret2
          refine ⟨ret_int2 ?_ ?_, rfl⟩
          · unfold Alu.subV; rw [H.out, if_pos rfl, Hu2.out]; show (_ % 256 + 256) % 256 = _; omega
          · unfold Alu.subQ; rfl
      · have Ht := Lib.hid (show a / 16 * 16 - m / 16 * 16 + ((a % 16 - m % 16 - (1 - p % 2) + 10) % 16 - 16) = Alu.subT a m p by unfold Alu.subT Alu.subL; rw [if_pos hl])
        by_cases hu : a / 16 * 16 - m / 16 * 16 + ((a % 16 - m % 16 - (1 - p % 2) + 10) % 16 - 16) < 0
        · have Hu2 := Lib.hid (show Alu.subU a m p = a / 16 * 16 - m / 16 * 16 + ((a % 16 - m % 16 - (1 - p % 2) + 10) % 16 - 16) - 96 by rw [← Hu.out, ← Ht.out, if_pos hu])
          have Hs := Lib.hid (Alu.sub_end (a / 16 * 16 - m / 16 * 16 + ((a % 16 - m % 16 - (1 - p % 2) + 10) % 16 - 16) - 96) (by omega) (by omega))
          go_enter Try.func37, Try.ntmps37
          go_wp2_with fail
          refine (rbinary_any _ _ _ _ h0 h1 (by omega) (by omega) p0 p1).mono ?_
          rintro e w' ⟨rfl, rfl⟩
          go_wp2_with fail
          refine (rhas_any _ _ _ p0 (by omega) (by omega) (by omega)).mono ?_
          rintro e w' ⟨rfl, rfl⟩
          go_wp2_with fail
          go_ret2
          refine ⟨ret_int2 ?_ ?_, rfl⟩
          · unfold Alu.subV; rw [H.out, if_pos rfl, Hu2.out]; exact Hs.out
          · unfold Alu.subQ; rfl
        · have Hu2 := Lib.hid (show Alu.subU a m p = a / 16 * 16 - m / 16 * 16 + ((a % 16 - m % 16 - (1 - p % 2) + 10) % 16 - 16) by rw [← Hu.out, ← Ht.out, if_neg hu])
          go_enter Try.func37, Try.ntmps37
          go_wp2_with fail
          refine (rbinary_any _ _ _ _ h0 h1 (by omega) (by omega) p0 p1).mono ?_
          rintro e w' ⟨rfl, rfl⟩
          go_wp2_with fail
          refine (rhas_any _ _ _ p0 (by omega) (by omega) (by omega)).mono ?_
          rintro e w' ⟨rfl, rfl⟩
          go_wp2_with fail
          go_ret2
          refine ⟨ret_int2 ?_ ?_, rfl⟩
          · unfold Alu.subV; rw [H.out, if_pos rfl, Hu2.out]; show (_ % 256 + 256) % 256 = _; omega
          · unfold Alu.subQ; rfl
    · have Ht := Lib.hid (show a / 16 * 16 - m / 16 * 16 + (a % 16 - m % 16 - (1 - p % 2)) = Alu.subT a m p by unfold Alu.subT Alu.subL; rw [if_neg hl])
      by_cases hu : a / 16 * 16 - m / 16 * 16 + (a % 16 - m % 16 - (1 - p % 2)) < 0
      · have Hu2 := Lib.hid (show Alu.subU a m p = a / 16 * 16 - m / 16 * 16 + (a % 16 - m % 16 - (1 - p % 2)) - 96 by rw [← Hu.out, ← Ht.out, if_pos hu])
        have Hs := Lib.hid (Alu.sub_end (a / 16 * 16 - m / 16 * 16 + (a % 16 - m % 16 - (1 - p % 2)) - 96) (by omega) (by omega))
        go_enter Try.func37, Try.ntmps37
        go_wp2_with fail
        refine (rbinary_any _ _ _ _ h0 h1 (by omega) (by omega) p0 p1).mono ?_
        rintro e w' ⟨rfl, rfl⟩
        go_wp2_with fail
        refine (rhas_any _ _ _ p0 (by omega) (by omega) (by omega)).mono ?_
        rintro e w' ⟨rfl, rfl⟩
        go_wp2_with fail
        go_ret2
        refine ⟨ret_int2 ?_ ?_, rfl⟩
        · unfold Alu.subV; rw [H.out, if_pos rfl, Hu2.out]; exact Hs.out
        · unfold Alu.subQ; rfl
      · have Hu2 := Lib.hid (show Alu.subU a m p = a / 16 * 16 - m / 16 * 16 + (a % 16 - m % 16 - (1 - p % 2)) by rw [← Hu.out, ← Ht.out, if_neg hu])
        go_enter Try.func37, Try.ntmps37
        go_wp2_with fail
        refine (rbinary_any _ _ _ _ h0 h1 (by omega) (by omega) p0 p1).mono ?_
        rintro e w' ⟨rfl, rfl⟩
        go_wp2_with fail
        refine (rhas_any _ _ _ p0 (by omega) (by omega) (by omega)).mono ?_
        rintro e w' ⟨rfl, rfl⟩
        go_wp2_with fail
        go_ret2
        refine ⟨ret_int2 ?_ ?_, rfl⟩
        · unfold Alu.subV; rw [H.out, if_pos rfl, Hu2.out]; show (_ % 256 + 256) % 256 = _; omega
        · unfold Alu.subQ; rfl
set_option maxHeartbeats 400000 in
theorem rcompare_any (a m p : Int) (w : World) (h0 : 0 ≤ a) (h1 : a ≤ 255) (g0 : 0 ≤ m) (g1 : m ≤ 255) (p0 : 0 ≤ p) (p1 : p ≤ 255) :
    Calls Try.prog 38 #[.int .i64 a, .int .i64 m, .int .i64 p] w fun e w' => e = .returned (.int .i64 (Alu.cmpQ a m p)) ∧ w = w' := by
  have Hm := Lib.hid (show (a - m + 256) % 256 = (a - m) % 256 by omega)
  have mk := Alu.markF_in p ((a - m) % 256) p0 p1
  go_enter Try.func38, Try.ntmps38
  go_wp2_with fail
  rw [Hm.out]
  refine (rmark_any _ _ _ p0 p1 (by omega) (by omega)).mono ?_
  rintro e w' ⟨rfl, rfl⟩
  go_wp2_with fail
  refine (rwith_any _ _ _ _ mk.1 mk.2 (by omega) (by omega)).mono ?_
  rintro e w' ⟨rfl, rfl⟩
  go_wp2_with fail
  go_ret
  exact ⟨rfl, rfl⟩
set_option maxHeartbeats 400000 in
theorem rcommon_any (a m : Int) (w : World) (h0 : 0 ≤ a) (h1 : a ≤ 255) (g0 : 0 ≤ m) (g1 : m ≤ 255) :
    Calls Try.prog 56 #[.int .i64 a, .int .i64 m] w fun e w' => e = .returned (.int .i64 (Alu.comF a m)) ∧ w = w' := by
  go_enter Try.func56, Try.ntmps56
  go_wp2_with fail
  have cn := Alu.comF_in a m h0 h1
  go_loop [5, 6] (fun o b => ∃ x : Int, Alu.worth x ∧ b = .int .i64 x ∧ o = .int .i64 (Alu.comF a m % x)) (fun _ b => (256 - intOf b).toNat)
  case atStart => exact ⟨1, Alu.worth_one, rfl, by congr 1; omega⟩
  case round =>
    obtain ⟨x, hx, rfl, rfl⟩ := hrel
    have xn := Alu.worth_in x hx
    have on : 0 ≤ Alu.comF a m % x ∧ Alu.comF a m % x ≤ 255 := ⟨Int.emod_nonneg _ (by omega), by have := Int.emod_lt_of_pos (Alu.comF a m) (show 0 < x by omega); omega⟩
    by_cases hlt : x < 256
    · have hn := Lib.hid (Alu.com_next a m x h0 g0 hx)
      have hw := Lib.hid (Alu.worth_next x hx hlt)
      by_cases ha : Alu.has a x = true
      · by_cases hm : Alu.has m x = true
        · have Ha := Lib.hid ha
          have Hm := Lib.hid hm
          go_wp2_with fail
          refine (rhas_any a _ _ h0 (by omega) (by omega) (by omega)).mono ?_
          rintro e w' ⟨rfl, rfl⟩
          go_wp2_with fail
          refine (rhas_any m _ _ g0 (by omega) (by omega) (by omega)).mono ?_
          rintro e w' ⟨rfl, rfl⟩
          go_wp2_with fail
          go_round
          case rel => exact ⟨x * 2, hw.out, rfl, by rw [hn.out, Ha.out, Hm.out]; rfl⟩
          case measure => simp [intOf]; omega
        · have hm : Alu.has m x = false := by simpa using hm
          have Ha := Lib.hid ha
          have Hm := Lib.hid hm
          go_wp2_with fail
          refine (rhas_any a _ _ h0 (by omega) (by omega) (by omega)).mono ?_
          rintro e w' ⟨rfl, rfl⟩
          go_wp2_with fail
          refine (rhas_any m _ _ g0 (by omega) (by omega) (by omega)).mono ?_
          rintro e w' ⟨rfl, rfl⟩
          go_wp2_with fail
          go_round
          case rel => exact ⟨x * 2, hw.out, rfl, by rw [hn.out, Ha.out, Hm.out]; simp⟩
          case measure => simp [intOf]; omega
      · have ha : Alu.has a x = false := by simpa using ha
        have Ha := Lib.hid ha
        go_wp2_with fail
        refine (rhas_any a _ _ h0 (by omega) (by omega) (by omega)).mono ?_
        rintro e w' ⟨rfl, rfl⟩
        go_wp2_with fail
        go_round
        case rel => exact ⟨x * 2, hw.out, rfl, by rw [hn.out, Ha.out]; simp⟩
        case measure => simp [intOf]; omega
    · obtain rfl : x = 256 := by omega
      go_wp2_with fail
      go_ret
      exact ⟨ret_int (by omega), rfl⟩
set_option maxHeartbeats 400000 in
theorem rbit_any (a m p : Int) (w : World) (h0 : 0 ≤ a) (h1 : a ≤ 255) (g0 : 0 ≤ m) (g1 : m ≤ 255) (p0 : 0 ≤ p) (p1 : p ≤ 255) :
    Calls Try.prog 39 #[.int .i64 a, .int .i64 m, .int .i64 p] w fun e w' => e = .returned (.int .i64 (Alu.bitQ a m p)) ∧ w = w' := by
  have cn := Alu.comF_in a m h0 h1
  have s1 := Alu.setF_in p 2 (Alu.comF a m == 0) p0 p1 (by simp)
  have s2 := Alu.setF_in _ 128 (Alu.has m 128) s1.1 s1.2 (by simp)
  go_enter Try.func39, Try.ntmps39
  go_wp2_with fail
  refine (rcommon_any _ _ _ h0 h1 g0 g1).mono ?_
  rintro e w' ⟨rfl, rfl⟩
  go_wp2_with fail
  refine (rwith_any _ _ _ _ p0 p1 (by omega) (by omega)).mono ?_
  rintro e w' ⟨rfl, rfl⟩
  go_wp2_with fail
  refine (rhas_any _ _ _ g0 (by omega) (by omega) (by omega)).mono ?_
  rintro e w' ⟨rfl, rfl⟩
  go_wp2_with fail
  refine (rwith_any _ _ _ _ s1.1 s1.2 (by omega) (by omega)).mono ?_
  rintro e w' ⟨rfl, rfl⟩
  go_wp2_with fail
  refine (rhas_any _ _ _ g0 (by omega) (by omega) (by omega)).mono ?_
  rintro e w' ⟨rfl, rfl⟩
  go_wp2_with fail
  refine (rwith_any _ _ _ _ s2.1 s2.2 (by omega) (by omega)).mono ?_
  rintro e w' ⟨rfl, rfl⟩
  go_wp2_with fail
  go_ret
  exact ⟨rfl, rfl⟩
set_option maxHeartbeats 400000 in
theorem rleft_any (m p : Int) (turn : Bool) (w : World) (g0 : 0 ≤ m) (g1 : m ≤ 255) (p0 : 0 ≤ p) (p1 : p ≤ 255) :
    Calls Try.prog 45 #[.int .i64 m, .int .i64 p, .bool turn] w fun e w' => e = .returned (.tuple #[.int .i64 (Alu.leftV m p turn), .int .i64 (Alu.leftQ m p turn)]) ∧ w = w' := by
  have lv := Alu.leftV_in m p turn
  have mk := Alu.markF_in p (Alu.leftV m p turn) p0 p1
  cases turn
  · go_enter Try.func45, Try.ntmps45
    go_wp2_with fail
    refine (rmark_any _ _ _ p0 p1 (by omega) (by omega)).mono ?_
    rintro e w' ⟨rfl, rfl⟩
    go_wp2_with fail
    refine (rwith_any _ _ _ _ (Alu.markF_in _ _ p0 p1).1 (Alu.markF_in _ _ p0 p1).2 (by omega) (by omega)).mono ?_
    rintro e w' ⟨rfl, rfl⟩
    go_wp2_with fail
    go_ret2
    exact ⟨ret_int2 (by simp [Alu.leftV]) (by simp [Alu.leftQ, Alu.leftV]), rfl⟩
  · go_enter Try.func45, Try.ntmps45
    go_wp2_with fail
    refine (rmark_any _ _ _ p0 p1 (by omega) (by omega)).mono ?_
    rintro e w' ⟨rfl, rfl⟩
    go_wp2_with fail
    refine (rwith_any _ _ _ _ (Alu.markF_in _ _ p0 p1).1 (Alu.markF_in _ _ p0 p1).2 (by omega) (by omega)).mono ?_
    rintro e w' ⟨rfl, rfl⟩
    go_wp2_with fail
    go_ret2
    exact ⟨ret_int2 (by simp [Alu.leftV]) (by simp [Alu.leftQ, Alu.leftV]), rfl⟩
set_option maxHeartbeats 400000 in
theorem rright_any (m p : Int) (turn : Bool) (w : World) (g0 : 0 ≤ m) (g1 : m ≤ 255) (p0 : 0 ≤ p) (p1 : p ≤ 255) :
    Calls Try.prog 41 #[.int .i64 m, .int .i64 p, .bool turn] w fun e w' => e = .returned (.tuple #[.int .i64 (Alu.rightV m p turn), .int .i64 (Alu.rightQ m p turn)]) ∧ w = w' := by
  have lv := Alu.rightV_in m p turn g0 g1
  have mk := Alu.markF_in p (Alu.rightV m p turn) p0 p1
  cases turn
  · go_enter Try.func41, Try.ntmps41
    go_wp2_with fail
    refine (rmark_any _ _ _ p0 p1 (by omega) (by omega)).mono ?_
    rintro e w' ⟨rfl, rfl⟩
    go_wp2_with fail
    refine (rwith_any _ _ _ _ (Alu.markF_in _ _ p0 p1).1 (Alu.markF_in _ _ p0 p1).2 (by omega) (by omega)).mono ?_
    rintro e w' ⟨rfl, rfl⟩
    go_wp2_with fail
    go_ret2
    exact ⟨ret_int2 (by simp [Alu.rightV]) (by simp [Alu.rightQ, Alu.rightV]), rfl⟩
  · go_enter Try.func41, Try.ntmps41
    go_wp2_with fail
    refine (rmark_any _ _ _ p0 p1 (by omega) (by omega)).mono ?_
    rintro e w' ⟨rfl, rfl⟩
    go_wp2_with fail
    refine (rwith_any _ _ _ _ (Alu.markF_in _ _ p0 p1).1 (Alu.markF_in _ _ p0 p1).2 (by omega) (by omega)).mono ?_
    rintro e w' ⟨rfl, rfl⟩
    go_wp2_with fail
    go_ret2
    exact ⟨ret_int2 (by simp [Alu.rightV]) (by simp [Alu.rightQ, Alu.rightV]), rfl⟩
set_option maxHeartbeats 400000 in
theorem rodd_any (a m p : Int) (w : World) (h0 : 0 ≤ a) (h1 : a ≤ 255) (g0 : 0 ≤ m) (g1 : m ≤ 255) (p0 : 0 ≤ p) (p1 : p ≤ 255) :
    Calls Try.prog 42 #[.int .i64 a, .int .i64 m, .int .i64 p] w fun e w' => e = .returned (.tuple #[.int .i64 (Alu.oddV a m p), .int .i64 (Alu.oddQ a m p)]) ∧ w = w' := by
  have tn := Alu.comF_in a m h0 h1
  have vn := Alu.rightV_in (Alu.comF a m) p true tn.1 tn.2
  have qn := Alu.rightQ_in (Alu.comF a m) p true p0 p1
  cases hd : Alu.has p 8
  · have H := Lib.hid hd
    have s1 := Alu.setF_in (Alu.rightQ (Alu.comF a m) p true) 1 (Alu.has (Alu.rightV (Alu.comF a m) p true) 64) qn.1 qn.2 (by simp)
    go_enter Try.func42, Try.ntmps42
    go_wp2_with fail
    refine (rcommon_any _ _ _ h0 h1 g0 g1).mono ?_
    rintro e w' ⟨rfl, rfl⟩
    go_wp2_with fail
    refine (rright_any _ _ _ _ tn.1 tn.2 p0 p1).mono ?_
    rintro e w' ⟨rfl, rfl⟩
    go_wp2_with fail
    refine (rhas_any _ _ _ p0 (by omega) (by omega) (by omega)).mono ?_
    rintro e w' ⟨rfl, rfl⟩
    go_wp2_with fail
    refine (rhas_any _ _ _ vn.1 (by omega) (by omega) (by omega)).mono ?_
    rintro e w' ⟨rfl, rfl⟩
    go_wp2_with fail
    refine (rwith_any _ _ _ _ qn.1 qn.2 (by omega) (by omega)).mono ?_
    rintro e w' ⟨rfl, rfl⟩
    go_wp2_with fail
    refine (rhas_any _ _ _ vn.1 (by omega) (by omega) (by omega)).mono ?_
    rintro e w' ⟨rfl, rfl⟩
    go_wp2_with fail
    refine (rhas_any _ _ _ vn.1 (by omega) (by omega) (by omega)).mono ?_
    rintro e w' ⟨rfl, rfl⟩
    go_wp2_with fail
    refine (rwith_any _ _ _ _ s1.1 s1.2 (by omega) (by omega)).mono ?_
    rintro e w' ⟨rfl, rfl⟩
    go_wp2_with fail
    go_ret2
    refine ⟨ret_int2 ?_ ?_, rfl⟩
    · unfold Alu.oddV; rw [H.out]; rfl
    · unfold Alu.oddQ; rw [H.out]; rfl
  · have H := Lib.hid hd
    have s1 := Alu.setF_in (Alu.rightQ (Alu.comF a m) p true) 128 (p % 2 == 1) qn.1 qn.2 (by simp)
    have s2 := Alu.setF_in _ 64 (Alu.has (Alu.comF a m) 64 != Alu.has (Alu.rightV (Alu.comF a m) p true) 64) s1.1 s1.2 (by simp)
    have Hz := Lib.hid (show Alu.setF (Alu.setF (Alu.rightQ (Alu.comF a m) p true) 128 (p % 2 == 1)) 2 (Alu.rightV (Alu.comF a m) p true == 0) = Alu.setF (Alu.rightQ (Alu.comF a m) p true) 128 (p % 2 == 1) from Alu.right_again p (Alu.rightV (Alu.comF a m) p true) (Alu.comF a m % 2 == 1) (p % 2 == 1) p0 p1)
    have wn := Alu.oddW_in (Alu.comF a m) (Alu.rightV (Alu.comF a m) p true) vn.1 vn.2
    by_cases hw : 5 < Alu.comF a m % 16 + Alu.comF a m % 2
    · have O3 := Lib.hid (show Alu.rightV (Alu.comF a m) p true / 16 * 16 + (Alu.rightV (Alu.comF a m) p true + 6) % 16 = Alu.oddW (Alu.comF a m) (Alu.rightV (Alu.comF a m) p true) by unfold Alu.oddW; rw [if_pos hw]; omega)
      by_cases hh : 5 < Alu.comF a m / 16 + Alu.comF a m / 16 % 2
      · have Hh := Lib.hid (show Alu.oddH (Alu.comF a m) = true by unfold Alu.oddH; simp; omega)
        have q1 : oneI true = 1 := rfl
        go_enter Try.func42, Try.ntmps42
        go_wp2_with fail
        refine (rcommon_any _ _ _ h0 h1 g0 g1).mono ?_
        rintro e w' ⟨rfl, rfl⟩
        go_wp2_with fail
        refine (rright_any _ _ _ _ tn.1 tn.2 p0 p1).mono ?_
        rintro e w' ⟨rfl, rfl⟩
        go_wp2_with fail
        refine (rhas_any _ _ _ p0 (by omega) (by omega) (by omega)).mono ?_
        rintro e w' ⟨rfl, rfl⟩
        go_wp2_with fail
        refine (rwith_any _ _ _ _ qn.1 qn.2 (by omega) (by omega)).mono ?_
        rintro e w' ⟨rfl, rfl⟩
        go_wp2_with fail
        refine (rwith_any _ _ _ _ s1.1 s1.2 (by omega) (by omega)).mono ?_
        rintro e w' ⟨rfl, rfl⟩
        go_wp2_with fail
        rw [Hz.out]
        refine (rhas_any _ _ _ tn.1 (by omega) (by omega) (by omega)).mono ?_
        rintro e w' ⟨rfl, rfl⟩
        go_wp2_with fail
        refine (rhas_any _ _ _ vn.1 (by omega) (by omega) (by omega)).mono ?_
        rintro e w' ⟨rfl, rfl⟩
        go_wp2_with fail
        refine (rwith_any _ _ _ _ s1.1 s1.2 (by omega) (by omega)).mono ?_
        rintro e w' ⟨rfl, rfl⟩
        go_wp2_with fail
        refine (rone_any _ _).mono ?_
        rintro e w' ⟨rfl, rfl⟩
        go_wp2_with fail
        refine (rwith_any _ _ _ _ s2.1 s2.2 (by omega) (by omega)).mono ?_
        rintro e w' ⟨rfl, rfl⟩
        go_wp2_with fail
        go_ret2
        refine ⟨ret_int2 ?_ ?_, rfl⟩
        · unfold Alu.oddV; simp only []; rw [H.out, Hh.out, ← O3.out, if_pos rfl]; first | rfl | (rw [if_neg (by simp)]; omega)
        · unfold Alu.oddQ; simp only []; rw [H.out, Hh.out]; rfl
      · have Hh := Lib.hid (show Alu.oddH (Alu.comF a m) = false by unfold Alu.oddH; simp; omega)
        have q1 : oneI (decide (5 < Alu.comF a m / 16 + Alu.comF a m / 16 % 2)) = 0 := by rw [show (decide (5 < Alu.comF a m / 16 + Alu.comF a m / 16 % 2)) = false by simp; omega]; rfl
        go_enter Try.func42, Try.ntmps42
        go_wp2_with fail
        refine (rcommon_any _ _ _ h0 h1 g0 g1).mono ?_
        rintro e w' ⟨rfl, rfl⟩
        go_wp2_with fail
        refine (rright_any _ _ _ _ tn.1 tn.2 p0 p1).mono ?_
        rintro e w' ⟨rfl, rfl⟩
        go_wp2_with fail
        refine (rhas_any _ _ _ p0 (by omega) (by omega) (by omega)).mono ?_
        rintro e w' ⟨rfl, rfl⟩
        go_wp2_with fail
        refine (rwith_any _ _ _ _ qn.1 qn.2 (by omega) (by omega)).mono ?_
        rintro e w' ⟨rfl, rfl⟩
        go_wp2_with fail
        refine (rwith_any _ _ _ _ s1.1 s1.2 (by omega) (by omega)).mono ?_
        rintro e w' ⟨rfl, rfl⟩
        go_wp2_with fail
        rw [Hz.out]
        refine (rhas_any _ _ _ tn.1 (by omega) (by omega) (by omega)).mono ?_
        rintro e w' ⟨rfl, rfl⟩
        go_wp2_with fail
        refine (rhas_any _ _ _ vn.1 (by omega) (by omega) (by omega)).mono ?_
        rintro e w' ⟨rfl, rfl⟩
        go_wp2_with fail
        refine (rwith_any _ _ _ _ s1.1 s1.2 (by omega) (by omega)).mono ?_
        rintro e w' ⟨rfl, rfl⟩
        go_wp2_with fail
        refine (rone_any _ _).mono ?_
        rintro e w' ⟨rfl, rfl⟩
        go_wp2_with fail
        refine (rwith_any _ _ _ _ s2.1 s2.2 (by omega) (by omega)).mono ?_
        rintro e w' ⟨rfl, rfl⟩
        go_wp2_with fail
        go_ret2
        refine ⟨ret_int2 ?_ ?_, rfl⟩
        · unfold Alu.oddV; simp only []; rw [H.out, Hh.out, ← O3.out, if_pos rfl]; first | rfl | (rw [if_neg (by simp)]; omega)
        · unfold Alu.oddQ; simp only []; rw [H.out]; rfl
    · have O3 := Lib.hid (show Alu.rightV (Alu.comF a m) p true = Alu.oddW (Alu.comF a m) (Alu.rightV (Alu.comF a m) p true) by unfold Alu.oddW; rw [if_neg hw])
      by_cases hh : 5 < Alu.comF a m / 16 + Alu.comF a m / 16 % 2
      · have Hh := Lib.hid (show Alu.oddH (Alu.comF a m) = true by unfold Alu.oddH; simp; omega)
        have q1 : oneI true = 1 := rfl
        go_enter Try.func42, Try.ntmps42
        go_wp2_with fail
        refine (rcommon_any _ _ _ h0 h1 g0 g1).mono ?_
        rintro e w' ⟨rfl, rfl⟩
        go_wp2_with fail
        refine (rright_any _ _ _ _ tn.1 tn.2 p0 p1).mono ?_
        rintro e w' ⟨rfl, rfl⟩
        go_wp2_with fail
        refine (rhas_any _ _ _ p0 (by omega) (by omega) (by omega)).mono ?_
        rintro e w' ⟨rfl, rfl⟩
        go_wp2_with fail
        refine (rwith_any _ _ _ _ qn.1 qn.2 (by omega) (by omega)).mono ?_
        rintro e w' ⟨rfl, rfl⟩
        go_wp2_with fail
        refine (rwith_any _ _ _ _ s1.1 s1.2 (by omega) (by omega)).mono ?_
        rintro e w' ⟨rfl, rfl⟩
        go_wp2_with fail
        rw [Hz.out]
        refine (rhas_any _ _ _ tn.1 (by omega) (by omega) (by omega)).mono ?_
        rintro e w' ⟨rfl, rfl⟩
        go_wp2_with fail
        refine (rhas_any _ _ _ vn.1 (by omega) (by omega) (by omega)).mono ?_
        rintro e w' ⟨rfl, rfl⟩
        go_wp2_with fail
        refine (rwith_any _ _ _ _ s1.1 s1.2 (by omega) (by omega)).mono ?_
        rintro e w' ⟨rfl, rfl⟩
        go_wp2_with fail
        refine (rone_any _ _).mono ?_
        rintro e w' ⟨rfl, rfl⟩
        go_wp2_with fail
        refine (rwith_any _ _ _ _ s2.1 s2.2 (by omega) (by omega)).mono ?_
        rintro e w' ⟨rfl, rfl⟩
        go_wp2_with fail
        go_ret2
        refine ⟨ret_int2 ?_ ?_, rfl⟩
        · unfold Alu.oddV; simp only []; rw [H.out, Hh.out, ← O3.out, if_pos rfl]; first | rfl | (rw [if_neg (by simp)]; omega)
        · unfold Alu.oddQ; simp only []; rw [H.out, Hh.out]; rfl
      · have Hh := Lib.hid (show Alu.oddH (Alu.comF a m) = false by unfold Alu.oddH; simp; omega)
        have q1 : oneI (decide (5 < Alu.comF a m / 16 + Alu.comF a m / 16 % 2)) = 0 := by rw [show (decide (5 < Alu.comF a m / 16 + Alu.comF a m / 16 % 2)) = false by simp; omega]; rfl
        go_enter Try.func42, Try.ntmps42
        go_wp2_with fail
        refine (rcommon_any _ _ _ h0 h1 g0 g1).mono ?_
        rintro e w' ⟨rfl, rfl⟩
        go_wp2_with fail
        refine (rright_any _ _ _ _ tn.1 tn.2 p0 p1).mono ?_
        rintro e w' ⟨rfl, rfl⟩
        go_wp2_with fail
        refine (rhas_any _ _ _ p0 (by omega) (by omega) (by omega)).mono ?_
        rintro e w' ⟨rfl, rfl⟩
        go_wp2_with fail
        refine (rwith_any _ _ _ _ qn.1 qn.2 (by omega) (by omega)).mono ?_
        rintro e w' ⟨rfl, rfl⟩
        go_wp2_with fail
        refine (rwith_any _ _ _ _ s1.1 s1.2 (by omega) (by omega)).mono ?_
        rintro e w' ⟨rfl, rfl⟩
        go_wp2_with fail
        rw [Hz.out]
        refine (rhas_any _ _ _ tn.1 (by omega) (by omega) (by omega)).mono ?_
        rintro e w' ⟨rfl, rfl⟩
        go_wp2_with fail
        refine (rhas_any _ _ _ vn.1 (by omega) (by omega) (by omega)).mono ?_
        rintro e w' ⟨rfl, rfl⟩
        go_wp2_with fail
        refine (rwith_any _ _ _ _ s1.1 s1.2 (by omega) (by omega)).mono ?_
        rintro e w' ⟨rfl, rfl⟩
        go_wp2_with fail
        refine (rone_any _ _).mono ?_
        rintro e w' ⟨rfl, rfl⟩
        go_wp2_with fail
        refine (rwith_any _ _ _ _ s2.1 s2.2 (by omega) (by omega)).mono ?_
        rintro e w' ⟨rfl, rfl⟩
        go_wp2_with fail
        go_ret2
        refine ⟨ret_int2 ?_ ?_, rfl⟩
        · unfold Alu.oddV; simp only []; rw [H.out, Hh.out, ← O3.out, if_pos rfl]; first | rfl | (rw [if_neg (by simp)]; omega)
        · unfold Alu.oddQ; simp only []; rw [H.out]; rfl
end Go.Proofs.Ytlecpfkfnaiabaa
