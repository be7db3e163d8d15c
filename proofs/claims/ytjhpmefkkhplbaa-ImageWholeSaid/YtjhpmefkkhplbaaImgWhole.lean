/- The walk of the law that banks are the whole image, windows all addresses. -/
import Derived.Test.YtjhpmefkkhplbaaImgLaws
import Derived.RegionTactic
import Derived.ChangeAlike
import Derived.BigRegion
import Derived.Deep.QuietTactic
import Derived.BigQuiet
namespace Go.Proofs.Ytjhpmefkkhplbaa
open Go.RowKit
set_option linter.unusedVariables false
set_option linter.unusedSimpArgs false
theorem whole_no (k n : Int) (h : Img.okK k n = false) : Img.shape k n = .agg #[.int .i64 0, .int .i64 0, .int .i64 0, .bool false] ∧ Img.firstK k n = [] ∧ (Img.errK k n = 3 ∨ Img.errK k n = 4) := by
  refine ⟨by simp [Img.shape, Img.banksK, Img.szK, Img.winsK, Img.exK, h], by simp [Img.firstK, h], ?_⟩
  unfold Img.okK at h
  unfold Img.errK
  by_cases hk : k < 0
  · simp [hk]
  · have : decide (0 ≤ k) = true := by simp; omega
    rw [this, Bool.true_and] at h
    simp [hk, h]
def wholeB (k n : Int) : Prop := Img.banksK k n * Img.szK k n = n ∧ Img.szK k n * Img.winsK k n = 4096 ∧ ((Img.firstK k n).length : Int) = Img.winsK k n ∧ (∀ i, i < (Img.firstK k n).length → 0 ≤ (Img.firstK k n).getD i 0 ∧ (Img.firstK k n).getD i 0 < Img.banksK k n) ∧ Img.errK k n = 0 ∧ -524288 ≤ n ∧ n ≤ 524288
theorem whole_ok (k n : Int) (hk : k ≤ 10) (h : Img.okK k n = true) : wholeB k n := by
  have h2 : 0 ≤ k ∧ Img.fitsK k n = true := by simpa [Img.okK] using h
  obtain ⟨h0, hf⟩ := h2
  have hc : k = 0 ∨ k = 1 ∨ k = 2 ∨ k = 3 ∨ k = 4 ∨ k = 5 ∨ k = 6 ∨ k = 7 ∨ k = 8 ∨ k = 9 ∨ k = 10 := by omega
  rcases hc with rfl | rfl | rfl | rfl | rfl | rfl | rfl | rfl | rfl | rfl | rfl
  · obtain rfl : n = 2048 := beq_iff_eq.1 hf
    unfold wholeB
    decide +kernel
  · have hge : 0 < n ∧ n ≤ 524288 ∧ n % 2048 = 0 := by simpa using (show (decide (0 < n) && (decide (n ≤ 524288) && (n % 2048 == 0))) = true from hf)
    have e1 : Img.banksK 1 n = n / 2048 := by simp [Img.banksK, h, Img.sizeK]
    have e2 : Img.szK 1 n = 2048 := by simp [Img.szK, h, Img.sizeK]
    have e3 : Img.winsK 1 n = 2 := by simp [Img.winsK, h, Img.sizeK]
    have e4 : Img.firstK 1 n = [0, n / 2048 - 1] := by simp [Img.firstK, h]
    have e5 : Img.errK 1 n = 0 := by simp [Img.errK, hf]
    unfold wholeB
    rw [e1, e2, e3, e4, e5]
    refine ⟨by omega, by omega, rfl, fun i hi => ?_, rfl, by omega, by omega⟩
    match i, hi with
    | 0, _ => simp; omega
    | 1, _ => simp; omega
  · obtain rfl : n = 4096 := beq_iff_eq.1 hf
    unfold wholeB
    decide +kernel
  · obtain rfl : n = 8192 := beq_iff_eq.1 hf
    unfold wholeB
    decide +kernel
  · obtain rfl : n = 32768 := beq_iff_eq.1 hf
    unfold wholeB
    decide +kernel
  · obtain rfl : n = 32768 := beq_iff_eq.1 hf
    unfold wholeB
    decide +kernel
  · obtain rfl : n = 16384 := beq_iff_eq.1 hf
    unfold wholeB
    decide +kernel
  · obtain rfl : n = 16384 := beq_iff_eq.1 hf
    unfold wholeB
    decide +kernel
  · obtain rfl : n = 8192 := beq_iff_eq.1 hf
    unfold wholeB
    decide +kernel
  · obtain rfl : n = 8192 := beq_iff_eq.1 hf
    unfold wholeB
    decide +kernel
  · obtain rfl : n = 8192 := beq_iff_eq.1 hf
    unfold wholeB
    decide +kernel
set_option maxHeartbeats 2000000 in
theorem imageWhole_walk (tag : ByteArray) (n : Int) (w : World) (ht : tag.size ≤ maxLen) (h0 : -9223372036854775808 ≤ n) (h1 : n ≤ 9223372036854775807) :
    Calls Try.prog 4 #[.string tag, .int .i64 n] w fun e w' => e = .returned (.bool true) ∧ Below w.heap.size w w' := by
  have hi := Img.idx_in tag
  clear ht
  cases hok : Img.okK (Img.idx tag) n
  · obtain ⟨hs, hf, he⟩ := whole_no _ _ hok
    have Hf := Lib.hid hf
    clear hf hok
    rcases he with he | he
    all_goals
      go_enter Try.func4, Try.ntmps4
      go_wp2_with fail
      refine (fit_any _ _ _ h0 h1).mono ?_
      rintro e w1 ⟨rfl, hb1⟩
      go_wp2_with fail
      refine (first_any _ _ _ h0 h1).mono ?_
      rintro e w2 ⟨v, rfl, hv, hb2⟩
      rw [Hf.out] at hv
      obtain ⟨p, cap, rfl, -, -⟩ := hv
      obtain ⟨g1, z1, b1⟩ := keepA hb2
      have c0 : w2.cell? ⟨w1.heap.size, 0, none⟩ = some (.int .i64 0) := cell_of_row w2 _ 0 _ _ _ g1
      have c1 : w2.cell? ⟨w1.heap.size, 1, none⟩ = some (.int .i64 0) := cell_of_row w2 _ 1 _ _ _ g1
      have c2 : w2.cell? ⟨w1.heap.size, 2, none⟩ = some (.int .i64 0) := cell_of_row w2 _ 2 _ _ _ g1
      have c3 : w2.cell? ⟨w1.heap.size, 3, none⟩ = some (.bool false) := cell_of_row w2 _ 3 _ _ _ g1
      have hw := hb1.trans (b1.mono hb1.size)
      clear g1 hb1 hb2 b1
      go_wp2_with fail
      refine (awake_any _).mono ?_
      rintro e w6 ⟨rfl, hb6⟩
      go_wp2_with fail
      go_ret
      exact ⟨rfl, hw.trans (hb6.mono hw.size)⟩
  · obtain ⟨k1, k2, k3, k4, k5, k6, k7⟩ := whole_ok _ _ hi.2 hok
    obtain ⟨B, S, W, X, rfl, rfl, rfl, rfl, hsh⟩ := shape_is (Img.idx tag) n
    generalize Img.banksK (Img.idx tag) n = B at *
    generalize Img.szK (Img.idx tag) n = S at *
    generalize Img.winsK (Img.idx tag) n = W at *
    generalize Img.exK (Img.idx tag) n = X at *
    generalize hl : Img.firstK (Img.idx tag) n = l at *
    have HL := Lib.hid hl
    have k3' : ((l.length : Int) == W) = true := by simpa using k3
    have wl : 0 ≤ W ∧ W ≤ 1000000 ∨ True := Or.inr trivial
    clear hl k3 wl
    have q1 : wrap64 (B * S) = n := by rw [k1]; unfold wrap64; omega
    have q2 : wrap64 (S * W) = 4096 := by rw [k2]; unfold wrap64; omega
    have K4 := Lib.hid k4
    clear k4 k1 k2 hok
    go_enter Try.func4, Try.ntmps4
    go_wp2_with fail
    refine (fit_any _ _ _ h0 h1).mono ?_
    rintro e w1 ⟨rfl, hb1⟩
    go_wp2_with fail
    refine (first_any _ _ _ h0 h1).mono ?_
    rintro e w2 ⟨v, rfl, hv, hb2⟩
    rw [HL.out] at hv
    obtain ⟨p, cap, rfl, nl, hc⟩ := hv
    have HC := Lib.hid hc
    obtain ⟨g1, z1, b1⟩ := keepA hb2
    have c0 : w2.cell? ⟨w1.heap.size, 0, none⟩ = some (.int .i64 B) := cell_of_row w2 _ 0 _ _ _ g1
    have c1 : w2.cell? ⟨w1.heap.size, 1, none⟩ = some (.int .i64 S) := cell_of_row w2 _ 1 _ _ _ g1
    have c2 : w2.cell? ⟨w1.heap.size, 2, none⟩ = some (.int .i64 W) := cell_of_row w2 _ 2 _ _ _ g1
    have c3 : w2.cell? ⟨w1.heap.size, 3, none⟩ = some (.bool X) := cell_of_row w2 _ 3 _ _ _ g1
    have hw := hb1.trans (b1.mono hb1.size)
    clear g1 hb1 hb2 b1 hc
    go_wp2_with fail
    go_loopw [8] (fun v wr => ∃ k m : Nat, k ≤ l.length ∧ v = .int .i64 k ∧ wr = w2.drewN m) (fun v _ => l.length - (intOf v).toNat)
    case atStart => exact ⟨0, 0, by omega, rfl, rfl⟩
    case round =>
      obtain ⟨k, m, hk, rfl, rfl⟩ := hrel
      by_cases hlt : k < l.length
      · obtain ⟨bb, ob, rfl, gb⟩ := HC.out (fun e => absurd (show l.length = 0 by rw [e]; rfl) (by omega))
        have cb' : w2.cell? ⟨bb, ob + k, none⟩ = some (.int .i64 (l.getD k 0)) := gb k hlt
        have bd := K4.out k hlt
        clear gb
        generalize l.getD k 0 = Y at *
        have y1 : decide (Y < 0) = false := by simp; omega
        have y2 : decide (B ≤ Y) = false := by simp; omega
        have lk : (k : Int) < (l.length : Int) := by omega
        have kk : (0 : Int) ≤ (k : Int) := by omega
        go_wp2
        go_quiet (fail)
        go_wp2
        go_roundw
        case rel => exact ⟨k + 1, _, by omega, by go_num, rfl⟩
        case measure => simp [intOf]; omega
      · obtain rfl : k = l.length := by omega
        go_wp2_with fail
        refine (awake_any _).mono ?_
        rintro e w6 ⟨rfl, hb6⟩
        go_wp2_with fail
        go_ret
        exact ⟨rfl, (below_drewN hw m).trans (hb6.mono hw.size)⟩
end Go.Proofs.Ytjhpmefkkhplbaa
