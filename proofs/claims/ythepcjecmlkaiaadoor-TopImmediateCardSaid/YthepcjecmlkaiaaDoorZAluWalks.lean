/- The contracts of package alu: each call answers what the plain functions of the text Alu say, and leaves the world as it was. -/
import Derived.Test.YthepcjecmlkaiaaDoorRows
import Derived.Test.YthepcjecmlkaiaaDoorZAlu
import Derived.WalkKit
import Derived.WalkSpells
import Derived.WalkLawsBesides
import Derived.Lib.Hide
import Derived.Handy
namespace Go.Proofs.YthepcjecmlkaiaaDoor
open Go.RowKit
set_option linter.unusedVariables false

def oneI (b : Bool) : Int := if b then 1 else 0
theorem oneI_ne (b : Bool) : oneI b ≠ 0 ↔ b = true := by cases b <;> simp [oneI]

set_option maxHeartbeats 400000 in
theorem one_any (b : Bool) (w : World) : Calls Tryd.prog 53 #[.bool b] w fun e w' => e = .returned (.int .i64 (oneI b)) ∧ w = w' := by
  cases b
  all_goals
    go_enter Tryd.func53, Tryd.ntmps53
    go_wp2
    go_ret
    exact ⟨rfl, rfl⟩

set_option maxHeartbeats 400000 in
theorem seti_any (p f x : Int) (b : Bool) (w : World) (h0 : 0 ≤ p) (h1 : p ≤ 255) (hf : f = 1 ∨ f = 2 ∨ f = 64 ∨ f = 128) (hx : x ≠ 0 ↔ b = true) :
    Calls Tryd.prog 52 #[.int .u8 p, .int .u8 f, .int .i64 x] w fun e w' => e = .returned (.int .u8 (Alu.setF p f b)) ∧ w = w' := by
  have H1 := Lib.hid (Alu.or_set p f h0 h1 hf)
  have H2 := Lib.hid (Alu.andnot_set p f h0 h1 hf)
  clear hf
  cases b
  · have hz : (x != 0) = false := by simpa using hx
    clear hx
    go_enter Tryd.func52, Tryd.ntmps52
    go_wp2
    go_ret
    exact ⟨by rw [H2.out]; rfl, rfl⟩
  · have hz : (x != 0) = true := by simpa using hx
    clear hx
    go_enter Tryd.func52, Tryd.ntmps52
    go_wp2
    go_ret
    exact ⟨by rw [H1.out]; rfl, rfl⟩

set_option maxHeartbeats 400000 in
theorem setb_any (p f x : Int) (b : Bool) (w : World) (h0 : 0 ≤ p) (h1 : p ≤ 255) (hf : f = 1 ∨ f = 2 ∨ f = 64 ∨ f = 128) (hx : x ≠ 0 ↔ b = true) :
    Calls Tryd.prog 51 #[.int .u8 p, .int .u8 f, .int .u8 x] w fun e w' => e = .returned (.int .u8 (Alu.setF p f b)) ∧ w = w' := by
  have H1 := Lib.hid (Alu.or_set p f h0 h1 hf)
  have H2 := Lib.hid (Alu.andnot_set p f h0 h1 hf)
  clear hf
  cases b
  · have hz : (x != 0) = false := by simpa using hx
    clear hx
    go_enter Tryd.func51, Tryd.ntmps51
    go_wp2
    go_ret
    exact ⟨by rw [H2.out]; rfl, rfl⟩
  · have hz : (x != 0) = true := by simpa using hx
    clear hx
    go_enter Tryd.func51, Tryd.ntmps51
    go_wp2
    go_ret
    exact ⟨by rw [H1.out]; rfl, rfl⟩

set_option maxHeartbeats 400000 in
theorem mark_any (p v : Int) (w : World) (h0 : 0 ≤ p) (h1 : p ≤ 255) (g0 : 0 ≤ v) (g1 : v ≤ 255) :
    Calls Tryd.prog 47 #[.int .u8 p, .int .u8 v] w fun e w' => e = .returned (.int .u8 (Alu.markF p v)) ∧ w = w' := by
  have hs := Alu.setF_in p 2 (v == 0) h0 h1 (by simp)
  go_enter Tryd.func47, Tryd.ntmps47
  go_wp2_with fail
  refine (one_any _ _).mono ?_
  rintro e w' ⟨rfl, rfl⟩
  go_wp2_with fail
  refine (seti_any _ _ _ (v == 0) _ h0 h1 (by simp) (oneI_ne _)).mono ?_
  rintro e w' ⟨rfl, rfl⟩
  go_wp2_with fail
  refine (setb_any _ _ _ (decide (128 ≤ v)) _ hs.1 hs.2 (by simp) (Alu.and_top v g0 g1)).mono ?_
  rintro e w' ⟨rfl, rfl⟩
  go_wp2_with fail
  go_ret
  exact ⟨rfl, rfl⟩

theorem ret_int {k : IntKind} {a b : Int} (h : a = b) : Ending.returned (.int k a) = .returned (.int k b) := by rw [h]

set_option maxHeartbeats 400000 in
theorem digits_any (b : Int) (w : World) (h0 : 0 ≤ b) (h1 : b ≤ 255) :
    Calls Tryd.prog 54 #[.int .u8 b] w fun e w' => e = .returned (.agg #[.int .i64 (b / 16 * 16), .int .i64 (b % 16)]) ∧ Below w.heap.size w w' := by
  have e1 := Alu.and15 b h0 h1
  have e2 := Alu.and240 b h0 h1
  go_enter Tryd.func54, Tryd.ntmps54
  go_wp2_with fail
  go_returns
  exact ⟨rfl, (Below.refl _ _).alloc (Nat.le_refl _) _⟩
set_option maxHeartbeats 400000 in
theorem over_any (a m s : Int) (w : World) (h0 : 0 ≤ a) (h1 : a ≤ 255) (g0 : 0 ≤ m) (g1 : m ≤ 255) :
    Calls Tryd.prog 68 #[.int .u8 a, .int .u8 m, .int .i64 s] w fun e w' => e = .returned (.int .i64 (Alu.overI (Alu.overF a m s))) ∧ w = w' := by
  go_enter Tryd.func68, Tryd.ntmps68
  go_wp2_with fail
  go_ret
  exact ⟨ret_int (Alu.over_bits a m s h0 h1 g0 g1), rfl⟩

theorem ret_int2 {k l : IntKind} {a b c d : Int} (h : a = b) (g : c = d) : Ending.returned (.tuple #[.int k a, .int l c]) = .returned (.tuple #[.int k b, .int l d]) := by rw [h, g]

set_option maxHeartbeats 400000 in
theorem binary_any (a m p : Int) (w : World) (h0 : 0 ≤ a) (h1 : a ≤ 255) (g0 : 0 ≤ m) (g1 : m ≤ 255) (p0 : 0 ≤ p) (p1 : p ≤ 255) :
    Calls Tryd.prog 67 #[.int .u8 a, .int .u8 m, .int .u8 p] w fun e w' => e = .returned (.tuple #[.int .u8 (Alu.binV a m p), .int .u8 (Alu.binQ a m p)]) ∧ w = w' := by
  have e1 := Alu.and1 p p0 p1
  have s1 := Alu.setF_in p 1 (decide (255 < Alu.binT a m p)) p0 p1 (by simp)
  have s2 := Alu.setF_in _ 64 (Alu.overF a m (Alu.binT a m p)) s1.1 s1.2 (by simp)
  have hq := Lib.hid (Alu.has_over a m (Alu.binT a m p))
  go_enter Tryd.func67, Tryd.ntmps67
  go_wp2_with fail
  refine (seti_any _ _ _ _ _ p0 p1 (by simp) (Alu.hi_ne _ (by omega) _ rfl)).mono ?_
  rintro e w' ⟨rfl, rfl⟩
  go_wp2_with fail
  refine (over_any _ _ _ _ h0 h1 g0 g1).mono ?_
  rintro e w' ⟨rfl, rfl⟩
  go_wp2_with fail
  refine (seti_any _ _ _ _ _ s1.1 s1.2 (by simp) (Alu.overI_ne _)).mono ?_
  rintro e w' ⟨rfl, rfl⟩
  go_wp2_with fail
  refine (mark_any _ _ _ s2.1 s2.2 (by omega) (by omega)).mono ?_
  rintro e w' ⟨rfl, rfl⟩
  go_wp2_with fail
  go_ret2
  refine ⟨ret_int2 rfl ?_, rfl⟩
  unfold Alu.binQ Alu.binV
  rw [hq.out]
  rfl
set_option maxHeartbeats 400000 in
theorem add_any (a m p : Int) (w : World) (h0 : 0 ≤ a) (h1 : a ≤ 255) (g0 : 0 ≤ m) (g1 : m ≤ 255) (p0 : 0 ≤ p) (p1 : p ≤ 255) :
    Calls Tryd.prog 48 #[.int .u8 a, .int .u8 m, .int .u8 p] w fun e w' => e = .returned (.tuple #[.int .u8 (Alu.addV a m p), .int .u8 (Alu.addQ a m p)]) ∧ Below w.heap.size w w' := by
  have e1 := Alu.and1 p p0 p1
  cases hd : Alu.has p 8
  · have t8 : (bits .and .u8 p 8 == 0) = true := Alu.flag_eq p 8 false p0 p1 (by simp) hd
    have H := Lib.hid hd
    clear hd
    go_enter Tryd.func48, Tryd.ntmps48
    go_wp2_with fail
    refine (binary_any _ _ _ _ h0 h1 g0 g1 p0 p1).mono ?_
    rintro e w' ⟨rfl, rfl⟩
    go_wp2_with fail
    go_ret2
    refine ⟨ret_int2 ?_ ?_, Below.refl _ _⟩
    · unfold Alu.addV; rw [H.out]; rfl
    · unfold Alu.addQ; rw [H.out]; rfl
  · have t8 : (bits .and .u8 p 8 == 0) = false := Alu.flag_eq p 8 true p0 p1 (by simp) hd
    have H := Lib.hid hd
    have b0 := Alu.binQ_in a m p p0 p1
    have s1 := Alu.setF_in (Alu.binQ a m p) 128 (Alu.has (Alu.addT a m p) 128) b0.1 b0.2 (by simp)
    have s2 := Alu.setF_in _ 64 (Alu.overF a m (Alu.addT a m p)) s1.1 s1.2 (by simp)
    have tn := Alu.addT_in a m p h0 h1 g0 g1
    have a15 := Alu.and15_i64 (a % 16 + m % 16 + p % 2 + 6)
    clear hd
    by_cases hl : 9 < a % 16 + m % 16 + p % 2
    · have Ht := Lib.hid (show a / 16 * 16 + m / 16 * 16 + ((a % 16 + m % 16 + p % 2 + 6) % 16 + 16) = Alu.addT a m p by unfold Alu.addT Alu.addL; rw [if_pos hl])
      have Hu := Lib.hid (show (if 160 ≤ Alu.addT a m p then Alu.addT a m p + 96 else Alu.addT a m p) = Alu.addU a m p from rfl)
      go_enter Tryd.func48, Tryd.ntmps48
      go_wp2_with fail
      refine (binary_any _ _ _ _ h0 h1 g0 g1 p0 p1).mono ?_
      rintro e w' ⟨rfl, rfl⟩
      go_wp2_with fail
      refine (digits_any _ _ h0 h1).mono ?_
      rintro e w1 ⟨rfl, hb1⟩
      go_wp2_with fail
      refine (digits_any _ _ g0 g1).mono ?_
      rintro e w2 ⟨rfl, hb2⟩
      go_wp2_with fail
      rw [Ht.out]
      refine (seti_any _ _ _ _ _ b0.1 b0.2 (by simp) (Alu.and128_i64 _ tn.1)).mono ?_
      rintro e w' ⟨rfl, rfl⟩
      go_wp2_with fail
      refine (over_any _ _ _ _ h0 h1 g0 g1).mono ?_
      rintro e w' ⟨rfl, rfl⟩
      go_wp2_with fail
      refine (seti_any _ _ _ _ _ s1.1 s1.2 (by simp) (Alu.overI_ne _)).mono ?_
      rintro e w' ⟨rfl, rfl⟩
      by_cases hu : 160 ≤ Alu.addT a m p
      · have Hu2 := Lib.hid (show Alu.addU a m p = Alu.addT a m p + 96 by rw [← Hu.out, if_pos hu])
        go_wp2_with fail
        refine (one_any _ _).mono ?_
        rintro e w' ⟨rfl, rfl⟩
        go_wp2_with fail
        refine (seti_any _ _ _ _ _ s2.1 s2.2 (by simp) (oneI_ne _)).mono ?_
        rintro e w' ⟨rfl, rfl⟩
        go_wp2_with fail
        go_ret2
        refine ⟨ret_int2 ?_ ?_, ?_⟩
        · unfold Alu.addV; rw [H.out, Hu2.out]; rfl
        · unfold Alu.addQ; rw [H.out, Hu2.out]; rfl
        · exact (((hb1.trans (hb2.mono hb1.size)).alloc (Nat.le_trans hb1.size hb2.size) _).alloc (by have := hb1.size; have := hb2.size; simp; omega) _)
      · have Hu2 := Lib.hid (show Alu.addU a m p = Alu.addT a m p by rw [← Hu.out, if_neg hu])
        go_wp2_with fail
        refine (one_any _ _).mono ?_
        rintro e w' ⟨rfl, rfl⟩
        go_wp2_with fail
        refine (seti_any _ _ _ _ _ s2.1 s2.2 (by simp) (oneI_ne _)).mono ?_
        rintro e w' ⟨rfl, rfl⟩
        go_wp2_with fail
        go_ret2
        refine ⟨ret_int2 ?_ ?_, ?_⟩
        · unfold Alu.addV; rw [H.out, Hu2.out]; show Alu.addT a m p = Alu.addT a m p % 256; omega
        · unfold Alu.addQ; rw [H.out, Hu2.out]; rfl
        · exact (((hb1.trans (hb2.mono hb1.size)).alloc (Nat.le_trans hb1.size hb2.size) _).alloc (by have := hb1.size; have := hb2.size; simp; omega) _)
    · have Ht := Lib.hid (show a / 16 * 16 + m / 16 * 16 + (a % 16 + m % 16 + p % 2) = Alu.addT a m p by unfold Alu.addT Alu.addL; rw [if_neg hl])
      have Hu := Lib.hid (show (if 160 ≤ Alu.addT a m p then Alu.addT a m p + 96 else Alu.addT a m p) = Alu.addU a m p from rfl)
      go_enter Tryd.func48, Tryd.ntmps48
      go_wp2_with fail
      refine (binary_any _ _ _ _ h0 h1 g0 g1 p0 p1).mono ?_
      rintro e w' ⟨rfl, rfl⟩
      go_wp2_with fail
      refine (digits_any _ _ h0 h1).mono ?_
      rintro e w1 ⟨rfl, hb1⟩
      go_wp2_with fail
      refine (digits_any _ _ g0 g1).mono ?_
      rintro e w2 ⟨rfl, hb2⟩
      go_wp2_with fail
      rw [Ht.out]
      refine (seti_any _ _ _ _ _ b0.1 b0.2 (by simp) (Alu.and128_i64 _ tn.1)).mono ?_
      rintro e w' ⟨rfl, rfl⟩
      go_wp2_with fail
      refine (over_any _ _ _ _ h0 h1 g0 g1).mono ?_
      rintro e w' ⟨rfl, rfl⟩
      go_wp2_with fail
      refine (seti_any _ _ _ _ _ s1.1 s1.2 (by simp) (Alu.overI_ne _)).mono ?_
      rintro e w' ⟨rfl, rfl⟩
      by_cases hu : 160 ≤ Alu.addT a m p
      · have Hu2 := Lib.hid (show Alu.addU a m p = Alu.addT a m p + 96 by rw [← Hu.out, if_pos hu])
        go_wp2_with fail
        refine (one_any _ _).mono ?_
        rintro e w' ⟨rfl, rfl⟩
        go_wp2_with fail
        refine (seti_any _ _ _ _ _ s2.1 s2.2 (by simp) (oneI_ne _)).mono ?_
        rintro e w' ⟨rfl, rfl⟩
        go_wp2_with fail
        go_ret2
        refine ⟨ret_int2 ?_ ?_, ?_⟩
        · unfold Alu.addV; rw [H.out, Hu2.out]; rfl
        · unfold Alu.addQ; rw [H.out, Hu2.out]; rfl
        · exact (((hb1.trans (hb2.mono hb1.size)).alloc (Nat.le_trans hb1.size hb2.size) _).alloc (by have := hb1.size; have := hb2.size; simp; omega) _)
      · have Hu2 := Lib.hid (show Alu.addU a m p = Alu.addT a m p by rw [← Hu.out, if_neg hu])
        go_wp2_with fail
        refine (one_any _ _).mono ?_
        rintro e w' ⟨rfl, rfl⟩
        go_wp2_with fail
        refine (seti_any _ _ _ _ _ s2.1 s2.2 (by simp) (oneI_ne _)).mono ?_
        rintro e w' ⟨rfl, rfl⟩
        go_wp2_with fail
        go_ret2
        refine ⟨ret_int2 ?_ ?_, ?_⟩
        · unfold Alu.addV; rw [H.out, Hu2.out]; show Alu.addT a m p = Alu.addT a m p % 256; omega
        · unfold Alu.addQ; rw [H.out, Hu2.out]; rfl
        · exact (((hb1.trans (hb2.mono hb1.size)).alloc (Nat.le_trans hb1.size hb2.size) _).alloc (by have := hb1.size; have := hb2.size; simp; omega) _)
set_option maxHeartbeats 400000 in
theorem sub_any (a m p : Int) (w : World) (h0 : 0 ≤ a) (h1 : a ≤ 255) (g0 : 0 ≤ m) (g1 : m ≤ 255) (p0 : 0 ≤ p) (p1 : p ≤ 255) :
    Calls Tryd.prog 49 #[.int .u8 a, .int .u8 m, .int .u8 p] w fun e w' => e = .returned (.tuple #[.int .u8 (Alu.subV a m p), .int .u8 (Alu.subQ a m p)]) ∧ Below w.heap.size w w' := by
  have e1 : bits .and .u8 (255 - p) 1 = 1 - p % 2 := by rw [Alu.and1 (255 - p) (by omega) (by omega)]; omega
  have f1 := Alu.flip_max m g0 g1
  have f2 := Alu.flip_max p p0 p1
  cases hd : Alu.has p 8
  · have t8 : (bits .and .u8 p 8 == 0) = true := Alu.flag_eq p 8 false p0 p1 (by simp) hd
    have H := Lib.hid hd
    clear hd
    go_enter Tryd.func49, Tryd.ntmps49
    go_wp2_with fail
    refine (binary_any _ _ _ _ h0 h1 (by omega) (by omega) p0 p1).mono ?_
    rintro e w' ⟨rfl, rfl⟩
    go_wp2_with fail
    go_ret2
    refine ⟨ret_int2 ?_ ?_, Below.refl _ _⟩
    · unfold Alu.subV; rw [H.out]; rfl
    · unfold Alu.subQ; rfl
  · have t8 : (bits .and .u8 p 8 == 0) = false := Alu.flag_eq p 8 true p0 p1 (by simp) hd
    have H := Lib.hid hd
    have tn := Alu.subT_in a m p h0 h1 g0 g1
    have a15 := Alu.and15_i64 (a % 16 - m % 16 - (1 - p % 2) - 6)
    have a16 : (a % 16 - m % 16 - (1 - p % 2) - 6) % 16 = (a % 16 - m % 16 - (1 - p % 2) + 10) % 16 := by omega
    rw [a16] at a15
    clear hd a16
    have Hu := Lib.hid (show (if Alu.subT a m p < 0 then Alu.subT a m p - 96 else Alu.subT a m p) = Alu.subU a m p from rfl)
    by_cases hl : a % 16 - m % 16 - (1 - p % 2) < 0
    · have Ht := Lib.hid (show a / 16 * 16 - m / 16 * 16 + ((a % 16 - m % 16 - (1 - p % 2) + 10) % 16 - 16) = Alu.subT a m p by unfold Alu.subT Alu.subL; rw [if_pos hl])
      by_cases hu : Alu.subT a m p < 0
      · have hu' := hu
        rw [← Ht.out] at hu'
        have Hu2 := Lib.hid (show Alu.subU a m p = Alu.subT a m p - 96 by rw [← Hu.out, if_pos hu])
        go_enter Tryd.func49, Tryd.ntmps49
        go_wp2_with fail
        refine (binary_any _ _ _ _ h0 h1 (by omega) (by omega) p0 p1).mono ?_
        rintro e w' ⟨rfl, rfl⟩
        go_wp2_with fail
        refine (digits_any _ _ h0 h1).mono ?_
        rintro e w1 ⟨rfl, hb1⟩
        go_wp2_with fail
        refine (digits_any _ _ g0 g1).mono ?_
        rintro e w2 ⟨rfl, hb2⟩
        go_wp2_with fail
        go_ret2
        refine ⟨ret_int2 ?_ ?_, ?_⟩
        · unfold Alu.subV; rw [H.out, Hu2.out, ← Ht.out]; rfl
        · unfold Alu.subQ; rfl
        · exact (((hb1.trans (hb2.mono hb1.size)).alloc (Nat.le_trans hb1.size hb2.size) _).alloc (by have := hb1.size; have := hb2.size; simp; omega) _)
      · have hu' := hu
        rw [← Ht.out] at hu'
        have Hu2 := Lib.hid (show Alu.subU a m p = Alu.subT a m p by rw [← Hu.out, if_neg hu])
        go_enter Tryd.func49, Tryd.ntmps49
        go_wp2_with fail
        refine (binary_any _ _ _ _ h0 h1 (by omega) (by omega) p0 p1).mono ?_
        rintro e w' ⟨rfl, rfl⟩
        go_wp2_with fail
        refine (digits_any _ _ h0 h1).mono ?_
        rintro e w1 ⟨rfl, hb1⟩
        go_wp2_with fail
        refine (digits_any _ _ g0 g1).mono ?_
        rintro e w2 ⟨rfl, hb2⟩
        go_wp2_with fail
        go_ret2
        refine ⟨ret_int2 ?_ ?_, ?_⟩
        · unfold Alu.subV; rw [H.out, Hu2.out, ← Ht.out, if_pos rfl]; show _ = _ % 256; omega
        · unfold Alu.subQ; rfl
        · exact (((hb1.trans (hb2.mono hb1.size)).alloc (Nat.le_trans hb1.size hb2.size) _).alloc (by have := hb1.size; have := hb2.size; simp; omega) _)
    · have Ht := Lib.hid (show a / 16 * 16 - m / 16 * 16 + (a % 16 - m % 16 - (1 - p % 2)) = Alu.subT a m p by unfold Alu.subT Alu.subL; rw [if_neg hl])
      by_cases hu : Alu.subT a m p < 0
      · have hu' := hu
        rw [← Ht.out] at hu'
        have Hu2 := Lib.hid (show Alu.subU a m p = Alu.subT a m p - 96 by rw [← Hu.out, if_pos hu])
        go_enter Tryd.func49, Tryd.ntmps49
        go_wp2_with fail
        refine (binary_any _ _ _ _ h0 h1 (by omega) (by omega) p0 p1).mono ?_
        rintro e w' ⟨rfl, rfl⟩
        go_wp2_with fail
        refine (digits_any _ _ h0 h1).mono ?_
        rintro e w1 ⟨rfl, hb1⟩
        go_wp2_with fail
        refine (digits_any _ _ g0 g1).mono ?_
        rintro e w2 ⟨rfl, hb2⟩
        go_wp2_with fail
        go_ret2
        refine ⟨ret_int2 ?_ ?_, ?_⟩
        · unfold Alu.subV; rw [H.out, Hu2.out, ← Ht.out]; rfl
        · unfold Alu.subQ; rfl
        · exact (((hb1.trans (hb2.mono hb1.size)).alloc (Nat.le_trans hb1.size hb2.size) _).alloc (by have := hb1.size; have := hb2.size; simp; omega) _)
      · have hu' := hu
        rw [← Ht.out] at hu'
        have Hu2 := Lib.hid (show Alu.subU a m p = Alu.subT a m p by rw [← Hu.out, if_neg hu])
        go_enter Tryd.func49, Tryd.ntmps49
        go_wp2_with fail
        refine (binary_any _ _ _ _ h0 h1 (by omega) (by omega) p0 p1).mono ?_
        rintro e w' ⟨rfl, rfl⟩
        go_wp2_with fail
        refine (digits_any _ _ h0 h1).mono ?_
        rintro e w1 ⟨rfl, hb1⟩
        go_wp2_with fail
        refine (digits_any _ _ g0 g1).mono ?_
        rintro e w2 ⟨rfl, hb2⟩
        go_wp2_with fail
        go_ret2
        refine ⟨ret_int2 ?_ ?_, ?_⟩
        · unfold Alu.subV; rw [H.out, Hu2.out, ← Ht.out, if_pos rfl]; show _ = _ % 256; omega
        · unfold Alu.subQ; rfl
        · exact (((hb1.trans (hb2.mono hb1.size)).alloc (Nat.le_trans hb1.size hb2.size) _).alloc (by have := hb1.size; have := hb2.size; simp; omega) _)
set_option maxHeartbeats 400000 in
theorem compare_any (a m p : Int) (w : World) (h0 : 0 ≤ a) (h1 : a ≤ 255) (g0 : 0 ≤ m) (g1 : m ≤ 255) (p0 : 0 ≤ p) (p1 : p ≤ 255) :
    Calls Tryd.prog 50 #[.int .u8 a, .int .u8 m, .int .u8 p] w fun e w' => e = .returned (.int .u8 (Alu.cmpQ a m p)) ∧ w = w' := by
  have mk := Alu.markF_in p ((a - m) % 256) p0 p1
  go_enter Tryd.func50, Tryd.ntmps50
  go_wp2_with fail
  refine (mark_any _ _ _ p0 p1 (by omega) (by omega)).mono ?_
  rintro e w' ⟨rfl, rfl⟩
  go_wp2_with fail
  refine (one_any _ _).mono ?_
  rintro e w' ⟨rfl, rfl⟩
  go_wp2_with fail
  refine (seti_any _ _ _ _ _ mk.1 mk.2 (by simp) (oneI_ne _)).mono ?_
  rintro e w' ⟨rfl, rfl⟩
  go_wp2_with fail
  go_ret
  exact ⟨rfl, rfl⟩
set_option maxHeartbeats 400000 in
theorem bit_any (a m p : Int) (w : World) (h0 : 0 ≤ a) (h1 : a ≤ 255) (g0 : 0 ≤ m) (g1 : m ≤ 255) (p0 : 0 ≤ p) (p1 : p ≤ 255) :
    Calls Tryd.prog 25 #[.int .u8 a, .int .u8 m, .int .u8 p] w fun e w' => e = .returned (.int .u8 (Alu.bitQ a m p)) ∧ w = w' := by
  have ec := Alu.comF_and a m h0 h1 g0 g1
  have s1 := Alu.setF_in p 2 (Alu.comF a m == 0) p0 p1 (by simp)
  have s2 := Alu.setF_in _ 128 (Alu.has m 128) s1.1 s1.2 (by simp)
  go_enter Tryd.func25, Tryd.ntmps25
  go_wp2_with fail
  refine (one_any _ _).mono ?_
  rintro e w' ⟨rfl, rfl⟩
  go_wp2_with fail
  refine (seti_any _ _ _ _ _ p0 p1 (by simp) (oneI_ne _)).mono ?_
  rintro e w' ⟨rfl, rfl⟩
  go_wp2_with fail
  refine (setb_any _ _ _ _ _ s1.1 s1.2 (by simp) (Alu.and_flag m 128 g0 g1 (by simp))).mono ?_
  rintro e w' ⟨rfl, rfl⟩
  go_wp2_with fail
  refine (setb_any _ _ _ _ _ s2.1 s2.2 (by simp) (Alu.and_flag m 64 g0 g1 (by simp))).mono ?_
  rintro e w' ⟨rfl, rfl⟩
  go_wp2_with fail
  go_ret
  exact ⟨rfl, rfl⟩
set_option maxHeartbeats 400000 in
theorem left_any (m p : Int) (turn : Bool) (w : World) (g0 : 0 ≤ m) (g1 : m ≤ 255) (p0 : 0 ≤ p) (p1 : p ≤ 255) :
    Calls Tryd.prog 69 #[.int .u8 m, .int .u8 p, .bool turn] w fun e w' => e = .returned (.tuple #[.int .u8 (Alu.leftV m p turn), .int .u8 (Alu.leftQ m p turn)]) ∧ w = w' := by
  have e1 := Alu.and1 p p0 p1
  have lv := Alu.leftV_in m p turn
  have mk := Alu.markF_in p (Alu.leftV m p turn) p0 p1
  have ho := Alu.left_or m p
  have hn := Alu.and_top m g0 g1
  cases turn
  · go_enter Tryd.func69, Tryd.ntmps69
    go_wp2_with fail
    refine (mark_any _ _ _ p0 p1 (by omega) (by omega)).mono ?_
    rintro e w' ⟨rfl, rfl⟩
    go_wp2_with fail
    refine (setb_any _ _ _ _ _ (Alu.markF_in _ _ p0 p1).1 (Alu.markF_in _ _ p0 p1).2 (by simp) hn).mono ?_
    rintro e w' ⟨rfl, rfl⟩
    go_wp2_with fail
    go_ret2
    exact ⟨ret_int2 (by simp [Alu.leftV]) (by simp [Alu.leftQ, Alu.leftV]), rfl⟩
  · go_enter Tryd.func69, Tryd.ntmps69
    go_wp2_with fail
    refine (mark_any _ _ _ p0 p1 (by omega) (by omega)).mono ?_
    rintro e w' ⟨rfl, rfl⟩
    go_wp2_with fail
    refine (setb_any _ _ _ _ _ (Alu.markF_in _ _ p0 p1).1 (Alu.markF_in _ _ p0 p1).2 (by simp) hn).mono ?_
    rintro e w' ⟨rfl, rfl⟩
    go_wp2_with fail
    go_ret2
    exact ⟨ret_int2 (by simp [Alu.leftV]) (by simp [Alu.leftQ, Alu.leftV]), rfl⟩
set_option maxHeartbeats 400000 in
theorem right_any (m p : Int) (turn : Bool) (w : World) (g0 : 0 ≤ m) (g1 : m ≤ 255) (p0 : 0 ≤ p) (p1 : p ≤ 255) :
    Calls Tryd.prog 27 #[.int .u8 m, .int .u8 p, .bool turn] w fun e w' => e = .returned (.tuple #[.int .u8 (Alu.rightV m p turn), .int .u8 (Alu.rightQ m p turn)]) ∧ w = w' := by
  have e1 := Alu.and1 p p0 p1
  have lv := Alu.rightV_in m p turn g0 g1
  have mk := Alu.markF_in p (Alu.rightV m p turn) p0 p1
  have ho := Alu.right_or m g0 g1
  have hn : bits .and .u8 m 1 ≠ 0 ↔ (m % 2 == 1) = true := by rw [Alu.and1 m g0 g1]; simp; omega
  have Hn := Lib.hid hn
  clear hn
  cases turn
  · go_enter Tryd.func27, Tryd.ntmps27
    go_wp2_with fail
    refine (mark_any _ _ _ p0 p1 (by omega) (by omega)).mono ?_
    rintro e w' ⟨rfl, rfl⟩
    go_wp2_with fail
    refine (setb_any _ _ _ _ _ (Alu.markF_in _ _ p0 p1).1 (Alu.markF_in _ _ p0 p1).2 (by simp) Hn.out).mono ?_
    rintro e w' ⟨rfl, rfl⟩
    go_wp2_with fail
    go_ret2
    exact ⟨ret_int2 (by simp [Alu.rightV]) (by simp [Alu.rightQ, Alu.rightV]), rfl⟩
  · rcases (by omega : p % 2 = 0 ∨ p % 2 = 1) with hp | hp
    all_goals
      have Hp := Lib.hid hp
      go_enter Tryd.func27, Tryd.ntmps27
      go_wp2_with fail
      refine (mark_any _ _ _ p0 p1 (by omega) (by omega)).mono ?_
      rintro e w' ⟨rfl, rfl⟩
      go_wp2_with fail
      refine (setb_any _ _ _ _ _ (Alu.markF_in _ _ p0 p1).1 (Alu.markF_in _ _ p0 p1).2 (by simp) Hn.out).mono ?_
      rintro e w' ⟨rfl, rfl⟩
      go_wp2_with fail
      go_ret2
      exact ⟨ret_int2 (by simp [Alu.rightV, Hp.out]) (by simp [Alu.rightQ, Alu.rightV, Hp.out]), rfl⟩
set_option maxHeartbeats 400000 in
theorem odd_any (a m p : Int) (w : World) (h0 : 0 ≤ a) (h1 : a ≤ 255) (g0 : 0 ≤ m) (g1 : m ≤ 255) (p0 : 0 ≤ p) (p1 : p ≤ 255) :
    Calls Tryd.prog 28 #[.int .u8 a, .int .u8 m, .int .u8 p] w fun e w' => e = .returned (.tuple #[.int .u8 (Alu.oddV a m p), .int .u8 (Alu.oddQ a m p)]) ∧ Below w.heap.size w w' := by
  have e1 := Alu.and1 p p0 p1
  have et := Alu.comF_and a m h0 h1 g0 g1
  have tn := Alu.comF_in a m h0 h1
  have vn := Alu.rightV_in (Alu.comF a m) p true tn.1 tn.2
  have qn := Alu.rightQ_in (Alu.comF a m) p true p0 p1
  cases hd : Alu.has p 8
  · have t8 : (bits .and .u8 p 8 == 0) = true := Alu.flag_eq p 8 false p0 p1 (by simp) hd
    have H := Lib.hid hd
    clear hd
    have s1 := Alu.setF_in (Alu.rightQ (Alu.comF a m) p true) 1 (Alu.has (Alu.rightV (Alu.comF a m) p true) 64) qn.1 qn.2 (by simp)
    go_enter Tryd.func28, Tryd.ntmps28
    go_wp2_with fail
    refine (right_any _ _ _ _ tn.1 tn.2 p0 p1).mono ?_
    rintro e w' ⟨rfl, rfl⟩
    go_wp2_with fail
    refine (setb_any _ _ _ _ _ qn.1 qn.2 (by simp) (Alu.and_flag _ 64 vn.1 vn.2 (by simp))).mono ?_
    rintro e w' ⟨rfl, rfl⟩
    go_wp2_with fail
    refine (setb_any _ _ _ _ _ s1.1 s1.2 (by simp) (Alu.odd_y _ vn.1 vn.2)).mono ?_
    rintro e w' ⟨rfl, rfl⟩
    go_wp2_with fail
    go_ret2
    refine ⟨ret_int2 ?_ ?_, Below.refl _ _⟩
    · unfold Alu.oddV; rw [H.out]; rfl
    · unfold Alu.oddQ; rw [H.out]; rfl
  · have t8 : (bits .and .u8 p 8 == 0) = false := Alu.flag_eq p 8 true p0 p1 (by simp) hd
    have H := Lib.hid hd
    clear hd
    have s1 := Alu.setF_in (Alu.rightQ (Alu.comF a m) p true) 128 (p % 2 == 1) qn.1 qn.2 (by simp)
    have s2 := Alu.setF_in _ 64 (Alu.has (Alu.comF a m) 64 != Alu.has (Alu.rightV (Alu.comF a m) p true) 64) s1.1 s1.2 (by simp)
    have o1 := Alu.odd_l (Alu.comF a m) tn.1 tn.2
    have o2 := Alu.odd_h (Alu.comF a m) tn.1 tn.2
    have o4 := Alu.and240 (Alu.rightV (Alu.comF a m) p true) vn.1 vn.2
    have wn := Alu.oddW_in (Alu.comF a m) (Alu.rightV (Alu.comF a m) p true) vn.1 vn.2
    by_cases hw : 5 < Alu.comF a m % 16 + Alu.comF a m % 2
    · have o3 : bits .or .u8 (Alu.rightV (Alu.comF a m) p true / 16 * 16) ((Alu.rightV (Alu.comF a m) p true + 6) % 16) = Alu.oddW (Alu.comF a m) (Alu.rightV (Alu.comF a m) p true) := by
        rw [Alu.odd_w _ vn.1 vn.2]; unfold Alu.oddW; rw [if_pos hw]
      by_cases hh : 5 < Alu.comF a m / 16 + Alu.comF a m / 16 % 2
      · have Hh := Lib.hid (show Alu.oddH (Alu.comF a m) = true by unfold Alu.oddH; simp; omega)
        go_enter Tryd.func28, Tryd.ntmps28
        go_wp2_with fail
        refine (right_any _ _ _ _ tn.1 tn.2 p0 p1).mono ?_
        rintro e w' ⟨rfl, rfl⟩
        go_wp2_with fail
        refine (setb_any _ _ _ (p % 2 == 1) _ qn.1 qn.2 (by simp) (by simp; omega)).mono ?_
        rintro e w' ⟨rfl, rfl⟩
        go_wp2_with fail
        refine (setb_any _ _ _ _ _ s1.1 s1.2 (by simp) (Alu.odd_x _ _ _ tn.1 tn.2 vn.1 vn.2 rfl)).mono ?_
        rintro e w' ⟨rfl, rfl⟩
        go_wp2_with fail
        refine (digits_any _ _ tn.1 tn.2).mono ?_
        rintro e w1 ⟨rfl, hb1⟩
        go_wp2_with fail
        refine (one_any _ _).mono ?_
        rintro e w' ⟨rfl, rfl⟩
        go_wp2_with fail
        refine (seti_any _ _ _ _ _ s2.1 s2.2 (by simp) (oneI_ne _)).mono ?_
        rintro e w' ⟨rfl, rfl⟩
        go_wp2_with fail
        go_ret2
        refine ⟨ret_int2 ?_ ?_, hb1.alloc hb1.size _⟩
        · unfold Alu.oddV; simp only []; rw [H.out, Hh.out]; rfl
        · unfold Alu.oddQ; simp only []; rw [H.out, Hh.out]; rfl
      · have Hh := Lib.hid (show Alu.oddH (Alu.comF a m) = false by unfold Alu.oddH; simp; omega)
        go_enter Tryd.func28, Tryd.ntmps28
        go_wp2_with fail
        refine (right_any _ _ _ _ tn.1 tn.2 p0 p1).mono ?_
        rintro e w' ⟨rfl, rfl⟩
        go_wp2_with fail
        refine (setb_any _ _ _ (p % 2 == 1) _ qn.1 qn.2 (by simp) (by simp; omega)).mono ?_
        rintro e w' ⟨rfl, rfl⟩
        go_wp2_with fail
        refine (setb_any _ _ _ _ _ s1.1 s1.2 (by simp) (Alu.odd_x _ _ _ tn.1 tn.2 vn.1 vn.2 rfl)).mono ?_
        rintro e w' ⟨rfl, rfl⟩
        go_wp2_with fail
        refine (digits_any _ _ tn.1 tn.2).mono ?_
        rintro e w1 ⟨rfl, hb1⟩
        go_wp2_with fail
        refine (one_any _ _).mono ?_
        rintro e w' ⟨rfl, rfl⟩
        go_wp2_with fail
        refine (seti_any _ _ _ _ _ s2.1 s2.2 (by simp) (oneI_ne _)).mono ?_
        rintro e w' ⟨rfl, rfl⟩
        go_wp2_with fail
        go_ret2
        refine ⟨ret_int2 ?_ ?_, hb1.alloc hb1.size _⟩
        · unfold Alu.oddV; simp only []; rw [H.out, Hh.out]; rfl
        · unfold Alu.oddQ; simp only []; rw [H.out]; rfl
    · have O3 := Lib.hid (show Alu.rightV (Alu.comF a m) p true = Alu.oddW (Alu.comF a m) (Alu.rightV (Alu.comF a m) p true) by unfold Alu.oddW; rw [if_neg hw])
      by_cases hh : 5 < Alu.comF a m / 16 + Alu.comF a m / 16 % 2
      · have Hh := Lib.hid (show Alu.oddH (Alu.comF a m) = true by unfold Alu.oddH; simp; omega)
        go_enter Tryd.func28, Tryd.ntmps28
        go_wp2_with fail
        refine (right_any _ _ _ _ tn.1 tn.2 p0 p1).mono ?_
        rintro e w' ⟨rfl, rfl⟩
        go_wp2_with fail
        refine (setb_any _ _ _ (p % 2 == 1) _ qn.1 qn.2 (by simp) (by simp; omega)).mono ?_
        rintro e w' ⟨rfl, rfl⟩
        go_wp2_with fail
        refine (setb_any _ _ _ _ _ s1.1 s1.2 (by simp) (Alu.odd_x _ _ _ tn.1 tn.2 vn.1 vn.2 rfl)).mono ?_
        rintro e w' ⟨rfl, rfl⟩
        go_wp2_with fail
        refine (digits_any _ _ tn.1 tn.2).mono ?_
        rintro e w1 ⟨rfl, hb1⟩
        go_wp2_with fail
        refine (one_any _ _).mono ?_
        rintro e w' ⟨rfl, rfl⟩
        go_wp2_with fail
        refine (seti_any _ _ _ _ _ s2.1 s2.2 (by simp) (oneI_ne _)).mono ?_
        rintro e w' ⟨rfl, rfl⟩
        go_wp2_with fail
        go_ret2
        refine ⟨ret_int2 ?_ ?_, hb1.alloc hb1.size _⟩
        · unfold Alu.oddV; simp only []; rw [H.out, Hh.out, ← O3.out]; rfl
        · unfold Alu.oddQ; simp only []; rw [H.out, Hh.out]; rfl
      · have Hh := Lib.hid (show Alu.oddH (Alu.comF a m) = false by unfold Alu.oddH; simp; omega)
        go_enter Tryd.func28, Tryd.ntmps28
        go_wp2_with fail
        refine (right_any _ _ _ _ tn.1 tn.2 p0 p1).mono ?_
        rintro e w' ⟨rfl, rfl⟩
        go_wp2_with fail
        refine (setb_any _ _ _ (p % 2 == 1) _ qn.1 qn.2 (by simp) (by simp; omega)).mono ?_
        rintro e w' ⟨rfl, rfl⟩
        go_wp2_with fail
        refine (setb_any _ _ _ _ _ s1.1 s1.2 (by simp) (Alu.odd_x _ _ _ tn.1 tn.2 vn.1 vn.2 rfl)).mono ?_
        rintro e w' ⟨rfl, rfl⟩
        go_wp2_with fail
        refine (digits_any _ _ tn.1 tn.2).mono ?_
        rintro e w1 ⟨rfl, hb1⟩
        go_wp2_with fail
        refine (one_any _ _).mono ?_
        rintro e w' ⟨rfl, rfl⟩
        go_wp2_with fail
        refine (seti_any _ _ _ _ _ s2.1 s2.2 (by simp) (oneI_ne _)).mono ?_
        rintro e w' ⟨rfl, rfl⟩
        go_wp2_with fail
        go_ret2
        refine ⟨ret_int2 ?_ ?_, hb1.alloc hb1.size _⟩
        · unfold Alu.oddV; simp only []; rw [H.out, Hh.out, ← O3.out]; rfl
        · unfold Alu.oddQ; simp only []; rw [H.out]; rfl
end Go.Proofs.YthepcjecmlkaiaaDoor
