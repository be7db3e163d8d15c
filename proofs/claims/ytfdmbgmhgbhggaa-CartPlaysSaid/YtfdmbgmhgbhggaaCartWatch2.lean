/- Package cart: Watch of the other mappers, and of any (printed by gen/cartwatch2.py). -/
import Derived.Test.YtfdmbgmhgbhggaaCartWatch
import Derived.Deep.RegionWith
namespace Go.Proofs.Ytfdmbgmhgbhggaa.Ca
open Go.RowKit Go.Deep Go.Proofs.Ytfdmbgmhgbhggaa Go.Proofs.Ytfdmbgmhgbhggaa.Cl
set_option linter.unusedVariables false
set_option linter.unusedSimpArgs false

theorem w0_no (W : World) (base b ib icap sb scap : Nat) (c : Ct) (hS : CartS W base b ib icap sb scap c) (hF : Fine c) (a x : Int) (wr : Bool) (a0 : 0 ≤ a) (a1 : a ≤ 65535) (x0 : 0 ≤ x) (x1 : x ≤ 255) (hk : c.k = 0) (hx : a % 8192 < 4096 ∨ 4224 ≤ a % 8192) :
    Calls Try.prog 14 #[.pointer (some ⟨b, 0, none⟩), .int .u16 a, .int .u8 x, .bool wr] W (WPost W base b ib icap sb scap (watchF c a x wr)) := by
  have ht : c.tag.toList = [50, 75] := Img.toList_of c.tag 0 (by omega) hk
  have n1 := and8191 a a0 a1
  have c3 := hS.c3
  have hbb := hS.bb
  have hsl := hS.slt.1
  have hr : c.ram = false := by have := (fine_cases c hF).2.2.1; rw [hk] at this; exact this
  have c4 := hS.c4
  rw [hr] at c4
  have hT : turnF c a x wr = none := by unfold turnF; simp [hk]
  have hE : exF c a x = c.ex := by unfold exF; rw [if_neg]; rintro ⟨h', _⟩; rw [hr] at h'; cases h'
  have hA : armF c a = c.armed := by unfold armF; rw [if_neg (by omega)]
  go_enter Try.func14, Try.ntmps14
  go_wp2_with fail
  refine (num16_no W (a % 8192) 4096 128 (by omega) (by omega) (by omega) (by omega) (by omega) (by omega) (by omega)).mono ?_
  rintro e w' ⟨rfl, rfl⟩
  go_wp2_with fail
  exact bodyPost_end (results_none rfl _ _ _) rfl ⟨rfl, by simp only [watchF, shF, hT, hE, hA]; exact hS, Below.refl base _, rfl, Oth.refl b sb _⟩
theorem w0_ext (W : World) (base b ib icap sb scap : Nat) (c : Ct) (hS : CartS W base b ib icap sb scap c) (hF : Fine c) (a x : Int) (wr : Bool) (a0 : 0 ≤ a) (a1 : a ≤ 65535) (x0 : 0 ≤ x) (x1 : x ≤ 255) (hk : c.k = 0) (hx : 4096 ≤ a % 8192 ∧ a % 8192 < 4224) :
    Calls Try.prog 14 #[.pointer (some ⟨b, 0, none⟩), .int .u16 a, .int .u8 x, .bool wr] W (WPost W base b ib icap sb scap (watchF c a x wr)) := by
  have ht : c.tag.toList = [50, 75] := Img.toList_of c.tag 0 (by omega) hk
  have n1 := and8191 a a0 a1
  have c3 := hS.c3
  have hbb := hS.bb
  have hsl := hS.slt.1
  have hr : c.ram = false := by have := (fine_cases c hF).2.2.1; rw [hk] at this; exact this
  have c4 := hS.c4
  rw [hr] at c4
  obtain ⟨i, hi⟩ := Int.eq_ofNat_of_zero_le (show 0 ≤ a % 8192 - 4096 by omega)
  have hil : i < 128 := by omega
  have i0 : ¬ (i : Int) < 0 := by omega
  have i1 : ¬ (128 : Int) ≤ (i : Int) := by omega
  have kn := num16_yes W (a % 8192) 4096 128 (by omega) (by omega) (by omega) (by omega) (by omega) (by omega) (by omega) (by omega)
  rw [hi] at kn
  have hin : (a % 8192 - 4096).toNat = i := by omega
  have hT : turnF c a x wr = none := by unfold turnF; simp [hk]
  have hE : exF c a x = c.ex := by unfold exF; rw [if_neg]; rintro ⟨h', _⟩; rw [hr] at h'; cases h'
  have hA : armF c a = c.armed := by unfold armF; rw [if_neg (by omega)]
  go_enter Try.func14, Try.ntmps14
  go_wp2_with fail
  refine kn.mono ?_
  rintro e w' ⟨rfl, rfl⟩
  go_wp2_with fail
  exact bodyPost_end (results_none rfl _ _ _) rfl ⟨rfl, by simp only [watchF, shF, hT, hE, hA]; exact hS, Below.refl base _, rfl, Oth.refl b sb _⟩
theorem watch_0 (W : World) (base b ib icap sb scap : Nat) (c : Ct) (hS : CartS W base b ib icap sb scap c) (hF : Fine c) (a x : Int) (wr : Bool) (a0 : 0 ≤ a) (a1 : a ≤ 65535) (x0 : 0 ≤ x) (x1 : x ≤ 255) (hk : c.k = 0) :
    Calls Try.prog 14 #[.pointer (some ⟨b, 0, none⟩), .int .u16 a, .int .u8 x, .bool wr] W (WPost W base b ib icap sb scap (watchF c a x wr)) := by
  by_cases hx : 4096 ≤ a % 8192 ∧ a % 8192 < 4224
  · exact w0_ext W base b ib icap sb scap c hS hF a x wr a0 a1 x0 x1 hk hx
  · exact w0_no W base b ib icap sb scap c hS hF a x wr a0 a1 x0 x1 hk (by omega)
theorem w2_no (W : World) (base b ib icap sb scap : Nat) (c : Ct) (hS : CartS W base b ib icap sb scap c) (hF : Fine c) (a x : Int) (wr : Bool) (a0 : 0 ≤ a) (a1 : a ≤ 65535) (x0 : 0 ≤ x) (x1 : x ≤ 255) (hk : c.k = 2) (hx : a % 8192 < 4096 ∨ 4224 ≤ a % 8192) :
    Calls Try.prog 14 #[.pointer (some ⟨b, 0, none⟩), .int .u16 a, .int .u8 x, .bool wr] W (WPost W base b ib icap sb scap (watchF c a x wr)) := by
  have ht : c.tag.toList = [52, 75] := Img.toList_of c.tag 2 (by omega) hk
  have n1 := and8191 a a0 a1
  have c3 := hS.c3
  have hbb := hS.bb
  have hsl := hS.slt.1
  have hr : c.ram = false := by have := (fine_cases c hF).2.2.1; rw [hk] at this; exact this
  have c4 := hS.c4
  rw [hr] at c4
  have hT : turnF c a x wr = none := by unfold turnF; simp [hk]
  have hE : exF c a x = c.ex := by unfold exF; rw [if_neg]; rintro ⟨h', _⟩; rw [hr] at h'; cases h'
  have hA : armF c a = c.armed := by unfold armF; rw [if_neg (by omega)]
  go_enter Try.func14, Try.ntmps14
  go_wp2_with fail
  refine (num16_no W (a % 8192) 4096 128 (by omega) (by omega) (by omega) (by omega) (by omega) (by omega) (by omega)).mono ?_
  rintro e w' ⟨rfl, rfl⟩
  go_wp2_with fail
  exact bodyPost_end (results_none rfl _ _ _) rfl ⟨rfl, by simp only [watchF, shF, hT, hE, hA]; exact hS, Below.refl base _, rfl, Oth.refl b sb _⟩
theorem w2_ext (W : World) (base b ib icap sb scap : Nat) (c : Ct) (hS : CartS W base b ib icap sb scap c) (hF : Fine c) (a x : Int) (wr : Bool) (a0 : 0 ≤ a) (a1 : a ≤ 65535) (x0 : 0 ≤ x) (x1 : x ≤ 255) (hk : c.k = 2) (hx : 4096 ≤ a % 8192 ∧ a % 8192 < 4224) :
    Calls Try.prog 14 #[.pointer (some ⟨b, 0, none⟩), .int .u16 a, .int .u8 x, .bool wr] W (WPost W base b ib icap sb scap (watchF c a x wr)) := by
  have ht : c.tag.toList = [52, 75] := Img.toList_of c.tag 2 (by omega) hk
  have n1 := and8191 a a0 a1
  have c3 := hS.c3
  have hbb := hS.bb
  have hsl := hS.slt.1
  have hr : c.ram = false := by have := (fine_cases c hF).2.2.1; rw [hk] at this; exact this
  have c4 := hS.c4
  rw [hr] at c4
  obtain ⟨i, hi⟩ := Int.eq_ofNat_of_zero_le (show 0 ≤ a % 8192 - 4096 by omega)
  have hil : i < 128 := by omega
  have i0 : ¬ (i : Int) < 0 := by omega
  have i1 : ¬ (128 : Int) ≤ (i : Int) := by omega
  have kn := num16_yes W (a % 8192) 4096 128 (by omega) (by omega) (by omega) (by omega) (by omega) (by omega) (by omega) (by omega)
  rw [hi] at kn
  have hin : (a % 8192 - 4096).toNat = i := by omega
  have hT : turnF c a x wr = none := by unfold turnF; simp [hk]
  have hE : exF c a x = c.ex := by unfold exF; rw [if_neg]; rintro ⟨h', _⟩; rw [hr] at h'; cases h'
  have hA : armF c a = c.armed := by unfold armF; rw [if_neg (by omega)]
  go_enter Try.func14, Try.ntmps14
  go_wp2_with fail
  refine kn.mono ?_
  rintro e w' ⟨rfl, rfl⟩
  go_wp2_with fail
  exact bodyPost_end (results_none rfl _ _ _) rfl ⟨rfl, by simp only [watchF, shF, hT, hE, hA]; exact hS, Below.refl base _, rfl, Oth.refl b sb _⟩
theorem watch_2 (W : World) (base b ib icap sb scap : Nat) (c : Ct) (hS : CartS W base b ib icap sb scap c) (hF : Fine c) (a x : Int) (wr : Bool) (a0 : 0 ≤ a) (a1 : a ≤ 65535) (x0 : 0 ≤ x) (x1 : x ≤ 255) (hk : c.k = 2) :
    Calls Try.prog 14 #[.pointer (some ⟨b, 0, none⟩), .int .u16 a, .int .u8 x, .bool wr] W (WPost W base b ib icap sb scap (watchF c a x wr)) := by
  by_cases hx : 4096 ≤ a % 8192 ∧ a % 8192 < 4224
  · exact w2_ext W base b ib icap sb scap c hS hF a x wr a0 a1 x0 x1 hk hx
  · exact w2_no W base b ib icap sb scap c hS hF a x wr a0 a1 x0 x1 hk (by omega)
theorem w3_turn (W : World) (base b ib icap sb scap : Nat) (c : Ct) (hS : CartS W base b ib icap sb scap c) (hF : Fine c) (a x : Int) (wr : Bool) (a0 : 0 ≤ a) (a1 : a ≤ 65535) (x0 : 0 ≤ x) (x1 : x ≤ 255) (hk : c.k = 3) (h : 8160 ≤ a % 8192 ∧ a % 8192 ≤ 8183) :
    Calls Try.prog 14 #[.pointer (some ⟨b, 0, none⟩), .int .u16 a, .int .u8 x, .bool wr] W (WPost W base b ib icap sb scap (watchF c a x wr)) := by
  have ht : c.tag.toList = [69, 48] := Img.toList_of c.tag 3 (by omega) hk
  have n1 := and8191 a a0 a1
  have c3 := hS.c3
  have hbb := hS.bb
  have hsl := hS.slt.1
  have hr : c.ram = false := by have := (fine_cases c hF).2.2.1; rw [hk] at this; exact this
  have c4 := hS.c4
  rw [hr] at c4
  obtain ⟨p1, p2, p3, p4, p5, p6, q1, q3, q4, q6, q8⟩ := fine_nums c hF
  have hq := q3 (by omega)
  clear p1 p2 p3 p4 p5 p6 q1 q3 q4 q6 q8
  obtain ⟨n, hn⟩ := Int.eq_ofNat_of_zero_le (show 0 ≤ a % 8192 - 8160 by omega)
  have hT : turnF c a x wr = some (n / 8, (n : Int) % 8) := by
    unfold turnF; simp [hk, h.1, h.2]
    constructor <;> omega
  have hE : exF c a x = c.ex := by unfold exF; rw [if_neg]; rintro ⟨h', _⟩; rw [hr] at h'; cases h'
  have hA : armF c a = c.armed := by unfold armF; rw [if_neg (by omega)]
  have k2 := num16_yes W (a % 8192) 8160 24 (by omega) (by omega) (by omega) (by omega) (by omega) (by omega) (by omega) (by omega)
  rw [hn] at k2
  have hl : n / 8 < c.sh.length := by omega
  have kt := turn_any W base b ib icap sb scap c hS (n / 8) hl ((n : Int) % 8)
  rw [show ((n / 8 : Nat) : Int) = (n : Int) / 8 by omega] at kt
  have d1 : Int.tdiv (n : Int) 8 = (n : Int) / 8 := Int.tdiv_eq_ediv_of_nonneg (by omega)
  have d2 : Int.tmod (n : Int) 8 = (n : Int) % 8 := Int.tmod_eq_emod_of_nonneg (by omega)
  have w1 : IntKind.i64.wrap ((n : Int) / 8) = (n : Int) / 8 := IntWalk.i64_in _ (by omega)
  have w2 : IntKind.i64.wrap ((n : Int) % 8) = (n : Int) % 8 := IntWalk.i64_in _ (by omega)
  go_enter Try.func14, Try.ntmps14
  go_wp2_with fail
  refine (num16_no W (a % 8192) 4096 128 (by omega) (by omega) (by omega) (by omega) (by omega) (by omega) (by omega)).mono ?_
  rintro e w' ⟨rfl, rfl⟩
  go_wp2_with fail
  refine k2.mono ?_
  rintro e w' ⟨rfl, rfl⟩
  go_wp2_with fail
  refine kt.mono ?_
  rintro e w' ⟨rfl, rfl⟩
  go_wp2_with fail
  exact bodyPost_end (results_none rfl _ _ _) rfl ⟨rfl, by
    have := hS.setSh (n / 8) hl ((n : Int) % 8)
    simp only [watchF, shF, hT, hE, hA]
    exact this, (Below.refl base _).setCell hsl _, by simp, (Oth.refl b sb _).set _ (.inr rfl) _⟩
theorem w3_none (W : World) (base b ib icap sb scap : Nat) (c : Ct) (hS : CartS W base b ib icap sb scap c) (hF : Fine c) (a x : Int) (wr : Bool) (a0 : 0 ≤ a) (a1 : a ≤ 65535) (x0 : 0 ≤ x) (x1 : x ≤ 255) (hk : c.k = 3) (hx : a % 8192 < 4096 ∨ 4224 ≤ a % 8192) (h : a % 8192 < 8160 ∨ 8183 < a % 8192) :
    Calls Try.prog 14 #[.pointer (some ⟨b, 0, none⟩), .int .u16 a, .int .u8 x, .bool wr] W (WPost W base b ib icap sb scap (watchF c a x wr)) := by
  have ht : c.tag.toList = [69, 48] := Img.toList_of c.tag 3 (by omega) hk
  have n1 := and8191 a a0 a1
  have c3 := hS.c3
  have hbb := hS.bb
  have hsl := hS.slt.1
  have hr : c.ram = false := by have := (fine_cases c hF).2.2.1; rw [hk] at this; exact this
  have c4 := hS.c4
  rw [hr] at c4
  have hT : turnF c a x wr = none := by unfold turnF; simp [hk]; omega
  have hE : exF c a x = c.ex := by unfold exF; rw [if_neg]; rintro ⟨h', _⟩; rw [hr] at h'; cases h'
  have hA : armF c a = c.armed := by unfold armF; rw [if_neg (by omega)]
  have k2 := num16_no W (a % 8192) 8160 24 (by omega) (by omega) (by omega) (by omega) (by omega) (by omega) (by omega)
  go_enter Try.func14, Try.ntmps14
  go_wp2_with fail
  refine (num16_no W (a % 8192) 4096 128 (by omega) (by omega) (by omega) (by omega) (by omega) (by omega) (by omega)).mono ?_
  rintro e w' ⟨rfl, rfl⟩
  go_wp2_with fail
  refine k2.mono ?_
  rintro e w' ⟨rfl, rfl⟩
  go_wp2_with fail
  exact bodyPost_end (results_none rfl _ _ _) rfl ⟨rfl, by simp only [watchF, shF, hT, hE, hA]; exact hS, Below.refl base _, rfl, Oth.refl b sb _⟩
theorem w3_ext (W : World) (base b ib icap sb scap : Nat) (c : Ct) (hS : CartS W base b ib icap sb scap c) (hF : Fine c) (a x : Int) (wr : Bool) (a0 : 0 ≤ a) (a1 : a ≤ 65535) (x0 : 0 ≤ x) (x1 : x ≤ 255) (hk : c.k = 3) (hx : 4096 ≤ a % 8192 ∧ a % 8192 < 4224) :
    Calls Try.prog 14 #[.pointer (some ⟨b, 0, none⟩), .int .u16 a, .int .u8 x, .bool wr] W (WPost W base b ib icap sb scap (watchF c a x wr)) := by
  have ht : c.tag.toList = [69, 48] := Img.toList_of c.tag 3 (by omega) hk
  have n1 := and8191 a a0 a1
  have c3 := hS.c3
  have hbb := hS.bb
  have hsl := hS.slt.1
  have hr : c.ram = false := by have := (fine_cases c hF).2.2.1; rw [hk] at this; exact this
  have c4 := hS.c4
  rw [hr] at c4
  obtain ⟨i, hi⟩ := Int.eq_ofNat_of_zero_le (show 0 ≤ a % 8192 - 4096 by omega)
  have hil : i < 128 := by omega
  have i0 : ¬ (i : Int) < 0 := by omega
  have i1 : ¬ (128 : Int) ≤ (i : Int) := by omega
  have kn := num16_yes W (a % 8192) 4096 128 (by omega) (by omega) (by omega) (by omega) (by omega) (by omega) (by omega) (by omega)
  rw [hi] at kn
  have hin : (a % 8192 - 4096).toNat = i := by omega
  have hT : turnF c a x wr = none := by unfold turnF; simp [hk]; omega
  have hE : exF c a x = c.ex := by unfold exF; rw [if_neg]; rintro ⟨h', _⟩; rw [hr] at h'; cases h'
  have hA : armF c a = c.armed := by unfold armF; rw [if_neg (by omega)]
  have k2 := num16_no W (a % 8192) 8160 24 (by omega) (by omega) (by omega) (by omega) (by omega) (by omega) (by omega)
  go_enter Try.func14, Try.ntmps14
  go_wp2_with fail
  refine kn.mono ?_
  rintro e w' ⟨rfl, rfl⟩
  go_wp2_with fail
  refine k2.mono ?_
  rintro e w' ⟨rfl, rfl⟩
  go_wp2_with fail
  exact bodyPost_end (results_none rfl _ _ _) rfl ⟨rfl, by simp only [watchF, shF, hT, hE, hA]; exact hS, Below.refl base _, rfl, Oth.refl b sb _⟩
theorem watch_3 (W : World) (base b ib icap sb scap : Nat) (c : Ct) (hS : CartS W base b ib icap sb scap c) (hF : Fine c) (a x : Int) (wr : Bool) (a0 : 0 ≤ a) (a1 : a ≤ 65535) (x0 : 0 ≤ x) (x1 : x ≤ 255) (hk : c.k = 3) :
    Calls Try.prog 14 #[.pointer (some ⟨b, 0, none⟩), .int .u16 a, .int .u8 x, .bool wr] W (WPost W base b ib icap sb scap (watchF c a x wr)) := by
  by_cases hx : 4096 ≤ a % 8192 ∧ a % 8192 < 4224
  · exact w3_ext W base b ib icap sb scap c hS hF a x wr a0 a1 x0 x1 hk hx
  · by_cases h : 8160 ≤ a % 8192 ∧ a % 8192 ≤ 8183
    · exact w3_turn W base b ib icap sb scap c hS hF a x wr a0 a1 x0 x1 hk h
    · exact w3_none W base b ib icap sb scap c hS hF a x wr a0 a1 x0 x1 hk (by omega) (by omega)
theorem w1_turn (W : World) (base b ib icap sb scap : Nat) (c : Ct) (hS : CartS W base b ib icap sb scap c) (hF : Fine c) (a x : Int) (a0 : 0 ≤ a) (a1 : a ≤ 65535) (x0 : 0 ≤ x) (x1 : x ≤ 255) (hk : c.k = 1) (h : a % 8192 ≤ 63) :
    Calls Try.prog 14 #[.pointer (some ⟨b, 0, none⟩), .int .u16 a, .int .u8 x, .bool true] W (WPost W base b ib icap sb scap (watchF c a x true)) := by
  have ht : c.tag.toList = [51, 70] := Img.toList_of c.tag 1 (by omega) hk
  have n1 := and8191 a a0 a1
  have c3 := hS.c3
  have hbb := hS.bb
  have hsl := hS.slt.1
  have hr : c.ram = false := by have := (fine_cases c hF).2.2.1; rw [hk] at this; exact this
  have c4 := hS.c4
  rw [hr] at c4
  obtain ⟨p1, p2, p3, p4, p5, p6, q1, q3, q4, q6, q8⟩ := fine_nums c hF
  have hq := q1 (by omega)
  have hT : turnF c a x true = some (0, x % c.banks) := by unfold turnF; simp [hk, h]
  have hE : exF c a x = c.ex := by unfold exF; rw [if_neg]; rintro ⟨h', _⟩; rw [hr] at h'; cases h'
  have hA : armF c a = c.armed := by unfold armF; rw [if_neg (by omega)]
  have hl : 0 < c.sh.length := by omega
  have kb := banks_any W base b ib icap sb scap c hS hF
  have kt := turn_any W.drew.drew base b ib icap sb scap c hS.drew.drew 0 hl (x % c.banks)
  have d2 : Int.tmod x c.banks = x % c.banks := Int.tmod_eq_emod_of_nonneg x0
  have r0 := Int.emod_nonneg x (show c.banks ≠ 0 by omega)
  have r1 := Int.emod_lt_of_pos x (show 0 < c.banks by omega)
  have hz : ¬ c.banks = 0 := by omega
  have hbk : c.banks ≤ 524288 := by
    rcases p1 with e | e | e <;> rw [e] at p3 <;> omega
  have w2 : IntKind.i64.wrap (x % c.banks) = x % c.banks := IntWalk.i64_in _ (by omega)
  have w3 : IntKind.i64.wrap x = x := IntWalk.i64_in _ (by omega)
  generalize hRR : x % c.banks = RR at *
  clear p1 p2 p3 p4 p5 p6 q1 q3 q4 q6 q8 hq
  go_enter Try.func14, Try.ntmps14
  go_wp2_with fail
  refine (num16_no W (a % 8192) 4096 128 (by omega) (by omega) (by omega) (by omega) (by omega) (by omega) (by omega)).mono ?_
  rintro e w' ⟨rfl, rfl⟩
  go_wp2_with fail
  go_region_with (first | (go_at_call 38; refine (banks_any _ base b ib icap sb scap c hS.drew hF).mono ?_; rintro e w' ⟨rfl, rfl⟩) | (go_at_call 37; refine kt.mono ?_; rintro e w' ⟨rfl, rfl⟩))
  all_goals go_wp2_with fail
  exact bodyPost_end (results_none rfl _ _ _) rfl ⟨rfl, by
    simp only [watchF, shF, hT, hE, hA]
    exact (hS.setSh 0 hl _).drew.drew, (((Below.refl base _).setCell hsl _).drew).drew, by simp, (((Oth.refl b sb _).set _ (.inr rfl) _).drew).drew⟩
theorem w1_notw (W : World) (base b ib icap sb scap : Nat) (c : Ct) (hS : CartS W base b ib icap sb scap c) (hF : Fine c) (a x : Int) (a0 : 0 ≤ a) (a1 : a ≤ 65535) (x0 : 0 ≤ x) (x1 : x ≤ 255) (hk : c.k = 1) (hx : a % 8192 < 4096 ∨ 4224 ≤ a % 8192) :
    Calls Try.prog 14 #[.pointer (some ⟨b, 0, none⟩), .int .u16 a, .int .u8 x, .bool false] W (WPost W base b ib icap sb scap (watchF c a x false)) := by
  have ht : c.tag.toList = [51, 70] := Img.toList_of c.tag 1 (by omega) hk
  have n1 := and8191 a a0 a1
  have c3 := hS.c3
  have hbb := hS.bb
  have hsl := hS.slt.1
  have hr : c.ram = false := by have := (fine_cases c hF).2.2.1; rw [hk] at this; exact this
  have c4 := hS.c4
  rw [hr] at c4
  have hT : turnF c a x false = none := by unfold turnF; simp [hk]
  have hE : exF c a x = c.ex := by unfold exF; rw [if_neg]; rintro ⟨h', _⟩; rw [hr] at h'; cases h'
  have hA : armF c a = c.armed := by unfold armF; rw [if_neg (by omega)]
  go_enter Try.func14, Try.ntmps14
  go_wp2_with fail
  refine (num16_no W (a % 8192) 4096 128 (by omega) (by omega) (by omega) (by omega) (by omega) (by omega) (by omega)).mono ?_
  rintro e w' ⟨rfl, rfl⟩
  go_wp2_with fail
  exact bodyPost_end (results_none rfl _ _ _) rfl ⟨rfl, by simp only [watchF, shF, hT, hE, hA]; exact hS, Below.refl base _, rfl, Oth.refl b sb _⟩
theorem w1_far (W : World) (base b ib icap sb scap : Nat) (c : Ct) (hS : CartS W base b ib icap sb scap c) (hF : Fine c) (a x : Int) (a0 : 0 ≤ a) (a1 : a ≤ 65535) (x0 : 0 ≤ x) (x1 : x ≤ 255) (hk : c.k = 1) (hx : a % 8192 < 4096 ∨ 4224 ≤ a % 8192) (h : ¬ a % 8192 ≤ 63) :
    Calls Try.prog 14 #[.pointer (some ⟨b, 0, none⟩), .int .u16 a, .int .u8 x, .bool true] W (WPost W base b ib icap sb scap (watchF c a x true)) := by
  have ht : c.tag.toList = [51, 70] := Img.toList_of c.tag 1 (by omega) hk
  have n1 := and8191 a a0 a1
  have c3 := hS.c3
  have hbb := hS.bb
  have hsl := hS.slt.1
  have hr : c.ram = false := by have := (fine_cases c hF).2.2.1; rw [hk] at this; exact this
  have c4 := hS.c4
  rw [hr] at c4
  have hT : turnF c a x true = none := by unfold turnF; simp [hk]; omega
  have hE : exF c a x = c.ex := by unfold exF; rw [if_neg]; rintro ⟨h', _⟩; rw [hr] at h'; cases h'
  have hA : armF c a = c.armed := by unfold armF; rw [if_neg (by omega)]
  go_enter Try.func14, Try.ntmps14
  go_wp2_with fail
  refine (num16_no W (a % 8192) 4096 128 (by omega) (by omega) (by omega) (by omega) (by omega) (by omega) (by omega)).mono ?_
  rintro e w' ⟨rfl, rfl⟩
  go_wp2_with fail
  exact bodyPost_end (results_none rfl _ _ _) rfl ⟨rfl, by simp only [watchF, shF, hT, hE, hA]; exact hS, Below.refl base _, rfl, Oth.refl b sb _⟩
set_option maxRecDepth 1000000 in
theorem w1_ext_true (W : World) (base b ib icap sb scap : Nat) (c : Ct) (hS : CartS W base b ib icap sb scap c) (hF : Fine c) (a x : Int) (a0 : 0 ≤ a) (a1 : a ≤ 65535) (x0 : 0 ≤ x) (x1 : x ≤ 255) (hk : c.k = 1) (hx : 4096 ≤ a % 8192 ∧ a % 8192 < 4224) :
    Calls Try.prog 14 #[.pointer (some ⟨b, 0, none⟩), .int .u16 a, .int .u8 x, .bool true] W (WPost W base b ib icap sb scap (watchF c a x true)) := by
  have ht : c.tag.toList = [51, 70] := Img.toList_of c.tag 1 (by omega) hk
  have n1 := and8191 a a0 a1
  have c3 := hS.c3
  have hbb := hS.bb
  have hsl := hS.slt.1
  have hr : c.ram = false := by have := (fine_cases c hF).2.2.1; rw [hk] at this; exact this
  have c4 := hS.c4
  rw [hr] at c4
  obtain ⟨i, hi⟩ := Int.eq_ofNat_of_zero_le (show 0 ≤ a % 8192 - 4096 by omega)
  have hil : i < 128 := by omega
  have i0 : ¬ (i : Int) < 0 := by omega
  have i1 : ¬ (128 : Int) ≤ (i : Int) := by omega
  have kn := num16_yes W (a % 8192) 4096 128 (by omega) (by omega) (by omega) (by omega) (by omega) (by omega) (by omega) (by omega)
  rw [hi] at kn
  have hin : (a % 8192 - 4096).toNat = i := by omega
  have h : ¬ a % 8192 ≤ 63 := by omega
  have hT : turnF c a x true = none := by unfold turnF; simp [hk]; omega
  have hE : exF c a x = c.ex := by unfold exF; rw [if_neg]; rintro ⟨h', _⟩; rw [hr] at h'; cases h'
  have hA : armF c a = c.armed := by unfold armF; rw [if_neg (by omega)]
  go_enter Try.func14, Try.ntmps14
  go_wp2_with fail
  refine kn.mono ?_
  rintro e w' ⟨rfl, rfl⟩
  go_wp2_with fail
  exact bodyPost_end (results_none rfl _ _ _) rfl ⟨rfl, by simp only [watchF, shF, hT, hE, hA]; exact hS, Below.refl base _, rfl, Oth.refl b sb _⟩
set_option maxRecDepth 1000000 in
theorem w1_ext_false (W : World) (base b ib icap sb scap : Nat) (c : Ct) (hS : CartS W base b ib icap sb scap c) (hF : Fine c) (a x : Int) (a0 : 0 ≤ a) (a1 : a ≤ 65535) (x0 : 0 ≤ x) (x1 : x ≤ 255) (hk : c.k = 1) (hx : 4096 ≤ a % 8192 ∧ a % 8192 < 4224) :
    Calls Try.prog 14 #[.pointer (some ⟨b, 0, none⟩), .int .u16 a, .int .u8 x, .bool false] W (WPost W base b ib icap sb scap (watchF c a x false)) := by
  have ht : c.tag.toList = [51, 70] := Img.toList_of c.tag 1 (by omega) hk
  have n1 := and8191 a a0 a1
  have c3 := hS.c3
  have hbb := hS.bb
  have hsl := hS.slt.1
  have hr : c.ram = false := by have := (fine_cases c hF).2.2.1; rw [hk] at this; exact this
  have c4 := hS.c4
  rw [hr] at c4
  obtain ⟨i, hi⟩ := Int.eq_ofNat_of_zero_le (show 0 ≤ a % 8192 - 4096 by omega)
  have hil : i < 128 := by omega
  have i0 : ¬ (i : Int) < 0 := by omega
  have i1 : ¬ (128 : Int) ≤ (i : Int) := by omega
  have kn := num16_yes W (a % 8192) 4096 128 (by omega) (by omega) (by omega) (by omega) (by omega) (by omega) (by omega) (by omega)
  rw [hi] at kn
  have hin : (a % 8192 - 4096).toNat = i := by omega
  have h : ¬ a % 8192 ≤ 63 := by omega
  have hT : turnF c a x false = none := by unfold turnF; simp [hk]
  have hE : exF c a x = c.ex := by unfold exF; rw [if_neg]; rintro ⟨h', _⟩; rw [hr] at h'; cases h'
  have hA : armF c a = c.armed := by unfold armF; rw [if_neg (by omega)]
  go_enter Try.func14, Try.ntmps14
  go_wp2_with fail
  refine kn.mono ?_
  rintro e w' ⟨rfl, rfl⟩
  go_wp2_with fail
  exact bodyPost_end (results_none rfl _ _ _) rfl ⟨rfl, by simp only [watchF, shF, hT, hE, hA]; exact hS, Below.refl base _, rfl, Oth.refl b sb _⟩
theorem watch_1 (W : World) (base b ib icap sb scap : Nat) (c : Ct) (hS : CartS W base b ib icap sb scap c) (hF : Fine c) (a x : Int) (wr : Bool) (a0 : 0 ≤ a) (a1 : a ≤ 65535) (x0 : 0 ≤ x) (x1 : x ≤ 255) (hk : c.k = 1) :
    Calls Try.prog 14 #[.pointer (some ⟨b, 0, none⟩), .int .u16 a, .int .u8 x, .bool wr] W (WPost W base b ib icap sb scap (watchF c a x wr)) := by
  by_cases hx : 4096 ≤ a % 8192 ∧ a % 8192 < 4224
  · cases wr
    · exact w1_ext_false W base b ib icap sb scap c hS hF a x a0 a1 x0 x1 hk hx
    · exact w1_ext_true W base b ib icap sb scap c hS hF a x a0 a1 x0 x1 hk hx
  · cases wr
    · exact w1_notw W base b ib icap sb scap c hS hF a x a0 a1 x0 x1 hk (by omega)
    · by_cases h : a % 8192 ≤ 63
      · exact w1_turn W base b ib icap sb scap c hS hF a x a0 a1 x0 x1 hk h
      · exact w1_far W base b ib icap sb scap c hS hF a x a0 a1 x0 x1 hk (by omega) h
theorem w10_off_0 (W : World) (base b ib icap sb scap : Nat) (c : Ct) (hS : CartS W base b ib icap sb scap c) (hF : Fine c) (a x : Int) (wr : Bool) (a0 : 0 ≤ a) (a1 : a ≤ 65535) (x0 : 0 ≤ x) (x1 : x ≤ 255) (hk : c.k = 10) (hx : a % 8192 < 4096 ∨ 4224 ≤ a % 8192) (ha : c.armed = false) :
    Calls Try.prog 14 #[.pointer (some ⟨b, 0, none⟩), .int .u16 a, .int .u8 x, .bool wr] W (WPost W base b ib icap sb scap (watchF c a x wr)) := by
  have ht : c.tag.toList = [70, 69] := Img.toList_of c.tag 10 (by omega) hk
  have n1 := and8191 a a0 a1
  have c3 := hS.c3
  have hbb := hS.bb
  have hsl := hS.slt.1
  have hr : c.ram = false := by have := (fine_cases c hF).2.2.1; rw [hk] at this; exact this
  have c4 := hS.c4
  rw [hr] at c4
  have c133 := hS.c133 hF
  rw [ha] at c133
  have f133 := hS.fb 133
  have hE : exF c a x = c.ex := by unfold exF; rw [if_neg]; rintro ⟨h', _⟩; rw [hr] at h'; cases h'
  have hA : armF c a = decide (a % 8192 = 510) := by unfold armF; rw [if_pos hk]
  have hT : turnF c a x wr = none := by unfold turnF; simp [hk, ha]
  go_enter Try.func14, Try.ntmps14
  go_wp2_with fail
  refine (num16_no W (a % 8192) 4096 128 (by omega) (by omega) (by omega) (by omega) (by omega) (by omega) (by omega)).mono ?_
  rintro e w' ⟨rfl, rfl⟩
  go_wp2_with fail
  exact bodyPost_end (results_none rfl _ _ _) rfl ⟨rfl, by
    simp only [watchF, shF, hT, hE, hA]
    exact hS.setArmed hF.ex _, (Below.refl base _).setCell hbb _, by simp, (Oth.refl b sb _).set _ (.inl rfl) _⟩
theorem w10_on0_0 (W : World) (base b ib icap sb scap : Nat) (c : Ct) (hS : CartS W base b ib icap sb scap c) (hF : Fine c) (a x : Int) (wr : Bool) (a0 : 0 ≤ a) (a1 : a ≤ 65535) (x0 : 0 ≤ x) (x1 : x ≤ 255) (hk : c.k = 10) (hx : a % 8192 < 4096 ∨ 4224 ≤ a % 8192) (ha : c.armed = true) (hb : x / 32 % 2 = 0) :
    Calls Try.prog 14 #[.pointer (some ⟨b, 0, none⟩), .int .u16 a, .int .u8 x, .bool wr] W (WPost W base b ib icap sb scap (watchF c a x wr)) := by
  have ht : c.tag.toList = [70, 69] := Img.toList_of c.tag 10 (by omega) hk
  have n1 := and8191 a a0 a1
  have c3 := hS.c3
  have hbb := hS.bb
  have hsl := hS.slt.1
  have hr : c.ram = false := by have := (fine_cases c hF).2.2.1; rw [hk] at this; exact this
  have c4 := hS.c4
  rw [hr] at c4
  have c133 := hS.c133 hF
  rw [ha] at c133
  have f133 := hS.fb 133
  have hE : exF c a x = c.ex := by unfold exF; rw [if_neg]; rintro ⟨h', _⟩; rw [hr] at h'; cases h'
  have hA : armF c a = decide (a % 8192 = 510) := by unfold armF; rw [if_pos hk]
  obtain ⟨p1, p2, p3, p4, p5, p6, q1, q3, q4, q6, q8⟩ := fine_nums c hF
  have hq := q8 (by omega)
  have hl : 0 < c.sh.length := by omega
  clear p1 p2 p3 p4 p5 p6 q1 q3 q4 q6 q8 hq
  have hT : turnF c a x wr = some (0, 1) := by unfold turnF; simp [hk, ha, hb]
  have ab := and32 x x0 x1
  rw [hb] at ab
  have ab2 : bits .and .u8 x 32 = 0 := ab.trans rfl
  clear ab
  have kt := turn_any W base b ib icap sb scap c hS 0 hl 1
  have hS1 := hS.setSh 0 hl 1
  have d133 := hS1.c133 (hF.setSh 0 1 (by omega) (by have := fine_nums c hF; omega))
  have e133 := hS1.fb 133
  go_enter Try.func14, Try.ntmps14
  go_wp2_with fail
  refine (num16_no W (a % 8192) 4096 128 (by omega) (by omega) (by omega) (by omega) (by omega) (by omega) (by omega)).mono ?_
  rintro e w' ⟨rfl, rfl⟩
  go_wp2_with fail
  refine kt.mono ?_
  rintro e w' ⟨rfl, rfl⟩
  go_wp2_with fail
  exact bodyPost_end (results_none rfl _ _ _) rfl ⟨rfl, by
    simp only [watchF, shF, hT, hE, hA]
    exact hS1.setArmed hF.ex _, ((Below.refl base _).setCell hsl _).setCell hbb _, by simp, ((Oth.refl b sb _).set _ (.inr rfl) _).set _ (.inl rfl) _⟩
theorem w10_on1_0 (W : World) (base b ib icap sb scap : Nat) (c : Ct) (hS : CartS W base b ib icap sb scap c) (hF : Fine c) (a x : Int) (wr : Bool) (a0 : 0 ≤ a) (a1 : a ≤ 65535) (x0 : 0 ≤ x) (x1 : x ≤ 255) (hk : c.k = 10) (hx : a % 8192 < 4096 ∨ 4224 ≤ a % 8192) (ha : c.armed = true) (hb : x / 32 % 2 = 1) :
    Calls Try.prog 14 #[.pointer (some ⟨b, 0, none⟩), .int .u16 a, .int .u8 x, .bool wr] W (WPost W base b ib icap sb scap (watchF c a x wr)) := by
  have ht : c.tag.toList = [70, 69] := Img.toList_of c.tag 10 (by omega) hk
  have n1 := and8191 a a0 a1
  have c3 := hS.c3
  have hbb := hS.bb
  have hsl := hS.slt.1
  have hr : c.ram = false := by have := (fine_cases c hF).2.2.1; rw [hk] at this; exact this
  have c4 := hS.c4
  rw [hr] at c4
  have c133 := hS.c133 hF
  rw [ha] at c133
  have f133 := hS.fb 133
  have hE : exF c a x = c.ex := by unfold exF; rw [if_neg]; rintro ⟨h', _⟩; rw [hr] at h'; cases h'
  have hA : armF c a = decide (a % 8192 = 510) := by unfold armF; rw [if_pos hk]
  obtain ⟨p1, p2, p3, p4, p5, p6, q1, q3, q4, q6, q8⟩ := fine_nums c hF
  have hq := q8 (by omega)
  have hl : 0 < c.sh.length := by omega
  clear p1 p2 p3 p4 p5 p6 q1 q3 q4 q6 q8 hq
  have hT : turnF c a x wr = some (0, 0) := by unfold turnF; simp [hk, ha, hb]
  have ab := and32 x x0 x1
  rw [hb] at ab
  have ab2 : bits .and .u8 x 32 = 32 := ab.trans rfl
  clear ab
  have kt := turn_any W base b ib icap sb scap c hS 0 hl 0
  have hS1 := hS.setSh 0 hl 0
  have d133 := hS1.c133 (hF.setSh 0 0 (by omega) (by have := fine_nums c hF; omega))
  have e133 := hS1.fb 133
  go_enter Try.func14, Try.ntmps14
  go_wp2_with fail
  refine (num16_no W (a % 8192) 4096 128 (by omega) (by omega) (by omega) (by omega) (by omega) (by omega) (by omega)).mono ?_
  rintro e w' ⟨rfl, rfl⟩
  go_wp2_with fail
  refine kt.mono ?_
  rintro e w' ⟨rfl, rfl⟩
  go_wp2_with fail
  exact bodyPost_end (results_none rfl _ _ _) rfl ⟨rfl, by
    simp only [watchF, shF, hT, hE, hA]
    exact hS1.setArmed hF.ex _, ((Below.refl base _).setCell hsl _).setCell hbb _, by simp, ((Oth.refl b sb _).set _ (.inr rfl) _).set _ (.inl rfl) _⟩
theorem w10_off_1 (W : World) (base b ib icap sb scap : Nat) (c : Ct) (hS : CartS W base b ib icap sb scap c) (hF : Fine c) (a x : Int) (wr : Bool) (a0 : 0 ≤ a) (a1 : a ≤ 65535) (x0 : 0 ≤ x) (x1 : x ≤ 255) (hk : c.k = 10) (hx : 4096 ≤ a % 8192 ∧ a % 8192 < 4224) (ha : c.armed = false) :
    Calls Try.prog 14 #[.pointer (some ⟨b, 0, none⟩), .int .u16 a, .int .u8 x, .bool wr] W (WPost W base b ib icap sb scap (watchF c a x wr)) := by
  have ht : c.tag.toList = [70, 69] := Img.toList_of c.tag 10 (by omega) hk
  have n1 := and8191 a a0 a1
  have c3 := hS.c3
  have hbb := hS.bb
  have hsl := hS.slt.1
  have hr : c.ram = false := by have := (fine_cases c hF).2.2.1; rw [hk] at this; exact this
  have c4 := hS.c4
  rw [hr] at c4
  obtain ⟨i, hi⟩ := Int.eq_ofNat_of_zero_le (show 0 ≤ a % 8192 - 4096 by omega)
  have hil : i < 128 := by omega
  have i0 : ¬ (i : Int) < 0 := by omega
  have i1 : ¬ (128 : Int) ≤ (i : Int) := by omega
  have kn := num16_yes W (a % 8192) 4096 128 (by omega) (by omega) (by omega) (by omega) (by omega) (by omega) (by omega) (by omega)
  rw [hi] at kn
  have hin : (a % 8192 - 4096).toNat = i := by omega
  have c133 := hS.c133 hF
  rw [ha] at c133
  have f133 := hS.fb 133
  have hE : exF c a x = c.ex := by unfold exF; rw [if_neg]; rintro ⟨h', _⟩; rw [hr] at h'; cases h'
  have hA : armF c a = decide (a % 8192 = 510) := by unfold armF; rw [if_pos hk]
  have hT : turnF c a x wr = none := by unfold turnF; simp [hk, ha]
  go_enter Try.func14, Try.ntmps14
  go_wp2_with fail
  refine kn.mono ?_
  rintro e w' ⟨rfl, rfl⟩
  go_wp2_with fail
  exact bodyPost_end (results_none rfl _ _ _) rfl ⟨rfl, by
    simp only [watchF, shF, hT, hE, hA]
    exact hS.setArmed hF.ex _, (Below.refl base _).setCell hbb _, by simp, (Oth.refl b sb _).set _ (.inl rfl) _⟩
theorem w10_on0_1 (W : World) (base b ib icap sb scap : Nat) (c : Ct) (hS : CartS W base b ib icap sb scap c) (hF : Fine c) (a x : Int) (wr : Bool) (a0 : 0 ≤ a) (a1 : a ≤ 65535) (x0 : 0 ≤ x) (x1 : x ≤ 255) (hk : c.k = 10) (hx : 4096 ≤ a % 8192 ∧ a % 8192 < 4224) (ha : c.armed = true) (hb : x / 32 % 2 = 0) :
    Calls Try.prog 14 #[.pointer (some ⟨b, 0, none⟩), .int .u16 a, .int .u8 x, .bool wr] W (WPost W base b ib icap sb scap (watchF c a x wr)) := by
  have ht : c.tag.toList = [70, 69] := Img.toList_of c.tag 10 (by omega) hk
  have n1 := and8191 a a0 a1
  have c3 := hS.c3
  have hbb := hS.bb
  have hsl := hS.slt.1
  have hr : c.ram = false := by have := (fine_cases c hF).2.2.1; rw [hk] at this; exact this
  have c4 := hS.c4
  rw [hr] at c4
  obtain ⟨i, hi⟩ := Int.eq_ofNat_of_zero_le (show 0 ≤ a % 8192 - 4096 by omega)
  have hil : i < 128 := by omega
  have i0 : ¬ (i : Int) < 0 := by omega
  have i1 : ¬ (128 : Int) ≤ (i : Int) := by omega
  have kn := num16_yes W (a % 8192) 4096 128 (by omega) (by omega) (by omega) (by omega) (by omega) (by omega) (by omega) (by omega)
  rw [hi] at kn
  have hin : (a % 8192 - 4096).toNat = i := by omega
  have c133 := hS.c133 hF
  rw [ha] at c133
  have f133 := hS.fb 133
  have hE : exF c a x = c.ex := by unfold exF; rw [if_neg]; rintro ⟨h', _⟩; rw [hr] at h'; cases h'
  have hA : armF c a = decide (a % 8192 = 510) := by unfold armF; rw [if_pos hk]
  obtain ⟨p1, p2, p3, p4, p5, p6, q1, q3, q4, q6, q8⟩ := fine_nums c hF
  have hq := q8 (by omega)
  have hl : 0 < c.sh.length := by omega
  clear p1 p2 p3 p4 p5 p6 q1 q3 q4 q6 q8 hq
  have hT : turnF c a x wr = some (0, 1) := by unfold turnF; simp [hk, ha, hb]
  have ab := and32 x x0 x1
  rw [hb] at ab
  have ab2 : bits .and .u8 x 32 = 0 := ab.trans rfl
  clear ab
  have kt := turn_any W base b ib icap sb scap c hS 0 hl 1
  have hS1 := hS.setSh 0 hl 1
  have d133 := hS1.c133 (hF.setSh 0 1 (by omega) (by have := fine_nums c hF; omega))
  have e133 := hS1.fb 133
  go_enter Try.func14, Try.ntmps14
  go_wp2_with fail
  refine kn.mono ?_
  rintro e w' ⟨rfl, rfl⟩
  go_wp2_with fail
  refine kt.mono ?_
  rintro e w' ⟨rfl, rfl⟩
  go_wp2_with fail
  exact bodyPost_end (results_none rfl _ _ _) rfl ⟨rfl, by
    simp only [watchF, shF, hT, hE, hA]
    exact hS1.setArmed hF.ex _, ((Below.refl base _).setCell hsl _).setCell hbb _, by simp, ((Oth.refl b sb _).set _ (.inr rfl) _).set _ (.inl rfl) _⟩
theorem w10_on1_1 (W : World) (base b ib icap sb scap : Nat) (c : Ct) (hS : CartS W base b ib icap sb scap c) (hF : Fine c) (a x : Int) (wr : Bool) (a0 : 0 ≤ a) (a1 : a ≤ 65535) (x0 : 0 ≤ x) (x1 : x ≤ 255) (hk : c.k = 10) (hx : 4096 ≤ a % 8192 ∧ a % 8192 < 4224) (ha : c.armed = true) (hb : x / 32 % 2 = 1) :
    Calls Try.prog 14 #[.pointer (some ⟨b, 0, none⟩), .int .u16 a, .int .u8 x, .bool wr] W (WPost W base b ib icap sb scap (watchF c a x wr)) := by
  have ht : c.tag.toList = [70, 69] := Img.toList_of c.tag 10 (by omega) hk
  have n1 := and8191 a a0 a1
  have c3 := hS.c3
  have hbb := hS.bb
  have hsl := hS.slt.1
  have hr : c.ram = false := by have := (fine_cases c hF).2.2.1; rw [hk] at this; exact this
  have c4 := hS.c4
  rw [hr] at c4
  obtain ⟨i, hi⟩ := Int.eq_ofNat_of_zero_le (show 0 ≤ a % 8192 - 4096 by omega)
  have hil : i < 128 := by omega
  have i0 : ¬ (i : Int) < 0 := by omega
  have i1 : ¬ (128 : Int) ≤ (i : Int) := by omega
  have kn := num16_yes W (a % 8192) 4096 128 (by omega) (by omega) (by omega) (by omega) (by omega) (by omega) (by omega) (by omega)
  rw [hi] at kn
  have hin : (a % 8192 - 4096).toNat = i := by omega
  have c133 := hS.c133 hF
  rw [ha] at c133
  have f133 := hS.fb 133
  have hE : exF c a x = c.ex := by unfold exF; rw [if_neg]; rintro ⟨h', _⟩; rw [hr] at h'; cases h'
  have hA : armF c a = decide (a % 8192 = 510) := by unfold armF; rw [if_pos hk]
  obtain ⟨p1, p2, p3, p4, p5, p6, q1, q3, q4, q6, q8⟩ := fine_nums c hF
  have hq := q8 (by omega)
  have hl : 0 < c.sh.length := by omega
  clear p1 p2 p3 p4 p5 p6 q1 q3 q4 q6 q8 hq
  have hT : turnF c a x wr = some (0, 0) := by unfold turnF; simp [hk, ha, hb]
  have ab := and32 x x0 x1
  rw [hb] at ab
  have ab2 : bits .and .u8 x 32 = 32 := ab.trans rfl
  clear ab
  have kt := turn_any W base b ib icap sb scap c hS 0 hl 0
  have hS1 := hS.setSh 0 hl 0
  have d133 := hS1.c133 (hF.setSh 0 0 (by omega) (by have := fine_nums c hF; omega))
  have e133 := hS1.fb 133
  go_enter Try.func14, Try.ntmps14
  go_wp2_with fail
  refine kn.mono ?_
  rintro e w' ⟨rfl, rfl⟩
  go_wp2_with fail
  refine kt.mono ?_
  rintro e w' ⟨rfl, rfl⟩
  go_wp2_with fail
  exact bodyPost_end (results_none rfl _ _ _) rfl ⟨rfl, by
    simp only [watchF, shF, hT, hE, hA]
    exact hS1.setArmed hF.ex _, ((Below.refl base _).setCell hsl _).setCell hbb _, by simp, ((Oth.refl b sb _).set _ (.inr rfl) _).set _ (.inl rfl) _⟩
theorem watch_10 (W : World) (base b ib icap sb scap : Nat) (c : Ct) (hS : CartS W base b ib icap sb scap c) (hF : Fine c) (a x : Int) (wr : Bool) (a0 : 0 ≤ a) (a1 : a ≤ 65535) (x0 : 0 ≤ x) (x1 : x ≤ 255) (hk : c.k = 10) :
    Calls Try.prog 14 #[.pointer (some ⟨b, 0, none⟩), .int .u16 a, .int .u8 x, .bool wr] W (WPost W base b ib icap sb scap (watchF c a x wr)) := by
  by_cases hx : 4096 ≤ a % 8192 ∧ a % 8192 < 4224
  · cases ha : c.armed
    · exact w10_off_1 W base b ib icap sb scap c hS hF a x wr a0 a1 x0 x1 hk hx ha
    · by_cases hb : x / 32 % 2 = 0
      · exact w10_on0_1 W base b ib icap sb scap c hS hF a x wr a0 a1 x0 x1 hk hx ha hb
      · exact w10_on1_1 W base b ib icap sb scap c hS hF a x wr a0 a1 x0 x1 hk hx ha (by omega)
  · cases ha : c.armed
    · exact w10_off_0 W base b ib icap sb scap c hS hF a x wr a0 a1 x0 x1 hk (by omega) ha
    · by_cases hb : x / 32 % 2 = 0
      · exact w10_on0_0 W base b ib icap sb scap c hS hF a x wr a0 a1 x0 x1 hk (by omega) ha hb
      · exact w10_on1_0 W base b ib icap sb scap c hS hF a x wr a0 a1 x0 x1 hk (by omega) ha (by omega)
theorem watch_any (W : World) (base b ib icap sb scap : Nat) (c : Ct) (hS : CartS W base b ib icap sb scap c) (hF : Fine c) (a x : Int) (wr : Bool) (a0 : 0 ≤ a) (a1 : a ≤ 65535) (x0 : 0 ≤ x) (x1 : x ≤ 255) :
    Calls Try.prog 14 #[.pointer (some ⟨b, 0, none⟩), .int .u16 a, .int .u8 x, .bool wr] W (WPost W base b ib icap sb scap (watchF c a x wr)) := by
  have h0 := (fine_cases c hF).1
  have h1 := (k_in c).2
  by_cases g0 : c.k = 0
  · exact watch_0 W base b ib icap sb scap c hS hF a x wr a0 a1 x0 x1 g0 
  by_cases g1 : c.k = 1
  · exact watch_1 W base b ib icap sb scap c hS hF a x wr a0 a1 x0 x1 g1 
  by_cases g2 : c.k = 2
  · exact watch_2 W base b ib icap sb scap c hS hF a x wr a0 a1 x0 x1 g2 
  by_cases g3 : c.k = 3
  · exact watch_3 W base b ib icap sb scap c hS hF a x wr a0 a1 x0 x1 g3 
  by_cases g4 : c.k = 4
  · exact watch_4 W base b ib icap sb scap c hS hF a x wr a0 a1 x0 x1 g4 
  by_cases g5 : c.k = 5
  · exact watch_5 W base b ib icap sb scap c hS hF a x wr a0 a1 x0 x1 g5 
  by_cases g6 : c.k = 6
  · exact watch_6 W base b ib icap sb scap c hS hF a x wr a0 a1 x0 x1 g6 
  by_cases g7 : c.k = 7
  · exact watch_7 W base b ib icap sb scap c hS hF a x wr a0 a1 x0 x1 g7 
  by_cases g8 : c.k = 8
  · exact watch_8 W base b ib icap sb scap c hS hF a x wr a0 a1 x0 x1 g8 
  by_cases g9 : c.k = 9
  · exact watch_9 W base b ib icap sb scap c hS hF a x wr a0 a1 x0 x1 g9 
  by_cases g10 : c.k = 10
  · exact watch_10 W base b ib icap sb scap c hS hF a x wr a0 a1 x0 x1 g10 
  omega
end Go.Proofs.Ytfdmbgmhgbhggaa.Ca
