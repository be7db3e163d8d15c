/- Package cart: Where, Peek, hot. -/
import Derived.Test.YtfdmbgmhgbhggaaCartSm
namespace Go.Proofs.Ytfdmbgmhgbhggaa.Ca
open Go.RowKit Go.Deep Go.Proofs.Ytfdmbgmhgbhggaa Go.Proofs.Ytfdmbgmhgbhggaa.Cl
set_option linter.unusedVariables false
set_option linter.unusedSimpArgs false

theorem hot_no (W : World) (base b ib icap sb scap : Nat) (c : Ct) (hS : CartS W base b ib icap sb scap c) (hF : Fine c) (m first : Int) (m0 : 0 ≤ m) (m1 : m ≤ 8191) (f0 : 4000 ≤ first) (f1 : first ≤ 4096)
    (h : m % 4096 < first ∨ c.banks ≤ m % 4096 - first ∨ m / 4096 % 2 = 0) :
    Calls Try.prog 36 #[.pointer (some ⟨b, 0, none⟩), .int .u16 m, .int .i64 first] W fun e W' => e = .returned (.tuple #[]) ∧ W' = W.drew := by
  obtain ⟨p1, p2, p3, p4, p5, p6, _⟩ := fine_nums c hF
  have a1 := and4095 m m0 (by omega)
  have a2 := and4096 m m0 (by omega)
  have hb : 65535 < c.banks ∨ c.banks ≤ 65535 := by omega
  have hbk : c.banks ≤ 65535 := by
    rcases p1 with e | e | e <;> rw [e] at p3 <;> omega
  by_cases hn : m % 4096 < first ∨ c.banks ≤ m % 4096 - first
  · go_enter Try.func36, Try.ntmps36
    go_wp2_with fail
    refine (banks_any W base b ib icap sb scap c hS hF).mono ?_
    rintro e w' ⟨rfl, rfl⟩
    go_wp2_with fail
    refine (num64_no W.drew (m % 4096) first c.banks (by omega) (by omega) (by omega) (by omega) (by omega) hbk hn).mono ?_
    rintro e w' ⟨rfl, rfl⟩
    go_wp2_with fail
    exact bodyPost_end (results_none rfl _ _ _) rfl ⟨rfl, rfl⟩
  · have a3 : m / 4096 % 2 = 0 := by omega
    rw [a3] at a2
    have a4 : bits .and .u16 m 4096 = 0 := a2.trans rfl
    clear a2
    go_enter Try.func36, Try.ntmps36
    go_wp2_with fail
    refine (banks_any W base b ib icap sb scap c hS hF).mono ?_
    rintro e w' ⟨rfl, rfl⟩
    go_wp2_with fail
    refine (num64_yes W.drew (m % 4096) first c.banks (by omega) (by omega) (by omega) (by omega) (by omega) hbk (by omega) (by omega)).mono ?_
    rintro e w' ⟨rfl, rfl⟩
    go_wp2_with fail
    exact bodyPost_end (results_none rfl _ _ _) rfl ⟨rfl, rfl⟩
theorem hot_yes (W : World) (base b ib icap sb scap : Nat) (c : Ct) (hS : CartS W base b ib icap sb scap c) (hF : Fine c) (m first : Int) (m0 : 0 ≤ m) (m1 : m ≤ 8191) (f0 : 4000 ≤ first) (f1 : first ≤ 4096)
    (h0 : first ≤ m % 4096) (h1 : m % 4096 - first < c.banks) (h2 : m / 4096 % 2 = 1) (hl : 0 < c.sh.length) :
    Calls Try.prog 36 #[.pointer (some ⟨b, 0, none⟩), .int .u16 m, .int .i64 first] W fun e W' => e = .returned (.tuple #[]) ∧ W' = W.drew.setCell ⟨sb, 0, none⟩ (.int .i64 (m % 4096 - first)) := by
  obtain ⟨p1, p2, p3, p4, p5, p6, _⟩ := fine_nums c hF
  have a1 := and4095 m m0 (by omega)
  have a2 := and4096 m m0 (by omega)
  have hbk : c.banks ≤ 65535 := by
    rcases p1 with e | e | e <;> rw [e] at p3 <;> omega
  rw [h2] at a2
  have a4 : bits .and .u16 m 4096 = 4096 := a2.trans rfl
  clear a2
  go_enter Try.func36, Try.ntmps36
  go_wp2_with fail
  refine (banks_any W base b ib icap sb scap c hS hF).mono ?_
  rintro e w' ⟨rfl, rfl⟩
  go_wp2_with fail
  refine (num64_yes W.drew (m % 4096) first c.banks (by omega) (by omega) (by omega) (by omega) (by omega) hbk (by omega) (by omega)).mono ?_
  rintro e w' ⟨rfl, rfl⟩
  go_wp2_with fail
  refine (turn_any W.drew base b ib icap sb scap c hS.drew 0 hl (m % 4096 - first)).mono ?_
  rintro e w' ⟨rfl, rfl⟩
  go_wp2_with fail
  exact bodyPost_end (results_none rfl _ _ _) rfl ⟨rfl, rfl⟩
theorem where_in (c : Ct) (hF : Fine c) (a : Int) (h0 : 0 ≤ a) (h1 : a / 4096 % 2 = 1) (h2 : c.ram = true → 256 ≤ a % 4096) :
    whereF c a = c.sh.getD (a % 4096 / c.sz).toNat 0 * c.sz + a % 4096 % c.sz ∧ 0 ≤ whereF c a ∧ whereF c a < c.n := by
  obtain ⟨p1, p2, p3, p4, p5, p6, _⟩ := fine_nums c hF
  have e : whereF c a = c.sh.getD (a % 4096 / c.sz).toNat 0 * c.sz + a % 4096 % c.sz := by
    unfold whereF
    rw [if_neg]
    rintro (h | ⟨h, h'⟩)
    · omega
    · have := h2 h; omega
  refine ⟨e, ?_⟩
  rw [e]
  have hzp : 0 < c.sz := by omega
  have hlen : c.sh.length ≤ 4 := by rcases p1 with e | e | e <;> rw [e] at p2 <;> omega
  have o0 : 0 ≤ a % 4096 := by omega
  have q0 : 0 ≤ a % 4096 / c.sz := Int.ediv_nonneg o0 (by omega)
  have q1 : a % 4096 / c.sz < c.sh.length := Int.ediv_lt_of_lt_mul hzp (by rw [Int.mul_comm]; omega)
  have hql : (a % 4096 / c.sz).toNat < c.sh.length := by omega
  have hv := hF.inb (c.sh.getD (a % 4096 / c.sz).toNat 0) (by simp [List.getD, hql])
  have r0 := Int.emod_nonneg (a % 4096) (show c.sz ≠ 0 by omega)
  have r1 := Int.emod_lt_of_pos (a % 4096) hzp
  generalize c.sh.getD (a % 4096 / c.sz).toNat 0 = v at *
  have hm : v * c.sz ≤ c.banks * c.sz - c.sz := by
    have : v * c.sz ≤ (c.banks - 1) * c.sz := Int.mul_le_mul_of_nonneg_right (by omega) (by omega)
    rw [Int.sub_mul] at this; omega
  have hm0 : 0 ≤ v * c.sz := Int.mul_nonneg hv.1 (by omega)
  constructor <;> omega
theorem where_off (c : Ct) (a : Int) (h : a / 4096 % 2 = 0 ∨ c.ram = true ∧ a % 4096 < 256) : whereF c a = -1 := by unfold whereF; rw [if_pos h]
theorem where_no (W : World) (base b ib icap sb scap : Nat) (c : Ct) (hS : CartS W base b ib icap sb scap c) (a : Int) (h0 : 0 ≤ a) (h1 : a ≤ 65535) (h : a / 4096 % 2 = 0 ∨ c.ram = true ∧ a % 4096 < 256) :
    Calls Try.prog 16 #[.pointer (some ⟨b, 0, none⟩), .int .u16 a] W fun e W' => e = .returned (.int .i64 (-1)) ∧ W' = W := by
  have a1 := and4095 a h0 h1
  have a2 := and4096 a h0 h1
  have c4 := hS.c4
  have hw : IntKind.i64.wrap (a % 4096) = a % 4096 := IntWalk.i64_in _ (by omega)
  by_cases hm : a / 4096 % 2 = 0
  · rw [hm] at a2
    have a4 : bits .and .u16 a 4096 = 0 := a2.trans rfl
    clear a2
    go_enter Try.func16, Try.ntmps16
    go_wp2_with fail
    go_ret
    exact ⟨rfl, rfl⟩
  · obtain ⟨hr, ho⟩ := h.resolve_left hm
    rw [show a / 4096 % 2 = 1 by omega] at a2
    have a4 : bits .and .u16 a 4096 = 4096 := a2.trans rfl
    rw [hr] at c4
    clear a2
    go_enter Try.func16, Try.ntmps16
    go_wp2_with fail
    go_ret
    exact ⟨rfl, rfl⟩
theorem where_yes (W : World) (base b ib icap sb scap : Nat) (c : Ct) (hS : CartS W base b ib icap sb scap c) (hF : Fine c) (a : Int) (h0 : 0 ≤ a) (h1 : a ≤ 65535) (hm : a / 4096 % 2 = 1) (h2 : c.ram = true → 256 ≤ a % 4096) :
    Calls Try.prog 16 #[.pointer (some ⟨b, 0, none⟩), .int .u16 a] W fun e W' => e = .returned (.int .i64 (whereF c a)) ∧ W' = W.drew := by
  have a1 := and4095 a h0 h1
  have a2 := and4096 a h0 h1
  have c4 := hS.c4
  have hw : IntKind.i64.wrap (a % 4096) = a % 4096 := IntWalk.i64_in _ (by omega)
  rw [hm] at a2
  have a4 : bits .and .u16 a 4096 = 4096 := a2.trans rfl
  clear a2
  rw [(where_in c hF a h0 hm h2).1]
  have k := wheres_any W base b ib icap sb scap c hS hF (a % 4096) (by omega) (by omega)
  cases hr : c.ram
  · rw [hr] at c4
    go_enter Try.func16, Try.ntmps16
    go_wp2_with fail
    refine k.mono ?_
    rintro e w' ⟨rfl, rfl⟩
    go_wp2_with fail
    go_ret
    exact ⟨rfl, rfl⟩
  · rw [hr] at c4
    have ho : ¬ a % 4096 < 256 := by have := h2 hr; omega
    go_enter Try.func16, Try.ntmps16
    go_wp2_with fail
    refine k.mono ?_
    rintro e w' ⟨rfl, rfl⟩
    go_wp2_with fail
    go_ret
    exact ⟨rfl, rfl⟩
theorem where_any (W : World) (base b ib icap sb scap : Nat) (c : Ct) (hS : CartS W base b ib icap sb scap c) (hF : Fine c) (a : Int) (h0 : 0 ≤ a) (h1 : a ≤ 65535) :
    Calls Try.prog 16 #[.pointer (some ⟨b, 0, none⟩), .int .u16 a] W fun e W' => e = .returned (.int .i64 (whereF c a)) ∧ Below W.heap.size W W' := by
  by_cases h : a / 4096 % 2 = 0 ∨ c.ram = true ∧ a % 4096 < 256
  · refine (where_no W base b ib icap sb scap c hS a h0 h1 h).mono ?_
    rintro e w' ⟨rfl, rfl⟩
    exact ⟨by rw [where_off c a h], Below.refl _ _⟩
  · refine (where_yes W base b ib icap sb scap c hS hF a h0 h1 (by omega) (fun hr => Int.not_lt.1 fun h' => h (.inr ⟨hr, h'⟩))).mono ?_
    rintro e w' ⟨rfl, rfl⟩
    exact ⟨rfl, (Below.refl _ _).drew⟩
theorem peek_any (W : World) (base b ib icap sb scap : Nat) (c : Ct) (hS : CartS W base b ib icap sb scap c) (hF : Fine c) (a : Int) (h0 : 0 ≤ a) (h1 : a ≤ 65535) :
    Calls Try.prog 17 #[.pointer (some ⟨b, 0, none⟩), .int .u16 a] W fun e W' => e = .returned (.tuple #[.int .u8 (peekF c a).1, .bool (peekF c a).2]) ∧ Below W.heap.size W W' := by
  have a1 := and4095 a h0 h1
  have a2 := and4096 a h0 h1
  by_cases h : a / 4096 % 2 = 0 ∨ c.ram = true ∧ a % 4096 < 256
  · have hwf := where_off c a h
    have k := where_no W base b ib icap sb scap c hS a h0 h1 h
    by_cases hm : a / 4096 % 2 = 0
    · have hp : peekF c a = (0, false) := by unfold peekF; rw [hwf, if_neg (by omega), if_neg (by omega)]
      rw [hp]
      rw [hm] at a2
      have a4 : bits .and .u16 a 4096 = 0 := a2.trans rfl
      clear a2 hp
      go_enter Try.func17, Try.ntmps17
      go_wp2_with fail
      refine k.mono ?_
      rintro e w' ⟨rfl, rfl⟩
      go_wp2_with fail
      go_ret2
      exact ⟨rfl, Below.refl _ _⟩
    · obtain ⟨hr, ho⟩ := h.resolve_left hm
      rw [show a / 4096 % 2 = 1 by omega] at a2
      have a4 : bits .and .u16 a 4096 = 4096 := a2.trans rfl
      clear a2
      by_cases h128 : 128 ≤ a % 4096
      · have hp : peekF c a = (c.ex.getD (a % 4096 - 128).toNat 0, true) := by unfold peekF; rw [hwf, if_neg (by omega), if_pos (by omega)]
        rw [hp]
        obtain ⟨i, hi⟩ := Int.eq_ofNat_of_zero_le (show 0 ≤ a % 4096 - 128 by omega)
        have hil : i < 128 := by omega
        have k2 := num16_yes W (a % 4096) 128 128 (by omega) (by omega) (by omega) (by omega) (by omega) (by omega) h128 (by omega)
        have cx := hS.cex hF i hil
        rw [hi] at k2
        rw [hi, Int.toNat_natCast]
        have i0 : ¬ (i : Int) < 0 := by omega
        have i1 : ¬ (128 : Int) ≤ (i : Int) := by omega
        clear hp
        go_enter Try.func17, Try.ntmps17
        go_wp2_with fail
        refine k.mono ?_
        rintro e w' ⟨rfl, rfl⟩
        go_wp2_with fail
        refine k2.mono ?_
        rintro e w' ⟨rfl, rfl⟩
        go_wp2_with fail
        go_ret2
        exact ⟨rfl, Below.refl _ _⟩
      · have hp : peekF c a = (0, false) := by unfold peekF; rw [hwf, if_neg (by omega), if_neg (by omega)]
        rw [hp]
        have k2 := num16_no W (a % 4096) 128 128 (by omega) (by omega) (by omega) (by omega) (by omega) (by omega) (by omega)
        clear hp
        go_enter Try.func17, Try.ntmps17
        go_wp2_with fail
        refine k.mono ?_
        rintro e w' ⟨rfl, rfl⟩
        go_wp2_with fail
        refine k2.mono ?_
        rintro e w' ⟨rfl, rfl⟩
        go_wp2_with fail
        go_ret2
        exact ⟨rfl, Below.refl _ _⟩
  · have hm : a / 4096 % 2 = 1 := by omega
    have h2 : c.ram = true → 256 ≤ a % 4096 := fun hr => Int.not_lt.1 fun h' => h (.inr ⟨hr, h'⟩)
    obtain ⟨w0, w1⟩ := (where_in c hF a h0 hm h2).2
    have hp : peekF c a = (c.im.getD (whereF c a).toNat 0, true) := by unfold peekF; rw [if_pos w0]
    rw [hp]
    have k := where_yes W base b ib icap sb scap c hS hF a h0 h1 hm h2
    generalize whereF c a = wf at *
    have hnn : c.n = (c.im.length : Int) := rfl
    obtain ⟨i, rfl⟩ := Int.eq_ofNat_of_zero_le w0
    have hil : i < c.im.length := by omega
    have ci := hS.drew.cim i hil
    have c0 := hS.drew.c0
    rw [Int.toNat_natCast]
    generalize c.im.getD i 0 = u at *
    have i0 : ¬ (i : Int) < 0 := by omega
    have i1 : ¬ (c.im.length : Int) ≤ (i : Int) := by omega
    clear hp
    go_enter Try.func17, Try.ntmps17
    go_wp2_with fail
    refine k.mono ?_
    rintro e w' ⟨rfl, rfl⟩
    go_wp2_with fail
    go_ret2
    exact ⟨rfl, (Below.refl _ _).drew⟩
end Go.Proofs.Ytfdmbgmhgbhggaa.Ca
