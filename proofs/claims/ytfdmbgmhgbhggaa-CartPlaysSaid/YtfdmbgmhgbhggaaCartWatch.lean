/- Package cart: Watch, mapper by mapper (printed by gen/cartwatch.py). -/
import Derived.Test.YtfdmbgmhgbhggaaCartWh
import Derived.Deep.RegionHeld3
namespace Go.Proofs.Ytfdmbgmhgbhggaa.Ca
open Go.RowKit Go.Deep Go.Proofs.Ytfdmbgmhgbhggaa Go.Proofs.Ytfdmbgmhgbhggaa.Cl
set_option linter.unusedVariables false
set_option linter.unusedSimpArgs false

theorem Fine.setEx {c : Ct} (h : Fine c) (i : Nat) (v : Int) : Fine { c with ex := c.ex.set i v } := ⟨h.ok, h.sh, h.inb, by simpa using h.ex⟩
theorem Fine.setArmed {c : Ct} (h : Fine c) (v : Bool) : Fine { c with armed := v } := ⟨h.ok, h.sh, h.inb, h.ex⟩
theorem Fine.setSh {c : Ct} (h : Fine c) (i : Nat) (v : Int) (v0 : 0 ≤ v) (v1 : v < c.banks) : Fine { c with sh := c.sh.set i v } :=
  ⟨h.ok, (List.length_set).trans h.sh, fun s hs => by
    rcases List.mem_or_eq_of_mem_set hs with hs | rfl
    · exact h.inb s hs
    · exact ⟨v0, v1⟩, h.ex⟩
theorem turn_in (c : Ct) (h : Fine c) (a b : Int) (wr : Bool) (b0 : 0 ≤ b) (i : Nat) (v : Int) (e : turnF c a b wr = some (i, v)) : 0 ≤ v ∧ v < c.banks ∧ i < c.sh.length := by
  obtain ⟨p1, p2, p3, p4, p5, p6, q1, q3, q4, q6, q8⟩ := fine_nums c h
  unfold turnF at e
  simp only at e
  repeat' split at e
  all_goals first | (cases e; done) | skip
  all_goals
    simp only [Option.some.injEq, Prod.mk.injEq] at e
    obtain ⟨rfl, rfl⟩ := e
  · have := q8 (by omega); omega
  · have := q6 (by omega); omega
  · have := q4 (by omega); omega
  · have := q3 (by omega); omega
  · have := q1 (by omega)
    refine ⟨Int.emod_nonneg _ (by omega), Int.emod_lt_of_pos _ (by omega), by omega⟩
  · have := q8 (by omega); omega
theorem watch_fine (c : Ct) (h : Fine c) (a b : Int) (wr : Bool) (b0 : 0 ≤ b) : Fine (watchF c a b wr) := by
  have e1 : Fine { c with ex := exF c a b } := by
    unfold exF; split
    · exact h.setEx _ _
    · exact h
  have e2 : Fine { c with ex := exF c a b, armed := armF c a } := e1.setArmed _
  unfold watchF shF
  cases ht : turnF c a b wr with
  | none => exact e2
  | some p =>
    obtain ⟨i, v⟩ := p
    have := turn_in c h a b wr b0 i v ht
    exact e2.setSh i v this.1 this.2.1
/-- Nothing but these two blocks is another one. -/
structure Oth (b g : Nat) (W W' : World) : Prop where
  os : W'.os = W.os
  tape : W'.tape = W.tape
  output : W'.output = W.output
  size : W'.heap.size = W.heap.size
  block : ∀ k, k ≠ b → k ≠ g → W'.heap[k]? = W.heap[k]?
theorem Oth.refl (b g : Nat) (W : World) : Oth b g W W := ⟨rfl, rfl, rfl, rfl, fun _ _ _ => rfl⟩
theorem Oth.drew {b g : Nat} {A B : World} (h : Oth b g A B) : Oth b g A B.drew := ⟨h.os, h.tape, h.output, h.size, h.block⟩
theorem Oth.set {b g : Nat} {A B : World} (h : Oth b g A B) (p : Addr) (hp : p.block = b ∨ p.block = g) (u : Value) : Oth b g A (B.setCell p u) :=
  ⟨h.os, h.tape, h.output, by simpa using h.size, fun k hk hk' => (heap_setCell_other B p k u (by rcases hp with e | e <;> rw [e] <;> assumption)).trans (h.block k hk hk')⟩
/-- What Watch leaves. -/
def WPost (W : World) (base b ib icap sb scap : Nat) (c' : Ct) (e : Ending) (W' : World) : Prop := e = .returned (.tuple #[]) ∧ CartS W' base b ib icap sb scap c' ∧ Below base W W' ∧ W'.heap.size = W.heap.size ∧ Oth b sb W W'
theorem w8_turn (W : World) (base b ib icap sb scap : Nat) (c : Ct) (hS : CartS W base b ib icap sb scap c) (hF : Fine c) (a x : Int) (wr : Bool) (a0 : 0 ≤ a) (a1 : a ≤ 65535) (x0 : 0 ≤ x) (x1 : x ≤ 255) (hk : c.k = 8) (h : 8184 ≤ a % 8192 ∧ a % 8192 ≤ 8185) :
    Calls Try.prog 14 #[.pointer (some ⟨b, 0, none⟩), .int .u16 a, .int .u8 x, .bool wr] W (WPost W base b ib icap sb scap (watchF c a x wr)) := by
  have ht : c.tag.toList = [70, 56] := Img.toList_of c.tag 8 (by omega) hk
  have n1 := and8191 a a0 a1
  have c3 := hS.c3
  have hbb := hS.bb
  have hsl := hS.slt.1
  have hr : c.ram = false := by have := (fine_cases c hF).2.2.1; rw [hk] at this; exact this
  have c4 := hS.c4
  rw [hr] at c4
  obtain ⟨p1, p2, p3, p4, p5, p6, q1, q3, q4, q6, q8⟩ := fine_nums c hF
  have hq := q8 (by omega)
  clear p1 p2 p3 p4 p5 p6 q1 q3 q4 q6 q8
  have hT : turnF c a x wr = some (0, a % 8192 - 8184) := by unfold turnF; simp [hk, h.1, h.2]
  have hE : exF c a x = c.ex := by unfold exF; rw [if_neg]; rintro ⟨_, _, h'⟩; omega
  have hA : armF c a = c.armed := by unfold armF; rw [if_neg (by omega)]
  have kh := hot_yes W base b ib icap sb scap c hS hF (a % 8192) 4088 (by omega) (by omega) (by omega) (by omega) (by omega) (by omega) (by omega) (by omega)
  have hv : a % 8192 % 4096 - 4088 = a % 8192 - 8184 := by omega
  rw [hv] at kh
  clear hv hq
  go_enter Try.func14, Try.ntmps14
  go_wp2_with fail
  refine (num16_no W (a % 8192) 4096 128 (by omega) (by omega) (by omega) (by omega) (by omega) (by omega) (by omega)).mono ?_
  rintro e w' ⟨rfl, rfl⟩
  go_wp2_with fail
  refine kh.mono ?_
  rintro e w' ⟨rfl, rfl⟩
  go_wp2_with fail
  exact bodyPost_end (results_none rfl _ _ _) rfl ⟨rfl, by
    have := (hS.setSh 0 (by rw [hF.sh, hk]; have := hF.ok; rw [hk] at this; simp [Img.firstK, this]) (a % 8192 - 8184)).drew
    simp only [watchF, shF, hT, hE, hA]
    exact this, ((Below.refl base _).setCell hsl _).drew, by simp, ((Oth.refl b sb _).set _ (.inr rfl) _).drew⟩
theorem w8_none (W : World) (base b ib icap sb scap : Nat) (c : Ct) (hS : CartS W base b ib icap sb scap c) (hF : Fine c) (a x : Int) (wr : Bool) (a0 : 0 ≤ a) (a1 : a ≤ 65535) (x0 : 0 ≤ x) (x1 : x ≤ 255) (hk : c.k = 8) (h : a % 8192 < 8184 ∨ 8185 < a % 8192) (hx : a % 8192 < 4096 ∨ 4224 ≤ a % 8192) :
    Calls Try.prog 14 #[.pointer (some ⟨b, 0, none⟩), .int .u16 a, .int .u8 x, .bool wr] W (WPost W base b ib icap sb scap (watchF c a x wr)) := by
  have ht : c.tag.toList = [70, 56] := Img.toList_of c.tag 8 (by omega) hk
  have n1 := and8191 a a0 a1
  have c3 := hS.c3
  have hbb := hS.bb
  have hsl := hS.slt.1
  have hr : c.ram = false := by have := (fine_cases c hF).2.2.1; rw [hk] at this; exact this
  have c4 := hS.c4
  rw [hr] at c4
  obtain ⟨p1, p2, p3, p4, p5, p6, q1, q3, q4, q6, q8⟩ := fine_nums c hF
  have hq := q8 (by omega)
  clear p1 p2 p3 p4 p5 p6 q1 q3 q4 q6 q8
  have hT : turnF c a x wr = none := by unfold turnF; simp [hk]; omega
  have hE : exF c a x = c.ex := by unfold exF; rw [if_neg]; rintro ⟨_, _, h'⟩; omega
  have hA : armF c a = c.armed := by unfold armF; rw [if_neg (by omega)]
  have kh := hot_no W base b ib icap sb scap c hS hF (a % 8192) 4088 (by omega) (by omega) (by omega) (by omega) (by omega)
  clear hq
  go_enter Try.func14, Try.ntmps14
  go_wp2_with fail
  refine (num16_no W (a % 8192) 4096 128 (by omega) (by omega) (by omega) (by omega) (by omega) (by omega) (by omega)).mono ?_
  rintro e w' ⟨rfl, rfl⟩
  go_wp2_with fail
  refine kh.mono ?_
  rintro e w' ⟨rfl, rfl⟩
  go_wp2_with fail
  exact bodyPost_end (results_none rfl _ _ _) rfl ⟨rfl, by simpa only [watchF, shF, hT, hE, hA] using hS.drew, (Below.refl base _).drew, rfl, (Oth.refl b sb _).drew⟩
theorem w8_ext (W : World) (base b ib icap sb scap : Nat) (c : Ct) (hS : CartS W base b ib icap sb scap c) (hF : Fine c) (a x : Int) (wr : Bool) (a0 : 0 ≤ a) (a1 : a ≤ 65535) (x0 : 0 ≤ x) (x1 : x ≤ 255) (hk : c.k = 8) (hx : 4096 ≤ a % 8192 ∧ a % 8192 < 4224) :
    Calls Try.prog 14 #[.pointer (some ⟨b, 0, none⟩), .int .u16 a, .int .u8 x, .bool wr] W (WPost W base b ib icap sb scap (watchF c a x wr)) := by
  have ht : c.tag.toList = [70, 56] := Img.toList_of c.tag 8 (by omega) hk
  have n1 := and8191 a a0 a1
  have c3 := hS.c3
  have hbb := hS.bb
  have hsl := hS.slt.1
  have hr : c.ram = false := by have := (fine_cases c hF).2.2.1; rw [hk] at this; exact this
  have c4 := hS.c4
  rw [hr] at c4
  obtain ⟨p1, p2, p3, p4, p5, p6, q1, q3, q4, q6, q8⟩ := fine_nums c hF
  have hq := q8 (by omega)
  clear p1 p2 p3 p4 p5 p6 q1 q3 q4 q6 q8
  obtain ⟨i, hi⟩ := Int.eq_ofNat_of_zero_le (show 0 ≤ a % 8192 - 4096 by omega)
  have hil : i < 128 := by omega
  have i0 : ¬ (i : Int) < 0 := by omega
  have i1 : ¬ (128 : Int) ≤ (i : Int) := by omega
  have kn := num16_yes W (a % 8192) 4096 128 (by omega) (by omega) (by omega) (by omega) (by omega) (by omega) (by omega) (by omega)
  rw [hi] at kn
  have hin : (a % 8192 - 4096).toNat = i := by omega
  have hT : turnF c a x wr = none := by unfold turnF; simp [hk]; omega
  have hE : exF c a x = c.ex := by unfold exF; rw [if_neg]; rintro ⟨h', _⟩; rw [hr] at h'; cases h'
  have hA : armF c a = c.armed := by unfold armF; rw [if_neg (by omega)]
  have kh := hot_no W base b ib icap sb scap c hS hF (a % 8192) 4088 (by omega) (by omega) (by omega) (by omega) (.inl (by omega))
  clear hq
  go_enter Try.func14, Try.ntmps14
  go_wp2_with fail
  refine kn.mono ?_
  rintro e w' ⟨rfl, rfl⟩
  go_wp2_with fail
  refine kh.mono ?_
  rintro e w' ⟨rfl, rfl⟩
  go_wp2_with fail
  exact bodyPost_end (results_none rfl _ _ _) rfl ⟨rfl, by simpa only [watchF, shF, hT, hE, hA] using hS.drew, (Below.refl base _).drew, rfl, (Oth.refl b sb _).drew⟩
theorem watch_8 (W : World) (base b ib icap sb scap : Nat) (c : Ct) (hS : CartS W base b ib icap sb scap c) (hF : Fine c) (a x : Int) (wr : Bool) (a0 : 0 ≤ a) (a1 : a ≤ 65535) (x0 : 0 ≤ x) (x1 : x ≤ 255) (hk : c.k = 8) :
    Calls Try.prog 14 #[.pointer (some ⟨b, 0, none⟩), .int .u16 a, .int .u8 x, .bool wr] W (WPost W base b ib icap sb scap (watchF c a x wr)) := by
  by_cases hx : 4096 ≤ a % 8192 ∧ a % 8192 < 4224
  · exact w8_ext W base b ib icap sb scap c hS hF a x wr a0 a1 x0 x1 hk hx
  · by_cases h : 8184 ≤ a % 8192 ∧ a % 8192 ≤ 8185
    · exact w8_turn W base b ib icap sb scap c hS hF a x wr a0 a1 x0 x1 hk h
    · exact w8_none W base b ib icap sb scap c hS hF a x wr a0 a1 x0 x1 hk (by omega) (by omega)
theorem w9_turn (W : World) (base b ib icap sb scap : Nat) (c : Ct) (hS : CartS W base b ib icap sb scap c) (hF : Fine c) (a x : Int) (wr : Bool) (a0 : 0 ≤ a) (a1 : a ≤ 65535) (x0 : 0 ≤ x) (x1 : x ≤ 255) (hk : c.k = 9) (h : 8184 ≤ a % 8192 ∧ a % 8192 ≤ 8185) :
    Calls Try.prog 14 #[.pointer (some ⟨b, 0, none⟩), .int .u16 a, .int .u8 x, .bool wr] W (WPost W base b ib icap sb scap (watchF c a x wr)) := by
  have ht : c.tag.toList = [70, 56, 83, 67] := Img.toList_of c.tag 9 (by omega) hk
  have n1 := and8191 a a0 a1
  have c3 := hS.c3
  have hbb := hS.bb
  have hsl := hS.slt.1
  have hr : c.ram = true := by have := (fine_cases c hF).2.2.1; rw [hk] at this; exact this
  have c4 := hS.c4
  rw [hr] at c4
  obtain ⟨p1, p2, p3, p4, p5, p6, q1, q3, q4, q6, q8⟩ := fine_nums c hF
  have hq := q8 (by omega)
  clear p1 p2 p3 p4 p5 p6 q1 q3 q4 q6 q8
  have hT : turnF c a x wr = some (0, a % 8192 - 8184) := by unfold turnF; simp [hk, h.1, h.2]
  have hE : exF c a x = c.ex := by unfold exF; rw [if_neg]; rintro ⟨_, _, h'⟩; omega
  have hA : armF c a = c.armed := by unfold armF; rw [if_neg (by omega)]
  have kh := hot_yes W base b ib icap sb scap c hS hF (a % 8192) 4088 (by omega) (by omega) (by omega) (by omega) (by omega) (by omega) (by omega) (by omega)
  have hv : a % 8192 % 4096 - 4088 = a % 8192 - 8184 := by omega
  rw [hv] at kh
  clear hv hq
  go_enter Try.func14, Try.ntmps14
  go_wp2_with fail
  refine (num16_no W (a % 8192) 4096 128 (by omega) (by omega) (by omega) (by omega) (by omega) (by omega) (by omega)).mono ?_
  rintro e w' ⟨rfl, rfl⟩
  go_wp2_with fail
  refine kh.mono ?_
  rintro e w' ⟨rfl, rfl⟩
  go_wp2_with fail
  exact bodyPost_end (results_none rfl _ _ _) rfl ⟨rfl, by
    have := (hS.setSh 0 (by rw [hF.sh, hk]; have := hF.ok; rw [hk] at this; simp [Img.firstK, this]) (a % 8192 - 8184)).drew
    simp only [watchF, shF, hT, hE, hA]
    exact this, ((Below.refl base _).setCell hsl _).drew, by simp, ((Oth.refl b sb _).set _ (.inr rfl) _).drew⟩
theorem w9_none (W : World) (base b ib icap sb scap : Nat) (c : Ct) (hS : CartS W base b ib icap sb scap c) (hF : Fine c) (a x : Int) (wr : Bool) (a0 : 0 ≤ a) (a1 : a ≤ 65535) (x0 : 0 ≤ x) (x1 : x ≤ 255) (hk : c.k = 9) (h : a % 8192 < 8184 ∨ 8185 < a % 8192) (hx : a % 8192 < 4096 ∨ 4224 ≤ a % 8192) :
    Calls Try.prog 14 #[.pointer (some ⟨b, 0, none⟩), .int .u16 a, .int .u8 x, .bool wr] W (WPost W base b ib icap sb scap (watchF c a x wr)) := by
  have ht : c.tag.toList = [70, 56, 83, 67] := Img.toList_of c.tag 9 (by omega) hk
  have n1 := and8191 a a0 a1
  have c3 := hS.c3
  have hbb := hS.bb
  have hsl := hS.slt.1
  have hr : c.ram = true := by have := (fine_cases c hF).2.2.1; rw [hk] at this; exact this
  have c4 := hS.c4
  rw [hr] at c4
  obtain ⟨p1, p2, p3, p4, p5, p6, q1, q3, q4, q6, q8⟩ := fine_nums c hF
  have hq := q8 (by omega)
  clear p1 p2 p3 p4 p5 p6 q1 q3 q4 q6 q8
  have hT : turnF c a x wr = none := by unfold turnF; simp [hk]; omega
  have hE : exF c a x = c.ex := by unfold exF; rw [if_neg]; rintro ⟨_, _, h'⟩; omega
  have hA : armF c a = c.armed := by unfold armF; rw [if_neg (by omega)]
  have kh := hot_no W base b ib icap sb scap c hS hF (a % 8192) 4088 (by omega) (by omega) (by omega) (by omega) (by omega)
  clear hq
  go_enter Try.func14, Try.ntmps14
  go_wp2_with fail
  refine (num16_no W (a % 8192) 4096 128 (by omega) (by omega) (by omega) (by omega) (by omega) (by omega) (by omega)).mono ?_
  rintro e w' ⟨rfl, rfl⟩
  go_wp2_with fail
  refine kh.mono ?_
  rintro e w' ⟨rfl, rfl⟩
  go_wp2_with fail
  exact bodyPost_end (results_none rfl _ _ _) rfl ⟨rfl, by simpa only [watchF, shF, hT, hE, hA] using hS.drew, (Below.refl base _).drew, rfl, (Oth.refl b sb _).drew⟩
theorem w9_ext (W : World) (base b ib icap sb scap : Nat) (c : Ct) (hS : CartS W base b ib icap sb scap c) (hF : Fine c) (a x : Int) (wr : Bool) (a0 : 0 ≤ a) (a1 : a ≤ 65535) (x0 : 0 ≤ x) (x1 : x ≤ 255) (hk : c.k = 9) (hx : 4096 ≤ a % 8192 ∧ a % 8192 < 4224) :
    Calls Try.prog 14 #[.pointer (some ⟨b, 0, none⟩), .int .u16 a, .int .u8 x, .bool wr] W (WPost W base b ib icap sb scap (watchF c a x wr)) := by
  have ht : c.tag.toList = [70, 56, 83, 67] := Img.toList_of c.tag 9 (by omega) hk
  have n1 := and8191 a a0 a1
  have c3 := hS.c3
  have hbb := hS.bb
  have hsl := hS.slt.1
  have hr : c.ram = true := by have := (fine_cases c hF).2.2.1; rw [hk] at this; exact this
  have c4 := hS.c4
  rw [hr] at c4
  obtain ⟨p1, p2, p3, p4, p5, p6, q1, q3, q4, q6, q8⟩ := fine_nums c hF
  have hq := q8 (by omega)
  clear p1 p2 p3 p4 p5 p6 q1 q3 q4 q6 q8
  obtain ⟨i, hi⟩ := Int.eq_ofNat_of_zero_le (show 0 ≤ a % 8192 - 4096 by omega)
  have hil : i < 128 := by omega
  have i0 : ¬ (i : Int) < 0 := by omega
  have i1 : ¬ (128 : Int) ≤ (i : Int) := by omega
  have kn := num16_yes W (a % 8192) 4096 128 (by omega) (by omega) (by omega) (by omega) (by omega) (by omega) (by omega) (by omega)
  rw [hi] at kn
  have hin : (a % 8192 - 4096).toNat = i := by omega
  have hT : turnF c a x wr = none := by unfold turnF; simp [hk]; omega
  have hE : exF c a x = c.ex.set i x := by unfold exF; rw [if_pos ⟨hr, hx⟩, hin]
  have hA : armF c a = c.armed := by unfold armF; rw [if_neg (by omega)]
  have cx := hS.cex hF i hil
  have fx := hS.fb (5 + i)
  have hS1 := hS.setEx hF.ex i hil x
  have kh := hot_no (W.setCell ⟨b, 5 + i, none⟩ (.int .u8 x)) base b ib icap sb scap _ hS1 (hF.setEx i x) (a % 8192) 4088 (by omega) (by omega) (by omega) (by omega) (.inl (by omega))
  clear hq
  go_enter Try.func14, Try.ntmps14
  go_wp2_with fail
  refine kn.mono ?_
  rintro e w' ⟨rfl, rfl⟩
  go_wp2_with fail
  refine kh.mono ?_
  rintro e w' ⟨rfl, rfl⟩
  go_wp2_with fail
  exact bodyPost_end (results_none rfl _ _ _) rfl ⟨rfl, by simpa only [watchF, shF, hT, hE, hA] using hS1.drew, ((Below.refl base _).setCell hbb _).drew, by simp, ((Oth.refl b sb _).set _ (.inl rfl) _).drew⟩
theorem watch_9 (W : World) (base b ib icap sb scap : Nat) (c : Ct) (hS : CartS W base b ib icap sb scap c) (hF : Fine c) (a x : Int) (wr : Bool) (a0 : 0 ≤ a) (a1 : a ≤ 65535) (x0 : 0 ≤ x) (x1 : x ≤ 255) (hk : c.k = 9) :
    Calls Try.prog 14 #[.pointer (some ⟨b, 0, none⟩), .int .u16 a, .int .u8 x, .bool wr] W (WPost W base b ib icap sb scap (watchF c a x wr)) := by
  by_cases hx : 4096 ≤ a % 8192 ∧ a % 8192 < 4224
  · exact w9_ext W base b ib icap sb scap c hS hF a x wr a0 a1 x0 x1 hk hx
  · by_cases h : 8184 ≤ a % 8192 ∧ a % 8192 ≤ 8185
    · exact w9_turn W base b ib icap sb scap c hS hF a x wr a0 a1 x0 x1 hk h
    · exact w9_none W base b ib icap sb scap c hS hF a x wr a0 a1 x0 x1 hk (by omega) (by omega)
theorem w6_turn (W : World) (base b ib icap sb scap : Nat) (c : Ct) (hS : CartS W base b ib icap sb scap c) (hF : Fine c) (a x : Int) (wr : Bool) (a0 : 0 ≤ a) (a1 : a ≤ 65535) (x0 : 0 ≤ x) (x1 : x ≤ 255) (hk : c.k = 6) (h : 8182 ≤ a % 8192 ∧ a % 8192 ≤ 8185) :
    Calls Try.prog 14 #[.pointer (some ⟨b, 0, none⟩), .int .u16 a, .int .u8 x, .bool wr] W (WPost W base b ib icap sb scap (watchF c a x wr)) := by
  have ht : c.tag.toList = [70, 54] := Img.toList_of c.tag 6 (by omega) hk
  have n1 := and8191 a a0 a1
  have c3 := hS.c3
  have hbb := hS.bb
  have hsl := hS.slt.1
  have hr : c.ram = false := by have := (fine_cases c hF).2.2.1; rw [hk] at this; exact this
  have c4 := hS.c4
  rw [hr] at c4
  obtain ⟨p1, p2, p3, p4, p5, p6, q1, q3, q4, q6, q8⟩ := fine_nums c hF
  have hq := q6 (by omega)
  clear p1 p2 p3 p4 p5 p6 q1 q3 q4 q6 q8
  have hT : turnF c a x wr = some (0, a % 8192 - 8182) := by unfold turnF; simp [hk, h.1, h.2]
  have hE : exF c a x = c.ex := by unfold exF; rw [if_neg]; rintro ⟨_, _, h'⟩; omega
  have hA : armF c a = c.armed := by unfold armF; rw [if_neg (by omega)]
  have kh := hot_yes W base b ib icap sb scap c hS hF (a % 8192) 4086 (by omega) (by omega) (by omega) (by omega) (by omega) (by omega) (by omega) (by omega)
  have hv : a % 8192 % 4096 - 4086 = a % 8192 - 8182 := by omega
  rw [hv] at kh
  clear hv hq
  go_enter Try.func14, Try.ntmps14
  go_wp2_with fail
  refine (num16_no W (a % 8192) 4096 128 (by omega) (by omega) (by omega) (by omega) (by omega) (by omega) (by omega)).mono ?_
  rintro e w' ⟨rfl, rfl⟩
  go_wp2_with fail
  refine kh.mono ?_
  rintro e w' ⟨rfl, rfl⟩
  go_wp2_with fail
  exact bodyPost_end (results_none rfl _ _ _) rfl ⟨rfl, by
    have := (hS.setSh 0 (by rw [hF.sh, hk]; have := hF.ok; rw [hk] at this; simp [Img.firstK, this]) (a % 8192 - 8182)).drew
    simp only [watchF, shF, hT, hE, hA]
    exact this, ((Below.refl base _).setCell hsl _).drew, by simp, ((Oth.refl b sb _).set _ (.inr rfl) _).drew⟩
theorem w6_none (W : World) (base b ib icap sb scap : Nat) (c : Ct) (hS : CartS W base b ib icap sb scap c) (hF : Fine c) (a x : Int) (wr : Bool) (a0 : 0 ≤ a) (a1 : a ≤ 65535) (x0 : 0 ≤ x) (x1 : x ≤ 255) (hk : c.k = 6) (h : a % 8192 < 8182 ∨ 8185 < a % 8192) (hx : a % 8192 < 4096 ∨ 4224 ≤ a % 8192) :
    Calls Try.prog 14 #[.pointer (some ⟨b, 0, none⟩), .int .u16 a, .int .u8 x, .bool wr] W (WPost W base b ib icap sb scap (watchF c a x wr)) := by
  have ht : c.tag.toList = [70, 54] := Img.toList_of c.tag 6 (by omega) hk
  have n1 := and8191 a a0 a1
  have c3 := hS.c3
  have hbb := hS.bb
  have hsl := hS.slt.1
  have hr : c.ram = false := by have := (fine_cases c hF).2.2.1; rw [hk] at this; exact this
  have c4 := hS.c4
  rw [hr] at c4
  obtain ⟨p1, p2, p3, p4, p5, p6, q1, q3, q4, q6, q8⟩ := fine_nums c hF
  have hq := q6 (by omega)
  clear p1 p2 p3 p4 p5 p6 q1 q3 q4 q6 q8
  have hT : turnF c a x wr = none := by unfold turnF; simp [hk]; omega
  have hE : exF c a x = c.ex := by unfold exF; rw [if_neg]; rintro ⟨_, _, h'⟩; omega
  have hA : armF c a = c.armed := by unfold armF; rw [if_neg (by omega)]
  have kh := hot_no W base b ib icap sb scap c hS hF (a % 8192) 4086 (by omega) (by omega) (by omega) (by omega) (by omega)
  clear hq
  go_enter Try.func14, Try.ntmps14
  go_wp2_with fail
  refine (num16_no W (a % 8192) 4096 128 (by omega) (by omega) (by omega) (by omega) (by omega) (by omega) (by omega)).mono ?_
  rintro e w' ⟨rfl, rfl⟩
  go_wp2_with fail
  refine kh.mono ?_
  rintro e w' ⟨rfl, rfl⟩
  go_wp2_with fail
  exact bodyPost_end (results_none rfl _ _ _) rfl ⟨rfl, by simpa only [watchF, shF, hT, hE, hA] using hS.drew, (Below.refl base _).drew, rfl, (Oth.refl b sb _).drew⟩
theorem w6_ext (W : World) (base b ib icap sb scap : Nat) (c : Ct) (hS : CartS W base b ib icap sb scap c) (hF : Fine c) (a x : Int) (wr : Bool) (a0 : 0 ≤ a) (a1 : a ≤ 65535) (x0 : 0 ≤ x) (x1 : x ≤ 255) (hk : c.k = 6) (hx : 4096 ≤ a % 8192 ∧ a % 8192 < 4224) :
    Calls Try.prog 14 #[.pointer (some ⟨b, 0, none⟩), .int .u16 a, .int .u8 x, .bool wr] W (WPost W base b ib icap sb scap (watchF c a x wr)) := by
  have ht : c.tag.toList = [70, 54] := Img.toList_of c.tag 6 (by omega) hk
  have n1 := and8191 a a0 a1
  have c3 := hS.c3
  have hbb := hS.bb
  have hsl := hS.slt.1
  have hr : c.ram = false := by have := (fine_cases c hF).2.2.1; rw [hk] at this; exact this
  have c4 := hS.c4
  rw [hr] at c4
  obtain ⟨p1, p2, p3, p4, p5, p6, q1, q3, q4, q6, q8⟩ := fine_nums c hF
  have hq := q6 (by omega)
  clear p1 p2 p3 p4 p5 p6 q1 q3 q4 q6 q8
  obtain ⟨i, hi⟩ := Int.eq_ofNat_of_zero_le (show 0 ≤ a % 8192 - 4096 by omega)
  have hil : i < 128 := by omega
  have i0 : ¬ (i : Int) < 0 := by omega
  have i1 : ¬ (128 : Int) ≤ (i : Int) := by omega
  have kn := num16_yes W (a % 8192) 4096 128 (by omega) (by omega) (by omega) (by omega) (by omega) (by omega) (by omega) (by omega)
  rw [hi] at kn
  have hin : (a % 8192 - 4096).toNat = i := by omega
  have hT : turnF c a x wr = none := by unfold turnF; simp [hk]; omega
  have hE : exF c a x = c.ex := by unfold exF; rw [if_neg]; rintro ⟨h', _⟩; rw [hr] at h'; cases h'
  have hA : armF c a = c.armed := by unfold armF; rw [if_neg (by omega)]
  have kh := hot_no W base b ib icap sb scap c hS hF (a % 8192) 4086 (by omega) (by omega) (by omega) (by omega) (.inl (by omega))
  clear hq
  go_enter Try.func14, Try.ntmps14
  go_wp2_with fail
  refine kn.mono ?_
  rintro e w' ⟨rfl, rfl⟩
  go_wp2_with fail
  refine kh.mono ?_
  rintro e w' ⟨rfl, rfl⟩
  go_wp2_with fail
  exact bodyPost_end (results_none rfl _ _ _) rfl ⟨rfl, by simpa only [watchF, shF, hT, hE, hA] using hS.drew, (Below.refl base _).drew, rfl, (Oth.refl b sb _).drew⟩
theorem watch_6 (W : World) (base b ib icap sb scap : Nat) (c : Ct) (hS : CartS W base b ib icap sb scap c) (hF : Fine c) (a x : Int) (wr : Bool) (a0 : 0 ≤ a) (a1 : a ≤ 65535) (x0 : 0 ≤ x) (x1 : x ≤ 255) (hk : c.k = 6) :
    Calls Try.prog 14 #[.pointer (some ⟨b, 0, none⟩), .int .u16 a, .int .u8 x, .bool wr] W (WPost W base b ib icap sb scap (watchF c a x wr)) := by
  by_cases hx : 4096 ≤ a % 8192 ∧ a % 8192 < 4224
  · exact w6_ext W base b ib icap sb scap c hS hF a x wr a0 a1 x0 x1 hk hx
  · by_cases h : 8182 ≤ a % 8192 ∧ a % 8192 ≤ 8185
    · exact w6_turn W base b ib icap sb scap c hS hF a x wr a0 a1 x0 x1 hk h
    · exact w6_none W base b ib icap sb scap c hS hF a x wr a0 a1 x0 x1 hk (by omega) (by omega)
theorem w7_turn (W : World) (base b ib icap sb scap : Nat) (c : Ct) (hS : CartS W base b ib icap sb scap c) (hF : Fine c) (a x : Int) (wr : Bool) (a0 : 0 ≤ a) (a1 : a ≤ 65535) (x0 : 0 ≤ x) (x1 : x ≤ 255) (hk : c.k = 7) (h : 8182 ≤ a % 8192 ∧ a % 8192 ≤ 8185) :
    Calls Try.prog 14 #[.pointer (some ⟨b, 0, none⟩), .int .u16 a, .int .u8 x, .bool wr] W (WPost W base b ib icap sb scap (watchF c a x wr)) := by
  have ht : c.tag.toList = [70, 54, 83, 67] := Img.toList_of c.tag 7 (by omega) hk
  have n1 := and8191 a a0 a1
  have c3 := hS.c3
  have hbb := hS.bb
  have hsl := hS.slt.1
  have hr : c.ram = true := by have := (fine_cases c hF).2.2.1; rw [hk] at this; exact this
  have c4 := hS.c4
  rw [hr] at c4
  obtain ⟨p1, p2, p3, p4, p5, p6, q1, q3, q4, q6, q8⟩ := fine_nums c hF
  have hq := q6 (by omega)
  clear p1 p2 p3 p4 p5 p6 q1 q3 q4 q6 q8
  have hT : turnF c a x wr = some (0, a % 8192 - 8182) := by unfold turnF; simp [hk, h.1, h.2]
  have hE : exF c a x = c.ex := by unfold exF; rw [if_neg]; rintro ⟨_, _, h'⟩; omega
  have hA : armF c a = c.armed := by unfold armF; rw [if_neg (by omega)]
  have kh := hot_yes W base b ib icap sb scap c hS hF (a % 8192) 4086 (by omega) (by omega) (by omega) (by omega) (by omega) (by omega) (by omega) (by omega)
  have hv : a % 8192 % 4096 - 4086 = a % 8192 - 8182 := by omega
  rw [hv] at kh
  clear hv hq
  go_enter Try.func14, Try.ntmps14
  go_wp2_with fail
  refine (num16_no W (a % 8192) 4096 128 (by omega) (by omega) (by omega) (by omega) (by omega) (by omega) (by omega)).mono ?_
  rintro e w' ⟨rfl, rfl⟩
  go_wp2_with fail
  refine kh.mono ?_
  rintro e w' ⟨rfl, rfl⟩
  go_wp2_with fail
  exact bodyPost_end (results_none rfl _ _ _) rfl ⟨rfl, by
    have := (hS.setSh 0 (by rw [hF.sh, hk]; have := hF.ok; rw [hk] at this; simp [Img.firstK, this]) (a % 8192 - 8182)).drew
    simp only [watchF, shF, hT, hE, hA]
    exact this, ((Below.refl base _).setCell hsl _).drew, by simp, ((Oth.refl b sb _).set _ (.inr rfl) _).drew⟩
theorem w7_none (W : World) (base b ib icap sb scap : Nat) (c : Ct) (hS : CartS W base b ib icap sb scap c) (hF : Fine c) (a x : Int) (wr : Bool) (a0 : 0 ≤ a) (a1 : a ≤ 65535) (x0 : 0 ≤ x) (x1 : x ≤ 255) (hk : c.k = 7) (h : a % 8192 < 8182 ∨ 8185 < a % 8192) (hx : a % 8192 < 4096 ∨ 4224 ≤ a % 8192) :
    Calls Try.prog 14 #[.pointer (some ⟨b, 0, none⟩), .int .u16 a, .int .u8 x, .bool wr] W (WPost W base b ib icap sb scap (watchF c a x wr)) := by
  have ht : c.tag.toList = [70, 54, 83, 67] := Img.toList_of c.tag 7 (by omega) hk
  have n1 := and8191 a a0 a1
  have c3 := hS.c3
  have hbb := hS.bb
  have hsl := hS.slt.1
  have hr : c.ram = true := by have := (fine_cases c hF).2.2.1; rw [hk] at this; exact this
  have c4 := hS.c4
  rw [hr] at c4
  obtain ⟨p1, p2, p3, p4, p5, p6, q1, q3, q4, q6, q8⟩ := fine_nums c hF
  have hq := q6 (by omega)
  clear p1 p2 p3 p4 p5 p6 q1 q3 q4 q6 q8
  have hT : turnF c a x wr = none := by unfold turnF; simp [hk]; omega
  have hE : exF c a x = c.ex := by unfold exF; rw [if_neg]; rintro ⟨_, _, h'⟩; omega
  have hA : armF c a = c.armed := by unfold armF; rw [if_neg (by omega)]
  have kh := hot_no W base b ib icap sb scap c hS hF (a % 8192) 4086 (by omega) (by omega) (by omega) (by omega) (by omega)
  clear hq
  go_enter Try.func14, Try.ntmps14
  go_wp2_with fail
  refine (num16_no W (a % 8192) 4096 128 (by omega) (by omega) (by omega) (by omega) (by omega) (by omega) (by omega)).mono ?_
  rintro e w' ⟨rfl, rfl⟩
  go_wp2_with fail
  refine kh.mono ?_
  rintro e w' ⟨rfl, rfl⟩
  go_wp2_with fail
  exact bodyPost_end (results_none rfl _ _ _) rfl ⟨rfl, by simpa only [watchF, shF, hT, hE, hA] using hS.drew, (Below.refl base _).drew, rfl, (Oth.refl b sb _).drew⟩
theorem w7_ext (W : World) (base b ib icap sb scap : Nat) (c : Ct) (hS : CartS W base b ib icap sb scap c) (hF : Fine c) (a x : Int) (wr : Bool) (a0 : 0 ≤ a) (a1 : a ≤ 65535) (x0 : 0 ≤ x) (x1 : x ≤ 255) (hk : c.k = 7) (hx : 4096 ≤ a % 8192 ∧ a % 8192 < 4224) :
    Calls Try.prog 14 #[.pointer (some ⟨b, 0, none⟩), .int .u16 a, .int .u8 x, .bool wr] W (WPost W base b ib icap sb scap (watchF c a x wr)) := by
  have ht : c.tag.toList = [70, 54, 83, 67] := Img.toList_of c.tag 7 (by omega) hk
  have n1 := and8191 a a0 a1
  have c3 := hS.c3
  have hbb := hS.bb
  have hsl := hS.slt.1
  have hr : c.ram = true := by have := (fine_cases c hF).2.2.1; rw [hk] at this; exact this
  have c4 := hS.c4
  rw [hr] at c4
  obtain ⟨p1, p2, p3, p4, p5, p6, q1, q3, q4, q6, q8⟩ := fine_nums c hF
  have hq := q6 (by omega)
  clear p1 p2 p3 p4 p5 p6 q1 q3 q4 q6 q8
  obtain ⟨i, hi⟩ := Int.eq_ofNat_of_zero_le (show 0 ≤ a % 8192 - 4096 by omega)
  have hil : i < 128 := by omega
  have i0 : ¬ (i : Int) < 0 := by omega
  have i1 : ¬ (128 : Int) ≤ (i : Int) := by omega
  have kn := num16_yes W (a % 8192) 4096 128 (by omega) (by omega) (by omega) (by omega) (by omega) (by omega) (by omega) (by omega)
  rw [hi] at kn
  have hin : (a % 8192 - 4096).toNat = i := by omega
  have hT : turnF c a x wr = none := by unfold turnF; simp [hk]; omega
  have hE : exF c a x = c.ex.set i x := by unfold exF; rw [if_pos ⟨hr, hx⟩, hin]
  have hA : armF c a = c.armed := by unfold armF; rw [if_neg (by omega)]
  have cx := hS.cex hF i hil
  have fx := hS.fb (5 + i)
  have hS1 := hS.setEx hF.ex i hil x
  have kh := hot_no (W.setCell ⟨b, 5 + i, none⟩ (.int .u8 x)) base b ib icap sb scap _ hS1 (hF.setEx i x) (a % 8192) 4086 (by omega) (by omega) (by omega) (by omega) (.inl (by omega))
  clear hq
  go_enter Try.func14, Try.ntmps14
  go_wp2_with fail
  refine kn.mono ?_
  rintro e w' ⟨rfl, rfl⟩
  go_wp2_with fail
  refine kh.mono ?_
  rintro e w' ⟨rfl, rfl⟩
  go_wp2_with fail
  exact bodyPost_end (results_none rfl _ _ _) rfl ⟨rfl, by simpa only [watchF, shF, hT, hE, hA] using hS1.drew, ((Below.refl base _).setCell hbb _).drew, by simp, ((Oth.refl b sb _).set _ (.inl rfl) _).drew⟩
theorem watch_7 (W : World) (base b ib icap sb scap : Nat) (c : Ct) (hS : CartS W base b ib icap sb scap c) (hF : Fine c) (a x : Int) (wr : Bool) (a0 : 0 ≤ a) (a1 : a ≤ 65535) (x0 : 0 ≤ x) (x1 : x ≤ 255) (hk : c.k = 7) :
    Calls Try.prog 14 #[.pointer (some ⟨b, 0, none⟩), .int .u16 a, .int .u8 x, .bool wr] W (WPost W base b ib icap sb scap (watchF c a x wr)) := by
  by_cases hx : 4096 ≤ a % 8192 ∧ a % 8192 < 4224
  · exact w7_ext W base b ib icap sb scap c hS hF a x wr a0 a1 x0 x1 hk hx
  · by_cases h : 8182 ≤ a % 8192 ∧ a % 8192 ≤ 8185
    · exact w7_turn W base b ib icap sb scap c hS hF a x wr a0 a1 x0 x1 hk h
    · exact w7_none W base b ib icap sb scap c hS hF a x wr a0 a1 x0 x1 hk (by omega) (by omega)
theorem w4_turn (W : World) (base b ib icap sb scap : Nat) (c : Ct) (hS : CartS W base b ib icap sb scap c) (hF : Fine c) (a x : Int) (wr : Bool) (a0 : 0 ≤ a) (a1 : a ≤ 65535) (x0 : 0 ≤ x) (x1 : x ≤ 255) (hk : c.k = 4) (h : 8180 ≤ a % 8192 ∧ a % 8192 ≤ 8187) :
    Calls Try.prog 14 #[.pointer (some ⟨b, 0, none⟩), .int .u16 a, .int .u8 x, .bool wr] W (WPost W base b ib icap sb scap (watchF c a x wr)) := by
  have ht : c.tag.toList = [70, 52] := Img.toList_of c.tag 4 (by omega) hk
  have n1 := and8191 a a0 a1
  have c3 := hS.c3
  have hbb := hS.bb
  have hsl := hS.slt.1
  have hr : c.ram = false := by have := (fine_cases c hF).2.2.1; rw [hk] at this; exact this
  have c4 := hS.c4
  rw [hr] at c4
  obtain ⟨p1, p2, p3, p4, p5, p6, q1, q3, q4, q6, q8⟩ := fine_nums c hF
  have hq := q4 (by omega)
  clear p1 p2 p3 p4 p5 p6 q1 q3 q4 q6 q8
  have hT : turnF c a x wr = some (0, a % 8192 - 8180) := by unfold turnF; simp [hk, h.1, h.2]
  have hE : exF c a x = c.ex := by unfold exF; rw [if_neg]; rintro ⟨_, _, h'⟩; omega
  have hA : armF c a = c.armed := by unfold armF; rw [if_neg (by omega)]
  have kh := hot_yes W base b ib icap sb scap c hS hF (a % 8192) 4084 (by omega) (by omega) (by omega) (by omega) (by omega) (by omega) (by omega) (by omega)
  have hv : a % 8192 % 4096 - 4084 = a % 8192 - 8180 := by omega
  rw [hv] at kh
  clear hv hq
  go_enter Try.func14, Try.ntmps14
  go_wp2_with fail
  refine (num16_no W (a % 8192) 4096 128 (by omega) (by omega) (by omega) (by omega) (by omega) (by omega) (by omega)).mono ?_
  rintro e w' ⟨rfl, rfl⟩
  go_wp2_with fail
  refine kh.mono ?_
  rintro e w' ⟨rfl, rfl⟩
  go_wp2_with fail
  exact bodyPost_end (results_none rfl _ _ _) rfl ⟨rfl, by
    have := (hS.setSh 0 (by rw [hF.sh, hk]; have := hF.ok; rw [hk] at this; simp [Img.firstK, this]) (a % 8192 - 8180)).drew
    simp only [watchF, shF, hT, hE, hA]
    exact this, ((Below.refl base _).setCell hsl _).drew, by simp, ((Oth.refl b sb _).set _ (.inr rfl) _).drew⟩
theorem w4_none (W : World) (base b ib icap sb scap : Nat) (c : Ct) (hS : CartS W base b ib icap sb scap c) (hF : Fine c) (a x : Int) (wr : Bool) (a0 : 0 ≤ a) (a1 : a ≤ 65535) (x0 : 0 ≤ x) (x1 : x ≤ 255) (hk : c.k = 4) (h : a % 8192 < 8180 ∨ 8187 < a % 8192) (hx : a % 8192 < 4096 ∨ 4224 ≤ a % 8192) :
    Calls Try.prog 14 #[.pointer (some ⟨b, 0, none⟩), .int .u16 a, .int .u8 x, .bool wr] W (WPost W base b ib icap sb scap (watchF c a x wr)) := by
  have ht : c.tag.toList = [70, 52] := Img.toList_of c.tag 4 (by omega) hk
  have n1 := and8191 a a0 a1
  have c3 := hS.c3
  have hbb := hS.bb
  have hsl := hS.slt.1
  have hr : c.ram = false := by have := (fine_cases c hF).2.2.1; rw [hk] at this; exact this
  have c4 := hS.c4
  rw [hr] at c4
  obtain ⟨p1, p2, p3, p4, p5, p6, q1, q3, q4, q6, q8⟩ := fine_nums c hF
  have hq := q4 (by omega)
  clear p1 p2 p3 p4 p5 p6 q1 q3 q4 q6 q8
  have hT : turnF c a x wr = none := by unfold turnF; simp [hk]; omega
  have hE : exF c a x = c.ex := by unfold exF; rw [if_neg]; rintro ⟨_, _, h'⟩; omega
  have hA : armF c a = c.armed := by unfold armF; rw [if_neg (by omega)]
  have kh := hot_no W base b ib icap sb scap c hS hF (a % 8192) 4084 (by omega) (by omega) (by omega) (by omega) (by omega)
  clear hq
  go_enter Try.func14, Try.ntmps14
  go_wp2_with fail
  refine (num16_no W (a % 8192) 4096 128 (by omega) (by omega) (by omega) (by omega) (by omega) (by omega) (by omega)).mono ?_
  rintro e w' ⟨rfl, rfl⟩
  go_wp2_with fail
  refine kh.mono ?_
  rintro e w' ⟨rfl, rfl⟩
  go_wp2_with fail
  exact bodyPost_end (results_none rfl _ _ _) rfl ⟨rfl, by simpa only [watchF, shF, hT, hE, hA] using hS.drew, (Below.refl base _).drew, rfl, (Oth.refl b sb _).drew⟩
theorem w4_ext (W : World) (base b ib icap sb scap : Nat) (c : Ct) (hS : CartS W base b ib icap sb scap c) (hF : Fine c) (a x : Int) (wr : Bool) (a0 : 0 ≤ a) (a1 : a ≤ 65535) (x0 : 0 ≤ x) (x1 : x ≤ 255) (hk : c.k = 4) (hx : 4096 ≤ a % 8192 ∧ a % 8192 < 4224) :
    Calls Try.prog 14 #[.pointer (some ⟨b, 0, none⟩), .int .u16 a, .int .u8 x, .bool wr] W (WPost W base b ib icap sb scap (watchF c a x wr)) := by
  have ht : c.tag.toList = [70, 52] := Img.toList_of c.tag 4 (by omega) hk
  have n1 := and8191 a a0 a1
  have c3 := hS.c3
  have hbb := hS.bb
  have hsl := hS.slt.1
  have hr : c.ram = false := by have := (fine_cases c hF).2.2.1; rw [hk] at this; exact this
  have c4 := hS.c4
  rw [hr] at c4
  obtain ⟨p1, p2, p3, p4, p5, p6, q1, q3, q4, q6, q8⟩ := fine_nums c hF
  have hq := q4 (by omega)
  clear p1 p2 p3 p4 p5 p6 q1 q3 q4 q6 q8
  obtain ⟨i, hi⟩ := Int.eq_ofNat_of_zero_le (show 0 ≤ a % 8192 - 4096 by omega)
  have hil : i < 128 := by omega
  have i0 : ¬ (i : Int) < 0 := by omega
  have i1 : ¬ (128 : Int) ≤ (i : Int) := by omega
  have kn := num16_yes W (a % 8192) 4096 128 (by omega) (by omega) (by omega) (by omega) (by omega) (by omega) (by omega) (by omega)
  rw [hi] at kn
  have hin : (a % 8192 - 4096).toNat = i := by omega
  have hT : turnF c a x wr = none := by unfold turnF; simp [hk]; omega
  have hE : exF c a x = c.ex := by unfold exF; rw [if_neg]; rintro ⟨h', _⟩; rw [hr] at h'; cases h'
  have hA : armF c a = c.armed := by unfold armF; rw [if_neg (by omega)]
  have kh := hot_no W base b ib icap sb scap c hS hF (a % 8192) 4084 (by omega) (by omega) (by omega) (by omega) (.inl (by omega))
  clear hq
  go_enter Try.func14, Try.ntmps14
  go_wp2_with fail
  refine kn.mono ?_
  rintro e w' ⟨rfl, rfl⟩
  go_wp2_with fail
  refine kh.mono ?_
  rintro e w' ⟨rfl, rfl⟩
  go_wp2_with fail
  exact bodyPost_end (results_none rfl _ _ _) rfl ⟨rfl, by simpa only [watchF, shF, hT, hE, hA] using hS.drew, (Below.refl base _).drew, rfl, (Oth.refl b sb _).drew⟩
theorem watch_4 (W : World) (base b ib icap sb scap : Nat) (c : Ct) (hS : CartS W base b ib icap sb scap c) (hF : Fine c) (a x : Int) (wr : Bool) (a0 : 0 ≤ a) (a1 : a ≤ 65535) (x0 : 0 ≤ x) (x1 : x ≤ 255) (hk : c.k = 4) :
    Calls Try.prog 14 #[.pointer (some ⟨b, 0, none⟩), .int .u16 a, .int .u8 x, .bool wr] W (WPost W base b ib icap sb scap (watchF c a x wr)) := by
  by_cases hx : 4096 ≤ a % 8192 ∧ a % 8192 < 4224
  · exact w4_ext W base b ib icap sb scap c hS hF a x wr a0 a1 x0 x1 hk hx
  · by_cases h : 8180 ≤ a % 8192 ∧ a % 8192 ≤ 8187
    · exact w4_turn W base b ib icap sb scap c hS hF a x wr a0 a1 x0 x1 hk h
    · exact w4_none W base b ib icap sb scap c hS hF a x wr a0 a1 x0 x1 hk (by omega) (by omega)
theorem w5_turn (W : World) (base b ib icap sb scap : Nat) (c : Ct) (hS : CartS W base b ib icap sb scap c) (hF : Fine c) (a x : Int) (wr : Bool) (a0 : 0 ≤ a) (a1 : a ≤ 65535) (x0 : 0 ≤ x) (x1 : x ≤ 255) (hk : c.k = 5) (h : 8180 ≤ a % 8192 ∧ a % 8192 ≤ 8187) :
    Calls Try.prog 14 #[.pointer (some ⟨b, 0, none⟩), .int .u16 a, .int .u8 x, .bool wr] W (WPost W base b ib icap sb scap (watchF c a x wr)) := by
  have ht : c.tag.toList = [70, 52, 83, 67] := Img.toList_of c.tag 5 (by omega) hk
  have n1 := and8191 a a0 a1
  have c3 := hS.c3
  have hbb := hS.bb
  have hsl := hS.slt.1
  have hr : c.ram = true := by have := (fine_cases c hF).2.2.1; rw [hk] at this; exact this
  have c4 := hS.c4
  rw [hr] at c4
  obtain ⟨p1, p2, p3, p4, p5, p6, q1, q3, q4, q6, q8⟩ := fine_nums c hF
  have hq := q4 (by omega)
  clear p1 p2 p3 p4 p5 p6 q1 q3 q4 q6 q8
  have hT : turnF c a x wr = some (0, a % 8192 - 8180) := by unfold turnF; simp [hk, h.1, h.2]
  have hE : exF c a x = c.ex := by unfold exF; rw [if_neg]; rintro ⟨_, _, h'⟩; omega
  have hA : armF c a = c.armed := by unfold armF; rw [if_neg (by omega)]
  have kh := hot_yes W base b ib icap sb scap c hS hF (a % 8192) 4084 (by omega) (by omega) (by omega) (by omega) (by omega) (by omega) (by omega) (by omega)
  have hv : a % 8192 % 4096 - 4084 = a % 8192 - 8180 := by omega
  rw [hv] at kh
  clear hv hq
  go_enter Try.func14, Try.ntmps14
  go_wp2_with fail
  refine (num16_no W (a % 8192) 4096 128 (by omega) (by omega) (by omega) (by omega) (by omega) (by omega) (by omega)).mono ?_
  rintro e w' ⟨rfl, rfl⟩
  go_wp2_with fail
  refine kh.mono ?_
  rintro e w' ⟨rfl, rfl⟩
  go_wp2_with fail
  exact bodyPost_end (results_none rfl _ _ _) rfl ⟨rfl, by
    have := (hS.setSh 0 (by rw [hF.sh, hk]; have := hF.ok; rw [hk] at this; simp [Img.firstK, this]) (a % 8192 - 8180)).drew
    simp only [watchF, shF, hT, hE, hA]
    exact this, ((Below.refl base _).setCell hsl _).drew, by simp, ((Oth.refl b sb _).set _ (.inr rfl) _).drew⟩
theorem w5_none (W : World) (base b ib icap sb scap : Nat) (c : Ct) (hS : CartS W base b ib icap sb scap c) (hF : Fine c) (a x : Int) (wr : Bool) (a0 : 0 ≤ a) (a1 : a ≤ 65535) (x0 : 0 ≤ x) (x1 : x ≤ 255) (hk : c.k = 5) (h : a % 8192 < 8180 ∨ 8187 < a % 8192) (hx : a % 8192 < 4096 ∨ 4224 ≤ a % 8192) :
    Calls Try.prog 14 #[.pointer (some ⟨b, 0, none⟩), .int .u16 a, .int .u8 x, .bool wr] W (WPost W base b ib icap sb scap (watchF c a x wr)) := by
  have ht : c.tag.toList = [70, 52, 83, 67] := Img.toList_of c.tag 5 (by omega) hk
  have n1 := and8191 a a0 a1
  have c3 := hS.c3
  have hbb := hS.bb
  have hsl := hS.slt.1
  have hr : c.ram = true := by have := (fine_cases c hF).2.2.1; rw [hk] at this; exact this
  have c4 := hS.c4
  rw [hr] at c4
  obtain ⟨p1, p2, p3, p4, p5, p6, q1, q3, q4, q6, q8⟩ := fine_nums c hF
  have hq := q4 (by omega)
  clear p1 p2 p3 p4 p5 p6 q1 q3 q4 q6 q8
  have hT : turnF c a x wr = none := by unfold turnF; simp [hk]; omega
  have hE : exF c a x = c.ex := by unfold exF; rw [if_neg]; rintro ⟨_, _, h'⟩; omega
  have hA : armF c a = c.armed := by unfold armF; rw [if_neg (by omega)]
  have kh := hot_no W base b ib icap sb scap c hS hF (a % 8192) 4084 (by omega) (by omega) (by omega) (by omega) (by omega)
  clear hq
  go_enter Try.func14, Try.ntmps14
  go_wp2_with fail
  refine (num16_no W (a % 8192) 4096 128 (by omega) (by omega) (by omega) (by omega) (by omega) (by omega) (by omega)).mono ?_
  rintro e w' ⟨rfl, rfl⟩
  go_wp2_with fail
  refine kh.mono ?_
  rintro e w' ⟨rfl, rfl⟩
  go_wp2_with fail
  exact bodyPost_end (results_none rfl _ _ _) rfl ⟨rfl, by simpa only [watchF, shF, hT, hE, hA] using hS.drew, (Below.refl base _).drew, rfl, (Oth.refl b sb _).drew⟩
theorem w5_ext (W : World) (base b ib icap sb scap : Nat) (c : Ct) (hS : CartS W base b ib icap sb scap c) (hF : Fine c) (a x : Int) (wr : Bool) (a0 : 0 ≤ a) (a1 : a ≤ 65535) (x0 : 0 ≤ x) (x1 : x ≤ 255) (hk : c.k = 5) (hx : 4096 ≤ a % 8192 ∧ a % 8192 < 4224) :
    Calls Try.prog 14 #[.pointer (some ⟨b, 0, none⟩), .int .u16 a, .int .u8 x, .bool wr] W (WPost W base b ib icap sb scap (watchF c a x wr)) := by
  have ht : c.tag.toList = [70, 52, 83, 67] := Img.toList_of c.tag 5 (by omega) hk
  have n1 := and8191 a a0 a1
  have c3 := hS.c3
  have hbb := hS.bb
  have hsl := hS.slt.1
  have hr : c.ram = true := by have := (fine_cases c hF).2.2.1; rw [hk] at this; exact this
  have c4 := hS.c4
  rw [hr] at c4
  obtain ⟨p1, p2, p3, p4, p5, p6, q1, q3, q4, q6, q8⟩ := fine_nums c hF
  have hq := q4 (by omega)
  clear p1 p2 p3 p4 p5 p6 q1 q3 q4 q6 q8
  obtain ⟨i, hi⟩ := Int.eq_ofNat_of_zero_le (show 0 ≤ a % 8192 - 4096 by omega)
  have hil : i < 128 := by omega
  have i0 : ¬ (i : Int) < 0 := by omega
  have i1 : ¬ (128 : Int) ≤ (i : Int) := by omega
  have kn := num16_yes W (a % 8192) 4096 128 (by omega) (by omega) (by omega) (by omega) (by omega) (by omega) (by omega) (by omega)
  rw [hi] at kn
  have hin : (a % 8192 - 4096).toNat = i := by omega
  have hT : turnF c a x wr = none := by unfold turnF; simp [hk]; omega
  have hE : exF c a x = c.ex.set i x := by unfold exF; rw [if_pos ⟨hr, hx⟩, hin]
  have hA : armF c a = c.armed := by unfold armF; rw [if_neg (by omega)]
  have cx := hS.cex hF i hil
  have fx := hS.fb (5 + i)
  have hS1 := hS.setEx hF.ex i hil x
  have kh := hot_no (W.setCell ⟨b, 5 + i, none⟩ (.int .u8 x)) base b ib icap sb scap _ hS1 (hF.setEx i x) (a % 8192) 4084 (by omega) (by omega) (by omega) (by omega) (.inl (by omega))
  clear hq
  go_enter Try.func14, Try.ntmps14
  go_wp2_with fail
  refine kn.mono ?_
  rintro e w' ⟨rfl, rfl⟩
  go_wp2_with fail
  refine kh.mono ?_
  rintro e w' ⟨rfl, rfl⟩
  go_wp2_with fail
  exact bodyPost_end (results_none rfl _ _ _) rfl ⟨rfl, by simpa only [watchF, shF, hT, hE, hA] using hS1.drew, ((Below.refl base _).setCell hbb _).drew, by simp, ((Oth.refl b sb _).set _ (.inl rfl) _).drew⟩
theorem watch_5 (W : World) (base b ib icap sb scap : Nat) (c : Ct) (hS : CartS W base b ib icap sb scap c) (hF : Fine c) (a x : Int) (wr : Bool) (a0 : 0 ≤ a) (a1 : a ≤ 65535) (x0 : 0 ≤ x) (x1 : x ≤ 255) (hk : c.k = 5) :
    Calls Try.prog 14 #[.pointer (some ⟨b, 0, none⟩), .int .u16 a, .int .u8 x, .bool wr] W (WPost W base b ib icap sb scap (watchF c a x wr)) := by
  by_cases hx : 4096 ≤ a % 8192 ∧ a % 8192 < 4224
  · exact w5_ext W base b ib icap sb scap c hS hF a x wr a0 a1 x0 x1 hk hx
  · by_cases h : 8180 ≤ a % 8192 ∧ a % 8192 ≤ 8187
    · exact w5_turn W base b ib icap sb scap c hS hF a x wr a0 a1 x0 x1 hk h
    · exact w5_none W base b ib icap sb scap c hS hF a x wr a0 a1 x0 x1 hk (by omega) (by omega)
end Go.Proofs.Ytfdmbgmhgbhggaa.Ca
