/- Package cell: a ring as the list of what it holds. -/
import Derived.Test.YtcaffmkghllmgaaCellLst
import Derived.Test.YtcaffmkghllmgaaCellNew
namespace Go.Proofs.Ytcaffmkghllmgaa.Cl
open Go.RowKit Go.Deep
set_option linter.unusedVariables false
set_option linter.unusedSimpArgs false

theorem modform {first room i : Nat} (hf : first < room) (hi : i < room) : (first + i) % room = if first + i < room then first + i else first + i - room := by
  split
  · exact Nat.mod_eq_of_lt (by assumption)
  · rw [Nat.mod_eq_sub_mod (by omega)]; exact Nat.mod_eq_of_lt (by omega)
/-- The ring at b, with its room in g, holds just these things, the eldest first. -/
def RingD (W : World) (b g room : Nat) (D : List Int) : Prop :=
  ∃ first cs, RingS 77 3 W b g room first D.length cs ∧ ∀ i x, D[i]? = some x → cs[(first + i) % room]? = some (.int .i64 x)
theorem RingD.below {W W' : World} {b g room : Nat} {D : List Int} (h : RingD W b g room D) (hb : Below W.heap.size W W') : RingD W' b g room D := by
  obtain ⟨f, cs, h, hc⟩ := h; exact ⟨f, cs, h.below hb, hc⟩
theorem RingD.drew {W : World} {b g room : Nat} {D : List Int} (h : RingD W b g room D) : RingD W.drew b g room D := by
  obtain ⟨f, cs, h, hc⟩ := h; exact ⟨f, cs, h.drew, hc⟩
theorem RingD.lt {W : World} {b g room : Nat} {D : List Int} (h : RingD W b g room D) : b < W.heap.size ∧ g < W.heap.size := by
  obtain ⟨f, cs, h, hc⟩ := h; exact h.lt
theorem RingD.le {W : World} {b g room : Nat} {D : List Int} (h : RingD W b g room D) : D.length ≤ room ∧ room ≤ 65536 := by
  obtain ⟨f, cs, h, hc⟩ := h; exact ⟨h.n, h.most⟩
theorem RingD.zero {W : World} {b g room : Nat} (h : RingS 77 3 W b g room 0 0 (List.replicate room (.int .i64 0))) : RingD W b g room [] := ⟨0, _, h, fun i x hx => by simp at hx⟩
/-- What a put leaves, and tells. -/
def putL (room : Nat) (D : List Int) (x : Int) : List Int := if D.length < room then D ++ [x] else (D ++ [x]).tail
def putO (room : Nat) (D : List Int) (x : Int) : Int := if D.length < room then 0 else (D ++ [x]).head?.getD 0
def putB (room : Nat) (D : List Int) : Bool := decide (¬ D.length < room)

theorem put_ring (W : World) (b g room : Nat) (D : List Int) (h : RingD W b g room D) (x : Int) :
    Calls Try.prog 16 #[.pointer (some ⟨b, 0, none⟩), .int .i64 x] W fun e w' => e = .returned (.tuple #[.int .i64 (putO room D x), .bool (putB room D)]) ∧ RingD w' b g room (putL room D x) ∧ Oth b g W w' := by
  obtain ⟨first, cs, hS, hc⟩ := h
  have hf := hS.first
  have hl := hS.len
  by_cases hn : D.length < room
  · refine (putlt_int W b g room first D.length cs hS hn x).mono ?_
    rintro e w' ⟨rfl, hS', ho⟩
    refine ⟨by simp [putO, putB, hn], ⟨first, _, by simpa [putL, hn] using hS', ?_⟩, ho⟩
    intro i y hy
    simp only [putL, if_pos hn] at hy
    have hi : i < D.length + 1 := by have := (List.getElem?_eq_some_iff.1 hy).1; simpa using this
    by_cases e : i = D.length
    · subst e
      rw [List.getElem?_append_right (by omega)] at hy
      simp at hy
      subst hy
      rw [List.getElem?_set_self (by rw [hl]; exact Nat.mod_lt _ (by omega))]
    · rw [List.getElem?_append_left (by omega)] at hy
      rw [List.getElem?_set_ne (by rw [modform hf hn, modform hf (by omega)]; split <;> split <;> omega)]
      exact hc i y hy
  · have hnr : D.length = room := by have := hS.n; omega
    have h0 : D ≠ [] := by intro e; rw [e] at hnr; simp at hnr; omega
    obtain ⟨d, D', rfl⟩ := List.exists_cons_of_ne_nil h0
    have ho : cs[first]? = some (.int .i64 d) := by
      have := hc 0 d rfl
      rwa [Nat.add_zero, Nat.mod_eq_of_lt hf] at this
    refine (putfull_int W b g room first _ cs hS hnr x d ho).mono ?_
    rintro e w' ⟨rfl, hS', ho'⟩
    have e1 : putL room (d :: D') x = D' ++ [x] := by rw [putL, if_neg hn]; rfl
    have e2 : putO room (d :: D') x = d := by rw [putO, if_neg hn]; rfl
    have e3 : putB room (d :: D') = true := by rw [putB]; exact decide_eq_true hn
    rw [e1, e2, e3]
    refine ⟨rfl, ⟨(first + 1) % room, cs.set first (.int .i64 x), by simpa using hS', ?_⟩, ho'⟩
    intro i y hy
    simp only [List.length_cons] at hnr
    have hi : i < D'.length + 1 := by have := (List.getElem?_eq_some_iff.1 hy).1; simpa using this
    rw [Nat.mod_add_mod]
    by_cases e : i = D'.length
    · subst e
      rw [List.getElem?_append_right (by omega)] at hy
      simp at hy
      subst hy
      rw [show first + 1 + D'.length = first + room from by omega, Nat.add_mod_right, Nat.mod_eq_of_lt hf, List.getElem?_set_self (by omega)]
    · rw [List.getElem?_append_left (by omega)] at hy
      rw [show first + 1 + i = first + (i + 1) from by omega, List.getElem?_set_ne (by rw [modform hf (by omega)]; split <;> omega)]
      exact hc (i + 1) y (by simpa using hy)
theorem list_ring (W : World) (b g room : Nat) (D : List Int) (h : RingD W b g room D) :
    Calls Try.prog 17 #[.pointer (some ⟨b, 0, none⟩)] W fun e W' => ∃ v, e = .returned v ∧ W'.ownsRow W.heap.size 3 1 v D.length (D.map (Value.int .i64)) ∧ Below W.heap.size W W' := by
  obtain ⟨first, cs, hS, hc⟩ := h
  exact list_int W b g room first _ cs D rfl hc hS
theorem len_ring (W : World) (b g room : Nat) (D : List Int) (h : RingD W b g room D) :
    Calls Try.prog 20 #[.pointer (some ⟨b, 0, none⟩)] W fun e w' => e = .returned (.int .i64 D.length) ∧ w' = W := by
  obtain ⟨first, cs, hS, hc⟩ := h
  exact len_int W b g room first _ cs hS
end Go.Proofs.Ytcaffmkghllmgaa.Cl
