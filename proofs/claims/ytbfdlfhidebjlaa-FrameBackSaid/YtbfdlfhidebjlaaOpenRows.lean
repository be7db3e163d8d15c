/- An argument that is a slice of slices of bytes, opened: what lies in it. -/
import Derived.Test.YtbfdlfhidebjlaaOpenSlice
import Derived.Test.YtbfdlfhidebjlaaAppendOf
import Derived.Test.YtbfdlfhidebjlaaFrStr
import Derived.Test.YtbfdlfhidebjlaaFrRowsT
namespace Go.Proofs.Ytbfdlfhidebjlaa.Cl
open Go.ChangeShapes Go.WideShapes Go.ChangeAt Go.RowKit
set_option linter.unusedVariables false
theorem open_rows {H : Type} {enc : TypeId × Value → H} {P : Program} {W : World} {t e e8 : TypeId} {ao : Option Addr} {n c : Nat} {d : DataW H} {p : List MemPlace}
    (ht : P.underlying t = some (.slice e)) (hte : P.underlying e = some (.slice e8)) (he8 : P.underlying e8 = some (.int .u8)) (hc1 : P.cellsOf e = 1) (hc8 : P.cellsOf e8 = 1)
    (h : DataW.Trod enc P W 0 (fun _ => true) true t (.slice ao n c) d p) (hlt : ∀ x ∈ p, x.block < W.heap.size) :
    ∃ rows : List (List Int), Pic W (.slice ao n c) rows ∧ (∀ r ∈ rows, Byt r) ∧ n ≤ 9223372036854775807 := by
  obtain ⟨fuel, hf⟩ := h
  rcases DataW.trod_slice ht hf with ⟨h0, _⟩ | ⟨a, len, cap, elems, rest, m, _, h1, h2, hb, hl, hm, hlen, hel, hsp, hns⟩
  · simp [Value.cells] at h0
    obtain ⟨rfl, rfl, rfl⟩ := h0
    exact ⟨[], Pic.nil W, fun r h => by (cases h), by decide⟩
  · simp [Value.cells] at h1
    obtain ⟨rfl, rfl, rfl⟩ := h1
    simp only [Prod.mk.injEq] at h2
    obtain ⟨rfl, rfl⟩ := h2
    rw [hc1] at hel hlt
    have each : ∀ i, i < n → ∃ (v : Value) (row : List Int), W.cell? (a.add i) = some v ∧ Lies W 1 v row.length (row.map (Value.int .u8)) ∧ Byt row := by
      intro i hi
      have h3 := hel i hi
      have hie : i < elems.length := by omega
      rw [List.getElem?_eq_getElem hie, Option.bind_eq_some_iff] at h3
      obtain ⟨cs, g1, g2⟩ := h3
      obtain ⟨_, gl, gc⟩ := World.cells?_some g1
      match cs, gl with
      | [v], _ =>
        have hv := gc 0 (by decide)
        rw [Nat.mul_one, Addr.add_add, Nat.add_zero] at hv
        have hpl : ∀ x ∈ elems[i].2, x.block < W.heap.size := fun x hx => hlt x (List.mem_append_right _ (List.mem_flatMap.2 ⟨elems[i], List.mem_append_left _ (List.getElem_mem hie), hx⟩))
        have hvs : ∃ ao' n' c', v = .slice ao' n' c' := by
          rcases DataW.trod_slice hte g2 with ⟨h0, _⟩ | ⟨a, len, cap, _, _, _, _, h1, _⟩
          · simp at h0; exact ⟨_, _, _, h0⟩
          · simp at h1; exact ⟨_, _, _, h1⟩
        obtain ⟨ao', n', c', rfl⟩ := hvs
        obtain ⟨xs, hxl, hL, hw⟩ := open_lies (d := elems[i].1) (p := elems[i].2) hte he8 hc8 ⟨m, by simpa [Value.cells] using g2⟩ hpl
        subst hxl
        exact ⟨_, xs, hv, hL, fun z hz => by have := bounds_u8 (hw z hz); omega⟩
    have build : ∀ k, k ≤ n → ∃ (vs : List Value) (rows : List (List Int)), vs.length = k ∧ rows.length = k ∧ (∀ i v, vs[i]? = some v → W.cell? (a.add i) = some v) ∧ (∀ (y : Nat) u row, vs[y]? = some u → rows[y]? = some row → Lies W 1 u row.length (row.map (Value.int .u8))) ∧ ∀ r ∈ rows, Byt r := by
      intro k
      induction k with
      | zero => exact fun _ => ⟨[], [], rfl, rfl, fun i v h => by simp at h, fun y u row h => by simp at h, fun r h => by cases h⟩
      | succ k ih =>
        intro hk
        obtain ⟨vs, rows, e1, e2, e3, e4, e5⟩ := ih (by omega)
        obtain ⟨v, row, g1, g2, g3⟩ := each k (by omega)
        refine ⟨vs ++ [v], rows ++ [row], by simp [e1], by simp [e2], fun i u hu => ?_, fun y u r hu hr => ?_, fun r hr => ?_⟩
        · rw [List.getElem?_append] at hu
          split at hu
          · exact e3 i u hu
          · have hik : i = k := by have := (List.getElem?_eq_some_iff.1 hu).1; simp at this; omega
            subst hik
            rw [e1, Nat.sub_self] at hu
            obtain rfl : v = u := by simpa using hu
            exact g1
        · rw [List.getElem?_append] at hu hr
          by_cases hyk : y < k
          · rw [if_pos (by omega)] at hu hr
            exact e4 y u r hu hr
          · rw [if_neg (by omega)] at hu hr
            have hik : y = k := by have := (List.getElem?_eq_some_iff.1 hu).1; simp at this; omega
            subst hik
            rw [e1, Nat.sub_self] at hu
            rw [e2, Nat.sub_self] at hr
            obtain rfl : v = u := by simpa using hu
            obtain rfl : row = r := by simpa using hr
            exact g2
        · rcases List.mem_append.1 hr with h | h
          · exact e5 r h
          · rw [List.mem_singleton.1 h]; exact g3
    obtain ⟨vs, rows, e1, e2, e3, e4, e5⟩ := build n (Nat.le_refl _)
    refine ⟨rows, ⟨vs, ⟨by simp, some a, c, by rw [e1], ⟨by omega, fun h => by cases h⟩, ?_⟩, by omega, e4⟩, e5, by simp only [maxLen] at hm; omega⟩
    by_cases hn : n = 0
    · left; omega
    · right
      obtain ⟨b, off, spot⟩ := a
      have hspot : spot = none := by
        have := e3 0 _ (List.getElem?_eq_getElem (by omega))
        simpa [Addr.add] using World.cell?_spot this
      subst hspot
      refine ⟨b, off, rfl, hlt (.cell b off) (List.mem_append_left _ (MemPlace.mem_row.2 ⟨0, by omega, by simp⟩)), fun i u hu => ?_⟩
      have := e3 i u hu
      rwa [add0] at this
end Go.Proofs.Ytbfdlfhidebjlaa.Cl
