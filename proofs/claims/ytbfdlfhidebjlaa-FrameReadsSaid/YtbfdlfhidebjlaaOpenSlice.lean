/- An argument that is a slice of whole numbers, opened: what lies in it. -/
import Derived.Test.YtbfdlfhidebjlaaCell
import Derived.Test.YtbfdlfhidebjlaaFrame
namespace Go.Proofs.Ytbfdlfhidebjlaa.Cl
open Go.ChangeShapes Go.WideShapes Go.ChangeAt Go.RowKit
set_option linter.unusedVariables false
theorem open_lies {H : Type} {enc : TypeId × Value → H} {P : Program} {W : World} {t e : TypeId} {k : IntKind} {ao : Option Addr} {n c : Nat} {d : DataW H} {p : List MemPlace}
    (ht : P.underlying t = some (.slice e)) (he : P.underlying e = some (.int k)) (hc : P.cellsOf e = 1)
    (h : DataW.Trod enc P W 0 (fun _ => true) true t (.slice ao n c) d p) (hlt : ∀ x ∈ p, x.block < W.heap.size) :
    ∃ xs : List Int, xs.length = n ∧ Lies W 1 (.slice ao xs.length c) xs.length (xs.map (Value.int k)) ∧ ∀ z ∈ xs, (Lit.int k z).wf = true := by
  obtain ⟨fuel, hf⟩ := h
  rcases open_ints ht he hc hf with ⟨hcs, hx⟩ | ⟨a, len', cap', zs, hcs, _, hl, hm, hz, hx, hcell, hwz⟩
  · simp [Value.cells] at hcs
    obtain ⟨rfl, rfl, rfl⟩ := hcs
    exact ⟨[], rfl, ⟨rfl, none, 0, rfl, ⟨Nat.le_refl _, fun _ => rfl⟩, .inl rfl⟩, fun z hz => by cases hz⟩
  · simp [Value.cells] at hcs
    obtain ⟨rfl, rfl, rfl⟩ := hcs
    simp only [Prod.mk.injEq] at hx
    obtain ⟨rfl, rfl⟩ := hx
    simp only [if_true] at hz
    have hlen : (zs.take n).length = n := by simp; omega
    refine ⟨zs.take n, hlen, ⟨by simp, some a, c, rfl, ⟨by omega, fun h => by cases h⟩, ?_⟩, fun z hz => hwz z (List.mem_of_mem_take hz)⟩
    by_cases hn : n = 0
    · left; omega
    · right
      obtain ⟨b, off, spot⟩ := a
      have hspot : spot = none := by simpa [Addr.add] using World.cell?_spot (hcell 0 (by omega))
      subst hspot
      refine ⟨b, off, rfl, hlt (.cell b off) (MemPlace.mem_row.2 ⟨0, by omega, by simp⟩), fun i u hu => ?_⟩
      rw [List.getElem?_map, List.getElem?_take] at hu
      split at hu
      · rw [← add_plain, hcell i (by omega)]
        have hi : i < zs.length := by omega
        rw [List.getElem?_eq_getElem hi] at hu
        simp only [Option.map_some] at hu
        rw [← hu]
        simp [List.getD, hi]
      · cases hu
end Go.Proofs.Ytbfdlfhidebjlaa.Cl
