/- An argument that is a slice of structs of three whole numbers, opened: the cells that lie in it. -/
import Derived.Test.YtcaffmkghllmgaaOpenElems
namespace Go.Proofs.Ytcaffmkghllmgaa.Cl
open Go.ChangeShapes Go.WideShapes Go.ChangeAt Go.RowKit Go.Joins Go.Deep
set_option linter.unusedVariables false
theorem three_ints {H : Type} {enc : TypeId × Value → H} {P : Program} {W : World} {base : Nat} {spare : Nat → Bool} {held : Bool} {fuel : Nat} {t : TypeId} {f0 f1 f2 : Field} {cs : List Value} {y : DataW H × List MemPlace} (k k' k'' : IntKind)
    (hs : P.underlying t = some (.struct #[f0, f1, f2])) (hone : oneCellFields P #[f0, f1, f2] = true) (u0 : P.underlying f0.type = some (.int k)) (u1 : P.underlying f1.type = some (.int k')) (u2 : P.underlying f2.type = some (.int k'')) (hl : cs.length = 3)
    (h : DataW.trod enc P W base spare held fuel t cs = some y) : ∃ p : Int × Int × Int, cs = [.int k p.1, .int k' p.2.1, .int k'' p.2.2] := by
  match cs, hl with
  | [c0, c1, c2], _ =>
    obtain ⟨xs, n, _, hx, _, hlen, hg⟩ := DataW.trod_struct hs h
    match xs, hlen with
    | [y0, y1, y2], _ =>
      obtain ⟨o0, e0⟩ := hone_of hone 0 f0 rfl
      have g0 : DataW.trod enc P W base spare held n f0.type [c0] = some y0 := by simpa [o0, e0] using hg 0 f0 rfl
      obtain ⟨n0, z0, -, w0⟩ := DataW.trod_int u0 g0
      obtain rfl : c0 = _ := by simpa using z0
      obtain ⟨o1, e1⟩ := hone_of hone 1 f1 rfl
      have g1 : DataW.trod enc P W base spare held n f1.type [c1] = some y1 := by simpa [o1, e1] using hg 1 f1 rfl
      obtain ⟨n1, z1, -, w1⟩ := DataW.trod_int u1 g1
      obtain rfl : c1 = _ := by simpa using z1
      obtain ⟨o2, e2⟩ := hone_of hone 2 f2 rfl
      have g2 : DataW.trod enc P W base spare held n f2.type [c2] = some y2 := by simpa [o2, e2] using hg 2 f2 rfl
      obtain ⟨n2, z2, -, w2⟩ := DataW.trod_int u2 g2
      obtain rfl : c2 = _ := by simpa using z2
      exact ⟨(n0, n1, n2), rfl⟩
/-- A slice of structs of three whole numbers. -/
theorem open_triples {H : Type} {enc : TypeId × Value → H} {P : Program} {W : World} {t e : TypeId} {f0 f1 f2 : Field} {ao : Option Addr} {n c : Nat} {d : DataW H} {p : List MemPlace} (k0 k1 k2 : IntKind)
    (ht : P.underlying t = some (.slice e)) (hs : P.underlying e = some (.struct #[f0, f1, f2])) (hone : oneCellFields P #[f0, f1, f2] = true) (hC : P.cellsOf e = 3) (u0 : P.underlying f0.type = some (.int k0)) (u1 : P.underlying f1.type = some (.int k1)) (u2 : P.underlying f2.type = some (.int k2))
    (h : DataW.Trod enc P W 0 (fun _ => true) true t (.slice ao n c) d p) (hlt : ∀ x ∈ p, x.block < W.heap.size) :
    ∃ R : List (Int × Int × Int), R.length = n ∧ Lies W 3 (.slice ao R.length c) R.length (R.flatMap fun p => [.int k0 p.1, .int k1 p.2.1, .int k2 p.2.2]) := by
  obtain ⟨css, hl, hall, hL⟩ := open_elems 3 hC (by decide) ht h hlt
  obtain ⟨R, rfl, hR⟩ := choice_list (f := fun p : Int × Int × Int => [Value.int k0 p.1, .int k1 p.2.1, .int k2 p.2.2]) (q := fun _ => True) css fun cs hcs => by
    obtain ⟨h2, fuel, y, hy⟩ := hall cs hcs
    obtain ⟨p, hp⟩ := three_ints k0 k1 k2 hs hone u0 u1 u2 h2 hy
    exact ⟨p, hp, trivial⟩
  have hn : R.length = n := by simpa using hl
  subst hn
  exact ⟨R, rfl, by simpa [List.flatMap] using hL⟩
end Go.Proofs.Ytcaffmkghllmgaa.Cl
