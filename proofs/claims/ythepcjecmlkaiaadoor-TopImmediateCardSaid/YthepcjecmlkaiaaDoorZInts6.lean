/- A struct of six whole numbers, taken by value: its six cells, each within its kind's bounds. -/
import Derived.Test.YthepcjecmlkaiaaDoorRows
import Derived.Lib.SmallJoins
import Derived.WalkKit
namespace Go.Proofs.YthepcjecmlkaiaaDoor
open Go.Joins Go.ChangeShapes Go.WideShapes Go.RowKit Go.Deep
set_option linter.unusedVariables false
theorem open_ints6 {H : Type} {enc : TypeId × Value → H} {P : Program} {w : World} {base : Nat} {spare : Nat → Bool} {held : Bool} {r : Reach} {b0 : Nat} {t : TypeId} {f0 f1 f2 f3 f4 f5 : Field} {v : Value} {d : DataW H} {p : List MemPlace}
    (k : IntKind) (k' : IntKind) (hs : P.underlying t = some (.struct #[f0, f1, f2, f3, f4, f5])) (hone : oneCellFields P #[f0, f1, f2, f3, f4, f5] = true) (hC : P.cellsOf t = 6)
    (u0 : P.underlying f0.type = some (.int k)) (u1 : P.underlying f1.type = some (.int k)) (u2 : P.underlying f2.type = some (.int k)) (u3 : P.underlying f3.type = some (.int k)) (u4 : P.underlying f4.type = some (.int k)) (u5 : P.underlying f5.type = some (.int k'))
    (hv : Value.okWide P w r b0 t v) (h : DataW.Trod enc P w base spare held t v d p) :
    ∃ a x y s q c : Int, v = .agg #[.int k a, .int k x, .int k y, .int k s, .int k q, .int k' c] ∧ (Lit.int k a).wf = true ∧ (Lit.int k x).wf = true ∧ (Lit.int k y).wf = true ∧ (Lit.int k s).wf = true ∧ (Lit.int k q).wf = true ∧ (Lit.int k' c).wf = true := by
  obtain ⟨cs, rfl, hsz⟩ := okWide_struct hs hv
  obtain ⟨l⟩ := cs
  match l, hsz.trans hC with
  | [c0, c1, c2, c3, c4, c5], _ =>
    obtain ⟨fuel, hf⟩ := h
    obtain ⟨xs, n, _, hx, _, hlen, hg⟩ := DataW.trod_struct hs hf
    match xs, hlen with
    | [y0, y1, y2, y3, y4, y5], _ =>
      obtain ⟨o0, e0⟩ := hone_of hone 0 f0 rfl
      have g0 : DataW.trod enc P w base spare held n f0.type [c0] = some y0 := by simpa [Value.cells, o0, e0] using hg 0 f0 rfl
      obtain ⟨n0, z0, -, w0⟩ := DataW.trod_int u0 g0
      obtain rfl : c0 = _ := by simpa using z0
      obtain ⟨o1, e1⟩ := hone_of hone 1 f1 rfl
      have g1 : DataW.trod enc P w base spare held n f1.type [c1] = some y1 := by simpa [Value.cells, o1, e1] using hg 1 f1 rfl
      obtain ⟨n1, z1, -, w1⟩ := DataW.trod_int u1 g1
      obtain rfl : c1 = _ := by simpa using z1
      obtain ⟨o2, e2⟩ := hone_of hone 2 f2 rfl
      have g2 : DataW.trod enc P w base spare held n f2.type [c2] = some y2 := by simpa [Value.cells, o2, e2] using hg 2 f2 rfl
      obtain ⟨n2, z2, -, w2⟩ := DataW.trod_int u2 g2
      obtain rfl : c2 = _ := by simpa using z2
      obtain ⟨o3, e3⟩ := hone_of hone 3 f3 rfl
      have g3 : DataW.trod enc P w base spare held n f3.type [c3] = some y3 := by simpa [Value.cells, o3, e3] using hg 3 f3 rfl
      obtain ⟨n3, z3, -, w3⟩ := DataW.trod_int u3 g3
      obtain rfl : c3 = _ := by simpa using z3
      obtain ⟨o4, e4⟩ := hone_of hone 4 f4 rfl
      have g4 : DataW.trod enc P w base spare held n f4.type [c4] = some y4 := by simpa [Value.cells, o4, e4] using hg 4 f4 rfl
      obtain ⟨n4, z4, -, w4⟩ := DataW.trod_int u4 g4
      obtain rfl : c4 = _ := by simpa using z4
      obtain ⟨o5, e5⟩ := hone_of hone 5 f5 rfl
      have g5 : DataW.trod enc P w base spare held n f5.type [c5] = some y5 := by simpa [Value.cells, o5, e5] using hg 5 f5 rfl
      obtain ⟨n5, z5, -, w5⟩ := DataW.trod_int u5 g5
      obtain rfl : c5 = _ := by simpa using z5
      exact ⟨n0, n1, n2, n3, n4, n5, rfl, w0, w1, w2, w3, w4, w5⟩
end Go.Proofs.YthepcjecmlkaiaaDoor
