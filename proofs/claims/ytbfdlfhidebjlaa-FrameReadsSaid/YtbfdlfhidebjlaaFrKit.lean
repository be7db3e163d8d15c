/- What stays when two blocks alone are written. -/
import Derived.Test.YtbfdlfhidebjlaaCell
import Derived.Deep.RegionHeld3
import Derived.Deep.OwnRows
namespace Go.Proofs.Ytbfdlfhidebjlaa.Cl
open Go.RowKit Go.Deep
set_option linter.unusedVariables false
/-- Nothing but these two blocks is another one. -/
structure Oth (b g : Nat) (W W' : World) : Prop where
  os : W'.os = W.os
  tape : W'.tape = W.tape
  output : W'.output = W.output
  size : W'.heap.size = W.heap.size
  block : ∀ k, k ≠ b → k ≠ g → W'.heap[k]? = W.heap[k]?
theorem Oth.refl (b g : Nat) (W : World) : Oth b g W W := ⟨rfl, rfl, rfl, rfl, fun _ _ _ => rfl⟩
theorem Oth.trans {b g : Nat} {A B C : World} (h : Oth b g A B) (k : Oth b g B C) : Oth b g A C :=
  ⟨k.os.trans h.os, k.tape.trans h.tape, k.output.trans h.output, k.size.trans h.size, fun i hi hj => (k.block i hi hj).trans (h.block i hi hj)⟩
theorem Oth.drew {b g : Nat} {A B : World} (h : Oth b g A B) : Oth b g A B.drew := ⟨h.os, h.tape, h.output, h.size, h.block⟩
theorem Oth.set {b g : Nat} {A B : World} (h : Oth b g A B) (p : Addr) (hp : p.block = b ∨ p.block = g) (u : Value) : Oth b g A (B.setCell p u) :=
  ⟨h.os, h.tape, h.output, by simpa using h.size, fun k hk hk' => (heap_setCell_other B p k u (by rcases hp with e | e <;> rw [e] <;> assumption)).trans (h.block k hk hk')⟩
theorem Oth.below {b g B : Nat} {w A C : World} (h : Oth b g A C) (hw : Below B w A) (hb : B ≤ b) (hg : B ≤ g) : Below B w C :=
  hw.trans ⟨h.os, h.tape, h.output, Nat.le_of_eq h.size.symm, fun k hk => h.block k (by omega) (by omega)⟩
end Go.Proofs.Ytbfdlfhidebjlaa.Cl
