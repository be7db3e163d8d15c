/- A piece of code that ends in one way alone, whatever order it draws: its ways meet again. -/
import Derived.Test.YtfdmbgmhgbhggaaKeep
namespace Go.Proofs.Ytfdmbgmhgbhggaa
open Go.RowKit
set_option linter.unusedVariables false
def SameAt (A : Act) (V : World) : Exit → Act → World → Prop
  | .normal, a, w => a = A ∧ w = V
  | _, _, _ => False
theorem SameAt.to {A : Act} {V : World} {Q : Exit → Act → World → Prop} (h : Q .normal A V) : ∀ e a w, SameAt A V e a w → Q e a w := by
  intro e a w g
  cases e with
  | normal => obtain ⟨rfl, rfl⟩ := g; exact h
  | _ => exact g.elim
theorem SameAt.one {P : Program} {c : Code} {a A : Act} {w V : World} {Q : Exit → Act → World → Prop} (h1 : c.wp P (SameAt A V) a w) (h2 : Q .normal A V) : c.wp P Q a w := Code.wp_mono (SameAt.to h2) h1
def SomeAt (A : Act) (S : World → Prop) : Exit → Act → World → Prop
  | .normal, a, w => a = A ∧ S w
  | _, _, _ => False
theorem SomeAt.to {A : Act} {S : World → Prop} {Q : Exit → Act → World → Prop} (h : ∀ w, S w → Q .normal A w) : ∀ e a w, SomeAt A S e a w → Q e a w := by
  intro e a w g
  cases e with
  | normal => obtain ⟨rfl, hs⟩ := g; exact h w hs
  | _ => exact g.elim
theorem SomeAt.one {P : Program} {c : Code} {a A : Act} {w : World} {S : World → Prop} {Q : Exit → Act → World → Prop} (h1 : c.wp P (SomeAt A S) a w) (h2 : ∀ w, S w → Q .normal A w) : c.wp P Q a w := Code.wp_mono (SomeAt.to h2) h1
end Go.Proofs.Ytfdmbgmhgbhggaa
