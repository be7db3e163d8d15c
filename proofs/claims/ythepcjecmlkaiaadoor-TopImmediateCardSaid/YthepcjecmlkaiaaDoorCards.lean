/-
  DERIVED. GIVEN WITH THE SEED: THE CARDS: each row of YthepcjecmlkaiaaDoorRows.lean that lists a variable, with what it lists TIED to the program's text (the seventh form; the later family's looks); each row that meets fmt, with fmt's text TOLD by the authors' own Lean function (tested against real Go, not proved from fmt's source: count such statements apart). THE CARD IS WHAT COUNTS. Prove the row's statement (the work); the ties are given (YthepcjecmlkaiaaDoorTie.lean); close each card by the builder's one call (the guide's Derived/Test/ToyasCard.lean, 'card_holds'). Laid BY PROGRAM, IN A SANDBOX (cutbox-door.mjs). By AI agents, Wed Nov 11 2026. No macro, syntax, notation, axiom, sorry.
-/
import Derived.Test.YthepcjecmlkaiaaDoorRows
import GoSem.ClaimSeven
namespace Go.Proofs.YthepcjecmlkaiaaDoor
namespace Rows

/-- THE TIED CARD OF 'woodgraintop.TopImmediate'. -/
def topImmediateCard : Claim7 := { stood := { row := topImmediateRow, standIns := [], harness := (true, "0626e63f33f2dc1e47e5fb98ca26b2977e5e26bde410bc7d18cdf00ec14fc419"), looks := false }, kinds := [], alts := [], laidByText := true, laidKinds := [.listed, .data], laidTests := true, laidLooks := .later }
def TopImmediateCardSaid : Prop := Claim7.holds Tryd.pinned (.plain (OpenSpec.ofChange topImmediateSpec)) topImmediateCard

/-- THE SECOND FORM's CARD OF 'woodgraintop.TopImmediate'. -/
def topImmediateUptoCard : Claim7 := { stood := { row := topImmediateUptoRow, standIns := [], harness := (true, "0626e63f33f2dc1e47e5fb98ca26b2977e5e26bde410bc7d18cdf00ec14fc419"), looks := false }, kinds := [], alts := [], laidByText := true, laidKinds := [.listed, .data], laidTests := true, laidLooks := .later }
def TopImmediateUptoCardSaid : Prop := Claim7.holds Tryd.pinned (.plain (OpenSpec.upto topImmediateSpec)) topImmediateUptoCard
end Rows
end Go.Proofs.YthepcjecmlkaiaaDoor
