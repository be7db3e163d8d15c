/-
  DERIVED. GIVEN WITH THE SEED: THE CARDS: each row of YtcchnenjfckbbaaDoorRows.lean that lists a variable, with what it lists TIED to the program's text (the seventh form; the later family's looks); each row that meets fmt, with fmt's text TOLD by the authors' own Lean function (tested against real Go, not proved from fmt's source: count such statements apart). THE CARD IS WHAT COUNTS. Prove the row's statement (the work); the ties are given (YtcchnenjfckbbaaDoorTie.lean); close each card by the builder's one call (the guide's Derived/Test/ToyasCard.lean, 'card_holds'). Laid BY PROGRAM, IN A SANDBOX (cutbox-door.mjs). By AI agents, Wed Nov 11 2026. No macro, syntax, notation, axiom, sorry.
-/
import Derived.Test.YtcchnenjfckbbaaDoorRows
import GoSem.ClaimSeven
namespace Go.Proofs.YtcchnenjfckbbaaDoor
namespace Rows

/-- THE TIED CARD OF 'woodgrainlaw10.CodeTells'. -/
def codeTellsCard : Claim7 := { stood := { row := codeTellsRow, standIns := [], harness := (true, "9b6cb7f802a5227ddaffdecfb649a7edb04641a0ead7df0cb2ecc0b76f14c1f7"), looks := false }, kinds := [], alts := [], laidByText := true, laidKinds := [.listed, .data], laidTests := true, laidLooks := .later }
def CodeTellsCardSaid : Prop := Claim7.holds Tryd.pinned (.plain (OpenSpec.ofChange codeTellsSpec)) codeTellsCard

/-- THE TIED CARD OF 'woodgrainlaw10.CodeFinds'. -/
def codeFindsCard : Claim7 := { stood := { row := codeFindsRow, standIns := [], harness := (true, "9b6cb7f802a5227ddaffdecfb649a7edb04641a0ead7df0cb2ecc0b76f14c1f7"), looks := false }, kinds := [], alts := [], laidByText := true, laidKinds := [.listed, .data], laidTests := true, laidLooks := .later }
def CodeFindsCardSaid : Prop := Claim7.holds Tryd.pinned (.plain (OpenSpec.ofChange codeFindsSpec)) codeFindsCard

/-- THE TIED CARD OF 'woodgrainlaw10.CodeBack'. -/
def codeBackCard : Claim7 := { stood := { row := codeBackRow, standIns := [], harness := (true, "9b6cb7f802a5227ddaffdecfb649a7edb04641a0ead7df0cb2ecc0b76f14c1f7"), looks := false }, kinds := [], alts := [], laidByText := true, laidKinds := [.listed, .data], laidTests := true, laidLooks := .later }
def CodeBackCardSaid : Prop := Claim7.holds Tryd.pinned (.plain (OpenSpec.ofChange codeBackSpec)) codeBackCard

/-- THE TIED CARD OF 'woodgrainlaw10.CodeCounts'. -/
def codeCountsCard : Claim7 := { stood := { row := codeCountsRow, standIns := [], harness := (true, "9b6cb7f802a5227ddaffdecfb649a7edb04641a0ead7df0cb2ecc0b76f14c1f7"), looks := false }, kinds := [], alts := [], laidByText := true, laidKinds := [.listed, .data], laidTests := true, laidLooks := .later }
def CodeCountsCardSaid : Prop := Claim7.holds Tryd.pinned (.plain (OpenSpec.ofChange codeCountsSpec)) codeCountsCard

/-- THE SECOND FORM's CARD OF 'woodgrainlaw10.CodeTells'. -/
def codeTellsUptoCard : Claim7 := { stood := { row := codeTellsUptoRow, standIns := [], harness := (true, "9b6cb7f802a5227ddaffdecfb649a7edb04641a0ead7df0cb2ecc0b76f14c1f7"), looks := false }, kinds := [], alts := [], laidByText := true, laidKinds := [.listed, .data], laidTests := true, laidLooks := .later }
def CodeTellsUptoCardSaid : Prop := Claim7.holds Tryd.pinned (.plain (OpenSpec.upto codeTellsSpec)) codeTellsUptoCard

/-- THE SECOND FORM's CARD OF 'woodgrainlaw10.CodeFinds'. -/
def codeFindsUptoCard : Claim7 := { stood := { row := codeFindsUptoRow, standIns := [], harness := (true, "9b6cb7f802a5227ddaffdecfb649a7edb04641a0ead7df0cb2ecc0b76f14c1f7"), looks := false }, kinds := [], alts := [], laidByText := true, laidKinds := [.listed, .data], laidTests := true, laidLooks := .later }
def CodeFindsUptoCardSaid : Prop := Claim7.holds Tryd.pinned (.plain (OpenSpec.upto codeFindsSpec)) codeFindsUptoCard

/-- THE SECOND FORM's CARD OF 'woodgrainlaw10.CodeBack'. -/
def codeBackUptoCard : Claim7 := { stood := { row := codeBackUptoRow, standIns := [], harness := (true, "9b6cb7f802a5227ddaffdecfb649a7edb04641a0ead7df0cb2ecc0b76f14c1f7"), looks := false }, kinds := [], alts := [], laidByText := true, laidKinds := [.listed, .data], laidTests := true, laidLooks := .later }
def CodeBackUptoCardSaid : Prop := Claim7.holds Tryd.pinned (.plain (OpenSpec.upto codeBackSpec)) codeBackUptoCard

/-- THE SECOND FORM's CARD OF 'woodgrainlaw10.CodeCounts'. -/
def codeCountsUptoCard : Claim7 := { stood := { row := codeCountsUptoRow, standIns := [], harness := (true, "9b6cb7f802a5227ddaffdecfb649a7edb04641a0ead7df0cb2ecc0b76f14c1f7"), looks := false }, kinds := [], alts := [], laidByText := true, laidKinds := [.listed, .data], laidTests := true, laidLooks := .later }
def CodeCountsUptoCardSaid : Prop := Claim7.holds Tryd.pinned (.plain (OpenSpec.upto codeCountsSpec)) codeCountsUptoCard
end Rows
end Go.Proofs.YtcchnenjfckbbaaDoor
