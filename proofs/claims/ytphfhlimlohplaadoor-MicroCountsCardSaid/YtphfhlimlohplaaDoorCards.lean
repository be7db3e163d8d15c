/-
  DERIVED. GIVEN WITH THE SEED: THE CARDS: each row of YtphfhlimlohplaaDoorRows.lean that lists a variable, with what it lists TIED to the program's text (the seventh form; the later family's looks); each row that meets fmt, with fmt's text TOLD by the authors' own Lean function (tested against real Go, not proved from fmt's source: count such statements apart). THE CARD IS WHAT COUNTS. Prove the row's statement (the work); the ties are given (YtphfhlimlohplaaDoorTie.lean); close each card by the builder's one call (the guide's Derived/Test/ToyasCard.lean, 'card_holds'). Laid BY PROGRAM, IN A SANDBOX (cutbox-door.mjs). By AI agents, Wed Nov 11 2026. No macro, syntax, notation, axiom, sorry.
-/
import Derived.Test.YtphfhlimlohplaaDoorRows
import GoSem.ClaimSeven
namespace Go.Proofs.YtphfhlimlohplaaDoor
namespace Rows

/-- THE TIED CARD OF 'woodgrainlaw12.MicroHalts'. -/
def microHaltsCard : Claim7 := { stood := { row := microHaltsRow, standIns := [], harness := (true, "ab50187b2bfe1be9bb58c1599c65bddd7458c75584dcc292df8a7e973a375c22"), looks := false }, kinds := [], alts := [], laidByText := true, laidKinds := [.listed, .data], laidTests := true, laidLooks := .later }
def MicroHaltsCardSaid : Prop := Claim7.holds Tryd.pinned (.plain (OpenSpec.ofChange microHaltsSpec)) microHaltsCard

/-- THE TIED CARD OF 'woodgrainlaw12.MicroJams'. -/
def microJamsCard : Claim7 := { stood := { row := microJamsRow, standIns := [], harness := (true, "ab50187b2bfe1be9bb58c1599c65bddd7458c75584dcc292df8a7e973a375c22"), looks := false }, kinds := [], alts := [], laidByText := true, laidKinds := [.listed, .data], laidTests := true, laidLooks := .later }
def MicroJamsCardSaid : Prop := Claim7.holds Tryd.pinned (.plain (OpenSpec.ofChange microJamsSpec)) microJamsCard

/-- THE TIED CARD OF 'woodgrainlaw12.MicroCopies'. -/
def microCopiesCard : Claim7 := { stood := { row := microCopiesRow, standIns := [], harness := (true, "ab50187b2bfe1be9bb58c1599c65bddd7458c75584dcc292df8a7e973a375c22"), looks := false }, kinds := [], alts := [], laidByText := true, laidKinds := [.listed, .data], laidTests := true, laidLooks := .later }
def MicroCopiesCardSaid : Prop := Claim7.holds Tryd.pinned (.plain (OpenSpec.ofChange microCopiesSpec)) microCopiesCard

/-- THE TIED CARD OF 'woodgrainlaw12.MicroNil'. -/
def microNilCard : Claim7 := { stood := { row := microNilRow, standIns := [], harness := (true, "ab50187b2bfe1be9bb58c1599c65bddd7458c75584dcc292df8a7e973a375c22"), looks := false }, kinds := [], alts := [], laidByText := true, laidKinds := [.listed, .data], laidTests := true, laidLooks := .later }
def MicroNilCardSaid : Prop := Claim7.holds Tryd.pinned (.plain (OpenSpec.ofChange microNilSpec)) microNilCard

/-- THE TIED CARD OF 'woodgrainlaw12.MicroCounts'. -/
def microCountsCard : Claim7 := { stood := { row := microCountsRow, standIns := [], harness := (true, "ab50187b2bfe1be9bb58c1599c65bddd7458c75584dcc292df8a7e973a375c22"), looks := false }, kinds := [], alts := [], laidByText := true, laidKinds := [.listed, .data], laidTests := true, laidLooks := .later }
def MicroCountsCardSaid : Prop := Claim7.holds Tryd.pinned (.plain (OpenSpec.ofChange microCountsSpec)) microCountsCard

/-- THE SECOND FORM's CARD OF 'woodgrainlaw12.MicroHalts'. -/
def microHaltsUptoCard : Claim7 := { stood := { row := microHaltsUptoRow, standIns := [], harness := (true, "ab50187b2bfe1be9bb58c1599c65bddd7458c75584dcc292df8a7e973a375c22"), looks := false }, kinds := [], alts := [], laidByText := true, laidKinds := [.listed, .data], laidTests := true, laidLooks := .later }
def MicroHaltsUptoCardSaid : Prop := Claim7.holds Tryd.pinned (.plain (OpenSpec.upto microHaltsSpec)) microHaltsUptoCard

/-- THE SECOND FORM's CARD OF 'woodgrainlaw12.MicroJams'. -/
def microJamsUptoCard : Claim7 := { stood := { row := microJamsUptoRow, standIns := [], harness := (true, "ab50187b2bfe1be9bb58c1599c65bddd7458c75584dcc292df8a7e973a375c22"), looks := false }, kinds := [], alts := [], laidByText := true, laidKinds := [.listed, .data], laidTests := true, laidLooks := .later }
def MicroJamsUptoCardSaid : Prop := Claim7.holds Tryd.pinned (.plain (OpenSpec.upto microJamsSpec)) microJamsUptoCard

/-- THE SECOND FORM's CARD OF 'woodgrainlaw12.MicroCopies'. -/
def microCopiesUptoCard : Claim7 := { stood := { row := microCopiesUptoRow, standIns := [], harness := (true, "ab50187b2bfe1be9bb58c1599c65bddd7458c75584dcc292df8a7e973a375c22"), looks := false }, kinds := [], alts := [], laidByText := true, laidKinds := [.listed, .data], laidTests := true, laidLooks := .later }
def MicroCopiesUptoCardSaid : Prop := Claim7.holds Tryd.pinned (.plain (OpenSpec.upto microCopiesSpec)) microCopiesUptoCard

/-- THE SECOND FORM's CARD OF 'woodgrainlaw12.MicroNil'. -/
def microNilUptoCard : Claim7 := { stood := { row := microNilUptoRow, standIns := [], harness := (true, "ab50187b2bfe1be9bb58c1599c65bddd7458c75584dcc292df8a7e973a375c22"), looks := false }, kinds := [], alts := [], laidByText := true, laidKinds := [.listed, .data], laidTests := true, laidLooks := .later }
def MicroNilUptoCardSaid : Prop := Claim7.holds Tryd.pinned (.plain (OpenSpec.upto microNilSpec)) microNilUptoCard

/-- THE SECOND FORM's CARD OF 'woodgrainlaw12.MicroCounts'. -/
def microCountsUptoCard : Claim7 := { stood := { row := microCountsUptoRow, standIns := [], harness := (true, "ab50187b2bfe1be9bb58c1599c65bddd7458c75584dcc292df8a7e973a375c22"), looks := false }, kinds := [], alts := [], laidByText := true, laidKinds := [.listed, .data], laidTests := true, laidLooks := .later }
def MicroCountsUptoCardSaid : Prop := Claim7.holds Tryd.pinned (.plain (OpenSpec.upto microCountsSpec)) microCountsUptoCard
end Rows
end Go.Proofs.YtphfhlimlohplaaDoor
