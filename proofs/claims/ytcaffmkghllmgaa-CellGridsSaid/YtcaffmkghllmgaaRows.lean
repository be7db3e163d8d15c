/-
  No cell of these rows narrows 'for every input' (looked for: loops, veiled, ifaces, maps, wideKeys, modest, calm, conditions, laid).
  DERIVED. THE GIVEN ROWS OF THIS SEAT. 6 by the template 'for every input the law returns true; each argument reads behind the call as it read before'; 0 by the template 'total and deterministic' (their statements: YtcaffmkghllmgaaTotals.lean).
  GIVEN WITH THE SEED: the statements are not yours to turn. If you find one false, say at which input.
  Laid BY PROGRAM, IN A SANDBOX (cutbox-rows.mjs): the forced cells as the released guide's own fill.sh prints them over the translation 6bf5425542625daa… (all of the seat's roots in one cut). By AI agents, Wed Nov 11 2026. No macro, syntax, notation, axiom, sorry.
-/
import Derived.Test.YtcaffmkghllmgaaChecked
import GoSem.Claim
import GoSem.ClaimJoined
import GoSem.ClaimMapViews
import Derived.JoinedTies
import Derived.KernelRfl
namespace Go.Proofs.Ytcaffmkghllmgaa
/- THE CELL 'sum', in the pinned program and in every row, IS THE sha256 OF THE DUMP (.gsa) THAT YtcaffmkghllmgaaProg.lean LOADS. Nothing in Lean hashes anything: it is a label: what it is worth is what the hold of that sum in a sandbox is worth. -/
noncomputable def Try.pinned : Pinned := { name := "ytcaffmkghllmgaa", sum := "6bf5425542625daae4519abc9f22da063f8ae16693443f62a31e4d9f195875e1", checked := Try.checked }
namespace Rows
def none {H : Type} : Left H := { results := [], args := [] }

/-- 'woodgrainlaw03.CellRuns': WHATEVER THE INPUT: true; the input reads as it did. -/
def cellRunsSpec : ChangeSpec := { name := "cellRuns", fn := fun _ => fun
  | [d1, d2, d3] => { results := [.lit (.bool true)], args := [d1, d2, d3] }
  | _ => none }
def cellRunsRow : OpenClaim := { program := "ytcaffmkghllmgaa", sum := "6bf5425542625daae4519abc9f22da063f8ae16693443f62a31e4d9f195875e1", func := "woodgrain/woodgrainlaw03.CellRuns", spec := "cellRuns", apart := false }
def CellRunsSaid : Prop := cellRunsRow.holds Try.pinned (OpenSpec.ofChange cellRunsSpec)

/-- ITS FALSE NEIGHBOUR: 'it returns false'. Refute it at one input. -/
def cellRunsWrong : ChangeSpec := { name := "cellRuns", fn := fun _ => fun
  | [d1, d2, d3] => { results := [.lit (.bool false)], args := [d1, d2, d3] }
  | _ => none }
def CellRunsWrongFalsely : Prop := cellRunsRow.holds Try.pinned (OpenSpec.ofChange cellRunsWrong)

/-- 'woodgrainlaw03.CellBack': WHATEVER THE INPUT: true; the input reads as it did. -/
def cellBackSpec : ChangeSpec := { name := "cellBack", fn := fun _ => fun
  | [d1, d2] => { results := [.lit (.bool true)], args := [d1, d2] }
  | _ => none }
def cellBackRow : OpenClaim := { program := "ytcaffmkghllmgaa", sum := "6bf5425542625daae4519abc9f22da063f8ae16693443f62a31e4d9f195875e1", func := "woodgrain/woodgrainlaw03.CellBack", spec := "cellBack", apart := false }
def CellBackSaid : Prop := cellBackRow.holds Try.pinned (OpenSpec.ofChange cellBackSpec)

/-- ITS FALSE NEIGHBOUR: 'it returns false'. Refute it at one input. -/
def cellBackWrong : ChangeSpec := { name := "cellBack", fn := fun _ => fun
  | [d1, d2] => { results := [.lit (.bool false)], args := [d1, d2] }
  | _ => none }
def CellBackWrongFalsely : Prop := cellBackRow.holds Try.pinned (OpenSpec.ofChange cellBackWrong)

/-- 'woodgrainlaw03.CellLast': WHATEVER THE INPUT: true; the input reads as it did. -/
def cellLastSpec : ChangeSpec := { name := "cellLast", fn := fun _ => fun
  | [d1, d2] => { results := [.lit (.bool true)], args := [d1, d2] }
  | _ => none }
def cellLastRow : OpenClaim := { program := "ytcaffmkghllmgaa", sum := "6bf5425542625daae4519abc9f22da063f8ae16693443f62a31e4d9f195875e1", func := "woodgrain/woodgrainlaw03.CellLast", spec := "cellLast", unfollowed := true, recurses := true, apart := false }
def CellLastSaid : Prop := cellLastRow.holds Try.pinned (OpenSpec.ofChange cellLastSpec)

/-- ITS FALSE NEIGHBOUR: 'it returns false'. Refute it at one input. -/
def cellLastWrong : ChangeSpec := { name := "cellLast", fn := fun _ => fun
  | [d1, d2] => { results := [.lit (.bool false)], args := [d1, d2] }
  | _ => none }
def CellLastWrongFalsely : Prop := cellLastRow.holds Try.pinned (OpenSpec.ofChange cellLastWrong)

/-- 'woodgrainlaw03.CellRings': WHATEVER THE INPUT: true; the input reads as it did. -/
def cellRingsSpec : ChangeSpec := { name := "cellRings", fn := fun _ => fun
  | [d1, d2] => { results := [.lit (.bool true)], args := [d1, d2] }
  | _ => none }
def cellRingsRow : OpenClaim := { program := "ytcaffmkghllmgaa", sum := "6bf5425542625daae4519abc9f22da063f8ae16693443f62a31e4d9f195875e1", func := "woodgrain/woodgrainlaw03.CellRings", spec := "cellRings", unfollowed := true, recurses := true, apart := false }
def CellRingsSaid : Prop := cellRingsRow.holds Try.pinned (OpenSpec.ofChange cellRingsSpec)

/-- ITS FALSE NEIGHBOUR: 'it returns false'. Refute it at one input. -/
def cellRingsWrong : ChangeSpec := { name := "cellRings", fn := fun _ => fun
  | [d1, d2] => { results := [.lit (.bool false)], args := [d1, d2] }
  | _ => none }
def CellRingsWrongFalsely : Prop := cellRingsRow.holds Try.pinned (OpenSpec.ofChange cellRingsWrong)

/-- 'woodgrainlaw03.CellGrids': WHATEVER THE INPUT: true; the input reads as it did. -/
def cellGridsSpec : ChangeSpec := { name := "cellGrids", fn := fun _ => fun
  | [d1, d2, d3] => { results := [.lit (.bool true)], args := [d1, d2, d3] }
  | _ => none }
def cellGridsRow : OpenClaim := { program := "ytcaffmkghllmgaa", sum := "6bf5425542625daae4519abc9f22da063f8ae16693443f62a31e4d9f195875e1", func := "woodgrain/woodgrainlaw03.CellGrids", spec := "cellGrids", apart := false }
def CellGridsSaid : Prop := cellGridsRow.holds Try.pinned (OpenSpec.ofChange cellGridsSpec)

/-- ITS FALSE NEIGHBOUR: 'it returns false'. Refute it at one input. -/
def cellGridsWrong : ChangeSpec := { name := "cellGrids", fn := fun _ => fun
  | [d1, d2, d3] => { results := [.lit (.bool false)], args := [d1, d2, d3] }
  | _ => none }
def CellGridsWrongFalsely : Prop := cellGridsRow.holds Try.pinned (OpenSpec.ofChange cellGridsWrong)

/-- 'woodgrainlaw03.CellOwn': WHATEVER THE INPUT: true; the input reads as it did. -/
def cellOwnSpec : ChangeSpec := { name := "cellOwn", fn := fun _ => fun
  | [d1, d2] => { results := [.lit (.bool true)], args := [d1, d2] }
  | _ => none }
def cellOwnRow : OpenClaim := { program := "ytcaffmkghllmgaa", sum := "6bf5425542625daae4519abc9f22da063f8ae16693443f62a31e4d9f195875e1", func := "woodgrain/woodgrainlaw03.CellOwn", spec := "cellOwn", unfollowed := true, recurses := true, apart := false }
def CellOwnSaid : Prop := cellOwnRow.holds Try.pinned (OpenSpec.ofChange cellOwnSpec)

/-- ITS FALSE NEIGHBOUR: 'it returns false'. Refute it at one input. -/
def cellOwnWrong : ChangeSpec := { name := "cellOwn", fn := fun _ => fun
  | [d1, d2] => { results := [.lit (.bool false)], args := [d1, d2] }
  | _ => none }
def CellOwnWrongFalsely : Prop := cellOwnRow.holds Try.pinned (OpenSpec.ofChange cellOwnWrong)

/- THE SECOND FORM. 'bulk': how many values and letters a reading holds, each counted each time it is reached (what is shared counts as often as it is met; a slice's spare places count too). A statement '..UptoSaid' is the law's where the arguments, and the package variables that the reading takes, are together of bulk at most 1048576: NARROWER than '..Said'. Prove '..Said' where nothing that the law and all that it calls make is longer than what came in: it says more and counts as full. Else prove '..UptoSaid'. A law counts once. -/
mutual
def uptoBulk {H : Type} : DataW H → Nat
  | .lit (.string bytes) => bytes.length + 1
  | .lit _ => 1
  | .nil => 1
  | .ptr d => uptoBulk d + 1
  | .slice elems spare => uptoBulkAll elems + uptoBulkAll spare + 1
  | .agg parts => uptoBulkAll parts + 1
  | .iface _ d => uptoBulk d + 1
  | .map entries => uptoBulkEntries entries + 1
  | .held _ => 1
def uptoBulkAll {H : Type} : List (DataW H) → Nat
  | [] => 0
  | d :: r => uptoBulk d + uptoBulkAll r
def uptoBulkEntries {H : Type} : List (Lit × DataW H) → Nat
  | [] => 0
  | x :: r => uptoBulkEntry x + uptoBulkEntries r
def uptoBulkEntry {H : Type} : Lit × DataW H → Nat
  | (.string bytes, d) => bytes.length + uptoBulk d + 1
  | (_, d) => uptoBulk d + 1
 end
def uptoSmall : (H : Type) → List (DataW H) → Bool := fun _ ds => decide (uptoBulkAll ds ≤ 1048576)
def OpenSpec.upto (s : _root_.Go.ChangeSpec) : _root_.Go.OpenSpec := { _root_.Go.OpenSpec.ofChange s with cond := some uptoSmall }

/-- 'woodgrainlaw03.CellRuns', WHERE WHAT IT READS IS OF BULK AT MOST 1048576: true; the input reads as it did. -/
def cellRunsUptoRow : OpenClaim := { program := "ytcaffmkghllmgaa", sum := "6bf5425542625daae4519abc9f22da063f8ae16693443f62a31e4d9f195875e1", func := "woodgrain/woodgrainlaw03.CellRuns", spec := "cellRuns", apart := false, narrowed := true }
def CellRunsUptoSaid : Prop := cellRunsUptoRow.holds Try.pinned (OpenSpec.upto cellRunsSpec)

/-- 'woodgrainlaw03.CellBack', WHERE WHAT IT READS IS OF BULK AT MOST 1048576: true; the input reads as it did. -/
def cellBackUptoRow : OpenClaim := { program := "ytcaffmkghllmgaa", sum := "6bf5425542625daae4519abc9f22da063f8ae16693443f62a31e4d9f195875e1", func := "woodgrain/woodgrainlaw03.CellBack", spec := "cellBack", apart := false, narrowed := true }
def CellBackUptoSaid : Prop := cellBackUptoRow.holds Try.pinned (OpenSpec.upto cellBackSpec)

/-- 'woodgrainlaw03.CellLast', WHERE WHAT IT READS IS OF BULK AT MOST 1048576: true; the input reads as it did. -/
def cellLastUptoRow : OpenClaim := { program := "ytcaffmkghllmgaa", sum := "6bf5425542625daae4519abc9f22da063f8ae16693443f62a31e4d9f195875e1", func := "woodgrain/woodgrainlaw03.CellLast", spec := "cellLast", unfollowed := true, recurses := true, apart := false, narrowed := true }
def CellLastUptoSaid : Prop := cellLastUptoRow.holds Try.pinned (OpenSpec.upto cellLastSpec)

/-- 'woodgrainlaw03.CellRings', WHERE WHAT IT READS IS OF BULK AT MOST 1048576: true; the input reads as it did. -/
def cellRingsUptoRow : OpenClaim := { program := "ytcaffmkghllmgaa", sum := "6bf5425542625daae4519abc9f22da063f8ae16693443f62a31e4d9f195875e1", func := "woodgrain/woodgrainlaw03.CellRings", spec := "cellRings", unfollowed := true, recurses := true, apart := false, narrowed := true }
def CellRingsUptoSaid : Prop := cellRingsUptoRow.holds Try.pinned (OpenSpec.upto cellRingsSpec)

/-- 'woodgrainlaw03.CellGrids', WHERE WHAT IT READS IS OF BULK AT MOST 1048576: true; the input reads as it did. -/
def cellGridsUptoRow : OpenClaim := { program := "ytcaffmkghllmgaa", sum := "6bf5425542625daae4519abc9f22da063f8ae16693443f62a31e4d9f195875e1", func := "woodgrain/woodgrainlaw03.CellGrids", spec := "cellGrids", apart := false, narrowed := true }
def CellGridsUptoSaid : Prop := cellGridsUptoRow.holds Try.pinned (OpenSpec.upto cellGridsSpec)

/-- 'woodgrainlaw03.CellOwn', WHERE WHAT IT READS IS OF BULK AT MOST 1048576: true; the input reads as it did. -/
def cellOwnUptoRow : OpenClaim := { program := "ytcaffmkghllmgaa", sum := "6bf5425542625daae4519abc9f22da063f8ae16693443f62a31e4d9f195875e1", func := "woodgrain/woodgrainlaw03.CellOwn", spec := "cellOwn", unfollowed := true, recurses := true, apart := false, narrowed := true }
def CellOwnUptoSaid : Prop := cellOwnUptoRow.holds Try.pinned (OpenSpec.upto cellOwnSpec)

end Rows
end Go.Proofs.Ytcaffmkghllmgaa
