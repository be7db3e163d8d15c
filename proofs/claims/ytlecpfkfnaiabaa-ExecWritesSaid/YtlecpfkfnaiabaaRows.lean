/-
  No cell of these rows narrows 'for every input' (looked for: loops, veiled, ifaces, maps, wideKeys, modest, calm, conditions, laid).
  DERIVED. THE GIVEN ROWS OF THIS SEAT. 6 by the template 'for every input the law returns true; each argument reads behind the call as it read before'; 0 by the template 'total and deterministic' (their statements: YtlecpfkfnaiabaaTotals.lean).
  GIVEN WITH THE SEED: the statements are not yours to turn. If you find one false, say at which input.
  Laid BY PROGRAM, IN A SANDBOX (cutbox-rows.mjs): the forced cells as the released guide's own fill.sh prints them over the translation 02538563e12a2b19… (all of the seat's roots in one cut). By AI agents, Wed Nov 11 2026. No macro, syntax, notation, axiom, sorry.
-/
import Derived.Test.YtlecpfkfnaiabaaChecked
import GoSem.Claim
import GoSem.ClaimJoined
import GoSem.ClaimMapViews
import Derived.JoinedTies
import Derived.KernelRfl
namespace Go.Proofs.Ytlecpfkfnaiabaa
/- THE CELL 'sum', in the pinned program and in every row, IS THE sha256 OF THE DUMP (.gsa) THAT YtlecpfkfnaiabaaProg.lean LOADS. Nothing in Lean hashes anything: it is a label: what it is worth is what the hold of that sum in a sandbox is worth. -/
noncomputable def Try.pinned : Pinned := { name := "ytlecpfkfnaiabaa", sum := "02538563e12a2b19e7883a94e6522a5c68ba0b6e24b6b20a1050a40e4722303b", checked := Try.checked }
namespace Rows
def none {H : Type} : Left H := { results := [], args := [] }

/-- 'woodgrainlaw11.ExecReads': WHATEVER THE INPUT: true; the input reads as it did. -/
def execReadsSpec : ChangeSpec := { name := "execReads", fn := fun _ => fun
  | [d1, d2, d3] => { results := [.lit (.bool true)], args := [d1, d2, d3] }
  | _ => none }
def execReadsRow : OpenClaim := { program := "ytlecpfkfnaiabaa", sum := "02538563e12a2b19e7883a94e6522a5c68ba0b6e24b6b20a1050a40e4722303b", func := "woodgrain/woodgrainlaw11.ExecReads", spec := "execReads", apart := false }
def ExecReadsSaid : Prop := execReadsRow.holds Try.pinned (OpenSpec.ofChange execReadsSpec)

/-- ITS FALSE NEIGHBOUR: 'it returns false'. Refute it at one input. -/
def execReadsWrong : ChangeSpec := { name := "execReads", fn := fun _ => fun
  | [d1, d2, d3] => { results := [.lit (.bool false)], args := [d1, d2, d3] }
  | _ => none }
def ExecReadsWrongFalsely : Prop := execReadsRow.holds Try.pinned (OpenSpec.ofChange execReadsWrong)

/-- 'woodgrainlaw11.ExecWrites': WHATEVER THE INPUT: true; the input reads as it did. -/
def execWritesSpec : ChangeSpec := { name := "execWrites", fn := fun _ => fun
  | [d1, d2, d3] => { results := [.lit (.bool true)], args := [d1, d2, d3] }
  | _ => none }
def execWritesRow : OpenClaim := { program := "ytlecpfkfnaiabaa", sum := "02538563e12a2b19e7883a94e6522a5c68ba0b6e24b6b20a1050a40e4722303b", func := "woodgrain/woodgrainlaw11.ExecWrites", spec := "execWrites", recurses := true, apart := false }
def ExecWritesSaid : Prop := execWritesRow.holds Try.pinned (OpenSpec.ofChange execWritesSpec)

/-- ITS FALSE NEIGHBOUR: 'it returns false'. Refute it at one input. -/
def execWritesWrong : ChangeSpec := { name := "execWrites", fn := fun _ => fun
  | [d1, d2, d3] => { results := [.lit (.bool false)], args := [d1, d2, d3] }
  | _ => none }
def ExecWritesWrongFalsely : Prop := execWritesRow.holds Try.pinned (OpenSpec.ofChange execWritesWrong)

/-- 'woodgrainlaw11.ExecPairs': WHATEVER THE INPUT: true; the input reads as it did. -/
def execPairsSpec : ChangeSpec := { name := "execPairs", fn := fun _ => fun
  | [d] => { results := [.lit (.bool true)], args := [d] }
  | _ => none }
def execPairsRow : OpenClaim := { program := "ytlecpfkfnaiabaa", sum := "02538563e12a2b19e7883a94e6522a5c68ba0b6e24b6b20a1050a40e4722303b", func := "woodgrain/woodgrainlaw11.ExecPairs", spec := "execPairs", apart := false }
def ExecPairsSaid : Prop := execPairsRow.holds Try.pinned (OpenSpec.ofChange execPairsSpec)

/-- ITS FALSE NEIGHBOUR: 'it returns false'. Refute it at one input. -/
def execPairsWrong : ChangeSpec := { name := "execPairs", fn := fun _ => fun
  | [d] => { results := [.lit (.bool false)], args := [d] }
  | _ => none }
def ExecPairsWrongFalsely : Prop := execPairsRow.holds Try.pinned (OpenSpec.ofChange execPairsWrong)

/-- 'woodgrainlaw11.ExecTwice': WHATEVER THE INPUT: true; the input reads as it did. -/
def execTwiceSpec : ChangeSpec := { name := "execTwice", fn := fun _ => fun
  | [d1, d2, d3] => { results := [.lit (.bool true)], args := [d1, d2, d3] }
  | _ => none }
def execTwiceRow : OpenClaim := { program := "ytlecpfkfnaiabaa", sum := "02538563e12a2b19e7883a94e6522a5c68ba0b6e24b6b20a1050a40e4722303b", func := "woodgrain/woodgrainlaw11.ExecTwice", spec := "execTwice", apart := false }
def ExecTwiceSaid : Prop := execTwiceRow.holds Try.pinned (OpenSpec.ofChange execTwiceSpec)

/-- ITS FALSE NEIGHBOUR: 'it returns false'. Refute it at one input. -/
def execTwiceWrong : ChangeSpec := { name := "execTwice", fn := fun _ => fun
  | [d1, d2, d3] => { results := [.lit (.bool false)], args := [d1, d2, d3] }
  | _ => none }
def ExecTwiceWrongFalsely : Prop := execTwiceRow.holds Try.pinned (OpenSpec.ofChange execTwiceWrong)

/-- 'woodgrainlaw11.ExecStays': WHATEVER THE INPUT: true; the input reads as it did. -/
def execStaysSpec : ChangeSpec := { name := "execStays", fn := fun _ => fun
  | [d1, d2, d3] => { results := [.lit (.bool true)], args := [d1, d2, d3] }
  | _ => none }
def execStaysRow : OpenClaim := { program := "ytlecpfkfnaiabaa", sum := "02538563e12a2b19e7883a94e6522a5c68ba0b6e24b6b20a1050a40e4722303b", func := "woodgrain/woodgrainlaw11.ExecStays", spec := "execStays", apart := false }
def ExecStaysSaid : Prop := execStaysRow.holds Try.pinned (OpenSpec.ofChange execStaysSpec)

/-- ITS FALSE NEIGHBOUR: 'it returns false'. Refute it at one input. -/
def execStaysWrong : ChangeSpec := { name := "execStays", fn := fun _ => fun
  | [d1, d2, d3] => { results := [.lit (.bool false)], args := [d1, d2, d3] }
  | _ => none }
def ExecStaysWrongFalsely : Prop := execStaysRow.holds Try.pinned (OpenSpec.ofChange execStaysWrong)

/-- 'woodgrainlaw11.ExecSelves': WHATEVER THE INPUT: true; the input reads as it did. -/
def execSelvesSpec : ChangeSpec := { name := "execSelves", fn := fun _ => fun
  | [d1, d2] => { results := [.lit (.bool true)], args := [d1, d2] }
  | _ => none }
def execSelvesRow : OpenClaim := { program := "ytlecpfkfnaiabaa", sum := "02538563e12a2b19e7883a94e6522a5c68ba0b6e24b6b20a1050a40e4722303b", func := "woodgrain/woodgrainlaw11.ExecSelves", spec := "execSelves", apart := false }
def ExecSelvesSaid : Prop := execSelvesRow.holds Try.pinned (OpenSpec.ofChange execSelvesSpec)

/-- ITS FALSE NEIGHBOUR: 'it returns false'. Refute it at one input. -/
def execSelvesWrong : ChangeSpec := { name := "execSelves", fn := fun _ => fun
  | [d1, d2] => { results := [.lit (.bool false)], args := [d1, d2] }
  | _ => none }
def ExecSelvesWrongFalsely : Prop := execSelvesRow.holds Try.pinned (OpenSpec.ofChange execSelvesWrong)

/- THE SECOND FORM. 'bulk': how many values and letters a reading holds, each counted each time it is reached (what is shared counts as often as it is met; a slice's spare places count too). A statement '..UptoSaid' is the law's where the arguments, and the package variables that the reading takes, are together of bulk at most 1048576: NARROWER than '..Said'. Prove '..Said' where nothing that the law and all that it calls make is longer than what came in: it says more and counts as full. Else prove '..UptoSaid'. A law counts once. -/
mutual
def uptoBulk {H : Type} : DataW H → Nat
  | .lit (.string bytes) => bytes.length + 1
  | .lit _ => 1
  | .nil => 1
  | .ptr d => uptoBulk d + 1
  | .slice elems spare => uptoBulkAll elems + uptoBulkAll spare + 1
  | .agg parts => uptoBulkAll parts + 1
  | .iface _ d => uptoBulk d + 1
  | .map entries => uptoBulkEntries entries + 1
  | .held _ => 1
def uptoBulkAll {H : Type} : List (DataW H) → Nat
  | [] => 0
  | d :: r => uptoBulk d + uptoBulkAll r
def uptoBulkEntries {H : Type} : List (Lit × DataW H) → Nat
  | [] => 0
  | x :: r => uptoBulkEntry x + uptoBulkEntries r
def uptoBulkEntry {H : Type} : Lit × DataW H → Nat
  | (.string bytes, d) => bytes.length + uptoBulk d + 1
  | (_, d) => uptoBulk d + 1
 end
def uptoSmall : (H : Type) → List (DataW H) → Bool := fun _ ds => decide (uptoBulkAll ds ≤ 1048576)
def OpenSpec.upto (s : _root_.Go.ChangeSpec) : _root_.Go.OpenSpec := { _root_.Go.OpenSpec.ofChange s with cond := some uptoSmall }

/-- 'woodgrainlaw11.ExecReads', WHERE WHAT IT READS IS OF BULK AT MOST 1048576: true; the input reads as it did. -/
def execReadsUptoRow : OpenClaim := { program := "ytlecpfkfnaiabaa", sum := "02538563e12a2b19e7883a94e6522a5c68ba0b6e24b6b20a1050a40e4722303b", func := "woodgrain/woodgrainlaw11.ExecReads", spec := "execReads", apart := false, narrowed := true }
def ExecReadsUptoSaid : Prop := execReadsUptoRow.holds Try.pinned (OpenSpec.upto execReadsSpec)

/-- 'woodgrainlaw11.ExecWrites', WHERE WHAT IT READS IS OF BULK AT MOST 1048576: true; the input reads as it did. -/
def execWritesUptoRow : OpenClaim := { program := "ytlecpfkfnaiabaa", sum := "02538563e12a2b19e7883a94e6522a5c68ba0b6e24b6b20a1050a40e4722303b", func := "woodgrain/woodgrainlaw11.ExecWrites", spec := "execWrites", recurses := true, apart := false, narrowed := true }
def ExecWritesUptoSaid : Prop := execWritesUptoRow.holds Try.pinned (OpenSpec.upto execWritesSpec)

/-- 'woodgrainlaw11.ExecPairs', WHERE WHAT IT READS IS OF BULK AT MOST 1048576: true; the input reads as it did. -/
def execPairsUptoRow : OpenClaim := { program := "ytlecpfkfnaiabaa", sum := "02538563e12a2b19e7883a94e6522a5c68ba0b6e24b6b20a1050a40e4722303b", func := "woodgrain/woodgrainlaw11.ExecPairs", spec := "execPairs", apart := false, narrowed := true }
def ExecPairsUptoSaid : Prop := execPairsUptoRow.holds Try.pinned (OpenSpec.upto execPairsSpec)

/-- 'woodgrainlaw11.ExecTwice', WHERE WHAT IT READS IS OF BULK AT MOST 1048576: true; the input reads as it did. -/
def execTwiceUptoRow : OpenClaim := { program := "ytlecpfkfnaiabaa", sum := "02538563e12a2b19e7883a94e6522a5c68ba0b6e24b6b20a1050a40e4722303b", func := "woodgrain/woodgrainlaw11.ExecTwice", spec := "execTwice", apart := false, narrowed := true }
def ExecTwiceUptoSaid : Prop := execTwiceUptoRow.holds Try.pinned (OpenSpec.upto execTwiceSpec)

/-- 'woodgrainlaw11.ExecStays', WHERE WHAT IT READS IS OF BULK AT MOST 1048576: true; the input reads as it did. -/
def execStaysUptoRow : OpenClaim := { program := "ytlecpfkfnaiabaa", sum := "02538563e12a2b19e7883a94e6522a5c68ba0b6e24b6b20a1050a40e4722303b", func := "woodgrain/woodgrainlaw11.ExecStays", spec := "execStays", apart := false, narrowed := true }
def ExecStaysUptoSaid : Prop := execStaysUptoRow.holds Try.pinned (OpenSpec.upto execStaysSpec)

/-- 'woodgrainlaw11.ExecSelves', WHERE WHAT IT READS IS OF BULK AT MOST 1048576: true; the input reads as it did. -/
def execSelvesUptoRow : OpenClaim := { program := "ytlecpfkfnaiabaa", sum := "02538563e12a2b19e7883a94e6522a5c68ba0b6e24b6b20a1050a40e4722303b", func := "woodgrain/woodgrainlaw11.ExecSelves", spec := "execSelves", apart := false, narrowed := true }
def ExecSelvesUptoSaid : Prop := execSelvesUptoRow.holds Try.pinned (OpenSpec.upto execSelvesSpec)

end Rows
end Go.Proofs.Ytlecpfkfnaiabaa
