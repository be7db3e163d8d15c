/-
  No cell of these rows narrows 'for every input' (looked for: loops, veiled, ifaces, maps, wideKeys, modest, calm, conditions, laid).
  DERIVED. THE GIVEN ROWS OF THIS SEAT. 7 by the template 'for every input the law returns true; each argument reads behind the call as it read before'; 0 by the template 'total and deterministic' (their statements: YtejlapaaijknbaaTotals.lean).
  GIVEN WITH THE SEED: the statements are not yours to turn. If you find one false, say at which input.
  Laid BY PROGRAM, IN A SANDBOX (cutbox-rows.mjs): the forced cells as the released guide's own fill.sh prints them over the translation b2709ef5a3d07926… (all of the seat's roots in one cut). By AI agents, Wed Nov 11 2026. No macro, syntax, notation, axiom, sorry.
-/
import Derived.Test.YtejlapaaijknbaaChecked
import GoSem.Claim
import GoSem.ClaimJoined
import GoSem.ClaimMapViews
import Derived.JoinedTies
import Derived.KernelRfl
namespace Go.Proofs.Ytejlapaaijknbaa
/- THE CELL 'sum', in the pinned program and in every row, IS THE sha256 OF THE DUMP (.gsa) THAT YtejlapaaijknbaaProg.lean LOADS. Nothing in Lean hashes anything: it is a label: what it is worth is what the hold of that sum in a sandbox is worth. -/
noncomputable def Try.pinned : Pinned := { name := "ytejlapaaijknbaa", sum := "b2709ef5a3d07926cc0609843519a19274960731d155ea319ad31aa2de5f1df0", checked := Try.checked }
namespace Rows
def none {H : Type} : Left H := { results := [], args := [] }

/-- 'woodgrainlaw09.AluSums': WHATEVER THE INPUT: true; the input reads as it did. -/
def aluSumsSpec : ChangeSpec := { name := "aluSums", fn := fun _ => fun
  | [d1, d2, d3] => { results := [.lit (.bool true)], args := [d1, d2, d3] }
  | _ => none }
def aluSumsRow : OpenClaim := { program := "ytejlapaaijknbaa", sum := "b2709ef5a3d07926cc0609843519a19274960731d155ea319ad31aa2de5f1df0", func := "woodgrain/woodgrainlaw09.AluSums", spec := "aluSums", apart := false }
def AluSumsSaid : Prop := aluSumsRow.holds Try.pinned (OpenSpec.ofChange aluSumsSpec)

/-- ITS FALSE NEIGHBOUR: 'it returns false'. Refute it at one input. -/
def aluSumsWrong : ChangeSpec := { name := "aluSums", fn := fun _ => fun
  | [d1, d2, d3] => { results := [.lit (.bool false)], args := [d1, d2, d3] }
  | _ => none }
def AluSumsWrongFalsely : Prop := aluSumsRow.holds Try.pinned (OpenSpec.ofChange aluSumsWrong)

/-- 'woodgrainlaw09.AluDecimal': WHATEVER THE INPUT: true; the input reads as it did. -/
def aluDecimalSpec : ChangeSpec := { name := "aluDecimal", fn := fun _ => fun
  | [d1, d2, d3] => { results := [.lit (.bool true)], args := [d1, d2, d3] }
  | _ => none }
def aluDecimalRow : OpenClaim := { program := "ytejlapaaijknbaa", sum := "b2709ef5a3d07926cc0609843519a19274960731d155ea319ad31aa2de5f1df0", func := "woodgrain/woodgrainlaw09.AluDecimal", spec := "aluDecimal", apart := false }
def AluDecimalSaid : Prop := aluDecimalRow.holds Try.pinned (OpenSpec.ofChange aluDecimalSpec)

/-- ITS FALSE NEIGHBOUR: 'it returns false'. Refute it at one input. -/
def aluDecimalWrong : ChangeSpec := { name := "aluDecimal", fn := fun _ => fun
  | [d1, d2, d3] => { results := [.lit (.bool false)], args := [d1, d2, d3] }
  | _ => none }
def AluDecimalWrongFalsely : Prop := aluDecimalRow.holds Try.pinned (OpenSpec.ofChange aluDecimalWrong)

/-- 'woodgrainlaw09.AluDifferences': WHATEVER THE INPUT: true; the input reads as it did. -/
def aluDifferencesSpec : ChangeSpec := { name := "aluDifferences", fn := fun _ => fun
  | [d1, d2, d3] => { results := [.lit (.bool true)], args := [d1, d2, d3] }
  | _ => none }
def aluDifferencesRow : OpenClaim := { program := "ytejlapaaijknbaa", sum := "b2709ef5a3d07926cc0609843519a19274960731d155ea319ad31aa2de5f1df0", func := "woodgrain/woodgrainlaw09.AluDifferences", spec := "aluDifferences", apart := false }
def AluDifferencesSaid : Prop := aluDifferencesRow.holds Try.pinned (OpenSpec.ofChange aluDifferencesSpec)

/-- ITS FALSE NEIGHBOUR: 'it returns false'. Refute it at one input. -/
def aluDifferencesWrong : ChangeSpec := { name := "aluDifferences", fn := fun _ => fun
  | [d1, d2, d3] => { results := [.lit (.bool false)], args := [d1, d2, d3] }
  | _ => none }
def AluDifferencesWrongFalsely : Prop := aluDifferencesRow.holds Try.pinned (OpenSpec.ofChange aluDifferencesWrong)

/-- 'woodgrainlaw09.AluBack': WHATEVER THE INPUT: true; the input reads as it did. -/
def aluBackSpec : ChangeSpec := { name := "aluBack", fn := fun _ => fun
  | [d1, d2, d3] => { results := [.lit (.bool true)], args := [d1, d2, d3] }
  | _ => none }
def aluBackRow : OpenClaim := { program := "ytejlapaaijknbaa", sum := "b2709ef5a3d07926cc0609843519a19274960731d155ea319ad31aa2de5f1df0", func := "woodgrain/woodgrainlaw09.AluBack", spec := "aluBack", apart := false }
def AluBackSaid : Prop := aluBackRow.holds Try.pinned (OpenSpec.ofChange aluBackSpec)

/-- ITS FALSE NEIGHBOUR: 'it returns false'. Refute it at one input. -/
def aluBackWrong : ChangeSpec := { name := "aluBack", fn := fun _ => fun
  | [d1, d2, d3] => { results := [.lit (.bool false)], args := [d1, d2, d3] }
  | _ => none }
def AluBackWrongFalsely : Prop := aluBackRow.holds Try.pinned (OpenSpec.ofChange aluBackWrong)

/-- 'woodgrainlaw09.AluShifts': WHATEVER THE INPUT: true; the input reads as it did. -/
def aluShiftsSpec : ChangeSpec := { name := "aluShifts", fn := fun _ => fun
  | [d1, d2, d3] => { results := [.lit (.bool true)], args := [d1, d2, d3] }
  | _ => none }
def aluShiftsRow : OpenClaim := { program := "ytejlapaaijknbaa", sum := "b2709ef5a3d07926cc0609843519a19274960731d155ea319ad31aa2de5f1df0", func := "woodgrain/woodgrainlaw09.AluShifts", spec := "aluShifts", apart := false }
def AluShiftsSaid : Prop := aluShiftsRow.holds Try.pinned (OpenSpec.ofChange aluShiftsSpec)

/-- ITS FALSE NEIGHBOUR: 'it returns false'. Refute it at one input. -/
def aluShiftsWrong : ChangeSpec := { name := "aluShifts", fn := fun _ => fun
  | [d1, d2, d3] => { results := [.lit (.bool false)], args := [d1, d2, d3] }
  | _ => none }
def AluShiftsWrongFalsely : Prop := aluShiftsRow.holds Try.pinned (OpenSpec.ofChange aluShiftsWrong)

/-- 'woodgrainlaw09.AluOdd': WHATEVER THE INPUT: true; the input reads as it did. -/
def aluOddSpec : ChangeSpec := { name := "aluOdd", fn := fun _ => fun
  | [d1, d2, d3] => { results := [.lit (.bool true)], args := [d1, d2, d3] }
  | _ => none }
def aluOddRow : OpenClaim := { program := "ytejlapaaijknbaa", sum := "b2709ef5a3d07926cc0609843519a19274960731d155ea319ad31aa2de5f1df0", func := "woodgrain/woodgrainlaw09.AluOdd", spec := "aluOdd", apart := false }
def AluOddSaid : Prop := aluOddRow.holds Try.pinned (OpenSpec.ofChange aluOddSpec)

/-- ITS FALSE NEIGHBOUR: 'it returns false'. Refute it at one input. -/
def aluOddWrong : ChangeSpec := { name := "aluOdd", fn := fun _ => fun
  | [d1, d2, d3] => { results := [.lit (.bool false)], args := [d1, d2, d3] }
  | _ => none }
def AluOddWrongFalsely : Prop := aluOddRow.holds Try.pinned (OpenSpec.ofChange aluOddWrong)

/-- 'woodgrainlaw09.AluStill': WHATEVER THE INPUT: true; the input reads as it did. -/
def aluStillSpec : ChangeSpec := { name := "aluStill", fn := fun _ => fun
  | [d1, d2, d3] => { results := [.lit (.bool true)], args := [d1, d2, d3] }
  | _ => none }
def aluStillRow : OpenClaim := { program := "ytejlapaaijknbaa", sum := "b2709ef5a3d07926cc0609843519a19274960731d155ea319ad31aa2de5f1df0", func := "woodgrain/woodgrainlaw09.AluStill", spec := "aluStill", apart := false }
def AluStillSaid : Prop := aluStillRow.holds Try.pinned (OpenSpec.ofChange aluStillSpec)

/-- ITS FALSE NEIGHBOUR: 'it returns false'. Refute it at one input. -/
def aluStillWrong : ChangeSpec := { name := "aluStill", fn := fun _ => fun
  | [d1, d2, d3] => { results := [.lit (.bool false)], args := [d1, d2, d3] }
  | _ => none }
def AluStillWrongFalsely : Prop := aluStillRow.holds Try.pinned (OpenSpec.ofChange aluStillWrong)

/- THE SECOND FORM. 'bulk': how many values and letters a reading holds, each counted each time it is reached (what is shared counts as often as it is met; a slice's spare places count too). A statement '..UptoSaid' is the law's where the arguments, and the package variables that the reading takes, are together of bulk at most 1048576: NARROWER than '..Said'. Prove '..Said' where nothing that the law and all that it calls make is longer than what came in: it says more and counts as full. Else prove '..UptoSaid'. A law counts once. -/
mutual
def uptoBulk {H : Type} : DataW H → Nat
  | .lit (.string bytes) => bytes.length + 1
  | .lit _ => 1
  | .nil => 1
  | .ptr d => uptoBulk d + 1
  | .slice elems spare => uptoBulkAll elems + uptoBulkAll spare + 1
  | .agg parts => uptoBulkAll parts + 1
  | .iface _ d => uptoBulk d + 1
  | .map entries => uptoBulkEntries entries + 1
  | .held _ => 1
def uptoBulkAll {H : Type} : List (DataW H) → Nat
  | [] => 0
  | d :: r => uptoBulk d + uptoBulkAll r
def uptoBulkEntries {H : Type} : List (Lit × DataW H) → Nat
  | [] => 0
  | x :: r => uptoBulkEntry x + uptoBulkEntries r
def uptoBulkEntry {H : Type} : Lit × DataW H → Nat
  | (.string bytes, d) => bytes.length + uptoBulk d + 1
  | (_, d) => uptoBulk d + 1
 end
def uptoSmall : (H : Type) → List (DataW H) → Bool := fun _ ds => decide (uptoBulkAll ds ≤ 1048576)
def OpenSpec.upto (s : _root_.Go.ChangeSpec) : _root_.Go.OpenSpec := { _root_.Go.OpenSpec.ofChange s with cond := some uptoSmall }

/-- 'woodgrainlaw09.AluSums', WHERE WHAT IT READS IS OF BULK AT MOST 1048576: true; the input reads as it did. -/
def aluSumsUptoRow : OpenClaim := { program := "ytejlapaaijknbaa", sum := "b2709ef5a3d07926cc0609843519a19274960731d155ea319ad31aa2de5f1df0", func := "woodgrain/woodgrainlaw09.AluSums", spec := "aluSums", apart := false, narrowed := true }
def AluSumsUptoSaid : Prop := aluSumsUptoRow.holds Try.pinned (OpenSpec.upto aluSumsSpec)

/-- 'woodgrainlaw09.AluDecimal', WHERE WHAT IT READS IS OF BULK AT MOST 1048576: true; the input reads as it did. -/
def aluDecimalUptoRow : OpenClaim := { program := "ytejlapaaijknbaa", sum := "b2709ef5a3d07926cc0609843519a19274960731d155ea319ad31aa2de5f1df0", func := "woodgrain/woodgrainlaw09.AluDecimal", spec := "aluDecimal", apart := false, narrowed := true }
def AluDecimalUptoSaid : Prop := aluDecimalUptoRow.holds Try.pinned (OpenSpec.upto aluDecimalSpec)

/-- 'woodgrainlaw09.AluDifferences', WHERE WHAT IT READS IS OF BULK AT MOST 1048576: true; the input reads as it did. -/
def aluDifferencesUptoRow : OpenClaim := { program := "ytejlapaaijknbaa", sum := "b2709ef5a3d07926cc0609843519a19274960731d155ea319ad31aa2de5f1df0", func := "woodgrain/woodgrainlaw09.AluDifferences", spec := "aluDifferences", apart := false, narrowed := true }
def AluDifferencesUptoSaid : Prop := aluDifferencesUptoRow.holds Try.pinned (OpenSpec.upto aluDifferencesSpec)

/-- 'woodgrainlaw09.AluBack', WHERE WHAT IT READS IS OF BULK AT MOST 1048576: true; the input reads as it did. -/
def aluBackUptoRow : OpenClaim := { program := "ytejlapaaijknbaa", sum := "b2709ef5a3d07926cc0609843519a19274960731d155ea319ad31aa2de5f1df0", func := "woodgrain/woodgrainlaw09.AluBack", spec := "aluBack", apart := false, narrowed := true }
def AluBackUptoSaid : Prop := aluBackUptoRow.holds Try.pinned (OpenSpec.upto aluBackSpec)

/-- 'woodgrainlaw09.AluShifts', WHERE WHAT IT READS IS OF BULK AT MOST 1048576: true; the input reads as it did. -/
def aluShiftsUptoRow : OpenClaim := { program := "ytejlapaaijknbaa", sum := "b2709ef5a3d07926cc0609843519a19274960731d155ea319ad31aa2de5f1df0", func := "woodgrain/woodgrainlaw09.AluShifts", spec := "aluShifts", apart := false, narrowed := true }
def AluShiftsUptoSaid : Prop := aluShiftsUptoRow.holds Try.pinned (OpenSpec.upto aluShiftsSpec)

/-- 'woodgrainlaw09.AluOdd', WHERE WHAT IT READS IS OF BULK AT MOST 1048576: true; the input reads as it did. -/
def aluOddUptoRow : OpenClaim := { program := "ytejlapaaijknbaa", sum := "b2709ef5a3d07926cc0609843519a19274960731d155ea319ad31aa2de5f1df0", func := "woodgrain/woodgrainlaw09.AluOdd", spec := "aluOdd", apart := false, narrowed := true }
def AluOddUptoSaid : Prop := aluOddUptoRow.holds Try.pinned (OpenSpec.upto aluOddSpec)

/-- 'woodgrainlaw09.AluStill', WHERE WHAT IT READS IS OF BULK AT MOST 1048576: true; the input reads as it did. -/
def aluStillUptoRow : OpenClaim := { program := "ytejlapaaijknbaa", sum := "b2709ef5a3d07926cc0609843519a19274960731d155ea319ad31aa2de5f1df0", func := "woodgrain/woodgrainlaw09.AluStill", spec := "aluStill", apart := false, narrowed := true }
def AluStillUptoSaid : Prop := aluStillUptoRow.holds Try.pinned (OpenSpec.upto aluStillSpec)

end Rows
end Go.Proofs.Ytejlapaaijknbaa
