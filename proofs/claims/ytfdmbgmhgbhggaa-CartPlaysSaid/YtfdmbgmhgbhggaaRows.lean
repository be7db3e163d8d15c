/-
  No cell of these rows narrows 'for every input' (looked for: loops, veiled, ifaces, maps, wideKeys, modest, calm, conditions, laid).
  DERIVED. THE GIVEN ROWS OF THIS SEAT. 6 by the template 'for every input the law returns true; each argument reads behind the call as it read before'; 0 by the template 'total and deterministic' (their statements: YtfdmbgmhgbhggaaTotals.lean).
  GIVEN WITH THE SEED: the statements are not yours to turn. If you find one false, say at which input.
  Laid BY PROGRAM, IN A SANDBOX (cutbox-rows.mjs): the forced cells as the released guide's own fill.sh prints them over the translation 1abade8670e55507… (all of the seat's roots in one cut). By AI agents, Wed Nov 11 2026. No macro, syntax, notation, axiom, sorry.
-/
import Derived.Test.YtfdmbgmhgbhggaaChecked
import GoSem.Claim
import GoSem.ClaimJoined
import GoSem.ClaimMapViews
import Derived.JoinedTies
import Derived.KernelRfl
namespace Go.Proofs.Ytfdmbgmhgbhggaa
/- THE CELL 'sum', in the pinned program and in every row, IS THE sha256 OF THE DUMP (.gsa) THAT YtfdmbgmhgbhggaaProg.lean LOADS. Nothing in Lean hashes anything: it is a label: what it is worth is what the hold of that sum in a sandbox is worth. -/
noncomputable def Try.pinned : Pinned := { name := "ytfdmbgmhgbhggaa", sum := "1abade8670e55507fb1d6d595ec1912815b9640b2378d94d3aef481477f68a96", checked := Try.checked }
namespace Rows
def none {H : Type} : Left H := { results := [], args := [] }

/-- 'woodgrainlaw05.CartServes': WHATEVER THE INPUT: true; the input reads as it did. -/
def cartServesSpec : ChangeSpec := { name := "cartServes", fn := fun _ => fun
  | [d1, d2] => { results := [.lit (.bool true)], args := [d1, d2] }
  | _ => none }
def cartServesRow : OpenClaim := { program := "ytfdmbgmhgbhggaa", sum := "1abade8670e55507fb1d6d595ec1912815b9640b2378d94d3aef481477f68a96", func := "woodgrain/woodgrainlaw05.CartServes", spec := "cartServes", unfollowed := true, recurses := true, apart := false }
def CartServesSaid : Prop := cartServesRow.holds Try.pinned (OpenSpec.ofChange cartServesSpec)

/-- ITS FALSE NEIGHBOUR: 'it returns false'. Refute it at one input. -/
def cartServesWrong : ChangeSpec := { name := "cartServes", fn := fun _ => fun
  | [d1, d2] => { results := [.lit (.bool false)], args := [d1, d2] }
  | _ => none }
def CartServesWrongFalsely : Prop := cartServesRow.holds Try.pinned (OpenSpec.ofChange cartServesWrong)

/-- 'woodgrainlaw05.CartHolds': WHATEVER THE INPUT: true; the input reads as it did. -/
def cartHoldsSpec : ChangeSpec := { name := "cartHolds", fn := fun _ => fun
  | [d1, d2] => { results := [.lit (.bool true)], args := [d1, d2] }
  | _ => none }
def cartHoldsRow : OpenClaim := { program := "ytfdmbgmhgbhggaa", sum := "1abade8670e55507fb1d6d595ec1912815b9640b2378d94d3aef481477f68a96", func := "woodgrain/woodgrainlaw05.CartHolds", spec := "cartHolds", unfollowed := true, recurses := true, apart := false }
def CartHoldsSaid : Prop := cartHoldsRow.holds Try.pinned (OpenSpec.ofChange cartHoldsSpec)

/-- ITS FALSE NEIGHBOUR: 'it returns false'. Refute it at one input. -/
def cartHoldsWrong : ChangeSpec := { name := "cartHolds", fn := fun _ => fun
  | [d1, d2] => { results := [.lit (.bool false)], args := [d1, d2] }
  | _ => none }
def CartHoldsWrongFalsely : Prop := cartHoldsRow.holds Try.pinned (OpenSpec.ofChange cartHoldsWrong)

/-- 'woodgrainlaw05.CartPlays': WHATEVER THE INPUT: true; the input reads as it did. -/
def cartPlaysSpec : ChangeSpec := { name := "cartPlays", fn := fun _ => fun
  | [d] => { results := [.lit (.bool true)], args := [d] }
  | _ => none }
def cartPlaysRow : OpenClaim := { program := "ytfdmbgmhgbhggaa", sum := "1abade8670e55507fb1d6d595ec1912815b9640b2378d94d3aef481477f68a96", func := "woodgrain/woodgrainlaw05.CartPlays", spec := "cartPlays", unfollowed := true, recurses := true, apart := false }
def CartPlaysSaid : Prop := cartPlaysRow.holds Try.pinned (OpenSpec.ofChange cartPlaysSpec)

/-- ITS FALSE NEIGHBOUR: 'it returns false'. Refute it at one input. -/
def cartPlaysWrong : ChangeSpec := { name := "cartPlays", fn := fun _ => fun
  | [d] => { results := [.lit (.bool false)], args := [d] }
  | _ => none }
def CartPlaysWrongFalsely : Prop := cartPlaysRow.holds Try.pinned (OpenSpec.ofChange cartPlaysWrong)

/-- 'woodgrainlaw05.CartCopies': WHATEVER THE INPUT: true; the input reads as it did. -/
def cartCopiesSpec : ChangeSpec := { name := "cartCopies", fn := fun _ => fun
  | [d1, d2] => { results := [.lit (.bool true)], args := [d1, d2] }
  | _ => none }
def cartCopiesRow : OpenClaim := { program := "ytfdmbgmhgbhggaa", sum := "1abade8670e55507fb1d6d595ec1912815b9640b2378d94d3aef481477f68a96", func := "woodgrain/woodgrainlaw05.CartCopies", spec := "cartCopies", unfollowed := true, recurses := true, apart := false }
def CartCopiesSaid : Prop := cartCopiesRow.holds Try.pinned (OpenSpec.ofChange cartCopiesSpec)

/-- ITS FALSE NEIGHBOUR: 'it returns false'. Refute it at one input. -/
def cartCopiesWrong : ChangeSpec := { name := "cartCopies", fn := fun _ => fun
  | [d1, d2] => { results := [.lit (.bool false)], args := [d1, d2] }
  | _ => none }
def CartCopiesWrongFalsely : Prop := cartCopiesRow.holds Try.pinned (OpenSpec.ofChange cartCopiesWrong)

/-- 'woodgrainlaw05.CartNil': WHATEVER THE INPUT: true; the input reads as it did. -/
def cartNilSpec : ChangeSpec := { name := "cartNil", fn := fun _ => fun
  | [d] => { results := [.lit (.bool true)], args := [d] }
  | _ => none }
def cartNilRow : OpenClaim := { program := "ytfdmbgmhgbhggaa", sum := "1abade8670e55507fb1d6d595ec1912815b9640b2378d94d3aef481477f68a96", func := "woodgrain/woodgrainlaw05.CartNil", spec := "cartNil", unfollowed := true, recurses := true, apart := false }
def CartNilSaid : Prop := cartNilRow.holds Try.pinned (OpenSpec.ofChange cartNilSpec)

/-- ITS FALSE NEIGHBOUR: 'it returns false'. Refute it at one input. -/
def cartNilWrong : ChangeSpec := { name := "cartNil", fn := fun _ => fun
  | [d] => { results := [.lit (.bool false)], args := [d] }
  | _ => none }
def CartNilWrongFalsely : Prop := cartNilRow.holds Try.pinned (OpenSpec.ofChange cartNilWrong)

/-- 'woodgrainlaw05.CartSets': WHATEVER THE INPUT: true; the input reads as it did. -/
def cartSetsSpec : ChangeSpec := { name := "cartSets", fn := fun _ => fun
  | [d1, d2] => { results := [.lit (.bool true)], args := [d1, d2] }
  | _ => none }
def cartSetsRow : OpenClaim := { program := "ytfdmbgmhgbhggaa", sum := "1abade8670e55507fb1d6d595ec1912815b9640b2378d94d3aef481477f68a96", func := "woodgrain/woodgrainlaw05.CartSets", spec := "cartSets", unfollowed := true, recurses := true, apart := false }
def CartSetsSaid : Prop := cartSetsRow.holds Try.pinned (OpenSpec.ofChange cartSetsSpec)

/-- ITS FALSE NEIGHBOUR: 'it returns false'. Refute it at one input. -/
def cartSetsWrong : ChangeSpec := { name := "cartSets", fn := fun _ => fun
  | [d1, d2] => { results := [.lit (.bool false)], args := [d1, d2] }
  | _ => none }
def CartSetsWrongFalsely : Prop := cartSetsRow.holds Try.pinned (OpenSpec.ofChange cartSetsWrong)

/- THE SECOND FORM. 'bulk': how many values and letters a reading holds, each counted each time it is reached (what is shared counts as often as it is met; a slice's spare places count too). A statement '..UptoSaid' is the law's where the arguments, and the package variables that the reading takes, are together of bulk at most 1048576: NARROWER than '..Said'. Prove '..Said' where nothing that the law and all that it calls make is longer than what came in: it says more and counts as full. Else prove '..UptoSaid'. A law counts once. -/
mutual
def uptoBulk {H : Type} : DataW H → Nat
  | .lit (.string bytes) => bytes.length + 1
  | .lit _ => 1
  | .nil => 1
  | .ptr d => uptoBulk d + 1
  | .slice elems spare => uptoBulkAll elems + uptoBulkAll spare + 1
  | .agg parts => uptoBulkAll parts + 1
  | .iface _ d => uptoBulk d + 1
  | .map entries => uptoBulkEntries entries + 1
  | .held _ => 1
def uptoBulkAll {H : Type} : List (DataW H) → Nat
  | [] => 0
  | d :: r => uptoBulk d + uptoBulkAll r
def uptoBulkEntries {H : Type} : List (Lit × DataW H) → Nat
  | [] => 0
  | x :: r => uptoBulkEntry x + uptoBulkEntries r
def uptoBulkEntry {H : Type} : Lit × DataW H → Nat
  | (.string bytes, d) => bytes.length + uptoBulk d + 1
  | (_, d) => uptoBulk d + 1
 end
def uptoSmall : (H : Type) → List (DataW H) → Bool := fun _ ds => decide (uptoBulkAll ds ≤ 1048576)
def OpenSpec.upto (s : _root_.Go.ChangeSpec) : _root_.Go.OpenSpec := { _root_.Go.OpenSpec.ofChange s with cond := some uptoSmall }

/-- 'woodgrainlaw05.CartServes', WHERE WHAT IT READS IS OF BULK AT MOST 1048576: true; the input reads as it did. -/
def cartServesUptoRow : OpenClaim := { program := "ytfdmbgmhgbhggaa", sum := "1abade8670e55507fb1d6d595ec1912815b9640b2378d94d3aef481477f68a96", func := "woodgrain/woodgrainlaw05.CartServes", spec := "cartServes", unfollowed := true, recurses := true, apart := false, narrowed := true }
def CartServesUptoSaid : Prop := cartServesUptoRow.holds Try.pinned (OpenSpec.upto cartServesSpec)

/-- 'woodgrainlaw05.CartHolds', WHERE WHAT IT READS IS OF BULK AT MOST 1048576: true; the input reads as it did. -/
def cartHoldsUptoRow : OpenClaim := { program := "ytfdmbgmhgbhggaa", sum := "1abade8670e55507fb1d6d595ec1912815b9640b2378d94d3aef481477f68a96", func := "woodgrain/woodgrainlaw05.CartHolds", spec := "cartHolds", unfollowed := true, recurses := true, apart := false, narrowed := true }
def CartHoldsUptoSaid : Prop := cartHoldsUptoRow.holds Try.pinned (OpenSpec.upto cartHoldsSpec)

/-- 'woodgrainlaw05.CartPlays', WHERE WHAT IT READS IS OF BULK AT MOST 1048576: true; the input reads as it did. -/
def cartPlaysUptoRow : OpenClaim := { program := "ytfdmbgmhgbhggaa", sum := "1abade8670e55507fb1d6d595ec1912815b9640b2378d94d3aef481477f68a96", func := "woodgrain/woodgrainlaw05.CartPlays", spec := "cartPlays", unfollowed := true, recurses := true, apart := false, narrowed := true }
def CartPlaysUptoSaid : Prop := cartPlaysUptoRow.holds Try.pinned (OpenSpec.upto cartPlaysSpec)

/-- 'woodgrainlaw05.CartCopies', WHERE WHAT IT READS IS OF BULK AT MOST 1048576: true; the input reads as it did. -/
def cartCopiesUptoRow : OpenClaim := { program := "ytfdmbgmhgbhggaa", sum := "1abade8670e55507fb1d6d595ec1912815b9640b2378d94d3aef481477f68a96", func := "woodgrain/woodgrainlaw05.CartCopies", spec := "cartCopies", unfollowed := true, recurses := true, apart := false, narrowed := true }
def CartCopiesUptoSaid : Prop := cartCopiesUptoRow.holds Try.pinned (OpenSpec.upto cartCopiesSpec)

/-- 'woodgrainlaw05.CartNil', WHERE WHAT IT READS IS OF BULK AT MOST 1048576: true; the input reads as it did. -/
def cartNilUptoRow : OpenClaim := { program := "ytfdmbgmhgbhggaa", sum := "1abade8670e55507fb1d6d595ec1912815b9640b2378d94d3aef481477f68a96", func := "woodgrain/woodgrainlaw05.CartNil", spec := "cartNil", unfollowed := true, recurses := true, apart := false, narrowed := true }
def CartNilUptoSaid : Prop := cartNilUptoRow.holds Try.pinned (OpenSpec.upto cartNilSpec)

/-- 'woodgrainlaw05.CartSets', WHERE WHAT IT READS IS OF BULK AT MOST 1048576: true; the input reads as it did. -/
def cartSetsUptoRow : OpenClaim := { program := "ytfdmbgmhgbhggaa", sum := "1abade8670e55507fb1d6d595ec1912815b9640b2378d94d3aef481477f68a96", func := "woodgrain/woodgrainlaw05.CartSets", spec := "cartSets", unfollowed := true, recurses := true, apart := false, narrowed := true }
def CartSetsUptoSaid : Prop := cartSetsUptoRow.holds Try.pinned (OpenSpec.upto cartSetsSpec)

end Rows
end Go.Proofs.Ytfdmbgmhgbhggaa
