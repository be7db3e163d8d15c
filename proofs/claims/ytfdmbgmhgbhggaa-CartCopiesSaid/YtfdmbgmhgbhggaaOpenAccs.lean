/- Accesses as an argument, opened. -/
import Derived.Test.YtfdmbgmhgbhggaaOpenPlay
namespace Go.Proofs.Ytfdmbgmhgbhggaa.Ca
open Go.ChangeShapes Go.WideShapes Go.ChangeAt Go.RowKit Go.Joins Go.Deep Go.Proofs.Ytfdmbgmhgbhggaa.Cl
set_option linter.unusedVariables false
theorem open_accs {H : Type} {enc : TypeId × Value → H} {W : World} {ao : Option Addr} {n c : Nat} {d : DataW H} {p : List MemPlace}
    (h : DataW.Trod enc Try.prog W 0 (fun _ => true) true 23 (.slice ao n c) d p) (hlt : ∀ x ∈ p, x.block < W.heap.size) :
    ∃ L : List Ac, L.length = n ∧ Lies W 3 (.slice ao n c) n (acs L) ∧ AcOk L := by
  obtain ⟨css, hcl, hall, hLi⟩ := open_elems 3 (by kernel_rfl) (by decide) Try.underlying23 h hlt
  obtain ⟨R, rfl, hR⟩ := choice_list (f := fun p : Ac => [Value.int .u16 p.1, .int .u8 p.2.1, .bool p.2.2]) css fun cs hcs => by
    obtain ⟨h2, fuel, y, hy⟩ := hall cs hcs
    exact acc_cells h2 hy
  exact ⟨R, by simpa using hcl, by simpa [acs, List.flatMap] using hLi, hR⟩
end Go.Proofs.Ytfdmbgmhgbhggaa.Ca
