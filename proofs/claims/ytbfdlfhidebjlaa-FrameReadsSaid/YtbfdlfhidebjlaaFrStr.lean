/- Bytes as a string. -/
import Derived.Test.YtbfdlfhidebjlaaFrKit
import Derived.Laws.BytesArg
namespace Go.Proofs.Ytbfdlfhidebjlaa.Cl
open Go.RowKit Go.Deep
set_option linter.unusedVariables false
set_option linter.unusedSimpArgs false

theorem conv_lies (W : World) (ao : Option Addr) (n c : Nat) (xs : List Int) (h : Lies W 1 (.slice ao n c) xs.length (xs.map (Value.int .u8))) : (convert 45 9 (.slice ao n c)).run Try.prog W = .ok (.string (strOfNums xs)) W := by
  obtain ⟨_, ao', c', hv, ⟨hc, hnone⟩, hcs⟩ := h
  cases hv
  rcases hcs with h0 | ⟨b, off, rfl, _, hcs⟩
  · obtain rfl : xs = [] := List.eq_nil_of_length_eq_zero h0
    cases ao with
    | none => exact run_convert_bytes_nil W 45 5 Try.underlying45 Try.underlying5 _ _ 9 Try.underlying9
    | some ad =>
      rw [run_convert_bytes_string W 45 9 5 _ _ _ Try.underlying45 Try.underlying5 Try.underlying9]
      exact run_bytesToString W ad 0 c [] (by simp [go_sem])
  · exact run_convert_bytes_arg W 45 5 Try.underlying45 Try.underlying5 b off _ c xs rfl (fun i hi => hcs i _ (by rw [List.getElem?_map, List.getElem?_eq_getElem hi]; simp [List.getD, List.getElem?_eq_getElem hi])) 9 Try.underlying9
/-- Bytes. -/
def Byt (xs : List Int) : Prop := ∀ x ∈ xs, 0 ≤ x ∧ x < 256
theorem strOfNums_inj {xs ys : List Int} (hx : Byt xs) (hy : Byt ys) : strOfNums xs = strOfNums ys ↔ xs = ys := by
  refine ⟨fun h => ?_, fun h => by rw [h]⟩
  have h2 : xs.map (fun n => UInt8.ofNat n.toNat) = ys.map (fun n => UInt8.ofNat n.toNat) := by
    rw [← strOfNums_data, ← strOfNums_data, h]
  clear h
  induction xs generalizing ys with
  | nil => cases ys with
    | nil => rfl
    | cons => simp at h2
  | cons x t ih => cases ys with
    | nil => simp at h2
    | cons y u =>
      simp only [List.map_cons, List.cons.injEq] at h2
      have h1 := hx x (by simp)
      have h3 := hy y (by simp)
      have e := congrArg UInt8.toNat h2.1
      simp only [UInt8.toNat_ofNat'] at e
      rw [Nat.mod_eq_of_lt (by omega), Nat.mod_eq_of_lt (by omega)] at e
      rw [show x = y from by omega, ih (fun z hz => hx z (by simp [hz])) (fun z hz => hy z (by simp [hz])) h2.2]
end Go.Proofs.Ytbfdlfhidebjlaa.Cl
