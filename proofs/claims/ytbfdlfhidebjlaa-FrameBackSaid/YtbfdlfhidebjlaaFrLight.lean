/- The reference of package frame: are rows few, and short? -/
import Derived.Test.YtbfdlfhidebjlaaFrSame
namespace Go.Proofs.Ytbfdlfhidebjlaa.Cl
open Go.RowKit Go.Deep
set_option linter.unusedVariables false
set_option linter.unusedSimpArgs false

def lightF (A : List (List Int)) : Bool := decide (A.length ≤ 30 ∧ ∀ r ∈ A, r.length ≤ 400)
set_option maxRecDepth 100000 in
set_option maxHeartbeats 1000000 in
theorem light_core (w : World) (ao : Option Addr) (n cap : Nat) (A : List (List Int)) (hA : Pic w (.slice ao n cap) A) :
    Calls Try.prog 25 #[.slice ao n cap, .int .i64 30] w fun e w' => e = .returned (.bool (lightF A)) ∧ w' = w := by
  obtain ⟨hn, HA⟩ := picAt hA
  have HN := hideR hn
  clear hA
  by_cases hbig : (30 : Int) < n
  · have hF : lightF A = false := decide_eq_false (fun h => by omega)
    have HF := hideR hF
    clear hF hn
    go_enter Try.func25, Try.ntmps25
    go_wp2
    go_ret
    rw [HF.out]
    exact ⟨rfl, rfl⟩
  have hn30 : n ≤ 30 := by omega
  clear hn
  go_enter Try.func25, Try.ntmps25
  go_wp2
  go_loopw [5] (fun i wr => ∃ k : Nat, k ≤ n ∧ i = .int .i64 k ∧ (∀ r ∈ A.take k, r.length ≤ 400) ∧ wr = w) (fun i _ => n - (intOf i).toNat)
  case atStart => exact ⟨0, Nat.zero_le _, rfl, fun r h => by simp at h, rfl⟩
  case round =>
    obtain ⟨k, hk, rfl, hall, rfl⟩ := hrel
    by_cases hkl : k < n
    · have hkA : k < A.length := by have := HN.out; omega
      obtain ⟨b1, o1, ao1, cap1, rfl, hb1, hc1, hL1⟩ := HA.out k _ (List.getElem?_eq_getElem hkA)
      have tA : A.take (k + 1) = A.take k ++ [A[k]] := List.take_succ_eq_append_getElem hkA
      have hmem := List.getElem_mem hkA
      generalize A[k] = r at *
      have HT := hideR tA
      have HALL := hideR hall
      have HMEM := hideR hmem
      have kk : (k : Int) < (n : Int) := by omega
      have kk0 : (0 : Int) ≤ (k : Int) := by omega
      generalize hl : r.length = l at *
      have HLR := hideR hl
      clear tA hL1 hall hmem hl
      by_cases h4 : (400 : Int) < (l : Int)
      · have hF : lightF A = false := decide_eq_false (fun h => by have := h.2 r HMEM.out; have := HLR.out; omega)
        have HF := hideR hF
        clear hF
        go_wp2
        go_ret
        rw [HF.out]
        exact ⟨rfl, rfl⟩
      · go_wp2
        refine ⟨⟨k + 1, hkl, by go_num, fun x hx => ?_, trivial⟩, by simp [intOf]; omega⟩
        rw [HT.out] at hx
        rcases List.mem_append.1 hx with h | h
        · exact HALL.out x h
        · rw [List.mem_singleton.1 h, HLR.out]; omega
    · obtain rfl : k = n := by omega
      rw [List.take_of_length_le (by have := HN.out; omega)] at hall
      have hF : lightF A = true := decide_eq_true ⟨by have := HN.out; omega, hall⟩
      have HF := hideR hF
      clear hF hall
      go_wp2
      go_ret
      rw [HF.out]
      exact ⟨rfl, rfl⟩
end Go.Proofs.Ytbfdlfhidebjlaa.Cl
