/- The walk of the law on the tags. -/
import Derived.Test.YtjhpmefkkhplbaaImgTags
import Derived.Test.YtjhpmefkkhplbaaImgLaws
import Derived.RegionTactic
import Derived.ChangeAlike
import Derived.BigRegion
import Derived.Deep.QuietTactic
import Derived.BigQuiet
namespace Go.Proofs.Ytjhpmefkkhplbaa
open Go.RowKit
set_option linter.unusedVariables false
set_option linter.unusedSimpArgs false
theorem owns_tags {w : World} {base : Nat} {v : Value} (h : w.ownsRow base 9 1 v 11 tagStrs) : ∃ g cap, v = .slice (some ⟨g, 0, none⟩) 11 cap ∧ g < w.heap.size ∧ ∀ j, j < 11 → w.cell? ⟨g, j, none⟩ = tagStrs[j]? := by
  obtain ⟨_, ⟨_, h0⟩ | ⟨g, cap, cur, rfl, hg, hh, hn, hc, hs, hx⟩⟩ := h
  · exact absurd h0 (by omega)
  · refine ⟨g, cap, rfl, (Array.getElem?_eq_some_iff.1 hh).1, fun j hj => ?_⟩
    rw [cell_of_row w g j cur 9 (0, 0) hh, ← hx, List.getElem?_take_of_lt (by omega)]
    simp
def isK (k : Nat) (other : ByteArray) : Bool := decide (0 ≤ Img.idx other ∧ Img.idx other < k)
set_option maxHeartbeats 8000000 in
theorem imageTags_walk (other : ByteArray) (w : World) (ht : other.size ≤ maxLen) :
    Calls Try.prog 5 #[.string other] w fun e w' => e = .returned (.bool true) ∧ Below w.heap.size w w' := by
  clear ht
  have hi := Img.idx_in other
  go_enter Try.func5, Try.ntmps5
  go_wp2_with fail
  refine (tags_any _).mono ?_
  rintro e w1 ⟨v1, rfl, o1, hb1⟩
  obtain ⟨g, c1, rfl, gl, hg⟩ := owns_tags o1
  go_wp2_with fail
  refine (rtags_any _).mono ?_
  rintro e w2 ⟨v2, rfl, o2, hb2⟩
  obtain ⟨g', c2, rfl, gl', hg'⟩ := owns_tags o2
  have HG := Lib.hid (fun j (hj : j < 11) => (hb2.cell (p := ⟨g, j, none⟩) gl).trans (hg j hj))
  have HG' := Lib.hid hg'
  have hw := hb1.trans (hb2.mono hb1.size)
  clear hg hg' o1 o2 hb1 hb2
  go_wp2_with fail
  go_loopw [5, 6] (fun b i wr => ∃ k m : Nat, k ≤ 11 ∧ i = .int .i64 k ∧ b = .bool (isK k other) ∧ wr = w2.drewN m) (fun _ i _ => (11 - intOf i).toNat)
  case atStart => exact ⟨0, 0, by omega, rfl, by congr 1; unfold isK; simp <;> omega, rfl⟩
  case round =>
    obtain ⟨k, m, hk, rfl, rfl, rfl⟩ := hrel
    obtain rfl | hk0 := Decidable.em (k = 0)
    · have a0 : w2.cell? ⟨g, 0, none⟩ = some (.string ⟨#[50, 75]⟩) := HG.out 0 (by omega)
      have b0 : w2.cell? ⟨g', 0, none⟩ = some (.string ⟨#[50, 75]⟩) := HG'.out 0 (by omega)
      by_cases h1 : Img.idx other = 0
      · have e0 : ([50, 75] == other.toList) = true := (Img.idx_iff other 0 (by omega)).2 h1
        have hK : isK 0 other = false := by unfold isK; simp <;> omega
        have HK := Lib.hid (show isK 1 other = true by unfold isK; simp <;> omega)
        clear h1
        go_wp2
        go_region
        go_wp2
        go_roundw
        case rel => exact ⟨1, m + 1, by omega, rfl, by rw [HK.out], rfl⟩
        case measure => simp [intOf]
      · have e0 : ([50, 75] == other.toList) = false := Img.idx_not other 0 (by omega) h1
        cases hK : isK 0 other
        · have HK := Lib.hid (show isK 1 other = false by unfold isK at hK ⊢; simp at hK ⊢ <;> omega)
          clear h1
          go_wp2
          go_region
          go_wp2
          go_roundw
          case rel => exact ⟨1, m + 1, by omega, rfl, by rw [HK.out], rfl⟩
          case measure => simp [intOf]
        · have HK := Lib.hid (show isK 1 other = true by unfold isK at hK ⊢; simp at hK ⊢ <;> omega)
          clear h1
          go_wp2
          go_region
          go_wp2
          go_roundw
          case rel => exact ⟨1, m + 1, by omega, rfl, by rw [HK.out], rfl⟩
          case measure => simp [intOf]
    obtain rfl | hk1 := Decidable.em (k = 1)
    · have a0 : w2.cell? ⟨g, 1, none⟩ = some (.string ⟨#[51, 70]⟩) := HG.out 1 (by omega)
      have b0 : w2.cell? ⟨g', 1, none⟩ = some (.string ⟨#[51, 70]⟩) := HG'.out 1 (by omega)
      by_cases h1 : Img.idx other = 1
      · have e0 : ([51, 70] == other.toList) = true := (Img.idx_iff other 1 (by omega)).2 h1
        have hK : isK 1 other = false := by unfold isK; simp <;> omega
        have HK := Lib.hid (show isK 2 other = true by unfold isK; simp <;> omega)
        clear h1
        go_wp2
        go_region
        go_wp2
        go_roundw
        case rel => exact ⟨2, m + 1, by omega, rfl, by rw [HK.out], rfl⟩
        case measure => simp [intOf]
      · have e0 : ([51, 70] == other.toList) = false := Img.idx_not other 1 (by omega) h1
        cases hK : isK 1 other
        · have HK := Lib.hid (show isK 2 other = false by unfold isK at hK ⊢; simp at hK ⊢ <;> omega)
          clear h1
          go_wp2
          go_region
          go_wp2
          go_roundw
          case rel => exact ⟨2, m + 1, by omega, rfl, by rw [HK.out], rfl⟩
          case measure => simp [intOf]
        · have HK := Lib.hid (show isK 2 other = true by unfold isK at hK ⊢; simp at hK ⊢ <;> omega)
          clear h1
          go_wp2
          go_region
          go_wp2
          go_roundw
          case rel => exact ⟨2, m + 1, by omega, rfl, by rw [HK.out], rfl⟩
          case measure => simp [intOf]
    obtain rfl | hk2 := Decidable.em (k = 2)
    · have a0 : w2.cell? ⟨g, 2, none⟩ = some (.string ⟨#[52, 75]⟩) := HG.out 2 (by omega)
      have b0 : w2.cell? ⟨g', 2, none⟩ = some (.string ⟨#[52, 75]⟩) := HG'.out 2 (by omega)
      by_cases h1 : Img.idx other = 2
      · have e0 : ([52, 75] == other.toList) = true := (Img.idx_iff other 2 (by omega)).2 h1
        have hK : isK 2 other = false := by unfold isK; simp <;> omega
        have HK := Lib.hid (show isK 3 other = true by unfold isK; simp <;> omega)
        clear h1
        go_wp2
        go_region
        go_wp2
        go_roundw
        case rel => exact ⟨3, m + 1, by omega, rfl, by rw [HK.out], rfl⟩
        case measure => simp [intOf]
      · have e0 : ([52, 75] == other.toList) = false := Img.idx_not other 2 (by omega) h1
        cases hK : isK 2 other
        · have HK := Lib.hid (show isK 3 other = false by unfold isK at hK ⊢; simp at hK ⊢ <;> omega)
          clear h1
          go_wp2
          go_region
          go_wp2
          go_roundw
          case rel => exact ⟨3, m + 1, by omega, rfl, by rw [HK.out], rfl⟩
          case measure => simp [intOf]
        · have HK := Lib.hid (show isK 3 other = true by unfold isK at hK ⊢; simp at hK ⊢ <;> omega)
          clear h1
          go_wp2
          go_region
          go_wp2
          go_roundw
          case rel => exact ⟨3, m + 1, by omega, rfl, by rw [HK.out], rfl⟩
          case measure => simp [intOf]
    obtain rfl | hk3 := Decidable.em (k = 3)
    · have a0 : w2.cell? ⟨g, 3, none⟩ = some (.string ⟨#[69, 48]⟩) := HG.out 3 (by omega)
      have b0 : w2.cell? ⟨g', 3, none⟩ = some (.string ⟨#[69, 48]⟩) := HG'.out 3 (by omega)
      by_cases h1 : Img.idx other = 3
      · have e0 : ([69, 48] == other.toList) = true := (Img.idx_iff other 3 (by omega)).2 h1
        have hK : isK 3 other = false := by unfold isK; simp <;> omega
        have HK := Lib.hid (show isK 4 other = true by unfold isK; simp <;> omega)
        clear h1
        go_wp2
        go_region
        go_wp2
        go_roundw
        case rel => exact ⟨4, m + 1, by omega, rfl, by rw [HK.out], rfl⟩
        case measure => simp [intOf]
      · have e0 : ([69, 48] == other.toList) = false := Img.idx_not other 3 (by omega) h1
        cases hK : isK 3 other
        · have HK := Lib.hid (show isK 4 other = false by unfold isK at hK ⊢; simp at hK ⊢ <;> omega)
          clear h1
          go_wp2
          go_region
          go_wp2
          go_roundw
          case rel => exact ⟨4, m + 1, by omega, rfl, by rw [HK.out], rfl⟩
          case measure => simp [intOf]
        · have HK := Lib.hid (show isK 4 other = true by unfold isK at hK ⊢; simp at hK ⊢ <;> omega)
          clear h1
          go_wp2
          go_region
          go_wp2
          go_roundw
          case rel => exact ⟨4, m + 1, by omega, rfl, by rw [HK.out], rfl⟩
          case measure => simp [intOf]
    obtain rfl | hk4 := Decidable.em (k = 4)
    · have a0 : w2.cell? ⟨g, 4, none⟩ = some (.string ⟨#[70, 52]⟩) := HG.out 4 (by omega)
      have b0 : w2.cell? ⟨g', 4, none⟩ = some (.string ⟨#[70, 52]⟩) := HG'.out 4 (by omega)
      by_cases h1 : Img.idx other = 4
      · have e0 : ([70, 52] == other.toList) = true := (Img.idx_iff other 4 (by omega)).2 h1
        have hK : isK 4 other = false := by unfold isK; simp <;> omega
        have HK := Lib.hid (show isK 5 other = true by unfold isK; simp <;> omega)
        clear h1
        go_wp2
        go_region
        go_wp2
        go_roundw
        case rel => exact ⟨5, m + 1, by omega, rfl, by rw [HK.out], rfl⟩
        case measure => simp [intOf]
      · have e0 : ([70, 52] == other.toList) = false := Img.idx_not other 4 (by omega) h1
        cases hK : isK 4 other
        · have HK := Lib.hid (show isK 5 other = false by unfold isK at hK ⊢; simp at hK ⊢ <;> omega)
          clear h1
          go_wp2
          go_region
          go_wp2
          go_roundw
          case rel => exact ⟨5, m + 1, by omega, rfl, by rw [HK.out], rfl⟩
          case measure => simp [intOf]
        · have HK := Lib.hid (show isK 5 other = true by unfold isK at hK ⊢; simp at hK ⊢ <;> omega)
          clear h1
          go_wp2
          go_region
          go_wp2
          go_roundw
          case rel => exact ⟨5, m + 1, by omega, rfl, by rw [HK.out], rfl⟩
          case measure => simp [intOf]
    obtain rfl | hk5 := Decidable.em (k = 5)
    · have a0 : w2.cell? ⟨g, 5, none⟩ = some (.string ⟨#[70, 52, 83, 67]⟩) := HG.out 5 (by omega)
      have b0 : w2.cell? ⟨g', 5, none⟩ = some (.string ⟨#[70, 52, 83, 67]⟩) := HG'.out 5 (by omega)
      by_cases h1 : Img.idx other = 5
      · have e0 : ([70, 52, 83, 67] == other.toList) = true := (Img.idx_iff other 5 (by omega)).2 h1
        have hK : isK 5 other = false := by unfold isK; simp <;> omega
        have HK := Lib.hid (show isK 6 other = true by unfold isK; simp <;> omega)
        clear h1
        go_wp2
        go_region
        go_wp2
        go_roundw
        case rel => exact ⟨6, m + 1, by omega, rfl, by rw [HK.out], rfl⟩
        case measure => simp [intOf]
      · have e0 : ([70, 52, 83, 67] == other.toList) = false := Img.idx_not other 5 (by omega) h1
        cases hK : isK 5 other
        · have HK := Lib.hid (show isK 6 other = false by unfold isK at hK ⊢; simp at hK ⊢ <;> omega)
          clear h1
          go_wp2
          go_region
          go_wp2
          go_roundw
          case rel => exact ⟨6, m + 1, by omega, rfl, by rw [HK.out], rfl⟩
          case measure => simp [intOf]
        · have HK := Lib.hid (show isK 6 other = true by unfold isK at hK ⊢; simp at hK ⊢ <;> omega)
          clear h1
          go_wp2
          go_region
          go_wp2
          go_roundw
          case rel => exact ⟨6, m + 1, by omega, rfl, by rw [HK.out], rfl⟩
          case measure => simp [intOf]
    obtain rfl | hk6 := Decidable.em (k = 6)
    · have a0 : w2.cell? ⟨g, 6, none⟩ = some (.string ⟨#[70, 54]⟩) := HG.out 6 (by omega)
      have b0 : w2.cell? ⟨g', 6, none⟩ = some (.string ⟨#[70, 54]⟩) := HG'.out 6 (by omega)
      by_cases h1 : Img.idx other = 6
      · have e0 : ([70, 54] == other.toList) = true := (Img.idx_iff other 6 (by omega)).2 h1
        have hK : isK 6 other = false := by unfold isK; simp <;> omega
        have HK := Lib.hid (show isK 7 other = true by unfold isK; simp <;> omega)
        clear h1
        go_wp2
        go_region
        go_wp2
        go_roundw
        case rel => exact ⟨7, m + 1, by omega, rfl, by rw [HK.out], rfl⟩
        case measure => simp [intOf]
      · have e0 : ([70, 54] == other.toList) = false := Img.idx_not other 6 (by omega) h1
        cases hK : isK 6 other
        · have HK := Lib.hid (show isK 7 other = false by unfold isK at hK ⊢; simp at hK ⊢ <;> omega)
          clear h1
          go_wp2
          go_region
          go_wp2
          go_roundw
          case rel => exact ⟨7, m + 1, by omega, rfl, by rw [HK.out], rfl⟩
          case measure => simp [intOf]
        · have HK := Lib.hid (show isK 7 other = true by unfold isK at hK ⊢; simp at hK ⊢ <;> omega)
          clear h1
          go_wp2
          go_region
          go_wp2
          go_roundw
          case rel => exact ⟨7, m + 1, by omega, rfl, by rw [HK.out], rfl⟩
          case measure => simp [intOf]
    obtain rfl | hk7 := Decidable.em (k = 7)
    · have a0 : w2.cell? ⟨g, 7, none⟩ = some (.string ⟨#[70, 54, 83, 67]⟩) := HG.out 7 (by omega)
      have b0 : w2.cell? ⟨g', 7, none⟩ = some (.string ⟨#[70, 54, 83, 67]⟩) := HG'.out 7 (by omega)
      by_cases h1 : Img.idx other = 7
      · have e0 : ([70, 54, 83, 67] == other.toList) = true := (Img.idx_iff other 7 (by omega)).2 h1
        have hK : isK 7 other = false := by unfold isK; simp <;> omega
        have HK := Lib.hid (show isK 8 other = true by unfold isK; simp <;> omega)
        clear h1
        go_wp2
        go_region
        go_wp2
        go_roundw
        case rel => exact ⟨8, m + 1, by omega, rfl, by rw [HK.out], rfl⟩
        case measure => simp [intOf]
      · have e0 : ([70, 54, 83, 67] == other.toList) = false := Img.idx_not other 7 (by omega) h1
        cases hK : isK 7 other
        · have HK := Lib.hid (show isK 8 other = false by unfold isK at hK ⊢; simp at hK ⊢ <;> omega)
          clear h1
          go_wp2
          go_region
          go_wp2
          go_roundw
          case rel => exact ⟨8, m + 1, by omega, rfl, by rw [HK.out], rfl⟩
          case measure => simp [intOf]
        · have HK := Lib.hid (show isK 8 other = true by unfold isK at hK ⊢; simp at hK ⊢ <;> omega)
          clear h1
          go_wp2
          go_region
          go_wp2
          go_roundw
          case rel => exact ⟨8, m + 1, by omega, rfl, by rw [HK.out], rfl⟩
          case measure => simp [intOf]
    obtain rfl | hk8 := Decidable.em (k = 8)
    · have a0 : w2.cell? ⟨g, 8, none⟩ = some (.string ⟨#[70, 56]⟩) := HG.out 8 (by omega)
      have b0 : w2.cell? ⟨g', 8, none⟩ = some (.string ⟨#[70, 56]⟩) := HG'.out 8 (by omega)
      by_cases h1 : Img.idx other = 8
      · have e0 : ([70, 56] == other.toList) = true := (Img.idx_iff other 8 (by omega)).2 h1
        have hK : isK 8 other = false := by unfold isK; simp <;> omega
        have HK := Lib.hid (show isK 9 other = true by unfold isK; simp <;> omega)
        clear h1
        go_wp2
        go_region
        go_wp2
        go_roundw
        case rel => exact ⟨9, m + 1, by omega, rfl, by rw [HK.out], rfl⟩
        case measure => simp [intOf]
      · have e0 : ([70, 56] == other.toList) = false := Img.idx_not other 8 (by omega) h1
        cases hK : isK 8 other
        · have HK := Lib.hid (show isK 9 other = false by unfold isK at hK ⊢; simp at hK ⊢ <;> omega)
          clear h1
          go_wp2
          go_region
          go_wp2
          go_roundw
          case rel => exact ⟨9, m + 1, by omega, rfl, by rw [HK.out], rfl⟩
          case measure => simp [intOf]
        · have HK := Lib.hid (show isK 9 other = true by unfold isK at hK ⊢; simp at hK ⊢ <;> omega)
          clear h1
          go_wp2
          go_region
          go_wp2
          go_roundw
          case rel => exact ⟨9, m + 1, by omega, rfl, by rw [HK.out], rfl⟩
          case measure => simp [intOf]
    obtain rfl | hk9 := Decidable.em (k = 9)
    · have a0 : w2.cell? ⟨g, 9, none⟩ = some (.string ⟨#[70, 56, 83, 67]⟩) := HG.out 9 (by omega)
      have b0 : w2.cell? ⟨g', 9, none⟩ = some (.string ⟨#[70, 56, 83, 67]⟩) := HG'.out 9 (by omega)
      by_cases h1 : Img.idx other = 9
      · have e0 : ([70, 56, 83, 67] == other.toList) = true := (Img.idx_iff other 9 (by omega)).2 h1
        have hK : isK 9 other = false := by unfold isK; simp <;> omega
        have HK := Lib.hid (show isK 10 other = true by unfold isK; simp <;> omega)
        clear h1
        go_wp2
        go_region
        go_wp2
        go_roundw
        case rel => exact ⟨10, m + 1, by omega, rfl, by rw [HK.out], rfl⟩
        case measure => simp [intOf]
      · have e0 : ([70, 56, 83, 67] == other.toList) = false := Img.idx_not other 9 (by omega) h1
        cases hK : isK 9 other
        · have HK := Lib.hid (show isK 10 other = false by unfold isK at hK ⊢; simp at hK ⊢ <;> omega)
          clear h1
          go_wp2
          go_region
          go_wp2
          go_roundw
          case rel => exact ⟨10, m + 1, by omega, rfl, by rw [HK.out], rfl⟩
          case measure => simp [intOf]
        · have HK := Lib.hid (show isK 10 other = true by unfold isK at hK ⊢; simp at hK ⊢ <;> omega)
          clear h1
          go_wp2
          go_region
          go_wp2
          go_roundw
          case rel => exact ⟨10, m + 1, by omega, rfl, by rw [HK.out], rfl⟩
          case measure => simp [intOf]
    obtain rfl | hk10 := Decidable.em (k = 10)
    · have a0 : w2.cell? ⟨g, 10, none⟩ = some (.string ⟨#[70, 69]⟩) := HG.out 10 (by omega)
      have b0 : w2.cell? ⟨g', 10, none⟩ = some (.string ⟨#[70, 69]⟩) := HG'.out 10 (by omega)
      by_cases h1 : Img.idx other = 10
      · have e0 : ([70, 69] == other.toList) = true := (Img.idx_iff other 10 (by omega)).2 h1
        have hK : isK 10 other = false := by unfold isK; simp <;> omega
        have HK := Lib.hid (show isK 11 other = true by unfold isK; simp <;> omega)
        clear h1
        go_wp2
        go_region
        go_wp2
        go_roundw
        case rel => exact ⟨11, m + 1, by omega, rfl, by rw [HK.out], rfl⟩
        case measure => simp [intOf]
      · have e0 : ([70, 69] == other.toList) = false := Img.idx_not other 10 (by omega) h1
        cases hK : isK 10 other
        · have HK := Lib.hid (show isK 11 other = false by unfold isK at hK ⊢; simp at hK ⊢ <;> omega)
          clear h1
          go_wp2
          go_region
          go_wp2
          go_roundw
          case rel => exact ⟨11, m + 1, by omega, rfl, by rw [HK.out], rfl⟩
          case measure => simp [intOf]
        · have HK := Lib.hid (show isK 11 other = true by unfold isK at hK ⊢; simp at hK ⊢ <;> omega)
          clear h1
          go_wp2
          go_region
          go_wp2
          go_roundw
          case rel => exact ⟨11, m + 1, by omega, rfl, by rw [HK.out], rfl⟩
          case measure => simp [intOf]
    · obtain rfl : k = 11 := by omega
      obtain ⟨B, S, W, X, -, -, -, -, hsh⟩ := shape_is (Img.idx other) 2048
      have zw := hw.size
      by_cases hn : Img.idx other = -1
      · have he : Img.errK (Img.idx other) 2048 = 3 := by rw [hn]; rfl
        have hK : isK 11 other = false := by unfold isK; simp <;> omega
        clear hn
        go_wp2_with fail
        refine (fit_any _ _ _ (by omega) (by omega)).mono ?_
        rintro e w3 ⟨rfl, hb3⟩
        have z3 := hb3.size
        go_wp2_with fail
        refine (awake_any _).mono ?_
        rintro e w6 ⟨rfl, hb6⟩
        go_wp2_with fail
        go_ret
        have b3 := (below_drewN hw m).trans (hb3.mono (by exact zw))
        have y3 : w2.heap.size ≤ w3.heap.size := z3
        exact ⟨rfl, (b3.alloc (by omega) _).trans (hb6.mono (by simp; omega))⟩
      · have he : (Img.errK (Img.idx other) 2048 != 3) = true := by unfold Img.errK; rw [if_neg (by omega)]; split <;> rfl
        have hK : isK 11 other = true := by unfold isK; simp <;> omega
        clear hn
        go_wp2_with fail
        refine (fit_any _ _ _ (by omega) (by omega)).mono ?_
        rintro e w3 ⟨rfl, hb3⟩
        have z3 := hb3.size
        go_wp2_with fail
        refine (awake_any _).mono ?_
        rintro e w6 ⟨rfl, hb6⟩
        go_wp2_with fail
        go_ret
        have b3 := (below_drewN hw m).trans (hb3.mono (by exact zw))
        have y3 : w2.heap.size ≤ w3.heap.size := z3
        exact ⟨rfl, (b3.alloc (by omega) _).trans (hb6.mono (by simp; omega))⟩
end Go.Proofs.Ytjhpmefkkhplbaa
