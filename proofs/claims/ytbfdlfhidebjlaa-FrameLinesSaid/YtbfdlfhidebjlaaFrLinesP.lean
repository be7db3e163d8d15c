/- The law of a whole picture of lines: what the maker holds as the lines go by, in plain lists. -/
import Derived.Test.YtbfdlfhidebjlaaFrFeed
namespace Go.Proofs.Ytbfdlfhidebjlaa.Cl
open Go.RowKit
set_option linter.unusedVariables false
set_option linter.unusedSimpArgs false

def lrow (a : Int) (k : Nat) : List Int := List.replicate k a ++ List.replicate (160 - k) 0
def LM (l : List Int) (y c : Nat) : List (List Int) := (List.range 320).map fun i => if i < y then lrow (l[i]?.getD 0) 160 else if i = y then lrow (l[i]?.getD 0) (c - 68) else lrow 0 0
def LS (l : List Int) (y c : Nat) : FSt := ⟨LM l y c, if c = 0 then y else y + 1, false, if c = 0 then decide (0 < y ∧ y ≤ 3) else decide (y < 3)⟩
theorem LM_length (l : List Int) (y c : Nat) : (LM l y c).length = 320 := by simp [LM]
theorem LM_at (l : List Int) (y c i : Nat) (h : i < 320) : (LM l y c)[i]? = some (if i < y then lrow (l[i]?.getD 0) 160 else if i = y then lrow (l[i]?.getD 0) (c - 68) else lrow 0 0) := by
  simp [LM, h]
theorem LM_ext {A B : List (List Int)} (hA : A.length = 320) (hB : B.length = 320) (h : ∀ i, i < 320 → A[i]? = B[i]?) : A = B := by
  apply List.ext_getElem?
  intro i
  by_cases hi : i < 320
  · exact h i hi
  · rw [List.getElem?_eq_none (by omega), List.getElem?_eq_none (by omega)]
theorem lrow_set (a : Int) (k : Nat) (h : k < 160) : (lrow a k).set k a = lrow a (k + 1) := by
  unfold lrow
  rw [List.set_append_right _ _ (by simp), List.length_replicate, Nat.sub_self, show 160 - k = (160 - (k + 1)) + 1 from by omega, List.replicate_succ, List.set_cons_zero, List.replicate_succ']
  simp
theorem LM_start (l : List Int) (y : Nat) : LM l y 1 = LM l y 0 := rfl
theorem LM_zero (l : List Int) : LM l 0 0 = blankM := by
  refine LM_ext (LM_length _ _ _) (by decide +kernel) fun i hi => ?_
  rw [LM_at _ _ _ _ hi, blankM, List.getElem?_replicate, if_pos hi, if_neg (Nat.not_lt_zero _)]
  split <;> simp [lrow]
theorem LM_wrap (l : List Int) (y : Nat) : LM l y 228 = LM l (y + 1) 0 := by
  refine LM_ext (LM_length _ _ _) (LM_length _ _ _) fun i hi => ?_
  rw [LM_at _ _ _ _ hi, LM_at _ _ _ _ hi]
  by_cases h1 : i < y
  · rw [if_pos h1, if_pos (by omega)]
  · by_cases h2 : i = y
    · rw [if_neg h1, if_pos h2, if_pos (by omega)]
    · rw [if_neg h1, if_neg h2, if_neg (by omega)]
      split <;> simp [lrow]
theorem LM_low (l : List Int) (y c : Nat) (h : c < 68) : LM l y c = LM l y (c + 1) := by
  unfold LM; rw [show c - 68 = c + 1 - 68 from by omega]
theorem LM_set (l : List Int) (y c : Nat) (hy : y < 320) (hl : y < l.length) (h : 68 ≤ c) (h2 : c < 228) : setM (LM l y c) y (c - 68) l[y] = LM l y (c + 1) := by
  refine LM_ext (by simp [setM, LM_length]) (LM_length _ _ _) fun i hi => ?_
  have hg : (l[y]?.getD 0) = l[y] := by rw [List.getElem?_eq_getElem hl]; rfl
  unfold setM
  by_cases e : i = y
  · subst e
    rw [List.getElem?_set_self (by rw [LM_length]; exact hi), LM_at _ _ _ _ hi, LM_at _ _ _ _ hi, if_neg (Nat.lt_irrefl _), if_pos rfl, if_neg (Nat.lt_irrefl _), if_pos rfl]
    simp only [Option.getD_some]
    rw [hg, lrow_set _ _ (by omega), show c - 68 + 1 = c + 1 - 68 from by omega]
  · rw [List.getElem?_set_ne (fun h => e h.symm), LM_at _ _ _ _ hi, LM_at _ _ _ _ hi]
    simp only [if_neg e]
theorem LS_zero (l : List Int) : LS l 0 0 = ⟨blankM, 0, false, false⟩ := by unfold LS; rw [LM_zero]; rfl
theorem LS_wrap (l : List Int) (y : Nat) : LS l y 228 = LS l (y + 1) 0 := by
  unfold LS
  rw [LM_wrap, if_neg (by decide), if_pos rfl, if_neg (by decide), if_pos rfl]
  congr 1
  exact decide_eq_decide.2 (by omega)
theorem LS_told (l : List Int) (y c : Nat) : (LS l y c).told c (decide (y < 3)) = false := by
  unfold FSt.told
  by_cases hc : c = 0
  · subst hc
    rw [if_pos (show ((0 : Nat) : Int) = 0 from rfl)]
    unfold FSt.tell LS
    simp only [if_true]
    by_cases h : y < 3
    · by_cases h0 : 0 < y
      · have : decide (0 < y ∧ y ≤ 3) = true := decide_eq_true ⟨h0, by omega⟩
        rw [this]; simp
      · have : decide (0 < y) = false := decide_eq_false h0
        rw [this]; simp
    · have : decide (y < 3) = false := decide_eq_false h
      rw [this]; rfl
  · rw [if_neg (by omega)]
theorem LS_step (l : List Int) (y c : Nat) (hy : y < 200) (hl : y < l.length) (h : c < 228) : (LS l y c).feed c l[y] (decide (y < 3)) = LS l y (c + 1) := by
  by_cases hc : c = 0
  · subst hc
    have ht : (LS l y 0).tell (decide (y < 3)) = false := by have := LS_told l y 0; unfold FSt.told at this; rwa [if_pos (show ((0 : Nat) : Int) = 0 from rfl)] at this
    unfold FSt.feed
    rw [if_pos (show ((0 : Nat) : Int) = 0 from rfl)]
    unfold FSt.begin
    rw [ht]
    unfold LS
    simp only [if_true, Bool.false_eq_true, if_false]
    rw [if_neg (by omega), decide_eq_false (by omega : ¬ y = 320)]
    rfl
  · unfold FSt.feed
    rw [if_neg (by omega)]
    by_cases h68 : 68 ≤ c
    · have hr : (LS l y c).rows = y + 1 := by unfold LS; exact if_neg hc
      rw [if_pos ⟨by omega, rfl, by omega, by omega⟩, hr]
      unfold LS
      simp only [if_neg hc, if_neg (Nat.succ_ne_zero c), Nat.add_sub_cancel]
      rw [show ((c : Int) - 68).toNat = c - 68 from by omega, LM_set l y c (by omega) hl h68 h]
    · rw [if_neg (by omega)]
      unfold LS
      rw [LM_low l y c (by omega)]
      simp only [if_neg hc, if_neg (Nat.succ_ne_zero c)]
theorem LS_last (l : List Int) (n : Nat) (hn : 0 < n) : (LS l n 0).told 0 true = decide (4 ≤ n) := by
  unfold FSt.told FSt.tell LS
  simp only [if_true, Bool.true_and]
  by_cases h : 4 ≤ n
  · rw [decide_eq_true h, decide_eq_false (by omega : ¬ (0 < n ∧ n ≤ 3)), decide_eq_true hn]; rfl
  · rw [decide_eq_false h, decide_eq_true (⟨hn, by omega⟩ : 0 < n ∧ n ≤ 3)]; rfl
theorem LS_rows (l : List Int) (n : Nat) (hn : 0 < n) (h2 : n ≤ 200) : ((LS l n 0).feed 0 0 true).rows = if 4 ≤ n then 1 else n + 1 := by
  have ht := LS_last l n hn
  unfold FSt.told at ht
  rw [if_pos rfl] at ht
  unfold FSt.feed
  rw [if_pos rfl]
  unfold FSt.begin
  rw [ht]
  by_cases h : 4 ≤ n
  · simp [h]
  · rw [if_neg h]
    simp only [decide_eq_true_eq, if_neg h]
    have : (LS l n 0).rows = n := rfl
    rw [this, if_neg (by omega)]
theorem LS_pic (l : List Int) (n : Nat) (h4 : 4 ≤ n) (hn : n ≤ 200) (hl : l.length = n) : (LS l n 0).pic 0 true = l.map fun a => lrow a 160 := by
  have ht := LS_last l n (by omega)
  unfold FSt.told at ht
  rw [if_pos rfl, decide_eq_true h4] at ht
  unfold FSt.pic
  rw [if_pos rfl]
  unfold FSt.shown
  rw [if_pos ht]
  show (LM l n 0).take n = _
  apply List.ext_getElem?
  intro i
  rw [List.getElem?_take, List.getElem?_map]
  by_cases hi : i < n
  · rw [if_pos hi, LM_at _ _ _ _ (by omega), if_pos hi, List.getElem?_eq_getElem (by omega)]; rfl
  · rw [if_neg hi, List.getElem?_eq_none (by omega)]; rfl
end Go.Proofs.Ytbfdlfhidebjlaa.Cl
