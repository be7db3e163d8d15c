/- Package frame: which picture any bytes are, in plain lists. -/
import Derived.Test.YtbfdlfhidebjlaaFrPack
import Derived.Test.YtbfdlfhidebjlaaFrDiffer
namespace Go.Proofs.Ytbfdlfhidebjlaa.Cl
open Go.RowKit
set_option linter.unusedVariables false
set_option linter.unusedSimpArgs false

/-- The runs that stand behind the first byte. -/
def runsAt (b : List Int) (k : Nat) : List Rn := (List.range k).map fun j => (pix b (2 * j + 2), pix b (2 * j + 1))
def ApartF (b : List Int) (n : Nat) : Prop := ∀ j, j + 1 < n → pix b (2 * j + 2) ≠ pix b (2 * (j + 1) + 2)
/-- A row and what stands behind it. -/
noncomputable def rowF (b : List Int) : Option (List Int × List Int) :=
  if b.length < 1 ∨ b.length < 1 + 2 * (pix b 0).toNat then none
  else
    open Classical in
    if ¬ ApartF b (pix b 0).toNat ∨ (unp 160 [] (runsAt b (pix b 0).toNat)).2 ≠ 0 ∨ (unp 160 [] (runsAt b (pix b 0).toNat)).1.length ≠ 160 then none
    else some ((unp 160 [] (runsAt b (pix b 0).toNat)).1, b.drop (1 + 2 * (pix b 0).toNat))
/-- Some rows one behind the other, and what stands behind them. -/
noncomputable def rowsF (b : List Int) : Nat → Option (List (List Int) × List Int)
  | 0 => some ([], b)
  | k + 1 => (rowsF b k).bind fun p => (rowF p.2).map fun q => (p.1 ++ [q.1], q.2)
noncomputable def picF (b : List Int) : List (List Int) × Int :=
  if b.length < 2 then ([], 9)
  else if 320 < pix b 0 + 256 * pix b 1 then ([], 9)
  else match rowsF (b.drop 2) (pix b 0 + 256 * pix b 1).toNat with
    | some (A, []) => (A, 0)
    | _ => ([], 9)
theorem runsAt_length (b : List Int) (k : Nat) : (runsAt b k).length = k := by simp [runsAt]
theorem runsAt_succ (b : List Int) (k : Nat) : runsAt b (k + 1) = runsAt b k ++ [(pix b (2 * k + 2), pix b (2 * k + 1))] := by
  simp [runsAt, List.range_succ]
theorem runsAt_split (b : List Int) (k n : Nat) (h : k ≤ n) : ∃ R, runsAt b n = runsAt b k ++ R := by
  obtain ⟨d, rfl⟩ : ∃ d, n = k + d := ⟨n - k, by omega⟩
  induction d with
  | zero => exact ⟨[], by simp⟩
  | succ d ih =>
    obtain ⟨R, hR⟩ := ih (by omega)
    exact ⟨R ++ [_], by rw [← Nat.add_assoc, runsAt_succ, hR, List.append_assoc]⟩
theorem unp_then (most : Int) : ∀ (R1 R2 : List Rn) (out o : List Int), unp most out R1 = (o, 0) → unp most out (R1 ++ R2) = unp most o R2
  | [], R2, out, o, h => by simp only [unp, Prod.mk.injEq] at h; rw [List.nil_append, h.1]
  | (x, c) :: t, R2, out, o, h => by
    rw [List.cons_append, unp]
    rw [unp] at h
    by_cases h1 : c < 1
    · rw [if_pos h1] at h; simp at h
    · by_cases h2 : most < c + out.length
      · rw [if_neg h1, if_pos h2] at h; simp at h
      · rw [if_neg h1, if_neg h2] at h ⊢
        exact unp_then most t R2 _ o h
theorem rowF_short {b : List Int} (h : b.length < 1 ∨ b.length < 1 + 2 * (pix b 0).toNat) : rowF b = none := if_pos h
theorem rowF_bad {b : List Int} (h : ¬ ApartF b (pix b 0).toNat ∨ (unp 160 [] (runsAt b (pix b 0).toNat)).2 ≠ 0 ∨ (unp 160 [] (runsAt b (pix b 0).toNat)).1.length ≠ 160) : rowF b = none := by
  unfold rowF
  by_cases h0 : b.length < 1 ∨ b.length < 1 + 2 * (pix b 0).toNat
  · rw [if_pos h0]
  · rw [if_neg h0, if_pos h]
theorem rowF_good {b : List Int} {row : List Int} (h1 : ¬ (b.length < 1 ∨ b.length < 1 + 2 * (pix b 0).toNat)) (h2 : ApartF b (pix b 0).toNat) (h3 : unp 160 [] (runsAt b (pix b 0).toNat) = (row, 0)) (h4 : row.length = 160) : rowF b = some (row, b.drop (1 + 2 * (pix b 0).toNat)) := by
  unfold rowF
  rw [if_neg h1, if_neg, h3]
  rw [h3]
  rintro (h | h | h)
  · exact h h2
  · exact h rfl
  · exact h h4
/-- A run that does not fit. -/
theorem rowF_run {b : List Int} {row : List Int} {k : Nat} (hk : k < (pix b 0).toNat) (h3 : unp 160 [] (runsAt b k) = (row, 0)) (h : pix b (2 * k + 1) < 1 ∨ 160 < pix b (2 * k + 1) + row.length) : rowF b = none := by
  refine rowF_bad (.inr (.inl ?_))
  obtain ⟨R, hR⟩ := runsAt_split b (k + 1) (pix b 0).toNat hk
  rw [hR, runsAt_succ, List.append_assoc, unp_then 160 _ _ _ _ h3, List.singleton_append, unp]
  by_cases h1 : pix b (2 * k + 1) < 1
  · rw [if_pos h1]; decide
  · rw [if_neg h1, if_pos (by omega)]; decide
theorem unp_run {b : List Int} {row : List Int} {k : Nat} (h3 : unp 160 [] (runsAt b k) = (row, 0)) (h1 : 1 ≤ pix b (2 * k + 1)) (h2 : pix b (2 * k + 1) + row.length ≤ 160) : unp 160 [] (runsAt b (k + 1)) = (row ++ List.replicate (pix b (2 * k + 1)).toNat (pix b (2 * k + 2)), 0) := by
  rw [runsAt_succ, unp_then 160 _ _ _ _ h3, unp, if_neg (by omega), if_neg (by omega), unp]
/-- The last colour of what the runs tell is the last run's. -/
theorem unp_last {b : List Int} : ∀ {k : Nat} {row : List Int}, unp 160 [] (runsAt b k) = (row, 0) → 0 < k → 0 < row.length ∧ pix row (row.length - 1) = pix b (2 * (k - 1) + 2)
  | k + 1, row, h, _ => by
    have hex : ∃ r0, unp 160 [] (runsAt b k) = (r0, 0) := by
      rw [runsAt_succ] at h
      have key : ∀ (R1 R2 : List Rn) (out : List Int), (unp 160 out (R1 ++ R2)).2 = 0 → ∃ o, unp 160 out R1 = (o, 0) := by
        intro R1
        induction R1 with
        | nil => intro R2 out _; exact ⟨out, rfl⟩
        | cons q t ih =>
          obtain ⟨x, c⟩ := q
          intro R2 out h
          rw [List.cons_append, unp] at h
          rw [unp]
          by_cases h1 : c < 1
          · rw [if_pos h1] at h; simp at h
          · by_cases h2 : (160 : Int) < c + out.length
            · rw [if_neg h1, if_pos h2] at h; simp at h
            · rw [if_neg h1, if_neg h2] at h ⊢
              exact ih R2 _ h
      exact key _ _ _ (by rw [h])
    obtain ⟨r0, h0⟩ := hex
    rw [runsAt_succ, unp_then 160 _ _ _ _ h0, unp] at h
    by_cases h1 : pix b (2 * k + 1) < 1
    · rw [if_pos h1] at h; simp at h
    · by_cases h2 : (160 : Int) < pix b (2 * k + 1) + r0.length
      · rw [if_neg h1, if_pos h2] at h; simp at h
      · rw [if_neg h1, if_neg h2, unp] at h
        simp only [Prod.mk.injEq, and_true] at h
        subst h
        have hp : 0 < (pix b (2 * k + 1)).toNat := by omega
        refine ⟨by simp; omega, ?_⟩
        unfold pix at hp ⊢
        rw [Nat.add_sub_cancel, List.length_append, List.length_replicate, List.getElem?_append_right (by omega), List.getElem?_replicate, if_pos (by omega)]
        rfl
theorem rowF_len {b row rest : List Int} (h : rowF b = some (row, rest)) : row.length = 160 ∧ rest = b.drop (1 + 2 * (pix b 0).toNat) ∧ 1 + 2 * (pix b 0).toNat ≤ b.length := by
  unfold rowF at h
  split at h
  · cases h
  · split at h
    · cases h
    · rename_i h1 h2
      simp only [Option.some.injEq, Prod.mk.injEq] at h
      obtain ⟨rfl, rfl⟩ := h
      exact ⟨Decidable.byContradiction fun e => h2 (.inr (.inr e)), rfl, by omega⟩
theorem unp_byt {most : Int} : ∀ (R : List Rn) (out : List Int), (∀ p ∈ R, 0 ≤ p.1 ∧ p.1 < 256) → (∀ x ∈ out, 0 ≤ x ∧ x < 256) → ∀ x ∈ (unp most out R).1, 0 ≤ x ∧ x < 256
  | [], out, _, ho => ho
  | (x, c) :: t, out, hR, ho => by
    rw [unp]
    split
    · intro x hx; cases hx
    · split
      · intro x hx; cases hx
      · refine unp_byt t _ (fun p hp => hR p (List.mem_cons_of_mem _ hp)) (fun z hz => ?_)
        rcases List.mem_append.1 hz with h | h
        · exact ho z h
        · rw [List.eq_of_mem_replicate h]; exact hR (x, c) (by simp)
theorem pix_byt {b : List Int} (h : ∀ x ∈ b, 0 ≤ x ∧ x < 256) (i : Nat) : 0 ≤ pix b i ∧ pix b i < 256 := by
  unfold pix
  cases e : b[i]? with
  | none => exact ⟨Int.le_refl _, by decide⟩
  | some x => exact h x (List.mem_of_getElem? e)
theorem rowF_byt {b row rest : List Int} (hb : ∀ x ∈ b, 0 ≤ x ∧ x < 256) (h : rowF b = some (row, rest)) : (∀ x ∈ row, 0 ≤ x ∧ x < 256) ∧ ∀ x ∈ rest, 0 ≤ x ∧ x < 256 := by
  have hl := rowF_len h
  unfold rowF at h
  split at h
  · cases h
  · split at h
    · cases h
    · simp only [Option.some.injEq, Prod.mk.injEq] at h
      refine ⟨?_, by rw [hl.2.1]; exact fun x hx => hb x (List.mem_of_mem_drop hx)⟩
      rw [← h.1]
      refine unp_byt _ _ (fun p hp => ?_) (fun x hx => by cases hx)
      obtain ⟨j, _, rfl⟩ := List.mem_map.1 hp
      exact pix_byt hb _
theorem rowsF_none {b : List Int} {k : Nat} (h : rowsF b k = none) : ∀ n, k ≤ n → rowsF b n = none := by
  intro n hn
  obtain ⟨d, rfl⟩ : ∃ d, n = k + d := ⟨n - k, by omega⟩
  induction d with
  | zero => exact h
  | succ d ih => rw [← Nat.add_assoc, rowsF, ih (by omega)]; rfl
theorem rowsF_fail {b : List Int} {k : Nat} {A : List (List Int)} {r : List Int} (h : rowsF b k = some (A, r)) (hr : rowF r = none) : rowsF b (k + 1) = none := by rw [rowsF, h]; simp [hr]
theorem rowsF_more {b : List Int} {k : Nat} {A : List (List Int)} {r x r' : List Int} (h : rowsF b k = some (A, r)) (hr : rowF r = some (x, r')) : rowsF b (k + 1) = some (A ++ [x], r') := by rw [rowsF, h]; simp [hr]
theorem picF_short {b : List Int} (h : b.length < 2) : picF b = ([], 9) := if_pos h
theorem picF_many {b : List Int} (h : 320 < pix b 0 + 256 * pix b 1) : picF b = ([], 9) := by
  unfold picF
  by_cases h0 : b.length < 2
  · rw [if_pos h0]
  · rw [if_neg h0, if_pos h]
theorem picF_fail {b : List Int} {n k : Nat} (hn : pix b 0 + 256 * pix b 1 = n) (hk : k ≤ n) (h : rowsF (b.drop 2) k = none) : picF b = ([], 9) := by
  unfold picF
  split
  · rfl
  · split
    · rfl
    · rw [hn, Int.toNat_natCast, rowsF_none h n hk]
theorem picF_rest {b : List Int} {n : Nat} {A : List (List Int)} {r : List Int} (hn : pix b 0 + 256 * pix b 1 = n) (h : rowsF (b.drop 2) n = some (A, r)) (hr : r ≠ []) : picF b = ([], 9) := by
  unfold picF
  split
  · rfl
  · split
    · rfl
    · rw [hn, Int.toNat_natCast, h]
      cases r with
      | nil => exact absurd rfl hr
      | cons => rfl
theorem picF_good {b : List Int} {n : Nat} {A : List (List Int)} (h2 : 2 ≤ b.length) (hn : pix b 0 + 256 * pix b 1 = n) (hn2 : n ≤ 320) (h : rowsF (b.drop 2) n = some (A, [])) : picF b = (A, 0) := by
  unfold picF
  rw [if_neg (by omega), if_neg (by omega), hn, Int.toNat_natCast, h]
theorem rowsF_all {b : List Int} (hb : ∀ x ∈ b, 0 ≤ x ∧ x < 256) : ∀ {k : Nat} {A : List (List Int)} {r : List Int}, rowsF b k = some (A, r) → A.length = k ∧ (∀ x ∈ A, x.length = 160 ∧ ∀ z ∈ x, 0 ≤ z ∧ z < 256) ∧ (∀ z ∈ r, 0 ≤ z ∧ z < 256) ∧ r.length ≤ b.length
  | 0, A, r, h => by
    simp only [rowsF, Option.some.injEq, Prod.mk.injEq] at h
    obtain ⟨rfl, rfl⟩ := h
    exact ⟨rfl, fun x hx => by (cases hx), hb, Nat.le_refl _⟩
  | k + 1, A, r, h => by
    rw [rowsF, Option.bind_eq_some_iff] at h
    obtain ⟨⟨A0, r0⟩, h0, h1⟩ := h
    rw [Option.map_eq_some_iff] at h1
    obtain ⟨⟨x, r'⟩, h2, h3⟩ := h1
    simp only [Prod.mk.injEq] at h3
    obtain ⟨rfl, rfl⟩ := h3
    obtain ⟨e1, e2, e3, e4⟩ := rowsF_all hb h0
    have hx := rowF_byt e3 h2
    have hl := rowF_len h2
    refine ⟨by simp [e1], fun y hy => ?_, hx.2, ?_⟩
    · rcases List.mem_append.1 hy with g | g
      · exact e2 y g
      · rw [List.mem_singleton.1 g]; exact ⟨hl.1, hx.1⟩
    · rw [hl.2.1, List.length_drop]
      have : r0.length ≤ b.length := e4
      show r0.length - _ ≤ _
      omega
end Go.Proofs.Ytbfdlfhidebjlaa.Cl
