/- Package frame: a picture's bytes are read as the picture; bytes that are read are just those written for it. In plain lists. -/
import Derived.Test.YtbfdlfhidebjlaaFrReadP
namespace Go.Proofs.Ytbfdlfhidebjlaa.Cl
open Go.RowKit
set_option linter.unusedVariables false
set_option linter.unusedSimpArgs false

abbrev Byt0 (b : List Int) : Prop := ∀ x ∈ b, 0 ≤ x ∧ x < 256
theorem runsB_pix : ∀ (R : List Rn) (t : List Int) (j : Nat) (h : j < R.length), pix (runsB R ++ t) (2 * j) = R[j].2 ∧ pix (runsB R ++ t) (2 * j + 1) = R[j].1
  | (x, c) :: R, t, 0, _ => ⟨rfl, rfl⟩
  | (x, c) :: R, t, j + 1, h => by
    have ih := runsB_pix R t j (by simpa using h)
    have e : runsB ((x, c) :: R) ++ t = c :: x :: (runsB R ++ t) := by simp [runsB]
    rw [e]
    unfold pix at ih ⊢
    rw [show 2 * (j + 1) = 2 * j + 1 + 1 from by omega, List.getElem?_cons_succ, List.getElem?_cons_succ, show 2 * j + 1 + 1 + 1 = (2 * j + 1) + 1 + 1 from rfl, List.getElem?_cons_succ, List.getElem?_cons_succ]
    simpa using ih
theorem runsAt_row (R : List Rn) (t : List Int) (h : Int) : runsAt (h :: (runsB R ++ t)) R.length = R := by
  apply List.ext_getElem
  · rw [runsAt_length]
  · intro j h1 h2
    have := runsB_pix R t j h2
    unfold pix at this
    simp only [runsAt, List.getElem_map, List.getElem_range]
    unfold pix
    rw [show 2 * j + 2 = (2 * j + 1) + 1 from rfl, List.getElem?_cons_succ, List.getElem?_cons_succ]
    exact Prod.ext this.2 this.1
theorem rowF_row (row t : List Int) (h : row.length = 160) : rowF (rowB row ++ t) = some (row, t) := by
  have e : rowB row ++ t = ((pack row).length : Int) :: (runsB (pack row) ++ t) := rfl
  have hp : pix (rowB row ++ t) 0 = (pack row).length := by rw [e]; rfl
  have hn : (pix (rowB row ++ t) 0).toNat = (pack row).length := by rw [hp]; rfl
  have hr : runsAt (rowB row ++ t) (pack row).length = pack row := by rw [e]; exact runsAt_row _ _ _
  have hl : (rowB row ++ t).length = 1 + 2 * (pack row).length + t.length := by
    rw [e, List.length_cons, List.length_append, runsB_length]; omega
  have hg := rowF_good (b := rowB row ++ t) (row := row) (by rw [hn, hl]; omega) (by
    rw [hn]
    intro j hj
    have h1 := pack_apart row j hj
    have g1 : (runsAt (rowB row ++ t) (pack row).length)[j]'(by rw [runsAt_length]; omega) = (pack row)[j]'(by omega) := by simp only [hr]
    have g2 : (runsAt (rowB row ++ t) (pack row).length)[j + 1]'(by rw [runsAt_length]; omega) = (pack row)[j + 1]'hj := by simp only [hr]
    simp only [runsAt, List.getElem_map, List.getElem_range] at g1 g2
    rw [← g1, ← g2] at h1
    exact h1) (by rw [hn, hr, unp_pack, if_neg (by omega)]) h
  rw [hg, hn]
  congr 2
  rw [e, show 1 + 2 * (pack row).length = 2 * (pack row).length + 1 from by omega, List.drop_succ_cons, List.drop_left' (by rw [runsB_length])]
theorem rowsF_rows : ∀ (A B : List (List Int)) (t : List Int), (∀ r ∈ B, r.length = 160) → ∀ b k, rowsF b k = some (A, bodyB B ++ t) → rowsF b (k + B.length) = some (A ++ B, t)
  | A, [], t, _, b, k, h => by simpa [bodyB] using h
  | A, r :: B, t, hB, b, k, h => by
    have e : bodyB (r :: B) ++ t = rowB r ++ (bodyB B ++ t) := by simp [bodyB]
    rw [e] at h
    have h1 := rowsF_more h (rowF_row r (bodyB B ++ t) (hB r (by simp)))
    have h2 := rowsF_rows (A ++ [r]) B t (fun x hx => hB x (List.mem_cons_of_mem _ hx)) b (k + 1) h1
    rw [List.length_cons, show k + (B.length + 1) = k + 1 + B.length from by omega, h2, List.append_assoc]
    rfl
/-- There and back. -/
theorem pic_pack (A : List (List Int)) (h : (packF A).2 = 0) : picF (packF A).1 = (A, 0) := by
  unfold packF at h ⊢
  by_cases h1 : 320 < A.length
  · rw [if_pos h1] at h; simp at h
  · rw [if_neg h1] at h ⊢
    by_cases h2 : ∀ row ∈ A, row.length = 160
    · rw [if_pos h2]
      show picF (headB A.length ++ bodyB A) = (A, 0)
      have hp0 : pix (headB A.length ++ bodyB A) 0 = ((A.length % 256 : Nat) : Int) := rfl
      have hp1 : pix (headB A.length ++ bodyB A) 1 = ((A.length / 256 : Nat) : Int) := rfl
      have hr := rowsF_rows [] A [] h2 (bodyB A) 0 (by simp [rowsF])
      rw [Nat.zero_add, List.nil_append] at hr
      exact picF_good (n := A.length) (by simp [headB]) (by rw [hp0, hp1]; omega) (by omega) hr
    · rw [if_neg h2] at h; simp at h
theorem packR_rep (l : List Int) (x : Int) (h : ∀ p ∈ (packR l).head?, p.1 ≠ x) : ∀ c : Nat, packR (l ++ List.replicate (c + 1) x) = (x, ((c + 1 : Nat) : Int)) :: packR l
  | 0 => by
    rw [show List.replicate (0 + 1) x = [x] from rfl, packR_snoc]
    cases hp : packR l with
    | nil => rfl
    | cons q t =>
      obtain ⟨y, c⟩ := q
      have := h (y, c) (by rw [hp]; rfl)
      rw [step_cons, if_neg (fun e => this e.symm)]
      rfl
  | c + 1 => by
    rw [List.replicate_succ', ← List.append_assoc, packR_snoc, packR_rep l x h c, step_cons, if_pos rfl]
    rfl
theorem pack_expand (R : List Rn) (hp : ∀ p ∈ R, 1 ≤ p.2) (ha : ∀ j (h : j + 1 < R.length), (R[j]'(by omega)).1 ≠ (R[j + 1]'h).1) : packR (expand R) = R.reverse := by
  have key : ∀ (n : Nat) (R : List Rn), R.length = n → (∀ p ∈ R, 1 ≤ p.2) → (∀ j (h : j + 1 < R.length), (R[j]'(by omega)).1 ≠ (R[j + 1]'h).1) → packR (expand R) = R.reverse := by
    intro n
    induction n with
    | zero =>
      intro R hl _ _
      obtain rfl := List.eq_nil_of_length_eq_zero hl
      rfl
    | succ n ih =>
      intro R hl hp ha
      have hne : R ≠ [] := fun e => by rw [e] at hl; simp at hl
      obtain ⟨L, q, rfl⟩ : ∃ L q, R = L ++ [q] := ⟨R.dropLast, R.getLast hne, (List.dropLast_concat_getLast hne).symm⟩
      obtain ⟨x, c⟩ := q
      have hL : L.length = n := by simpa using hl
      have h1 := ih L hL (fun p h => hp p (by simp [h])) (fun j h => by
        have := ha j (by simp; omega)
        rwa [List.getElem_append_left (by omega), List.getElem_append_left h] at this)
      have hc := hp (x, c) (by simp)
      simp only at hc
      obtain ⟨k, hk⟩ : ∃ k : Nat, c = ((k + 1 : Nat) : Int) := ⟨(c - 1).toNat, by omega⟩
      have he : expand (L ++ [(x, c)]) = expand L ++ List.replicate (k + 1) x := by
        rw [expand_append, hk]; simp [expand]
      rw [he, packR_rep _ _ _ k, h1, hk]
      · simp
      · intro p hpm
        rw [h1] at hpm
        rw [List.head?_reverse] at hpm
        have hl2 : L.getLast? = some p := hpm
        rw [List.getLast?_eq_getElem?] at hl2
        obtain ⟨hlt, hpe⟩ := List.getElem?_eq_some_iff.1 hl2
        have h2 := ha (L.length - 1) (by simp; omega)
        rw [List.getElem_append_left (by omega)] at h2
        rw [← hpe]
        intro e
        apply h2
        rw [e]
        have : (L ++ [(x, c)])[L.length - 1 + 1]? = some (x, c) := by rw [show L.length - 1 + 1 = L.length from by omega]; simp
        rw [List.getElem?_eq_getElem (by simp; omega)] at this
        rw [Option.some.inj this]
  exact key R.length R rfl hp ha
theorem unp_ok {most : Int} : ∀ (R : List Rn) (out : List Int), (unp most out R).2 = 0 → (∀ p ∈ R, 1 ≤ p.2) ∧ (unp most out R).1 = out ++ expand R
  | [], out, _ => ⟨fun p h => by (cases h), by simp [unp, expand]⟩
  | (x, c) :: t, out, h => by
    rw [unp] at h ⊢
    by_cases h1 : c < 1
    · rw [if_pos h1] at h; simp at h
    · by_cases h2 : most < c + out.length
      · rw [if_neg h1, if_pos h2] at h; simp at h
      · rw [if_neg h1, if_neg h2] at h ⊢
        have ih := unp_ok t _ h
        refine ⟨fun p hp => ?_, ?_⟩
        · rcases List.mem_cons.1 hp with rfl | hp
          · simp only; omega
          · exact ih.1 p hp
        · rw [ih.2, List.append_assoc]; rfl
theorem bytes_again (b : List Int) : ∀ N : Nat, 1 + 2 * N ≤ b.length → b = pix b 0 :: (runsB (runsAt b N) ++ b.drop (1 + 2 * N))
  | 0, h => by
    cases b with
    | nil => simp at h
    | cons x t => rfl
  | N + 1, h => by
    have ih := bytes_again b N (by omega)
    have e1 : b.drop (1 + 2 * N) = pix b (2 * N + 1) :: b.drop (2 * N + 2) := by
      rw [show 1 + 2 * N = 2 * N + 1 from by omega, List.drop_eq_getElem_cons (by omega)]
      unfold pix; rw [List.getElem?_eq_getElem (by omega)]; rfl
    have e2 : b.drop (2 * N + 2) = pix b (2 * N + 2) :: b.drop (1 + 2 * (N + 1)) := by
      rw [List.drop_eq_getElem_cons (by omega), show 2 * N + 2 + 1 = 1 + 2 * (N + 1) from by omega]
      unfold pix; rw [List.getElem?_eq_getElem (by omega)]; rfl
    have e3 : runsB (runsAt b (N + 1)) = runsB (runsAt b N) ++ [pix b (2 * N + 1), pix b (2 * N + 2)] := by
      rw [runsAt_succ, runsB, List.flatMap_append]; rfl
    rw [e3, List.append_assoc]
    rw [e1, e2] at ih
    exact ih
theorem rowF_again {b row rest : List Int} (hb : Byt0 b) (h : rowF b = some (row, rest)) : b = rowB row ++ rest := by
  have hl := rowF_len h
  have hp0 := pix_byt hb 0
  unfold rowF at h
  split at h
  · cases h
  · split at h
    · cases h
    · rename_i h1 h2
      simp only [Option.some.injEq, Prod.mk.injEq] at h
      generalize hN : (pix b 0).toNat = N at *
      have hap : ApartF b N := Classical.byContradiction fun e => h2 (.inl e)
      have her : (unp 160 [] (runsAt b N)).2 = 0 := Classical.byContradiction fun e => h2 (.inr (.inl e))
      obtain ⟨hpos, hex⟩ := unp_ok _ _ her
      rw [h.1, List.nil_append] at hex
      have hpk : packR row = (runsAt b N).reverse := by
        rw [hex]
        refine pack_expand _ hpos fun j hj => ?_
        rw [runsAt_length] at hj
        simp only [runsAt, List.getElem_map, List.getElem_range]
        exact hap j hj
      have hpk2 : pack row = runsAt b N := by unfold pack; rw [hpk, List.reverse_reverse]
      have e : rowB row = pix b 0 :: runsB (runsAt b N) := by
        unfold rowB
        rw [hpk2, runsAt_length]
        congr 1
        omega
      rw [e, List.cons_append, hl.2.1]
      exact bytes_again b N hl.2.2
theorem rowsF_again {b : List Int} (hb : Byt0 b) : ∀ {k : Nat} {A : List (List Int)} {r : List Int}, rowsF b k = some (A, r) → b = bodyB A ++ r
  | 0, A, r, h => by
    simp only [rowsF, Option.some.injEq, Prod.mk.injEq] at h
    obtain ⟨rfl, rfl⟩ := h
    simp [bodyB]
  | k + 1, A, r, h => by
    rw [rowsF, Option.bind_eq_some_iff] at h
    obtain ⟨⟨A0, r0⟩, h0, h1⟩ := h
    rw [Option.map_eq_some_iff] at h1
    obtain ⟨⟨x, r'⟩, h2, h3⟩ := h1
    simp only [Prod.mk.injEq] at h3
    obtain ⟨rfl, rfl⟩ := h3
    have ih := rowsF_again hb h0
    have hx := rowF_again (rowsF_all hb h0).2.2.1 h2
    have ih' : b = bodyB A0 ++ r0 := ih
    have hx' : r0 = rowB x ++ r' := hx
    rw [hx'] at ih'
    rw [ih']
    simp [bodyB]
/-- No picture has two forms. -/
theorem pack_pic_again {b : List Int} (hb : Byt0 b) (h : (picF b).2 = 0) : packF (picF b).1 = (b, 0) := by
  have hp0 := pix_byt hb 0
  have hp1 := pix_byt hb 1
  unfold picF at h ⊢
  by_cases h0 : b.length < 2
  · rw [if_pos h0] at h; simp at h
  · rw [if_neg h0] at h ⊢
    by_cases h1 : 320 < pix b 0 + 256 * pix b 1
    · rw [if_pos h1] at h; simp at h
    · rw [if_neg h1] at h ⊢
      cases hr : rowsF (b.drop 2) (pix b 0 + 256 * pix b 1).toNat with
      | none => rw [hr] at h; simp at h
      | some p =>
        obtain ⟨A, r⟩ := p
        cases r with
        | cons => rw [hr] at h; simp at h
        | nil =>
          show packF A = (b, 0)
          have hbd : Byt0 (b.drop 2) := fun x hx => hb x (List.mem_of_mem_drop hx)
          have hall := rowsF_all hbd hr
          have hag := rowsF_again hbd hr
          rw [List.append_nil] at hag
          unfold packF
          rw [if_neg (by rw [hall.1]; omega), if_pos (fun row hm => (hall.2.1 row hm).1), ← hag]
          congr 1
          have e0 : pix b 0 = ((A.length % 256 : Nat) : Int) := by rw [hall.1]; omega
          have e1 : pix b 1 = ((A.length / 256 : Nat) : Int) := by rw [hall.1]; omega
          unfold headB
          rw [← e0, ← e1]
          match b, h0 with
          | x :: y :: t, _ => rfl
          | [x], h0 => exact absurd (by simp) h0
          | [], h0 => exact absurd (by simp) h0
end Go.Proofs.Ytbfdlfhidebjlaa.Cl
