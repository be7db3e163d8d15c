/- Package frame: how many pixels are not alike. -/
import Derived.Test.YtbfdlfhidebjlaaFrSame
namespace Go.Proofs.Ytbfdlfhidebjlaa.Cl
open Go.RowKit Go.Deep
set_option linter.unusedVariables false
set_option linter.unusedSimpArgs false

/-- A colour of a row; 0: there is none. -/
def pix (r : List Int) (x : Nat) : Int := r[x]?.getD 0
def ind (p : Prop) [Decidable p] : Nat := if p then 1 else 0
/-- How many of the first k colours of two rows are not alike. -/
def dr (r s : List Int) : Nat → Nat
  | 0 => 0
  | k + 1 => dr r s k + ind (pix r k ≠ pix s k)
/-- How many pixels of two pictures are not alike. -/
def dif : List (List Int) → List (List Int) → Nat
  | [], B => 160 * B.length
  | A, [] => 160 * A.length
  | a :: A, b :: B => dr a b 160 + dif A B
theorem dr_comm (r s : List Int) (k : Nat) : dr r s k = dr s r k := by
  induction k with
  | zero => rfl
  | succ k ih =>
    have : ind (pix r k ≠ pix s k) = ind (pix s k ≠ pix r k) := by
      unfold ind
      by_cases h : pix r k = pix s k
      · rw [if_neg (by simpa using h), if_neg (by simpa using h.symm)]
      · rw [if_pos h, if_pos (fun e => h e.symm)]
    simp only [dr, ih, this]
theorem dr_le (r s : List Int) (k : Nat) : dr r s k ≤ k := by
  induction k with
  | zero => exact Nat.le_refl _
  | succ k ih =>
    have : ind (pix r k ≠ pix s k) ≤ 1 := by unfold ind; split <;> omega
    simp only [dr]; omega
theorem dr_zero (r s : List Int) (k : Nat) : dr r s k = 0 ↔ ∀ x, x < k → pix r x = pix s x := by
  induction k with
  | zero => simp [dr]
  | succ k ih =>
    simp only [dr, Nat.add_eq_zero_iff, ih]
    constructor
    · rintro ⟨h1, h2⟩ x hx
      by_cases e : x = k
      · subst e
        unfold ind at h2
        split at h2
        · omega
        · rename_i h; simpa using h
      · exact h1 x (by omega)
    · intro h
      refine ⟨fun x hx => h x (by omega), ?_⟩
      unfold ind
      rw [if_neg (by simpa using h k (by omega))]
theorem dif_nil (A : List (List Int)) : dif A [] = 160 * A.length := by cases A <;> simp [dif]
theorem dif_comm : ∀ A B : List (List Int), dif A B = dif B A
  | [], B => by rw [dif_nil, dif]
  | a :: A, [] => by rw [dif_nil, dif]
  | a :: A, b :: B => by simp only [dif]; rw [dr_comm, dif_comm A B]
theorem dif_le : ∀ A B : List (List Int), dif A B ≤ 160 * max A.length B.length
  | [], B => by simp only [dif, List.length_nil]; omega
  | a :: A, [] => by rw [dif_nil]; simp only [List.length_nil]; omega
  | a :: A, b :: B => by
    have := dif_le A B
    have := dr_le a b 160
    simp only [dif, List.length_cons]
    omega
theorem row_eq {a b : List Int} (ha : a.length = 160) (hb : b.length = 160) : dr a b 160 = 0 ↔ a = b := by
  rw [dr_zero]
  refine ⟨fun h => ?_, fun h x _ => by rw [h]⟩
  apply List.ext_getElem (by omega)
  intro i h1 h2
  have := h i (by omega)
  unfold pix at this
  rw [List.getElem?_eq_getElem h1, List.getElem?_eq_getElem h2] at this
  exact this
theorem dif_zero : ∀ A B : List (List Int), (∀ r ∈ A, r.length = 160) → (∀ r ∈ B, r.length = 160) → (dif A B = 0 ↔ A = B)
  | [], [], _, _ => by simp [dif]
  | [], b :: B, _, _ => by simp [dif]
  | a :: A, [], _, _ => by simp [dif]
  | a :: A, b :: B, hA, hB => by
    have ih := dif_zero A B (fun r h => hA r (List.mem_cons_of_mem _ h)) (fun r h => hB r (List.mem_cons_of_mem _ h))
    have h1 := row_eq (hA a (by simp)) (hB b (by simp))
    simp only [dif, Nat.add_eq_zero_iff, h1, ih, List.cons.injEq]
theorem dif_more : ∀ (k : Nat) (F G : List (List Int)), k < F.length → k < G.length → ∀ f g, F[k]? = some f → G[k]? = some g → dif (F.take (k + 1)) (G.take (k + 1)) = dif (F.take k) (G.take k) + dr f g 160
  | 0, a :: F, b :: G, _, _, f, g, hf, hg => by
    simp only [List.getElem?_cons_zero, Option.some.injEq] at hf hg
    subst hf hg
    simp [dif]
  | k + 1, a :: F, b :: G, h1, h2, f, g, hf, hg => by
    simp only [List.getElem?_cons_succ] at hf hg
    have := dif_more k F G (by simpa using h1) (by simpa using h2) f g hf hg
    simp only [List.take_succ_cons, dif, this]
    omega
theorem dif_rest : ∀ (F G : List (List Int)), G.length ≤ F.length → dif F G = 160 * (F.length - G.length) + dif (F.take G.length) G
  | F, [], _ => by rw [dif_nil]; simp [dif]
  | [], b :: G, h => by simp at h
  | a :: F, b :: G, h => by
    have := dif_rest F G (by simpa using h)
    simp only [dif, List.length_cons, List.take_succ_cons]
    omega
theorem at_any (W : World) (ao : Option Addr) (n cap : Nat) (r : List Int) (hn : n = r.length) (hL : Lies W 1 (.slice ao r.length cap) r.length (r.map (Value.int .u8))) (x : Nat) (hr : r.length ≤ 1000000) :
    Calls Try.prog 39 #[.slice ao n cap, .int .i64 x] W fun e w' => e = .returned (.int .u8 (pix r x)) ∧ w' = W := by
  subst hn
  by_cases h : x < r.length
  · have hp : pix r x = r[x] := by unfold pix; rw [List.getElem?_eq_getElem h]; rfl
    obtain ⟨_, ao', cap', hv, _, hcs⟩ := hL
    cases hv
    obtain ⟨b, off, rfl, hb, hc⟩ := hcs.resolve_left (by omega)
    have hcx := hc x (.int .u8 r[x]) (by rw [List.getElem?_map, List.getElem?_eq_getElem h]; rfl)
    rw [hp]
    generalize r[x] = px at *
    have h1 : (x : Int) < (r.length : Int) := by omega
    have h2 : (0 : Int) ≤ (x : Int) := by omega
    clear hc hcs
    go_enter Try.func39, Try.ntmps39
    go_wp2
    go_ret
    exact ⟨rfl, rfl⟩
  · have hp : pix r x = 0 := by unfold pix; rw [List.getElem?_eq_none (by omega)]; rfl
    rw [hp]
    have h1 : (r.length : Int) ≤ (x : Int) := by omega
    clear hL
    go_enter Try.func39, Try.ntmps39
    go_wp2
    go_ret
    exact ⟨rfl, rfl⟩
end Go.Proofs.Ytbfdlfhidebjlaa.Cl
