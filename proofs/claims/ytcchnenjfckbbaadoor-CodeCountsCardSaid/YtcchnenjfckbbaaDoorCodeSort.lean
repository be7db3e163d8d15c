/- Package code: the sorted names, plainly. -/
import Derived.Test.YtcchnenjfckbbaaDoorCodeNames
namespace Go.Proofs.YtcchnenjfckbbaaDoor.Co
set_option maxRecDepth 100000
def ins (x : List UInt8) : List (List UInt8) → List (List UInt8)
  | [] => [x]
  | y :: t => if x ≤ y then x :: y :: t else y :: ins x t
def isort : List (List UInt8) → List (List UInt8)
  | [] => []
  | x :: t => ins x (isort t)
theorem ins_perm (x : List UInt8) : ∀ l, (ins x l).Perm (x :: l)
  | [] => List.Perm.refl _
  | y :: t => by
    unfold ins
    split
    · exact List.Perm.refl _
    · exact ((ins_perm x t).cons y).trans (List.Perm.swap x y t)
theorem isort_perm : ∀ l, (isort l).Perm l
  | [] => List.Perm.refl _
  | x :: t => (ins_perm x _).trans ((isort_perm t).cons x)
theorem ins_sorted (x : List UInt8) : ∀ l, l.Pairwise (fun a b => decide (a ≤ b) = true) → (ins x l).Pairwise (fun a b => decide (a ≤ b) = true)
  | [], _ => by unfold ins; exact List.pairwise_singleton _ _
  | y :: t, h => by
    unfold ins
    have h' := List.pairwise_cons.1 h
    split
    · rename_i hx
      refine List.pairwise_cons.2 ⟨fun b hb => ?_, h⟩
      rcases List.mem_cons.1 hb with rfl | hb
      · simpa using hx
      · have := h'.1 b hb
        simp only [decide_eq_true_eq] at this ⊢
        exact List.le_trans hx this
    · rename_i hx
      refine List.pairwise_cons.2 ⟨fun b hb => ?_, ins_sorted x t h'.2⟩
      rcases List.mem_cons.1 ((ins_perm x t).mem_iff.1 hb) with rfl | hb
      · simp only [decide_eq_true_eq]
        exact (List.le_total b y).resolve_left hx
      · exact h'.1 b hb
theorem isort_sorted : ∀ l, (isort l).Pairwise (fun a b => decide (a ≤ b) = true)
  | [] => List.Pairwise.nil
  | x :: t => ins_sorted x _ (isort_sorted t)
theorem sortN_eq : sortN = isort allN := by
  have tr : ∀ a b c : List UInt8, decide (a ≤ b) = true → decide (b ≤ c) = true → decide (a ≤ c) = true := fun a b c h1 h2 => by simp only [decide_eq_true_eq] at *; exact List.le_trans h1 h2
  have tt : ∀ a b : List UInt8, (decide (a ≤ b) || decide (b ≤ a)) = true := fun a b => by simp only [Bool.or_eq_true, decide_eq_true_eq]; exact List.le_total a b
  refine List.Perm.eq_of_pairwise (le := fun a b => decide (a ≤ b) = true) (fun a b _ _ h1 h2 => ?_) (List.pairwise_mergeSort tr tt allN) (isort_sorted allN) ((List.mergeSort_perm allN _).trans (isort_perm allN).symm)
  simp only [decide_eq_true_eq] at h1 h2
  exact List.le_antisymm h1 h2
def L76 : List (List UInt8) := Lib.compact (isort allN)
theorem compact_eq : Lib.compact sortN = L76 := by rw [sortN_eq]; rfl
theorem L76_facts : L76.length = 76 ∧ (∀ i < 75, decide (L76.getD (i + 1) [] ≤ L76.getD i []) = false) ∧ (∀ i < 76, (List.range 256).any (fun o => nmL o == L76.getD i []) = true) := by decide +kernel
end Go.Proofs.YtcchnenjfckbbaaDoor.Co
