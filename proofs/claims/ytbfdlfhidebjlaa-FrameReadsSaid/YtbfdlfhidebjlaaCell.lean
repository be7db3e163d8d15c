/- Package cell: what its functions say, in plain lists: runs of a row, the row of runs; and what it is that a slice's cells lie somewhere. -/
import Derived.Test.YtbfdlfhidebjlaaRows
import Derived.WalkKit
namespace Go.Proofs.Ytbfdlfhidebjlaa.Cl
open Go.RowKit
set_option linter.unusedVariables false

theorem hideR {p : Prop} (h : p) : Hid p := h
/-- The slice v, of n things of so many cells each, has the cells cs. -/
def Lies (w : World) (size : Nat) (v : Value) (n : Nat) (cs : List Value) : Prop :=
  cs.length = n * size ∧ ∃ ao cap, v = .slice ao n cap ∧ (n ≤ cap ∧ (ao = none → cap = 0)) ∧ (n = 0 ∨ ∃ b off, ao = some ⟨b, off, none⟩ ∧ b < w.heap.size ∧ ∀ i u, cs[i]? = some u → w.cell? ⟨b, off + i, none⟩ = some u)
theorem Lies.below {w w' : World} {size n : Nat} {v : Value} {cs : List Value} (h : Lies w size v n cs) (hb : Below w.heap.size w w') : Lies w' size v n cs := by
  obtain ⟨hl, ao, cap, rfl, hc, h0 | ⟨b, off, rfl, hlt, hcs⟩⟩ := h
  · exact ⟨hl, ao, cap, rfl, hc, .inl h0⟩
  · exact ⟨hl, _, cap, rfl, hc, .inr ⟨b, off, rfl, Nat.lt_of_lt_of_le hlt hb.size, fun i u hu => (hb.cell (p := ⟨b, off + i, none⟩) hlt).trans (hcs i u hu)⟩⟩
theorem Lies.of_owns {w : World} {base e size n : Nat} {v : Value} {cs : List Value} (h : w.ownsRow base e size v n cs) : Lies w size v n cs := by
  have h' := h
  obtain ⟨hl, ⟨rfl, rfl⟩ | ⟨g, cap, cur, rfl, hg, hh, hn, hm, hsz, htake⟩⟩ := h
  · exact ⟨hl, none, 0, rfl, ⟨Nat.le_refl _, fun _ => rfl⟩, .inl rfl⟩
  · refine ⟨hl, _, cap, rfl, ⟨hn, fun h => by cases h⟩, .inr ⟨g, 0, rfl, (Array.getElem?_eq_some_iff.1 hh).1, fun i u hu => ?_⟩⟩
    have hi : i < n * size := by rw [← hl]; exact (List.getElem?_eq_some_iff.1 hu).1
    rw [Nat.zero_add, h'.cellAt i hi]; exact hu

theorem lies_block {w : World} {B e size n cap : Nat} {cs : List Value} {fr : Nat × Nat} (h : w.heap[B]? = some (.cells cs.toArray e fr)) (hl : cs.length = n * size) (hc : n ≤ cap) : Lies w size (.slice (some ⟨B, 0, none⟩) n cap) n cs := by
  refine ⟨hl, _, _, rfl, ⟨hc, fun h => by cases h⟩, .inr ⟨B, 0, rfl, (Array.getElem?_eq_some_iff.1 h).1, fun i u hu => ?_⟩⟩
  rw [cell_of_row w B (0 + i) _ e fr h, Nat.zero_add, List.getElem?_toArray]; exact hu
theorem owns_below {w w' : World} {base e size n : Nat} {v : Value} {cs : List Value} (h : w.ownsRow base e size v n cs) (hb : Below w.heap.size w w') : w'.ownsRow base e size v n cs :=
  h.kept (row := none) ⟨hb.os, hb.tape, hb.output, hb.size, fun k hk _ => hb.block k hk⟩ (by cases v.ownBlock <;> simp)

theorem shapeOf {w : World} {base e size n : Nat} {v : Value} {cs : List Value} (h : w.ownsRow base e size v n cs) : ∃ ao cap, v = .slice ao n cap := by
  obtain ⟨_, ⟨rfl, rfl⟩ | ⟨g, cap, cur, rfl, _⟩⟩ := h
  · exact ⟨_, _, rfl⟩
  · exact ⟨_, _, rfl⟩

abbrev Rn := Int × Int
def step : List Rn → Int → List Rn
  | [], x => [(x, 1)]
  | (y, c) :: t, x => if x = y then (y, c + 1) :: t else (x, 1) :: (y, c) :: t
theorem step_cons (y c : Int) (t : List Rn) (x : Int) : step ((y, c) :: t) x = if x = y then (y, c + 1) :: t else (x, 1) :: (y, c) :: t := rfl
/-- The runs of a row, the last one first. -/
def packR (l : List Int) : List Rn := l.foldl step []
def pack (l : List Int) : List Rn := (packR l).reverse
def rcs (k : IntKind) (l : List Rn) : List Value := l.flatMap fun p => [.int k p.1, .int .i64 p.2]
def expand (l : List Rn) : List Int := l.flatMap fun p => List.replicate p.2.toNat p.1
def total (l : List Rn) : Int := (l.map (·.2)).sum

theorem packR_snoc (l : List Int) (x : Int) : packR (l ++ [x]) = step (packR l) x := by simp [packR]
theorem packR_take (l : List Int) (k : Nat) (h : k < l.length) : packR (l.take (k + 1)) = step (packR (l.take k)) l[k] := by
  rw [List.take_succ_eq_append_getElem h, packR_snoc]
theorem snoc_ind {p : List Int → Prop} (h0 : p []) (h1 : ∀ l x, p l → p (l ++ [x])) : ∀ l, p l := by
  intro l
  have : ∀ m : List Int, p m.reverse := by
    intro m
    induction m with
    | nil => exact h0
    | cons x t ih => rw [List.reverse_cons]; exact h1 _ _ ih
  simpa using this l.reverse

theorem step_pos {R : List Rn} {x : Int} (h : ∀ p ∈ R, 1 ≤ p.2) : ∀ p ∈ step R x, 1 ≤ p.2 := by
  cases R with
  | nil => simp [step]
  | cons q t =>
    obtain ⟨y, c⟩ := q
    have hc := h (y, c) (by simp)
    simp only at hc
    rw [step_cons]
    split
    · intro p hp
      rcases List.mem_cons.1 hp with rfl | hp
      · simp only; omega
      · exact h p (List.mem_cons_of_mem _ hp)
    · intro p hp
      rcases List.mem_cons.1 hp with rfl | hp
      · simp
      · exact h p hp
theorem packR_pos (l : List Int) : ∀ p ∈ packR l, 1 ≤ p.2 := by
  induction l using snoc_ind with
  | h0 => simp [packR]
  | h1 l x ih => rw [packR_snoc]; exact step_pos ih
theorem step_total (R : List Rn) (x : Int) : total (step R x) = total R + 1 := by
  cases R with
  | nil => simp [step, total]
  | cons q t =>
    obtain ⟨y, c⟩ := q
    rw [step_cons]
    split <;> simp only [total, List.map_cons, List.sum_cons] <;> omega
theorem packR_total (l : List Int) : total (packR l) = l.length := by
  induction l using snoc_ind with
  | h0 => simp [packR, total]
  | h1 l x ih => rw [packR_snoc, step_total, ih]; simp
theorem total_ge {R : List Rn} (h : ∀ p ∈ R, 1 ≤ p.2) : (R.length : Int) ≤ total R := by
  induction R with
  | nil => simp [total]
  | cons q t ih =>
    have h1 := h q (by simp)
    have h2 := ih fun p hp => h p (List.mem_cons_of_mem _ hp)
    simp only [total, List.map_cons, List.sum_cons, List.length_cons] at *
    push_cast
    omega
theorem packR_length (l : List Int) : (packR l).length ≤ l.length := by
  have h1 := total_ge (packR_pos l)
  rw [packR_total] at h1
  omega
theorem count_le {R : List Rn} (h : ∀ p ∈ R, 1 ≤ p.2) : ∀ p ∈ R, p.2 ≤ total R := by
  induction R with
  | nil => simp
  | cons q t ih =>
    have h1 := h q (by simp)
    have h2 := fun p hp => h p (List.mem_cons_of_mem _ hp)
    have h3 := total_ge h2
    intro p hp
    simp only [total, List.map_cons, List.sum_cons] at *
    rcases List.mem_cons.1 hp with rfl | hp
    · omega
    · have := ih h2 p hp; omega
theorem packR_count (l : List Int) : ∀ p ∈ packR l, p.2 ≤ l.length := by
  intro p hp
  have := count_le (packR_pos l) p hp
  rwa [packR_total] at this

def Apart : List Rn → Prop
  | p :: q :: t => p.1 ≠ q.1 ∧ Apart (q :: t)
  | _ => True
theorem step_apart {R : List Rn} {x : Int} (h : Apart R) : Apart (step R x) := by
  match R, h with
  | [], _ => simp [step, Apart]
  | [(y, c)], _ => rw [step_cons]; split <;> simp_all [Apart]
  | (y, c) :: q :: t, h =>
    rw [step_cons]
    split
    · exact h
    · exact ⟨by assumption, h⟩
theorem packR_apart (l : List Int) : Apart (packR l) := by
  induction l using snoc_ind with
  | h0 => trivial
  | h1 l x ih => rw [packR_snoc]; exact step_apart ih
theorem Apart.at : ∀ {R : List Rn}, Apart R → ∀ i (h : i + 1 < R.length), (R[i]).1 ≠ (R[i + 1]).1
  | p :: q :: t, h, 0, _ => h.1
  | p :: q :: t, h, i + 1, hi => by
    have := Apart.at h.2 i (by simpa using hi)
    simpa using this
theorem pack_apart (l : List Int) (i : Nat) (h : i + 1 < (pack l).length) : ((pack l)[i]).1 ≠ ((pack l)[i + 1]).1 := by
  have hl : (pack l).length = (packR l).length := by simp [pack]
  have h1 := (packR_apart l).at ((packR l).length - 2 - i) (by omega)
  simp only [pack, List.getElem_reverse]
  intro e
  apply h1
  rw [show (packR l)[(packR l).length - 2 - i + 1]'(by omega) = (packR l)[(packR l).length - 1 - i]'(by omega) from by congr 1; omega]
  rw [show (packR l)[(packR l).length - 2 - i]'(by omega) = (packR l)[(packR l).length - 1 - (i + 1)]'(by omega) from by congr 1; omega]
  exact e.symm

theorem expand_append (a b : List Rn) : expand (a ++ b) = expand a ++ expand b := by simp [expand]
theorem expand_step {R : List Rn} (h : ∀ p ∈ R, 1 ≤ p.2) (x : Int) : expand (step R x).reverse = expand R.reverse ++ [x] := by
  cases R with
  | nil => simp [step, expand]
  | cons q t =>
    obtain ⟨y, c⟩ := q
    have hc := h (y, c) (by simp)
    simp only at hc
    rw [step_cons]
    split
    · rename_i hx
      subst hx
      simp only [List.reverse_cons, expand_append]
      rw [List.append_assoc]
      congr 1
      simp only [expand, List.flatMap_cons, List.flatMap_nil, List.append_nil]
      rw [show (c + 1).toNat = c.toNat + 1 from by omega, List.replicate_succ']
    · simp only [List.reverse_cons, expand_append]
      simp [expand]
theorem expand_pack (l : List Int) : expand (pack l) = l := by
  induction l using snoc_ind with
  | h0 => rfl
  | h1 l x ih =>
    unfold pack at ih ⊢
    rw [packR_snoc, expand_step (packR_pos l), ih]

/-- The row of runs, and an error's number. -/
def unp (most : Int) : List Int → List Rn → List Int × Int
  | out, [] => (out, 0)
  | out, (x, c) :: t => if c < 1 then ([], 6) else if most < c + out.length then ([], 13) else unp most (out ++ List.replicate c.toNat x) t
theorem unp_pos (most : Int) : ∀ (R : List Rn) (out : List Int), (∀ p ∈ R, 1 ≤ p.2) → R ≠ [] →
    unp most out R = if most < out.length + total R then ([], 13) else (out ++ expand R, 0) := by
  intro R
  induction R with
  | nil => intro out _ h; exact absurd rfl h
  | cons q t ih =>
    intro out h _
    obtain ⟨x, c⟩ := q
    have hc := h (x, c) (by simp)
    simp only at hc
    have ht : ∀ p ∈ t, 1 ≤ p.2 := fun p hp => h p (List.mem_cons_of_mem _ hp)
    have h3 := total_ge ht
    unfold unp
    rw [if_neg (by omega)]
    have hT : total ((x, c) :: t) = c + total t := by simp [total]
    have hE : expand ((x, c) :: t) = List.replicate c.toNat x ++ expand t := by simp [expand]
    rw [hT, hE]
    split
    · rw [if_pos (by omega)]
    · by_cases e : t = []
      · subst e
        simp only [unp, total, expand, List.map_nil, List.sum_nil, List.flatMap_nil, List.append_nil]
        rw [if_neg (by omega)]
      · rw [ih _ ht e]
        simp only [List.length_append, List.length_replicate, List.append_assoc]
        congr 1
        apply propext
        push_cast
        omega
theorem pack_pos (l : List Int) : ∀ p ∈ pack l, 1 ≤ p.2 := fun p hp => packR_pos l p (by simpa [pack] using hp)
theorem total_pack (l : List Int) : total (pack l) = l.length := by rw [← packR_total l]; simp [pack, total]
theorem pack_length (l : List Int) : (pack l).length ≤ l.length := by simpa [pack] using packR_length l
theorem unp_pack (most : Int) (l : List Int) : unp most [] (pack l) = if l ≠ [] ∧ most < l.length then ([], 13) else (l, 0) := by
  by_cases h : l = []
  · subst h; rfl
  · have h1 : pack l ≠ [] := by
      intro e
      have := expand_pack l
      rw [e] at this
      exact h this.symm
    have h2 : ∀ p ∈ pack l, 1 ≤ p.2 := fun p hp => packR_pos l p (by simpa [pack] using hp)
    have h3 : total (pack l) = l.length := by
      rw [← packR_total l]
      simp [pack, total]
    rw [unp_pos most _ _ h2 h1, expand_pack, h3]
    simp [h]
theorem unp_len (most : Int) : ∀ (R : List Rn) (out : List Int), ((unp most out R).1.length : Int) ≤ max (out.length : Int) most := by
  intro R
  induction R with
  | nil => intro out; exact Int.le_max_left _ _
  | cons q t ih =>
    intro out
    obtain ⟨x, c⟩ := q
    unfold unp
    split
    · simp only [List.length_nil]; omega
    · split
      · simp only [List.length_nil]; omega
      · have := ih (out ++ List.replicate c.toNat x)
        simp only [List.length_append, List.length_replicate] at this
        omega
end Go.Proofs.Ytbfdlfhidebjlaa.Cl
