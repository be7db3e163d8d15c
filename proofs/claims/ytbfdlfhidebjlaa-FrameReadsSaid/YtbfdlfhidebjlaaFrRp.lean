/- slices.Repeat of one number. -/
import Derived.Test.YtbfdlfhidebjlaaCell
import Derived.Laws.CopyOwn
import Derived.Laws.Bits64b
import Derived.Deep.RegionLaw
import Derived.Deep.RegionHeld3
import Derived.Deep.OwnRows
namespace Go.Proofs.Ytbfdlfhidebjlaa.Cl
open Go.RowKit Go.Deep
set_option linter.unusedVariables false
set_option linter.unusedSimpArgs false

theorem and_low (c : Int) (h0 : 0 ≤ c) (h1 : c < 4294967296) : bits .and .u64 c 4294967295 = c := by
  obtain ⟨n, rfl⟩ := Int.eq_ofNat_of_zero_le h0
  have := bits_and_u64_nat n 4294967295 (by omega) (by decide)
  rw [show ((4294967295 : Nat) : Int) = 4294967295 from rfl] at this
  rw [this, show (4294967295 : Nat) = 2 ^ 32 - 1 from rfl, Nat.and_two_pow_sub_one_eq_mod]
  rw [Nat.mod_eq_of_lt (by omega)]
set_option maxRecDepth 1000000 in
theorem mul64_one (w : World) (c : Int) (h0 : 0 ≤ c) (h1 : c < 4294967296) :
    Calls Try.prog 61 #[.int .u64 1, .int .u64 c] w fun e w' => e = .returned (.tuple #[.int .u64 0, .int .u64 c]) ∧ w' = w := by
  have a1 := and_low 1 (by decide) (by decide)
  have ac := and_low c h0 h1
  have a0 := and_low 0 (by decide) (by decide)
  have hd : c / 4294967296 = 0 := Int.ediv_eq_zero_of_lt h0 h1
  have hw : IntKind.u64.wrap c = c := by rw [IntKind.wrap_u64]; omega
  have hw0 : IntKind.u64.wrap 0 = 0 := by decide
  go_enter Try.func61, Try.ntmps61
  go_wp2_with fail
  go_ret2
  exact ⟨rfl, rfl⟩
theorem mul_one (w : World) (c : Int) (h0 : 0 ≤ c) (h1 : c < 4294967296) :
    Calls Try.prog 59 #[.int .u64 1, .int .u64 c] w fun e w' => e = .returned (.tuple #[.int .u64 0, .int .u64 c]) ∧ w' = w := by
  go_enter Try.func59, Try.ntmps59
  go_wp2_with fail
  refine (mul64_one w c h0 h1).mono ?_
  rintro e w' ⟨rfl, rfl⟩
  go_wp2_with fail
  go_ret2
  exact ⟨rfl, rfl⟩
theorem info_int : (Try.prog.info? 5).map (fun i => (i.zero, i.size, i.bytes)) = some (some (.int .u8 0), 1, 1) := by kernel_rfl
theorem size_int : (Try.prog.info? 5).map (·.size) = some 1 := by kernel_rfl
def rowOf (a z : Value) (c k : Nat) : List Value := List.replicate k a ++ List.replicate (c - k) z
theorem rowOf_zero (a z : Value) (c : Nat) : rowOf a z c 0 = List.replicate c z := by simp [rowOf]
theorem rowOf_full (a z : Value) (c : Nat) : rowOf a z c c = List.replicate c a := by simp [rowOf]
theorem rowOf_length (a z : Value) (c k : Nat) (h : k ≤ c) : (rowOf a z c k).length = c := by simp [rowOf]; omega
theorem rowOf_splice (a z : Value) (c k m : Nat) (h : k + m ≤ c) : splice (rowOf a z c k) k (List.replicate m a) = rowOf a z c (k + m) := by
  unfold splice rowOf
  rw [List.take_left' (by simp), List.drop_append, List.length_replicate, List.length_replicate, List.drop_eq_nil_of_le (by simp), List.nil_append, List.drop_replicate, show k + m - k = m from by omega, show c - k - m = c - (k + m) from by omega, ← List.append_assoc, List.replicate_append_replicate]
theorem made_row (z : Value) (n : Nat) : madeCells #[z] n = (List.replicate n z).toArray := by
  apply Array.ext'
  rw [toList_madeCells_one]
theorem made_heap (w : World) (a z : Value) (n e : Nat) : (w.alloc (.cells (madeCells #[z] n) e)).heap[w.heap.size]? = some (.cells (rowOf a z n 0).toArray e (0, 0)) := by
  rw [made_row, rowOf_zero]; exact heap_alloc_new w _
theorem newsOf {w : World} {B e n : Nat} {a : Value} (h : w.heap[B]? = some (.cells (List.replicate n a).toArray e (0, 0))) : ∀ j u, (List.replicate n a)[j]? = some u → w.cell? ((⟨B, 0, none⟩ : Addr).add j) = some u := fun j u hu => by
  have hadd : (⟨B, 0, none⟩ : Addr).add j = ⟨B, j, none⟩ := by unfold Addr.add; split <;> simp_all
  rw [hadd, cell_of_row w B j _ e _ h]
  rw [List.getElem?_toArray]; exact hu
theorem lenMin (a : Value) (m c : Nat) : (List.replicate (min m c) a).length = Nat.min m c := by rw [List.length_replicate]
theorem oneAll {a : Value} {m : Nat} (h : a.oneCell' = true) : ∀ v ∈ List.replicate m a, v.oneCell' = true := fun v hv => by rw [List.eq_of_mem_replicate hv]; exact h
theorem fit0 (a z : Value) (m c : Nat) (h : m ≤ c) : 0 + (List.replicate m a).length ≤ (rowOf a z c 0).length := by rw [List.length_replicate, rowOf_length _ _ _ _ (Nat.zero_le _), Nat.zero_add]; exact h
theorem fit2 (a z : Value) (k c : Nat) (h : k ≤ c) : k + (List.replicate (min k (c - k)) a).length ≤ (rowOf a z c k).length := by rw [List.length_replicate, rowOf_length _ _ _ _ h]; omega
theorem pos1 {w : World} {g b c : Nat} {a : Value} (h : w.cell? ⟨b, 0, none⟩ = some a) : 0 < (List.replicate (min 1 c) a).length → some (⟨g, 0, none⟩ : Addr) = some ⟨g, 0, none⟩ ∧ ∃ ad, some (⟨b, 0, none⟩ : Addr) = some ad ∧ ∀ j v, (List.replicate (min 1 c) a)[j]? = some v → w.cell? (ad.add j) = some v := by
  refine fun _ => ⟨rfl, _, rfl, fun j v hv => ?_⟩
  rw [List.getElem?_replicate] at hv
  split at hv
  · obtain rfl : j = 0 := by omega
    obtain rfl := Option.some.inj hv
    exact h
  · cases hv
theorem pos2 {w : World} {g k c e : Nat} {a z : Value} (hk : k < c) (h : w.heap[g]? = some (.cells (rowOf a z c k).toArray e (0, 0))) : 0 < (List.replicate (min k (c - k)) a).length → (if c = k then some (⟨g, 0, none⟩ : Addr) else some ⟨g, k, none⟩) = some ⟨g, k, none⟩ ∧ ∃ ad, some (⟨g, 0, none⟩ : Addr) = some ad ∧ ∀ j v, (List.replicate (min k (c - k)) a)[j]? = some v → w.cell? (ad.add j) = some v := by
  refine fun _ => ⟨if_neg (by omega), _, rfl, fun j v hv => ?_⟩
  have hadd : (⟨g, 0, none⟩ : Addr).add j = ⟨g, j, none⟩ := by unfold Addr.add; split <;> simp_all
  rw [hadd, cell_of_row w g j _ e _ h]
  rw [List.getElem?_replicate] at hv
  split at hv
  · obtain rfl := Option.some.inj hv
    simp only [rowOf, List.getElem?_toArray]
    rw [List.getElem?_append_left (by simp; omega), List.getElem?_replicate, if_pos (by omega)]
  · cases hv
set_option maxRecDepth 1000000 in
theorem repeat_int (w : World) (b : Nat) (cap : Nat) (x : Int) (c : Nat) (h1 : c ≤ 1000000) (hb : b < w.heap.size) (hx : w.cell? ⟨b, 0, none⟩ = some (.int .u8 x)) :
    Calls Try.prog 57 #[.slice (some ⟨b, 0, none⟩) 1 cap, .int .i64 c] w fun e w' =>
      e = .returned (.slice (some ⟨w.heap.size, 0, none⟩) c c) ∧ w'.heap[w.heap.size]? = some (.cells (List.replicate c (.int .u8 x)).toArray 5 (0, 0)) ∧ Below w.heap.size w w' := by
  have k := fun w' => mul_one w' c (by omega) (by omega)
  have hw : IntKind.u64.wrap (c : Int) = c := by rw [IntKind.wrap_u64]; omega
  have hmk := run_make_row' (P := Try.prog) 45 5 (.int .u8 0) 1 Try.underlying45 info_int rfl .i64 .i64 c (by omega) (by omega)
  go_enter Try.func57, Try.ntmps57
  go_wp2_with fail
  refine (k _).mono ?_
  rintro e w' ⟨rfl, he⟩
  obtain rfl := he.symm
  have hc0 : ((w.alloc (.cells (madeCells #[.int .u8 0] c) 5)).cell? ⟨b, 0, none⟩) = some (.int .u8 x) := by rw [World.cell?_alloc_past _ _ _ hb]; exact hx
  have hR0 := made_heap w (.int .u8 x) (.int .u8 0) c 5
  have hB0 : Below w.heap.size w (w.alloc (.cells (madeCells #[.int .u8 0] c) 5)) := (Below.refl _ w).alloc (Nat.le_refl _) _
  go_wp2_with (with_reducible refine wpList_copy_splice rfl (.tmp 31) (.tmp 32) 45 45 rfl 5 Try.underlying45 size_int (some ⟨w.heap.size, 0, none⟩) (some ⟨b, 0, none⟩) c c 1 cap rfl rfl w.heap.size 0 _ 5 hR0 (List.replicate (min 1 c) (.int .u8 x)) (lenMin _ _ _) (pos1 hc0) (fit0 _ _ _ _ (by omega)) (oneAll rfl) w.heap.size w hB0 (Nat.le_refl _) ?_)
  intro w2 HG2 hB2
  go_wp2
  go_loopw [8] (fun n wr => ∃ k : Nat, n = .int .i64 k ∧ k ≤ c ∧ (0 < k ∨ c = 0) ∧ Hid (wr.heap[w.heap.size]? = some (.cells (rowOf (.int .u8 x) (.int .u8 0) c k).toArray 5 (0, 0))) ∧ Below w.heap.size w wr)
    (fun n _ => c - (intOf n).toNat)
  case atStart =>
    refine ⟨min 1 c, ?_, by omega, by omega, ?_, hB2⟩
    · rfl
    · have := HG2.out
      rw [rowOf_splice _ _ _ _ _ (by omega), Nat.zero_add] at this
      exact this
  case round =>
    obtain ⟨k, rfl, hk, hk0, hG, hnx⟩ := hrel
    by_cases hkl : k < c
    · have hi1 : (0 : Int) ≤ k := by omega
      have hi2 : (k : Int) ≤ c := by omega
      clear HG2 hB2 hR0 hB0 hc0 he
      have hGd : Hid (wr.drew.heap[w.heap.size]? = some (.cells (rowOf (.int .u8 x) (.int .u8 0) c k).toArray 5 (0, 0))) := hG.out
      go_wp2_with fail
      go_region_held3 (fun _ => True) (trivial) ((refine step_copy_splice rfl (.tmp 41) (.tmp 44) 45 45 rfl 5 Try.underlying45 size_int (if c = k then some ⟨w.heap.size, 0, none⟩ else some ⟨w.heap.size, k, none⟩) (some ⟨w.heap.size, 0, none⟩) (c - k) (c - k) k c rfl rfl w.heap.size k (rowOf (.int .u8 x) (.int .u8 0) c k) 5 hGd.out (List.replicate (min k (c - k)) (.int .u8 x)) (lenMin _ _ _) (pos2 hkl hGd.out) (fit2 _ _ _ _ hk) (oneAll rfl) w.heap.size w hnx.drew (Nat.le_refl _) ?_; intro w4 hG4 hB4))
      have hwr : IntKind.i64.wrap ((k : Int) + ((min k (c - k) : Nat) : Int)) = ((k + min k (c - k) : Nat) : Int) := by rw [IntWalk.i64_in _ (by omega)]; push_cast; rfl
      have hG5 := hG4.out
      rw [rowOf_splice _ _ _ _ _ (by omega)] at hG5
      have HG5 : Hid (w4.heap[w.heap.size]? = some (.cells (rowOf (.int .u8 x) (.int .u8 0) c (k + min k (c - k))).toArray 5 (0, 0))) := hG5
      clear hG5 hG4 hGd hG
      rw [hwr]
      generalize hK : k + min k (c - k) = K at *
      go_wp2
      go_roundw
      case rel => exact ⟨K, rfl, by omega, by omega, HG5, hB4⟩
      case measure => simp [intOf]; omega
    · obtain rfl : k = c := by omega
      go_wp2_with fail
      go_ret
      refine ⟨rfl, ?_, hnx⟩
      have := hG.out
      rwa [rowOf_full] at this
end Go.Proofs.Ytbfdlfhidebjlaa.Cl
