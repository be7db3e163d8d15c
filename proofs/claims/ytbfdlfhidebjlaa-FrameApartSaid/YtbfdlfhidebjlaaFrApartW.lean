/- The law of two pictures that differ by nothing just if they are alike: its walk. -/
import Derived.Test.YtbfdlfhidebjlaaFrAwake
import Derived.Test.YtbfdlfhidebjlaaFrDifferW
namespace Go.Proofs.Ytbfdlfhidebjlaa
open Go.RowKit Go.Deep Cl
set_option linter.unusedVariables false
set_option linter.unusedSimpArgs false

set_option maxRecDepth 1000000 in
set_option maxHeartbeats 1000000 in
theorem apart_core (ao bo : Option Addr) (n m ca cb : Nat) (A B : List (List Int)) (w : World) (hA : Pic w (.slice ao n ca) A) (hB : Pic w (.slice bo m cb) B) (bA : ∀ r ∈ A, Byt r) (bB : ∀ r ∈ B, Byt r) (n63 : n ≤ 9223372036854775807) (m63 : m ≤ 9223372036854775807) :
    Calls Try.prog 7 #[.slice ao n ca, .slice bo m cb] w fun e w' => e = .returned (.bool true) ∧ Below w.heap.size w w' := by
  obtain ⟨hn, HA⟩ := picAt hA
  obtain ⟨hm, HB⟩ := picAt hB
  have HPA := hideR hA
  have HPB := hideR hB
  have HbA := hideR bA
  have HbB := hideR bB
  have HN := hideR hn
  have HM := hideR hm
  clear hA hB bA bB hn hm
  go_enter Try.func7, Try.ntmps7
  go_wp2
  go_loopw [5] (fun i wr => ∃ k : Nat, k ≤ n ∧ i = .int .i64 k ∧ (∀ r ∈ A.take k, r.length = 160) ∧ wr = w) (fun i _ => n - (intOf i).toNat)
  case atStart => exact ⟨0, Nat.zero_le _, rfl, fun r h => by simp at h, rfl⟩
  case round =>
    obtain ⟨k, hk, rfl, hall, rfl⟩ := hrel
    by_cases hkl : k < n
    · have hkA : k < A.length := by have := HN.out; omega
      obtain ⟨b1, o1, ao1, cap1, rfl, hb1, hc1, hL1⟩ := HA.out k _ (List.getElem?_eq_getElem hkA)
      have tA : A.take (k + 1) = A.take k ++ [A[k]] := List.take_succ_eq_append_getElem hkA
      generalize A[k] = r at *
      have HT := hideR tA
      have HALL := hideR hall
      have kk : (k : Int) < (n : Int) := by omega
      have kk0 : (0 : Int) ≤ (k : Int) := by omega
      generalize hl : r.length = l at *
      clear tA hL1 hall
      by_cases h160 : (l : Int) = 160
      · go_wp2
        refine ⟨⟨k + 1, hkl, by go_num, fun x hx => ?_, trivial⟩, by simp [intOf]; omega⟩
        rw [HT.out] at hx
        rcases List.mem_append.1 hx with h | h
        · exact HALL.out x h
        · rw [List.mem_singleton.1 h]; omega
      · go_wp2
        go_ret
        exact ⟨rfl, Below.refl _ _⟩
    · obtain rfl : k = n := by omega
      rw [List.take_of_length_le (by have := HN.out; omega)] at hall
      have HALLA := hideR hall
      clear hall
      go_wp2
      go_loopw [6] (fun i wr' => ∃ j : Nat, j ≤ m ∧ i = .int .i64 j ∧ (∀ r ∈ B.take j, r.length = 160) ∧ wr' = wr) (fun i _ => m - (intOf i).toNat)
      case atStart => exact ⟨0, Nat.zero_le _, rfl, fun r h => by simp at h, rfl⟩
      case round =>
        obtain ⟨j, hj, rfl, hall, rfl⟩ := hrel
        by_cases hjl : j < m
        · have hkB : j < B.length := by have := HM.out; omega
          obtain ⟨b1, o1, ao1, cap1, rfl, hb1, hc1, hL1⟩ := HB.out j _ (List.getElem?_eq_getElem hkB)
          have tB : B.take (j + 1) = B.take j ++ [B[j]] := List.take_succ_eq_append_getElem hkB
          generalize B[j] = r at *
          have HT := hideR tB
          have HALL := hideR hall
          have kk : (j : Int) < (m : Int) := by omega
          have kk0 : (0 : Int) ≤ (j : Int) := by omega
          generalize hl : r.length = l at *
          clear tB hL1 hall
          by_cases h160 : (l : Int) = 160
          · go_wp2
            refine ⟨⟨j + 1, hjl, by go_num, fun x hx => ?_, trivial⟩, by simp [intOf]; omega⟩
            rw [HT.out] at hx
            rcases List.mem_append.1 hx with h | h
            · exact HALL.out x h
            · rw [List.mem_singleton.1 h]; omega
          · go_wp2
            go_ret
            exact ⟨rfl, Below.refl _ _⟩
        · obtain rfl : j = m := by omega
          rw [List.take_of_length_le (by have := HM.out; omega)] at hall
          have HALLB := hideR hall
          clear hall
          by_cases hbigA : (30 : Int) < k
          · go_wp2
            go_ret
            exact ⟨rfl, Below.refl _ _⟩
          by_cases hbigB : (30 : Int) < j
          · go_wp2
            go_ret
            exact ⟨rfl, Below.refl _ _⟩
          have hdz := dif_zero A B HALLA.out HALLB.out
          have hdl := dif_le A B
          rw [← HN.out, ← HM.out] at hdl
          have hn30 : k ≤ 30 := by omega
          have hm30 : j ≤ 30 := by omega
          have lA : A.length ≤ 1000 := by have := HN.out; omega
          have lB : B.length ≤ 1000 := by have := HM.out; omega
          have sA : ∀ r ∈ A, r.length ≤ 100000 := fun r h => by rw [HALLA.out r h]; decide
          have sB : ∀ r ∈ B, r.length ≤ 100000 := fun r h => by rw [HALLB.out r h]; decide
          have e1 := (Below.refl _ wr).alloc (Nat.le_refl _) (.cells #[.slice ao k ca] 33)
          have e2 := e1.alloc (by simp) (.cells #[.slice bo j cb] 33)
          have c7 : ((wr.alloc (.cells #[.slice ao k ca] 33)).alloc (.cells #[.slice bo j cb] 33)).cell? ⟨wr.heap.size, 0, none⟩ = some (.slice ao k ca) := by
            rw [cell_of_row _ _ 0 _ _ _ ((Below.heap_alloc _ _ _ (by simp)).trans (heap_alloc_new wr _))]; rfl
          have c8 : ((wr.alloc (.cells #[.slice ao k ca] 33)).alloc (.cells #[.slice bo j cb] 33)).cell? ⟨wr.heap.size + 1, 0, none⟩ = some (.slice bo j cb) := by
            have := heap_alloc_new (wr.alloc (.cells #[.slice ao k ca] 33)) (.cells #[.slice bo j cb] 33)
            rw [World.size_alloc] at this
            rw [cell_of_row _ _ 0 _ _ _ this]; rfl
          have s8 : wr.heap.size + 1 < ((wr.alloc (.cells #[.slice ao k ca] 33)).alloc (.cells #[.slice bo j cb] 33)).heap.size := by simp
          have k1 := fun W (h : Below wr.heap.size wr W) => differ_pic W _ _ A B (HPA.out.below h) (HPB.out.below h) lA lB sA sB
          have k2 := fun W (h : Below wr.heap.size wr W) => differ_pic W _ _ B A (HPB.out.below h) (HPA.out.below h) lB lA sB sA
          rw [dif_comm B A] at k2
          have k3 := fun W (h : Below wr.heap.size wr W) => same_pic W _ _ A B (HPA.out.below h) (HPB.out.below h) HbA.out HbB.out (by omega)
          generalize hD : dif A B = D at *
          generalize hE : decide (A = B) = E at *
          have hDE : ((D : Int) == 0) = E := by
            rw [← hE]
            by_cases h : D = 0
            · rw [decide_eq_true (hdz.1 h), h]; rfl
            · rw [decide_eq_false (fun e => h (hdz.2 e))]; simpa using h
          have HDL := hideR hdl
          clear hdz hD hE lA lB sA sB hdl
          go_wp2_with fail
          generalize (wr.alloc (.cells #[.slice ao k ca] 33)).alloc (.cells #[.slice bo j cb] 33) = V at *
          refine (k1 V e2).mono ?_
          rintro e w2 ⟨rfl, hb2⟩
          have f2 := e2.trans (hb2.mono e2.size)
          have d7 := (hb2.cell (p := ⟨wr.heap.size, 0, none⟩) (by show wr.heap.size < _; omega)).trans c7
          have d8 := (hb2.cell (p := ⟨wr.heap.size + 1, 0, none⟩) s8).trans c8
          clear c7 c8 e1
          go_wp2_with fail
          refine (k3 w2 f2).mono ?_
          rintro e w3 ⟨rfl, hb3⟩
          have f3 := f2.trans (hb3.mono f2.size)
          have g7 := (hb3.cell (p := ⟨wr.heap.size, 0, none⟩) (by have := hb2.size; show wr.heap.size < _; omega)).trans d7
          have g8 := (hb3.cell (p := ⟨wr.heap.size + 1, 0, none⟩) (by have := hb2.size; show wr.heap.size + 1 < _; omega)).trans d8
          clear d7 d8
          go_wp2_with fail
          refine (k2 w3 f3).mono ?_
          rintro e w4 ⟨rfl, hb4⟩
          have f4 := f3.trans (hb4.mono f3.size)
          clear g7 g8 k1 k2 k3
          by_cases hnm : (k : Int) < (j : Int)
          · have hle : (D : Int) ≤ 160 * (j : Int) := by have := HDL.out; omega
            go_wp2_with fail
            refine (awake_any _).mono ?_
            rintro e w5 ⟨rfl, hb5⟩
            have f5 := f4.trans (hb5.mono f4.size)
            go_wp2
            go_ret
            exact ⟨rfl, f5⟩
          · have hle : (D : Int) ≤ 160 * (k : Int) := by have := HDL.out; omega
            go_wp2_with fail
            refine (awake_any _).mono ?_
            rintro e w5 ⟨rfl, hb5⟩
            have f5 := f4.trans (hb5.mono f4.size)
            go_wp2
            go_ret
            exact ⟨rfl, f5⟩
theorem frameApart_walk (va : Value) (A : List (List Int)) (vb : Value) (B : List (List Int)) (W : World) (ha : Pic W va A ∧ (∀ r ∈ A, Byt r) ∧ ∃ ao n c, va = .slice ao n c ∧ n ≤ 9223372036854775807) (hb : Pic W vb B ∧ (∀ r ∈ B, Byt r) ∧ ∃ ao n c, vb = .slice ao n c ∧ n ≤ 9223372036854775807) :
    Calls Try.prog 7 #[va, vb] W fun e w' => e = .returned (.bool true) ∧ Below W.heap.size W w' := by
  obtain ⟨h1, h2, ao, n, ca, rfl, h3⟩ := ha
  obtain ⟨g1, g2, bo, m, cb, rfl, g3⟩ := hb
  exact apart_core ao bo n m ca cb A B W h1 g1 h2 g2 h3 g3
end Go.Proofs.Ytbfdlfhidebjlaa
