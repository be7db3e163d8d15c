/- The reference of package frame: are two pictures' rows alike? -/
import Derived.Test.YtbfdlfhidebjlaaFrRowsT
import Derived.Test.YtbfdlfhidebjlaaFrStr
import Derived.BigQuiet
import Derived.WalkSmall
namespace Go.Proofs.Ytbfdlfhidebjlaa.Cl
open Go.RowKit Go.Deep
set_option linter.unusedVariables false
set_option linter.unusedSimpArgs false

theorem picAt {w : World} {ao : Option Addr} {n cap : Nat} {A : List (List Int)} (h : Pic w (.slice ao n cap) A) : n = A.length ∧ Hid (∀ (y : Nat) row, A[y]? = some row → ∃ b off ao' cap', ao = some ⟨b, off, none⟩ ∧ b < w.heap.size ∧ w.cell? ⟨b, off + y, none⟩ = some (.slice ao' row.length cap') ∧ Lies w 1 (.slice ao' row.length cap') row.length (row.map (Value.int .u8))) := by
  obtain ⟨vs, ⟨_, ao', cap', hv, _, hcs⟩, hl, hy⟩ := h
  cases hv
  refine ⟨hl, fun y row hr => ?_⟩
  have hyl : y < A.length := (List.getElem?_eq_some_iff.1 hr).1
  obtain ⟨b, off, rfl, hb, hc⟩ := hcs.resolve_left (by omega)
  have e0 : vs[y]? = some (vs[y]'(by omega)) := List.getElem?_eq_getElem _
  have hL := hy y _ row e0 hr
  have hL' := hL
  obtain ⟨_, ao2, cap2, hu, _, _⟩ := hL'
  rw [hu] at hL
  exact ⟨b, off, ao2, cap2, rfl, hb, by rw [hc y _ e0, hu], hL⟩
theorem below_drewN' {B : Nat} {A W : World} (h : Below B A W) (n : Nat) : Below B A (W.drewN n) := below_drewN h n
set_option maxRecDepth 100000 in
set_option maxHeartbeats 1000000 in
theorem same_core (w : World) (ao bo : Option Addr) (n m ca cb : Nat) (A B : List (List Int)) (hA : Pic w (.slice ao n ca) A) (hB : Pic w (.slice bo m cb) B) (bA : ∀ r ∈ A, Byt r) (bB : ∀ r ∈ B, Byt r) (hs : A.length ≤ 1000000) :
    Calls Try.prog 17 #[.slice ao n ca, .slice bo m cb] w fun e w' => e = .returned (.bool (decide (A = B))) ∧ Below w.heap.size w w' := by
  obtain ⟨hn, HA⟩ := picAt hA
  obtain ⟨hm, HB⟩ := picAt hB
  have HbA := hideR bA
  have HbB := hideR bB
  clear hA hB bA bB
  by_cases hnm : n = m
  · subst hnm
    have HN := hideR hn
    have HM := hideR hm
    have hn1 : n ≤ 1000000 := by omega
    clear hn hm hs
    go_enter Try.func17, Try.ntmps17
    go_wp2
    go_loopw [5] (fun i wr => ∃ k : Nat, k ≤ n ∧ i = .int .i64 k ∧ A.take k = B.take k ∧ Below w.heap.size w wr) (fun i _ => n - (intOf i).toNat)
    case atStart => exact ⟨0, Nat.zero_le _, rfl, by simp, Below.refl _ _⟩
    case round =>
      obtain ⟨k, hk, rfl, hAB, hnx⟩ := hrel
      by_cases hkl : k < n
      · have hkA : k < A.length := by have := HN.out; omega
        have hkB : k < B.length := by have := HM.out; omega
        obtain ⟨b1, o1, ao1, cap1, rfl, hb1, hc1, hL1⟩ := HA.out k _ (List.getElem?_eq_getElem hkA)
        obtain ⟨b2, o2, ao2, cap2, rfl, hb2, hc2, hL2⟩ := HB.out k _ (List.getElem?_eq_getElem hkB)
        have hby1 := HbA.out _ (List.getElem_mem hkA)
        have hby2 := HbB.out _ (List.getElem_mem hkB)
        have hinj := strOfNums_inj hby1 hby2
        have tA : A.take (k + 1) = A.take k ++ [A[k]] := List.take_succ_eq_append_getElem hkA
        have tB : B.take (k + 1) = B.take k ++ [B[k]] := List.take_succ_eq_append_getElem hkB
        have q1 := (hnx.cell (p := ⟨b1, o1 + k, none⟩) hb1).trans hc1
        have q2 := (hnx.cell (p := ⟨b2, o2 + k, none⟩) hb2).trans hc2
        have v1 := fun d => conv_lies (wr.drewN d) ao1 _ cap1 _ (hL1.below (below_drewN' hnx d))
        have v2 := fun d => conv_lies (wr.drewN d) ao2 _ cap2 _ (hL2.below (below_drewN' hnx d))
        have hne : A[k] ≠ B[k] → A ≠ B := fun h e => h (by subst e; rfl)
        generalize A[k] = r1 at *
        generalize B[k] = r2 at *
        have TA := hideR tA
        have TB := hideR tB
        have HNE := hideR hne
        have HI := hideR hinj
        have HAB := hideR hAB
        generalize strOfNums r1 = s1 at *
        generalize strOfNums r2 = s2 at *
        generalize r1.length = l1 at *
        generalize r2.length = l2 at *
        clear tA tB hne hinj hL1 hL2 hc1 hc2 hAB
        have kk : (k : Int) < (n : Int) := by omega
        have kk0 : (0 : Int) ≤ (k : Int) := by omega
        by_cases hss : s1 = s2
        · subst hss
          go_wp2
          go_quiet (fail)
          go_wp2
          have he : A.take (k + 1) = B.take (k + 1) := by rw [TA.out, TB.out, HAB.out, HI.out.1 trivial]
          exact ⟨⟨k + 1, hkl, by go_num, he, below_drewN hnx _⟩, by simp [intOf]; omega⟩
        · have hbb : (s1.toList == s2.toList) = false := beq_eq_false_iff_ne.2 fun h => hss (Go.WideShapes.bytes_inj (by rwa [ByteArray.toList_eq, ByteArray.toList_eq] at h))
          have hF : decide (A = B) = false := decide_eq_false (HNE.out fun e => hss (HI.out.2 e))
          have HF := hideR hF
          clear hF
          go_wp2
          go_quiet (fail)
          go_wp2
          go_ret
          rw [HF.out]
          exact ⟨rfl, below_drewN hnx _⟩
      · obtain rfl : k = n := by omega
        have hE : A = B := by
          rw [List.take_of_length_le (by have := HN.out; omega), List.take_of_length_le (by have := HM.out; omega)] at hAB
          exact hAB
        have hF : decide (A = B) = true := decide_eq_true hE
        have HF := hideR hF
        clear hF hAB hE
        go_wp2
        go_ret
        rw [HF.out]
        exact ⟨rfl, hnx⟩
  · have hF : decide (A = B) = false := decide_eq_false fun e => hnm (by rw [hn, hm, e])
    have hnm' : ¬ (n : Int) = m := by omega
    rw [hF]
    clear hF hn hm hs
    go_enter Try.func17, Try.ntmps17
    go_wp2
    go_ret
    exact ⟨rfl, Below.refl _ _⟩
theorem same_pic (w : World) (va vb : Value) (A B : List (List Int)) (hA : Pic w va A) (hB : Pic w vb B) (bA : ∀ r ∈ A, Byt r) (bB : ∀ r ∈ B, Byt r) (hs : A.length ≤ 1000000) :
    Calls Try.prog 17 #[va, vb] w fun e w' => e = .returned (.bool (decide (A = B))) ∧ Below w.heap.size w w' := by
  obtain ⟨n, ao, ca, rfl⟩ : ∃ n ao ca, va = .slice ao n ca := by obtain ⟨vs, ⟨_, ao, cap, h, _⟩, _⟩ := hA; exact ⟨_, _, _, h⟩
  obtain ⟨m, bo, cb, rfl⟩ : ∃ n ao ca, vb = .slice ao n ca := by obtain ⟨vs, ⟨_, ao, cap, h, _⟩, _⟩ := hB; exact ⟨_, _, _, h⟩
  exact same_core w ao bo n m ca cb A B hA hB bA bB hs
end Go.Proofs.Ytbfdlfhidebjlaa.Cl
