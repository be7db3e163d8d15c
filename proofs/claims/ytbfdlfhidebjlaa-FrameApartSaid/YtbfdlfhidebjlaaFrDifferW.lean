/- Package frame: how many pixels are not alike: the walk. -/
import Derived.Test.YtbfdlfhidebjlaaFrDiffer
namespace Go.Proofs.Ytbfdlfhidebjlaa.Cl
open Go.RowKit Go.Deep
set_option linter.unusedVariables false
set_option linter.unusedSimpArgs false


set_option maxRecDepth 1000000 in
set_option maxHeartbeats 1000000 in
theorem differ_swap (w : World) (fo go : Option Addr) (n m ca cb : Nat) (F G : List (List Int)) (hF : Pic w (.slice fo n ca) F) (hG : Pic w (.slice go m cb) G) (hs : F.length ≤ 1000) (hsF : ∀ r ∈ F, r.length ≤ 100000) (hsG : ∀ r ∈ G, r.length ≤ 100000) (hlt : m < n) :
    Calls Try.prog 22 #[.agg #[.slice go m cb], .agg #[.slice fo n ca]] w fun e w' => e = .returned (.int .i64 ((160 * (n - m) + dif (F.take m) G : Nat) : Int)) ∧ Below w.heap.size w w' := by
  obtain ⟨hn, HF⟩ := picAt hF
  obtain ⟨hm, HG⟩ := picAt hG
  have hn1 : n ≤ 1000 := by omega
  have HN := hideR hn
  have HM := hideR hm
  have HSF := hideR hsF
  have HSG := hideR hsG
  have hmn : m ≤ n := by omega
  have hc : (m : Int) < n := by omega
  obtain ⟨q, hq⟩ : ∃ q : Nat, q = n - m := ⟨_, rfl⟩
  have hsub : IntKind.i64.wrap ((n : Int) - m) = q := by rw [IntWalk.i64_in _ (by omega)]; omega
  have hq1 : q ≤ 1000 := by omega
  rw [← hq]
  have HQ := hideR hq
  clear hF hG hn hm hsF hsG hs hq hlt
  have hA := (Below.refl _ w).alloc (Nat.le_refl _) (.cells #[.slice fo n ca] 33)
  have hB := hA.alloc (by simp) (.cells #[.slice go m cb] 33)
  have hf0 : ((w.alloc (.cells #[.slice fo n ca] 33)).alloc (.cells #[.slice go m cb] 33)).cell? ⟨w.heap.size, 0, none⟩ = some (.slice fo n ca) := by
    rw [cell_of_row _ _ 0 _ _ _ ((Below.heap_alloc _ _ _ (by simp)).trans (heap_alloc_new w _))]; rfl
  have hfs : w.heap.size < ((w.alloc (.cells #[.slice fo n ca] 33)).alloc (.cells #[.slice go m cb] 33)).heap.size := by simp; omega
  go_enter Try.func22, Try.ntmps22
  go_wp2
  generalize (w.alloc (.cells #[.slice fo n ca] 33)).alloc (.cells #[.slice go m cb] 33) = V at *
  go_loopw [5, 29] (fun nv i wr => ∃ k : Nat, k ≤ m ∧ i = .int .i64 k ∧ nv = .int .i64 ((160 * q + dif (F.take k) (G.take k) : Nat) : Int) ∧ Below V.heap.size V wr) (fun _ i _ => m - (intOf i).toNat)
  case atStart => exact ⟨0, Nat.zero_le _, rfl, by simp [dif], Below.refl _ _⟩
  case round =>
    obtain ⟨k, hk, rfl, rfl, hnx⟩ := hrel
    by_cases hkl : k < m
    · have hkF : k < F.length := by have := HN.out; omega
      have hkG : k < G.length := by have := HM.out; omega
      obtain ⟨b1, o1, ao1, cap1, rfl, hb1, hc1, hL1⟩ := HF.out k _ (List.getElem?_eq_getElem hkF)
      obtain ⟨b2, o2, ao2, cap2, rfl, hb2, hc2, hL2⟩ := HG.out k _ (List.getElem?_eq_getElem hkG)
      have hdm := dif_more k F G hkF hkG _ _ (List.getElem?_eq_getElem hkF) (List.getElem?_eq_getElem hkG)
      have hl1 := HSF.out _ (List.getElem_mem hkF)
      have hl2 := HSG.out _ (List.getElem_mem hkG)
      have hdl := dif_le (F.take k) (G.take k)
      have hml : 160 * max (F.take k).length (G.take k).length ≤ 160 * 1000 := by
        simp only [List.length_take]; omega
      generalize F[k] = rf at *
      generalize G[k] = rg at *
      generalize hS : dif (F.take k) (G.take k) = S at *
      have hS1 : S ≤ 160000 := by omega
      have HDM := hideR hdm
      have hw := hB.size
      have hnw := hB.trans (hnx.mono hw)
      have q2 := (hnw.cell (p := ⟨b2, o2 + k, none⟩) hb2).trans hc2
      generalize hlf : rf.length = lf at *
      generalize hlg : rg.length = lg at *
      have HLF := hideR hlf
      have HLG := hideR hlg
      have HL1 := hideR hL1
      have HL2 := hideR hL2
      have HS := hideR hS
      clear hdm hdl hml hlf hlg hL1 hL2 hS
      go_wp2
      go_loopw [5, 34] (fun nv i wr => ∃ j : Nat, j ≤ 160 ∧ i = .int .i64 j ∧ nv = .int .i64 ((160 * q + S + dr rf rg j : Nat) : Int) ∧ Below V.heap.size V wr) (fun _ i _ => 160 - (intOf i).toNat)
      case atStart => exact ⟨0, by decide, rfl, by simp [dr], hnx⟩
      case round =>
        obtain ⟨j, hj, rfl, rfl, hnx2⟩ := hrel
        clear hnx hnw q2
        by_cases hjl : j < 160
        · have hnw := hB.trans (hnx2.mono hw)
          have q1 := (hnw.cell (p := ⟨b1, o1 + k, none⟩) hb1).trans hc1
          have q0 := (hnx2.cell (p := ⟨w.heap.size, 0, none⟩) hfs).trans hf0
          have k1 : ∀ d, Calls Try.prog 39 #[.slice ao1 lf cap1, .int .i64 j] (wr.drewN d) fun e w' => e = .returned (.int .u8 (pix rf j)) ∧ w' = wr.drewN d := fun d => at_any (wr.drewN d) ao1 lf cap1 rf HLF.out.symm (by rw [HLF.out]; exact HL1.out.below (below_drewN' hnw d)) j (by rw [HLF.out]; omega)
          have k2 : ∀ d, Calls Try.prog 39 #[.slice ao2 lg cap2, .int .i64 j] (wr.drewN d) fun e w' => e = .returned (.int .u8 (pix rg j)) ∧ w' = wr.drewN d := fun d => at_any (wr.drewN d) ao2 lg cap2 rg HLG.out.symm (by rw [HLG.out]; exact HL2.out.below (below_drewN' hnw d)) j (by rw [HLG.out]; omega)
          have hd1 := dr_le rf rg j
          have hds : dr rf rg (j + 1) = dr rf rg j + ind (pix rf j ≠ pix rg j) := rfl
          have kk : (k : Int) < (n : Int) := by omega
          have kk0 : (0 : Int) ≤ (k : Int) := by omega
          generalize pix rf j = pf at *
          generalize pix rg j = pg at *
          generalize hD : dr rf rg j = D at *
          have HD := hideR hds
          by_cases hpq : pg = pf
          · subst hpq
            have hi : ind (pg ≠ pg) = 0 := by unfold ind; rw [if_neg (by simp)]
            have HI := hideR hi
            clear hds hD hi
            go_wp2
            go_quiet (first | (go_at_call 39; with_reducible refine Calls.quiet_of_same (k1 _)) | (go_at_call 39; with_reducible refine Calls.quiet_of_same (k2 _)))
            go_wp2
            exact ⟨⟨j + 1, hjl, by go_num, by rw [HD.out, HI.out, Nat.add_zero], below_drewN hnx2 _⟩, by simp [intOf]; omega⟩
          · have hbb : (pg == pf) = false := by simpa using hpq
            have hi : ind (pf ≠ pg) = 1 := by unfold ind; rw [if_pos (fun e => hpq e.symm)]
            have HI := hideR hi
            clear hds hD hi
            go_wp2
            go_quiet (first | (go_at_call 39; with_reducible refine Calls.quiet_of_same (k1 _)) | (go_at_call 39; with_reducible refine Calls.quiet_of_same (k2 _)))
            go_wp2
            exact ⟨⟨j + 1, hjl, by go_num, by rw [HD.out, HI.out]; push_cast; rfl, below_drewN hnx2 _⟩, by simp [intOf]; omega⟩
        · obtain rfl : j = 160 := by omega
          go_wp2
          exact ⟨⟨k + 1, hkl, by go_num, by rw [HDM.out, Nat.add_assoc], hnx2⟩, by simp [intOf]; omega⟩
    · obtain rfl : k = m := by omega
      have hgt : G.take k = G := List.take_of_length_le (by have := HM.out; omega)
      rw [hgt] at *
      go_wp2
      go_ret
      exact ⟨rfl, hB.trans (hnx.mono hB.size)⟩


set_option maxRecDepth 1000000 in
set_option maxHeartbeats 1000000 in
theorem differ_keep (w : World) (fo go : Option Addr) (n m ca cb : Nat) (F G : List (List Int)) (hF : Pic w (.slice fo n ca) F) (hG : Pic w (.slice go m cb) G) (hs : F.length ≤ 1000) (hsF : ∀ r ∈ F, r.length ≤ 100000) (hsG : ∀ r ∈ G, r.length ≤ 100000) (hle : m ≤ n) :
    Calls Try.prog 22 #[.agg #[.slice fo n ca], .agg #[.slice go m cb]] w fun e w' => e = .returned (.int .i64 ((160 * (n - m) + dif (F.take m) G : Nat) : Int)) ∧ Below w.heap.size w w' := by
  obtain ⟨hn, HF⟩ := picAt hF
  obtain ⟨hm, HG⟩ := picAt hG
  have hn1 : n ≤ 1000 := by omega
  have HN := hideR hn
  have HM := hideR hm
  have HSF := hideR hsF
  have HSG := hideR hsG
  have hmn : m ≤ n := by omega
  have hc : ¬ (n : Int) < m := by omega
  obtain ⟨q, hq⟩ : ∃ q : Nat, q = n - m := ⟨_, rfl⟩
  have hsub : IntKind.i64.wrap ((n : Int) - m) = q := by rw [IntWalk.i64_in _ (by omega)]; omega
  have hq1 : q ≤ 1000 := by omega
  rw [← hq]
  have HQ := hideR hq
  clear hF hG hn hm hsF hsG hs hq hle
  have hA := (Below.refl _ w).alloc (Nat.le_refl _) (.cells #[.slice fo n ca] 33)
  have hB := hA.alloc (by simp) (.cells #[.slice go m cb] 33)
  have hf0 : ((w.alloc (.cells #[.slice fo n ca] 33)).alloc (.cells #[.slice go m cb] 33)).cell? ⟨w.heap.size, 0, none⟩ = some (.slice fo n ca) := by
    rw [cell_of_row _ _ 0 _ _ _ ((Below.heap_alloc _ _ _ (by simp)).trans (heap_alloc_new w _))]; rfl
  have hfs : w.heap.size < ((w.alloc (.cells #[.slice fo n ca] 33)).alloc (.cells #[.slice go m cb] 33)).heap.size := by simp; omega
  go_enter Try.func22, Try.ntmps22
  go_wp2
  generalize (w.alloc (.cells #[.slice fo n ca] 33)).alloc (.cells #[.slice go m cb] 33) = V at *
  go_loopw [5, 29] (fun nv i wr => ∃ k : Nat, k ≤ m ∧ i = .int .i64 k ∧ nv = .int .i64 ((160 * q + dif (F.take k) (G.take k) : Nat) : Int) ∧ Below V.heap.size V wr) (fun _ i _ => m - (intOf i).toNat)
  case atStart => exact ⟨0, Nat.zero_le _, rfl, by simp [dif], Below.refl _ _⟩
  case round =>
    obtain ⟨k, hk, rfl, rfl, hnx⟩ := hrel
    by_cases hkl : k < m
    · have hkF : k < F.length := by have := HN.out; omega
      have hkG : k < G.length := by have := HM.out; omega
      obtain ⟨b1, o1, ao1, cap1, rfl, hb1, hc1, hL1⟩ := HF.out k _ (List.getElem?_eq_getElem hkF)
      obtain ⟨b2, o2, ao2, cap2, rfl, hb2, hc2, hL2⟩ := HG.out k _ (List.getElem?_eq_getElem hkG)
      have hdm := dif_more k F G hkF hkG _ _ (List.getElem?_eq_getElem hkF) (List.getElem?_eq_getElem hkG)
      have hl1 := HSF.out _ (List.getElem_mem hkF)
      have hl2 := HSG.out _ (List.getElem_mem hkG)
      have hdl := dif_le (F.take k) (G.take k)
      have hml : 160 * max (F.take k).length (G.take k).length ≤ 160 * 1000 := by
        simp only [List.length_take]; omega
      generalize F[k] = rf at *
      generalize G[k] = rg at *
      generalize hS : dif (F.take k) (G.take k) = S at *
      have hS1 : S ≤ 160000 := by omega
      have HDM := hideR hdm
      have hw := hB.size
      have hnw := hB.trans (hnx.mono hw)
      have q2 := (hnw.cell (p := ⟨b2, o2 + k, none⟩) hb2).trans hc2
      generalize hlf : rf.length = lf at *
      generalize hlg : rg.length = lg at *
      have HLF := hideR hlf
      have HLG := hideR hlg
      have HL1 := hideR hL1
      have HL2 := hideR hL2
      have HS := hideR hS
      clear hdm hdl hml hlf hlg hL1 hL2 hS
      go_wp2
      go_loopw [5, 34] (fun nv i wr => ∃ j : Nat, j ≤ 160 ∧ i = .int .i64 j ∧ nv = .int .i64 ((160 * q + S + dr rf rg j : Nat) : Int) ∧ Below V.heap.size V wr) (fun _ i _ => 160 - (intOf i).toNat)
      case atStart => exact ⟨0, by decide, rfl, by simp [dr], hnx⟩
      case round =>
        obtain ⟨j, hj, rfl, rfl, hnx2⟩ := hrel
        clear hnx hnw q2
        by_cases hjl : j < 160
        · have hnw := hB.trans (hnx2.mono hw)
          have q1 := (hnw.cell (p := ⟨b1, o1 + k, none⟩) hb1).trans hc1
          have q0 := (hnx2.cell (p := ⟨w.heap.size, 0, none⟩) hfs).trans hf0
          have k1 : ∀ d, Calls Try.prog 39 #[.slice ao1 lf cap1, .int .i64 j] (wr.drewN d) fun e w' => e = .returned (.int .u8 (pix rf j)) ∧ w' = wr.drewN d := fun d => at_any (wr.drewN d) ao1 lf cap1 rf HLF.out.symm (by rw [HLF.out]; exact HL1.out.below (below_drewN' hnw d)) j (by rw [HLF.out]; omega)
          have k2 : ∀ d, Calls Try.prog 39 #[.slice ao2 lg cap2, .int .i64 j] (wr.drewN d) fun e w' => e = .returned (.int .u8 (pix rg j)) ∧ w' = wr.drewN d := fun d => at_any (wr.drewN d) ao2 lg cap2 rg HLG.out.symm (by rw [HLG.out]; exact HL2.out.below (below_drewN' hnw d)) j (by rw [HLG.out]; omega)
          have hd1 := dr_le rf rg j
          have hds : dr rf rg (j + 1) = dr rf rg j + ind (pix rf j ≠ pix rg j) := rfl
          have kk : (k : Int) < (n : Int) := by omega
          have kk0 : (0 : Int) ≤ (k : Int) := by omega
          generalize pix rf j = pf at *
          generalize pix rg j = pg at *
          generalize hD : dr rf rg j = D at *
          have HD := hideR hds
          by_cases hpq : pg = pf
          · subst hpq
            have hi : ind (pg ≠ pg) = 0 := by unfold ind; rw [if_neg (by simp)]
            have HI := hideR hi
            clear hds hD hi
            go_wp2
            go_quiet (first | (go_at_call 39; with_reducible refine Calls.quiet_of_same (k1 _)) | (go_at_call 39; with_reducible refine Calls.quiet_of_same (k2 _)))
            go_wp2
            exact ⟨⟨j + 1, hjl, by go_num, by rw [HD.out, HI.out, Nat.add_zero], below_drewN hnx2 _⟩, by simp [intOf]; omega⟩
          · have hbb : (pg == pf) = false := by simpa using hpq
            have hi : ind (pf ≠ pg) = 1 := by unfold ind; rw [if_pos (fun e => hpq e.symm)]
            have HI := hideR hi
            clear hds hD hi
            go_wp2
            go_quiet (first | (go_at_call 39; with_reducible refine Calls.quiet_of_same (k1 _)) | (go_at_call 39; with_reducible refine Calls.quiet_of_same (k2 _)))
            go_wp2
            exact ⟨⟨j + 1, hjl, by go_num, by rw [HD.out, HI.out]; push_cast; rfl, below_drewN hnx2 _⟩, by simp [intOf]; omega⟩
        · obtain rfl : j = 160 := by omega
          go_wp2
          exact ⟨⟨k + 1, hkl, by go_num, by rw [HDM.out, Nat.add_assoc], hnx2⟩, by simp [intOf]; omega⟩
    · obtain rfl : k = m := by omega
      have hgt : G.take k = G := List.take_of_length_le (by have := HM.out; omega)
      rw [hgt] at *
      go_wp2
      go_ret
      exact ⟨rfl, hB.trans (hnx.mono hB.size)⟩

theorem differ_pic (w : World) (va vb : Value) (A B : List (List Int)) (hA : Pic w va A) (hB : Pic w vb B) (h1 : A.length ≤ 1000) (h2 : B.length ≤ 1000) (hsA : ∀ r ∈ A, r.length ≤ 100000) (hsB : ∀ r ∈ B, r.length ≤ 100000) :
    Calls Try.prog 22 #[.agg #[va], .agg #[vb]] w fun e w' => e = .returned (.int .i64 ((dif A B : Nat) : Int)) ∧ Below w.heap.size w w' := by
  obtain ⟨n, ao, ca, rfl⟩ : ∃ n ao ca, va = .slice ao n ca := by obtain ⟨vs, ⟨_, ao, cap, h, _⟩, _⟩ := hA; exact ⟨_, _, _, h⟩
  obtain ⟨m, bo, cb, rfl⟩ : ∃ n ao ca, vb = .slice ao n ca := by obtain ⟨vs, ⟨_, ao, cap, h, _⟩, _⟩ := hB; exact ⟨_, _, _, h⟩
  have en := (picAt hA).1
  have em := (picAt hB).1
  by_cases h : n < m
  · rw [dif_comm, dif_rest B A (by omega), ← en, ← em]
    exact differ_swap w bo ao m n cb ca B A hB hA h2 hsB hsA h
  · rw [dif_rest A B (by omega), ← en, ← em]
    exact differ_keep w ao bo n m ca cb A B hA hB h1 hsA hsB (by omega)
end Go.Proofs.Ytbfdlfhidebjlaa.Cl
