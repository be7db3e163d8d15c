/- Package frame: a row read of bytes. -/
import Derived.Test.YtbfdlfhidebjlaaFrReadP
import Derived.Test.YtbfdlfhidebjlaaFrUp
import Derived.BigQuiet
import Derived.WalkSmall
import Derived.Deep.RegionLaw
namespace Go.Proofs.Ytbfdlfhidebjlaa.Cl
open Go.RowKit Go.Deep
set_option linter.unusedVariables false
set_option linter.unusedSimpArgs false

/-- What a call of row tells. -/
def RowPost (w0 w : World) (bs : List Int) (e : Ending) (w' : World) : Prop :=
  (rowF bs = none ∧ e = .returned (.tuple #[.slice none 0 0, .slice none 0 0]) ∨ ∃ row rest g cap ao' cap', rowF bs = some (row, rest) ∧ e = .returned (.tuple #[.slice (some ⟨g, 0, none⟩) 160 cap, .slice ao' rest.length cap']) ∧
    w'.ownsRow w.heap.size 5 1 (.slice (some ⟨g, 0, none⟩) 160 cap) 160 (row.map (Value.int .u8)) ∧ Lies w0 1 (.slice ao' rest.length cap') rest.length (rest.map (Value.int .u8))) ∧ Below w.heap.size w w'
theorem bytesAt {w : World} {ao : Option Addr} {n cap : Nat} {bs : List Int} (h : Lies w 1 (.slice ao n cap) bs.length (bs.map (Value.int .u8))) : n = bs.length ∧ n ≤ cap ∧ Hid (n = 0 ∨ ∃ b off, ao = some ⟨b, off, none⟩ ∧ b < w.heap.size ∧ ∀ i, i < n → w.cell? ⟨b, off + i, none⟩ = some (.int .u8 (pix bs i))) := by
  obtain ⟨_, ao', cap', hv, hc, hcs⟩ := h
  cases hv
  refine ⟨rfl, hc.1, ?_⟩
  rcases hcs with h | ⟨b, off, rfl, hb, hc⟩
  · exact .inl h
  · refine .inr ⟨b, off, rfl, hb, fun i hi => hc i _ ?_⟩
    unfold pix
    rw [List.getElem?_map, List.getElem?_eq_getElem hi]; rfl
theorem lies_drop {w : World} {b off n cap E : Nat} {bs : List Int} (h : Lies w 1 (.slice (some ⟨b, off, none⟩) n cap) bs.length (bs.map (Value.int .u8))) (hE : E ≤ n) (hn : n = bs.length) (ao : Option Addr) (hao : ao = if cap = E then some ⟨b, off, none⟩ else some ⟨b, off + E, none⟩) :
    Lies w 1 (.slice ao (n - E) (cap - E)) (bs.drop E).length ((bs.drop E).map (Value.int .u8)) := by
  obtain ⟨_, ao', cap', hv, hc, hcs⟩ := h
  cases hv
  refine ⟨by simp, _, _, by rw [List.length_drop], ⟨by rw [List.length_drop]; omega, fun h => by rw [hao] at h; split at h <;> cases h⟩, ?_⟩
  by_cases h0 : (bs.drop E).length = 0
  · exact .inl h0
  · right
    rw [List.length_drop] at h0
    obtain ⟨b', off', hv', hb, hc'⟩ := hcs.resolve_left (by omega)
    cases hv'
    rw [if_neg (by omega)] at hao
    refine ⟨b, off + E, hao, hb, fun i u hu => ?_⟩
    rw [List.map_drop, List.getElem?_drop] at hu
    rw [Nat.add_assoc]
    exact hc' _ _ hu
theorem owns_mono' {w : World} {base base' e size n : Nat} {v : Value} {xs : List Value} (h : w.ownsRow base e size v n xs) (hb : base' ≤ base) : w.ownsRow base' e size v n xs := by
  obtain ⟨h1, h2 | ⟨g, cap, cur, hv, hg, rest⟩⟩ := h
  · exact ⟨h1, .inl h2⟩
  · exact ⟨h1, .inr ⟨g, cap, cur, hv, Nat.le_trans hb hg, rest⟩⟩
set_option maxRecDepth 1000000 in
set_option maxHeartbeats 1000000 in
theorem row_core (w0 w : World) (ao : Option Addr) (n cap : Nat) (bs : List Int) (hL0 : Lies w0 1 (.slice ao n cap) bs.length (bs.map (Value.int .u8))) (hL : Lies w 1 (.slice ao n cap) bs.length (bs.map (Value.int .u8))) (hb : Byt bs) (hs : bs.length ≤ 1000000) :
    Calls Try.prog 40 #[.slice ao n cap] w fun e w' => RowPost w0 w bs e w' := by
  obtain ⟨i0, hi, hz0, hz1, hz2⟩ := info_parts runInfo_byte
  have HL := hideR hL0
  clear hL0
  obtain ⟨hn, hcap, HC⟩ := bytesAt hL
  have HN := hideR hn
  have HB := hideR hb
  have hn6 : n ≤ 1000000 := by omega
  clear hL hn hb hs
  by_cases h1 : (n : Int) < 1
  · have hF : rowF bs = none := rowF_short (.inl (by have := HN.out; omega))
    have HF := hideR hF
    clear hF
    go_enter Try.func40, Try.ntmps40
    go_wp2
    go_ret2
    exact ⟨.inl ⟨HF.out, rfl⟩, Below.refl _ _⟩
  obtain ⟨b, off, rfl, hbl, hc⟩ := HC.out.resolve_left (by omega)
  have HCC := hideR hc
  have hc0 := hc 0 (by omega)
  rw [Nat.add_zero] at hc0
  have hp0 := pix_byt HB.out 0
  obtain ⟨N, hN⟩ : ∃ N : Nat, pix bs 0 = N := ⟨(pix bs 0).toNat, by omega⟩
  rw [hN] at hc0 hp0
  have HPN := hideR hN
  clear hc hN HC
  have hN2 : N < 256 := by omega
  by_cases h2 : (n : Int) < 1 + 2 * (N : Int)
  · have hF : rowF bs = none := rowF_short (.inr (by have := HN.out; rw [HPN.out, Int.toNat_natCast]; omega))
    have HF := hideR hF
    clear hF
    go_enter Try.func40, Try.ntmps40
    go_wp2
    go_ret2
    exact ⟨.inl ⟨HF.out, rfl⟩, Below.refl _ _⟩
  obtain ⟨E, hE⟩ : ∃ E : Nat, E = 1 + 2 * N := ⟨_, rfl⟩
  have hEI : (1 : Int) + 2 * (N : Int) = E := by omega
  have hEn : E ≤ n := by omega
  have HE := hideR hE
  clear hE
  go_enter Try.func40, Try.ntmps40
  go_wp2
  go_loopw [5, 6] (fun v i wr => ∃ k I : Nat, k ≤ N ∧ I = 1 + 2 * k ∧ i = .int .i64 I ∧ (∀ j, j + 1 < k → pix bs (2 * j + 2) ≠ pix bs (2 * (j + 1) + 2)) ∧ wr.ownsRow w.heap.size 91 2 v k (rcs .u8 (runsAt bs k)) ∧ Below w.heap.size w wr)
    (fun _ i _ => E + 1 - (intOf i).toNat)
  case atStart => exact ⟨0, 1, Nat.zero_le _, rfl, rfl, fun j h => by omega, World.ownsRow_nil _ _ _ _, Below.refl _ _⟩
  case round =>
    obtain ⟨k, I, hk, hI, rfl, hap, hown, hnx⟩ := hrel
    have hHI := hideR hI
    have hsz := hnx.size
    have HAP := hideR hap
    by_cases hkl : k < N
    · have hIE : (I : Int) < (E : Int) := by have := HE.out; omega
      obtain ⟨J, hJ⟩ : ∃ J : Nat, J = I + 1 := ⟨_, rfl⟩
      have hJn : J < n := by have := HE.out; omega
      have hwJ : IntKind.i64.wrap ((I : Int) + 1) = J := by rw [IntWalk.i64_in _ (by omega)]; omega
      have hwI : IntKind.i64.wrap ((I : Int) + 2) = ((I + 2 : Nat) : Int) := by rw [IntWalk.i64_in _ (by omega)]; push_cast; rfl
      have hx := (hnx.cell (p := ⟨b, off + J, none⟩) hbl).trans (HCC.out J hJn)
      have hcn := (hnx.cell (p := ⟨b, off + I, none⟩) hbl).trans (HCC.out I (by omega))
      have hpx : pix bs J = pix bs (2 * k + 2) := by rw [hJ, hI]; congr 1; omega
      have hpc : pix bs I = pix bs (2 * k + 1) := by rw [hI]; congr 1; omega
      have hbx := pix_byt HB.out (2 * k + 2)
      have hbc := pix_byt HB.out (2 * k + 1)
      rw [hpx] at hx
      rw [hpc] at hcn
      have hrs := runsAt_succ bs k
      have hnext : ∀ x, x = pix bs (2 * k + 2) → (∀ j, j + 1 = k → pix bs (2 * j + 2) ≠ x) → ∀ j, j + 1 < k + 1 → pix bs (2 * j + 2) ≠ pix bs (2 * (j + 1) + 2) := by
        intro x hx h j hj
        by_cases e : j + 1 = k
        · rw [e, ← hx]; exact h j e
        · exact HAP.out j (by omega)
      have HNX := hideR hnext
      have hwc : IntKind.i64.wrap (pix bs (2 * k + 1)) = pix bs (2 * k + 1) := IntWalk.i64_in _ (by omega)
      have hJ0 : (J : Int) < (n : Int) := by omega
      have hI0 : (I : Int) < (n : Int) := by omega
      have hj00 : (0 : Int) ≤ (J : Int) := by omega
      have hi00 : (0 : Int) ≤ (I : Int) := by omega
      generalize hX : pix bs (2 * k + 2) = X at *
      generalize hC : pix bs (2 * k + 1) = C at *
      have HRS := hideR hrs
      have HX := hideR hX
      have step : ∀ V : World, Below w.heap.size w V → V.ownsRow w.heap.size 91 2 (.slice none 0 0) 0 [] → True := fun _ _ _ => trivial
      obtain ⟨aoV, capV, rfl⟩ := shapeOf hown
      clear hrs hnext hX hC hpx hpc hI hap hJ step
      have hcase : k = 0 ∨ ∃ j, k = j + 1 := by cases k with
        | zero => exact .inl rfl
        | succ j => exact .inr ⟨j, rfl⟩
      rcases hcase with rfl | ⟨j, rfl⟩
      · have HO := hideR hown
        clear hown
        go_wp2
        go_quiet (fail)
        go_wp2_with fail
        have hV := below_drewN hnx nq
        have hVr := below_drewN (Below.refl wr.heap.size wr) nq
        have hOV := owns_below HO.out hVr
        have hxV := (hVr.cell (p := ⟨b, off + J, none⟩) (by show b < _; omega)).trans hx
        have hcV := (hVr.cell (p := ⟨b, off + I, none⟩) (by show b < _; omega)).trans hcn
        have hsV := hV.size
        clear hx hcn hnx HO hVr
        generalize wr.drewN nq = V at *
        have bbn : ¬ b = V.heap.size := by omega
        have h63 : 0 + 1 ≤ maxLen := by simp only [maxLen]; omega
        have hby : (0 + 1) * 16 ≤ 140737488355328 := by omega
        go_region_law (first
          | (refine step_append_lies _ (by rfl) (.tmp 52) (.tmp 64) 88 (by rfl) w.heap.size 91 i0 (.agg #[.int .u8 0, .int .i64 0]) 2 16 Try.underlying88 hi hz0 hz1 hz2 rfl (by decide) (.slice aoV (0) capV) (0) (rcs .u8 (runsAt bs (0))) rfl (hOV.alloc _) ⟨V.heap.size, 0, none⟩ 1 1 [.int .u8 X, .int .i64 C] rfl rfl (World.news_of_block (heap_alloc_new _ _)) (by simp [Value.oneCell']) (by decide) h63 hby (by simp; omega) (V.heap.size + 1) (by simp) ?_; intro g4 cap4 w4 hown4 hgrow4 hat4 hlt4))
        all_goals have hb4 : Below w.heap.size w w4 := ((hV.alloc hsV (.cells #[.int .u8 X, .int .i64 C] 91)).drew).grown hgrow4 (by simp; omega) (fun j hj => (hOV.lt j hj).1)
        all_goals go_wp2
        all_goals exact ⟨⟨0 + 1, I + 2, hkl, by have := hHI.out; omega, by go_num, HNX.out X rfl (fun j h => by omega), by rw [HRS.out, rcs_snoc]; exact hown4, hb4⟩, by have := HE.out; simp [intOf]; omega⟩
      · obtain ⟨gV, hgV⟩ : ∃ gV, aoV = some ⟨gV, 0, none⟩ := by
          obtain ⟨_, ⟨h, h0⟩ | ⟨g, cap', cur, h, _⟩⟩ := hown
          · omega
          · cases h; exact ⟨g, rfl⟩
        subst hgV
        have hat := rcs_at .u8 (runsAt bs (j + 1)) j (by rw [runsAt_length]; omega)
        have hrl : (rcs .u8 (runsAt bs (j + 1))).length = (j + 1) * 2 := by rw [rcs_length, runsAt_length]
        have hge : (runsAt bs (j + 1))[j]'(by rw [runsAt_length]; omega) = (pix bs (2 * j + 2), pix bs (2 * j + 1)) := by simp [runsAt]
        have hcl : wr.cell? ⟨gV, j * 2, none⟩ = some (.int .u8 (pix bs (2 * j + 2))) := by
          rw [hown.cellAt _ (by omega), hat.1, hge]
        generalize hY : pix bs (2 * j + 2) = Y at *
        have HY := hideR hY
        have HO := hideR hown
        clear hown hat hge hY hrl
        by_cases hYX : Y = X
        · subst hYX
          have hF : rowF bs = none := rowF_bad (.inl fun h => h j (by rw [HPN.out, Int.toNat_natCast]; omega) (by rw [HY.out, ← HX.out]))
          have HF := hideR hF
          clear hF
          go_wp2
          go_quiet (fail)
          go_wp2
          go_ret2
          exact ⟨.inl ⟨HF.out, rfl⟩, below_drewN hnx _⟩
        have hYb : (Y == X) = false := by simpa using hYX
        have hap2 := HNX.out X rfl (fun j' h => by
          obtain rfl : j' = j := by omega
          rw [HY.out]; exact hYX)
        go_wp2
        go_quiet (fail)
        go_wp2_with fail
        have hV := below_drewN hnx nq
        have hVr := below_drewN (Below.refl wr.heap.size wr) nq
        have hOV := owns_below HO.out hVr
        have hxV := (hVr.cell (p := ⟨b, off + J, none⟩) (by show b < _; omega)).trans hx
        have hcV := (hVr.cell (p := ⟨b, off + I, none⟩) (by show b < _; omega)).trans hcn
        have hsV := hV.size
        clear hx hcn hnx HO hVr
        generalize wr.drewN nq = V at *
        have bbn : ¬ b = V.heap.size := by omega
        have h63 : j + 1 + 1 ≤ maxLen := by simp only [maxLen]; omega
        have hby : (j + 1 + 1) * 16 ≤ 140737488355328 := by omega
        go_region_law (first
          | (refine step_append_lies _ (by rfl) (.tmp 52) (.tmp 64) 88 (by rfl) w.heap.size 91 i0 (.agg #[.int .u8 0, .int .i64 0]) 2 16 Try.underlying88 hi hz0 hz1 hz2 rfl (by decide) (.slice (some ⟨gV, 0, none⟩) (j + 1) capV) (j + 1) (rcs .u8 (runsAt bs (j + 1))) rfl (hOV.alloc _) ⟨V.heap.size, 0, none⟩ 1 1 [.int .u8 X, .int .i64 C] rfl rfl (World.news_of_block (heap_alloc_new _ _)) (by simp [Value.oneCell']) (by decide) h63 hby (by simp; omega) (V.heap.size + 1) (by simp) ?_; intro g4 cap4 w4 hown4 hgrow4 hat4 hlt4))
        all_goals have hb4 : Below w.heap.size w w4 := ((hV.alloc hsV (.cells #[.int .u8 X, .int .i64 C] 91)).drew).grown hgrow4 (by simp; omega) (fun j hj => (hOV.lt j hj).1)
        all_goals go_wp2
        all_goals exact ⟨⟨(j + 1) + 1, I + 2, hkl, by have := hHI.out; omega, by go_num, hap2, by rw [HRS.out, rcs_snoc]; exact hown4, hb4⟩, by have := HE.out; simp [intOf]; omega⟩
    · obtain rfl : k = N := by omega
      have hIE : I = E := by rw [HE.out, hI]
      subst hIE
      obtain ⟨aoV, capV, rfl⟩ := shapeOf hown
      have k1 := unpack_int wr (.slice aoV k capV) (runsAt bs k) 160 (by rw [runsAt_length]; exact Lies.of_owns hown) (by rw [runsAt_length]; omega) (by decide) (by decide) (.inl (by decide))
      cases hU : unp 160 [] (runsAt bs k) with
      | mk out er =>
        rw [hU] at k1
        have HU := hideR hU
        clear hU hI hap
        go_wp2_with fail
        refine k1.mono ?_
        rintro e w1 ⟨r, rfl, hro, hb1⟩
        obtain ⟨aoR, capR, rfl⟩ := shapeOf hro
        have hb2 := hnx.trans (hb1.mono hsz)
        clear k1 hown hnx
        by_cases her : er = 0
        · by_cases hol : (out.length : Int) = 160
          · have hol' : out.length = 160 := by omega
            subst her
            have hnl : ¬ (bs.length < 1 ∨ bs.length < 1 + 2 * (pix bs 0).toNat) := by
              rw [HPN.out, Int.toNat_natCast]
              have h5 := HN.out
              omega
            have hF : rowF bs = some (out, bs.drop (1 + 2 * (pix bs 0).toNat)) := rowF_good hnl (by rw [HPN.out, Int.toNat_natCast]; exact HAP.out) (by rw [HPN.out, Int.toNat_natCast, HU.out]) hol'
            rw [HPN.out, Int.toNat_natCast, ← HE.out] at hF
            have HF := hideR hF
            rw [hol'] at hro
            obtain ⟨gR, hgR⟩ : ∃ gR, aoR = some ⟨gR, 0, none⟩ := by
              obtain ⟨_, ⟨h, h0⟩ | ⟨g, cap', cur, h, _⟩⟩ := hro
              · omega
              · cases h; exact ⟨g, rfl⟩
            subst hgR
            have hIn : (I : Int) ≤ (n : Int) := by omega
            have hInc : (n : Int) ≤ (cap : Int) := by omega
            have hLd := lies_drop HL.out (E := I) (by omega) HN.out _ rfl
            have hdl : (bs.drop I).length = n - I := by rw [List.length_drop, ← HN.out]
            have HLd := hideR hLd
            rw [hol'] at *
            clear hF hol' HU hLd hnl
            have hro2 := owns_mono' hro hsz
            by_cases hcI : cap = I
            · have HL1 : Hid (Lies w0 1 (.slice (some ⟨b, off, none⟩) (n - I) 0) (bs.drop I).length ((bs.drop I).map (Value.int .u8))) := by
                have := HLd.out
                rw [if_pos hcI, show cap - I = 0 from by omega] at this
                exact this
              clear HLd
              go_wp2_with fail
              go_quiet (fail)
              go_wp2
              go_ret2
              refine ⟨.inr ⟨out, bs.drop I, gR, capR, some ⟨b, off, none⟩, 0, HF.out, by rw [hdl]; rfl, owns_below hro2 (below_drewN (Below.refl _ w1) _), ?_⟩, below_drewN hb2 _⟩
              have := HL1.out
              rw [hdl] at this ⊢
              exact this
            · have HL1 : Hid (Lies w0 1 (.slice (some ⟨b, off + I, none⟩) (n - I) (cap - I)) (bs.drop I).length ((bs.drop I).map (Value.int .u8))) := by
                have := HLd.out
                rw [if_neg hcI] at this
                exact this
              clear HLd
              go_wp2_with fail
              go_quiet (fail)
              go_wp2
              go_ret2
              refine ⟨.inr ⟨out, bs.drop I, gR, capR, some ⟨b, off + I, none⟩, (cap - I), HF.out, by rw [hdl]; rfl, owns_below hro2 (below_drewN (Below.refl _ w1) _), ?_⟩, below_drewN hb2 _⟩
              have := HL1.out
              rw [hdl] at this ⊢
              exact this
          · have hF : rowF bs = none := rowF_bad (.inr (.inr (by rw [HPN.out, Int.toNat_natCast, HU.out]; show out.length ≠ 160; omega)))
            have HF := hideR hF
            clear hF
            subst her
            go_wp2
            go_ret2
            exact ⟨.inl ⟨HF.out, rfl⟩, hb2⟩
        · have hF : rowF bs = none := rowF_bad (.inr (.inl (by rw [HPN.out, Int.toNat_natCast, HU.out]; exact her)))
          have HF := hideR hF
          clear hF
          go_wp2
          go_ret2
          exact ⟨.inl ⟨HF.out, rfl⟩, hb2⟩
theorem row_any (w0 w : World) (v : Value) (bs : List Int) (hL : Lies w0 1 v bs.length (bs.map (Value.int .u8))) (h0 : Below w0.heap.size w0 w) (hb : Byt bs) (hs : bs.length ≤ 1000000) :
    Calls Try.prog 40 #[v] w fun e w' => RowPost w0 w bs e w' := by
  obtain ⟨n, ao, cap, rfl⟩ : ∃ n ao cap, v = .slice ao n cap := by obtain ⟨_, ao, cap, h, _⟩ := hL; exact ⟨_, _, _, h⟩
  exact row_core w0 w ao n cap bs hL (hL.below h0) hb hs
end Go.Proofs.Ytbfdlfhidebjlaa.Cl
