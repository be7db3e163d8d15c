/- The law of a whole picture of lines: its walk. -/
import Derived.Test.YtbfdlfhidebjlaaFrAwake
import Derived.Test.YtbfdlfhidebjlaaFrLinesP
import Derived.BigQuiet
import Derived.WalkSmall
namespace Go.Proofs.Ytbfdlfhidebjlaa
open Go.RowKit Go.Deep Cl
set_option linter.unusedVariables false
set_option linter.unusedSimpArgs false

theorem tpic_len {W : World} {v : Value} {rows : List (List Int)} (h : TPic W v rows) : ∃ ao cap, v = .slice ao rows.length cap := by
  obtain ⟨vs, base, h1, h2, _⟩ := h
  obtain ⟨ao, cap, rfl⟩ := shapeOf h1
  exact ⟨ao, cap, by rw [h2]⟩
theorem rows_len (w : World) (base P : Nat) (S : FSt) (h : MkF w base P S) : Calls Try.prog 18 #[.pointer (some ⟨P, 0, none⟩)] w fun e w' => ∃ ao cap, e = .returned (.agg #[.slice ao S.rows cap]) ∧ Below w.heap.size w w' := by
  obtain ⟨b, gr, capr, rs, h⟩ := h
  refine (rows_mk w base P S.rows b gr capr S.M S.lost S.sync rs h).mono ?_
  rintro e w' ⟨v, rfl, hT, hb⟩
  obtain ⟨ao, cap, rfl⟩ := tpic_len hT
  have : (S.M.take S.rows).length = S.rows := by rw [List.length_take, h.g.len, h.len]; have := h.hrows; omega
  rw [this]
  exact ⟨ao, cap, rfl, hb⟩
theorem pic_cells {W : World} {ao : Option Addr} {n cap : Nat} {rows : List (List Int)} (h : Pic W (.slice ao n cap) rows) (hn : 0 < n) : ∃ b off, ao = some ⟨b, off, none⟩ ∧ b < W.heap.size ∧ ∀ (y : Nat) row, rows[y]? = some row → 0 < row.length → ∃ b' off' cap', W.cell? ⟨b, off + y, none⟩ = some (.slice (some ⟨b', off', none⟩) row.length cap') ∧ b' < W.heap.size ∧ ∀ (i : Nat) x, row[i]? = some x → W.cell? ⟨b', off' + i, none⟩ = some (.int .u8 x) := by
  obtain ⟨vs, ⟨_, ao', cap', hv, _, hcs⟩, hl, hy⟩ := h
  cases hv
  obtain ⟨b, off, rfl, hb, hc⟩ := hcs.resolve_left (by omega)
  refine ⟨b, off, rfl, hb, fun y row hr h0 => ?_⟩
  have hyl : y < rows.length := (List.getElem?_eq_some_iff.1 hr).1
  have hyv : y < vs.length := by omega
  obtain ⟨_, ao2, cap2, hu, _, hcs2⟩ := hy y _ row (List.getElem?_eq_getElem hyv) hr
  obtain ⟨b2, off2, rfl, hb2, hc2⟩ := hcs2.resolve_left (by omega)
  refine ⟨b2, off2, cap2, ?_, hb2, fun i x hx => hc2 i _ (by rw [List.getElem?_map, hx]; rfl)⟩
  rw [hc y _ (List.getElem?_eq_getElem hyv), hu]
set_option maxRecDepth 1000000 in
set_option maxHeartbeats 1000000 in
theorem lines_core (ao : Option Addr) (n c : Nat) (xs : List Int) (w : World) (HN : Hid (xs.length = n)) (HC : Hid (n = 0 ∨ ∃ b off, ao = some ⟨b, off, none⟩ ∧ b < w.heap.size ∧ ∀ i u, (xs.map (Value.int .u8))[i]? = some u → w.cell? ⟨b, off + i, none⟩ = some u)) :
    Calls Try.prog 4 #[.slice ao n c] w fun e w' => e = .returned (.bool true) ∧ Below w.heap.size w w' := by
  by_cases hbig : (200 : Int) < n
  · go_enter Try.func4, Try.ntmps4
    go_wp2
    go_ret
    exact ⟨rfl, Below.refl _ _⟩
  by_cases hz : (n : Int) = 0
  · go_enter Try.func4, Try.ntmps4
    go_wp2
    go_ret
    exact ⟨rfl, Below.refl _ _⟩
  obtain ⟨b, off, rfl, hb, hc⟩ := HC.out.resolve_left (by omega)
  have HCC := hideR hc
  have HZ := hideR hz
  have hn0 : 0 < n := by omega
  have hn2 : n ≤ 200 := by omega
  clear hc HC
  go_enter Try.func4, Try.ntmps4
  go_wp2_with fail
  refine (new_any w).mono ?_
  rintro e w1 ⟨P, rfl, hP, hM1, hb1⟩
  have hM1' : MkF w1 w.heap.size P (LS xs 0 0) := by rw [LS_zero]; exact hM1
  clear hM1
  go_wp2
  go_loopw [4] (fun i wr => ∃ y : Nat, y ≤ n ∧ i = .int .i64 y ∧ MkF wr w.heap.size P (LS xs y 0) ∧ Below w.heap.size w wr) (fun i _ => n - (intOf i).toNat)
  case atStart => exact ⟨0, Nat.zero_le _, rfl, hM1', hb1⟩
  case round =>
    obtain ⟨y, hy, rfl, hM, hB⟩ := hrel
    clear hM1' hb1
    by_cases hyl : y < n
    · have hyx : y < xs.length := by rw [HN.out]; exact hyl
      have hcw := HCC.out y (.int .u8 xs[y]) (by rw [List.getElem?_map, List.getElem?_eq_getElem hyx]; rfl)
      have hst := fun c (h : c < 228) => LS_step xs y c (by omega) hyx h
      have hto := LS_told xs y
      have hwr := LS_wrap xs y
      generalize xs[y] = px at *
      have HST := hideR hst
      have HTO := hideR hto
      have HWR := hideR hwr
      clear hst hto hwr
      obtain ⟨sy, hsy⟩ : ∃ sy : Bool, decide (y < 3) = sy := ⟨_, rfl⟩
      have hs3 : decide ((y : Int) < 3) = sy := by rw [← hsy]; exact decide_eq_decide.2 (by omega)
      rw [hsy] at HST HTO
      clear hsy
      go_wp2
      go_loopw [5] (fun i wr => ∃ c : Nat, c ≤ 228 ∧ i = .int .i64 c ∧ MkF wr w.heap.size P (LS xs y c) ∧ Below w.heap.size w wr) (fun i _ => 228 - (intOf i).toNat)
      case atStart => exact ⟨0, by decide, rfl, hM, hB⟩
      case round =>
        obtain ⟨k, hk, rfl, hM2, hB2⟩ := hrel
        clear hM hB
        by_cases hkl : k < 228
        · have hsz := hB2.size
          have k1 := feed_any wr w.heap.size P (LS xs y k) px false sy 0 0 false 0 hM2 hsz k (by omega) (by omega)
          rw [HST.out k hkl, HTO.out k] at k1
          unfold recV at k1
          have hwk : IntKind.u8.wrap (k : Int) = k := by rw [IntKind.wrap_u8]; omega
          have hcr := (hB2.cell (p := ⟨b, off + y, none⟩) hb).trans hcw
          go_wp2_with fail
          refine k1.mono ?_
          rintro e w2 ⟨v, rfl, hT, hM3, hb3⟩
          obtain ⟨ao3, cap3, rfl⟩ := tpic_len hT
          have hb4 := hB2.trans hb3
          have hM4 : MkF _ w.heap.size P (LS xs y (k + 1)) := hM3.below ((Below.refl _ w2).alloc (Nat.le_refl _) (.cells #[.slice ao3 ((LS xs y k).pic k sy).length cap3] 33))
          have hb5 := hb4.alloc hb4.size (.cells #[.slice ao3 ((LS xs y k).pic k sy).length cap3] 33)
          clear k1 hM2 hB2 hM3 hb3 hb4 hcr hT
          generalize ((LS xs y k).pic k sy).length = nn at *
          go_wp2
          go_roundw
          case rel => exact ⟨k + 1, hkl, by go_num, hM4, hb5⟩
          case measure => simp [intOf]; omega
        · obtain rfl : k = 228 := by omega
          rw [HWR.out] at hM2
          go_wp2
          go_roundw
          case rel => exact ⟨y + 1, hyl, by go_num, hM2, hB2⟩
          case measure => simp [intOf]; omega
    · obtain rfl : y = n := by omega
      have hsz := hB.size
      have k1 := feed_any wr w.heap.size P (LS xs y 0) 0 false true 0 0 false 0 hM hsz 0 (by decide) (by decide)
      have hto := LS_last xs y hn0
      have hro := LS_rows xs y hn0 hn2
      have hpi := fun h4 => LS_pic xs y h4 hn2 HN.out
      generalize hS : (LS xs y 0).feed 0 0 true = S at *
      rw [hto] at k1
      unfold recV at k1
      go_wp2_with fail
      refine k1.mono ?_
      rintro e w2 ⟨v, rfl, hT, hM3, hb3⟩
      obtain ⟨aoT, capT, hv⟩ := tpic_len hT
      have hb4 := hB.trans hb3
      clear k1 hM hB hb3
      have hfd : ∀ ao n cap w, (Instr.field 33 (.agg #[.slice ao n cap]) 0).run Try.prog w = .ok (.slice ao n cap) w := fun ao n cap w => by kernel_rfl
      by_cases h4 : 4 ≤ y
      · rw [decide_eq_true h4]
        rw [if_pos h4] at hro
        rw [hpi h4] at hT hv
        rw [List.length_map, HN.out] at hv
        subst hv
        have h3 : ¬ (y : Int) ≤ 3 := by omega
        have hA : Below w2.heap.size w2 (w2.alloc (.cells #[.slice aoT y capT] 33)) := (Below.refl _ _).alloc (Nat.le_refl _) _
        have hM4 : MkF _ w.heap.size P S := hM3.below hA
        have hT4 := hT.below hA
        have hb5 := hb4.alloc hb4.size (.cells #[.slice aoT y capT] 33)
        have hbx := heap_alloc_new w2 (.cells #[.slice aoT y capT] 33)
        have hs4 : w2.heap.size < (w2.alloc (.cells #[.slice aoT y capT] 33)).heap.size := by simp
        clear hM3 hT hb4 hA hpi hto HZ
        go_wp2_with fail
        generalize w2.alloc (.cells #[.slice aoT y capT] 33) = V at *
        generalize w2.heap.size = F at *
        obtain ⟨bT, offT, rfl, hbT, hcT⟩ := pic_cells hT4.pic hn0
        have HCT := hideR hcT
        have cF : V.cell? ⟨F, 0, none⟩ = some (.slice (some ⟨bT, offT, none⟩) y capT) := by rw [cell_of_row V F 0 _ _ _ hbx]; rfl
        clear hcT hT4 hbx
        go_loopw [10] (fun i wr => ∃ k : Nat, k ≤ y ∧ i = .int .i64 k ∧ Below V.heap.size V wr) (fun i _ => y - (intOf i).toNat)
        case atStart => exact ⟨0, Nat.zero_le _, rfl, Below.refl _ _⟩
        case round =>
          obtain ⟨k, hk, rfl, hnx⟩ := hrel
          by_cases hkl : k < y
          · have hkx : k < xs.length := by rw [HN.out]; exact hkl
            obtain ⟨b', off', cap', e1, hb', e2⟩ := HCT.out k (lrow xs[k] 160) (by rw [List.getElem?_map, List.getElem?_eq_getElem hkx]; rfl) (by simp [lrow])
            rw [show (lrow xs[k] 160).length = 160 from by simp [lrow]] at e1
            have e3 := e2 0 xs[k] rfl
            have e4 := e2 159 xs[k] rfl
            have hcw := HCC.out k (.int .u8 xs[k]) (by rw [List.getElem?_map, List.getElem?_eq_getElem hkx]; rfl)
            have hbw := hb5.size
            generalize xs[k] = px at *
            have g1 := (hnx.cell (p := ⟨bT, offT + k, none⟩) hbT).trans e1
            have g3 := (hnx.cell (p := ⟨b', off' + 0, none⟩) hb').trans e3
            have g4 := (hnx.cell (p := ⟨b', off' + 159, none⟩) hb').trans e4
            have gF := (hnx.cell (p := ⟨F, 0, none⟩) hs4).trans cF
            have gx := (hnx.cell (p := ⟨b, off + k, none⟩) (by show b < _; omega)).trans ((hb5.cell (p := ⟨b, off + k, none⟩) hb).trans hcw)
            rw [Nat.add_zero] at g3
            have kk : (k : Int) < (y : Int) := by omega
            have kk0 : (0 : Int) ≤ (k : Int) := by omega
            clear e1 e2 e3 e4 hcw cF
            go_wp2
            go_quiet (fail)
            go_wp2
            exact ⟨⟨k + 1, hkl, by go_num, below_drewN hnx _⟩, by simp [intOf]; omega⟩
          · obtain rfl : k = y := by omega
            have hM5 : MkF wr w.heap.size P S := hM4.below hnx
            have k2 := rows_len _ _ _ _ hM5
            rw [hro] at k2
            have hb6 := hb5.trans (hnx.mono hb5.size)
            clear hM4 hM5 hb5 hnx hro cF
            go_wp2_with fail
            refine k2.mono ?_
            rintro e w3 ⟨ao3, cap3, rfl, hb3⟩
            have hb7 := hb6.trans (hb3.mono hb6.size)
            go_wp2_with fail
            refine (awake_any _).mono ?_
            rintro e w4 ⟨rfl, hb8⟩
            have hb9 := hb7.trans (hb8.mono hb7.size)
            go_wp2
            go_ret
            exact ⟨rfl, hb9⟩
      · rw [decide_eq_false h4]
        rw [if_neg h4] at hro
        subst hv
        have h3 : (y : Int) ≤ 3 := by omega
        have hw1 : IntKind.i64.wrap ((y : Int) + 1) = y + 1 := IntWalk.i64_in _ (by omega)
        generalize ((LS xs y 0).pic 0 true).length = nn at *
        have hA : Below w2.heap.size w2 (w2.alloc (.cells #[.slice aoT nn capT] 33)) := (Below.refl _ _).alloc (Nat.le_refl _) _
        have hM4 : MkF _ w.heap.size P S := hM3.below hA
        have hb5 := hb4.alloc hb4.size (.cells #[.slice aoT nn capT] 33)
        have k2 := rows_len _ _ _ _ hM4
        rw [hro] at k2
        clear hM3 hb4 hA hT hM4 hro HZ hpi hto
        go_wp2_with fail
        refine k2.mono ?_
        rintro e w3 ⟨ao3, cap3, rfl, hb3⟩
        have hb6 := hb5.trans (hb3.mono hb5.size)
        go_wp2_with fail
        refine (awake_any _).mono ?_
        rintro e w4 ⟨rfl, hb7⟩
        have hb8 := hb6.trans (hb7.mono hb6.size)
        go_wp2
        go_ret
        exact ⟨rfl, hb8⟩
theorem frameLines_walk (v : Value) (xs : List Int) (W : World) (hx : Lies W 1 v xs.length (xs.map (Value.int .u8))) : Calls Try.prog 4 #[v] W fun e w' => e = .returned (.bool true) ∧ Below W.heap.size W w' := by
  obtain ⟨_, ao, cap, rfl, _, hcs⟩ := hx
  exact lines_core ao xs.length cap xs W rfl hcs
end Go.Proofs.Ytbfdlfhidebjlaa
