/- The Go law CellRings: its walk. -/
import Derived.Test.YtcaffmkghllmgaaCellAwake
import Derived.Test.YtcaffmkghllmgaaCellLastW
import Derived.Test.YtcaffmkghllmgaaCellAt
import Derived.Test.YtcaffmkghllmgaaCellPutR
import Derived.Test.YtcaffmkghllmgaaCellLstN
import Derived.Test.YtcaffmkghllmgaaCellUp
import Derived.BigQuiet
namespace Go.Proofs.Ytcaffmkghllmgaa.cellRings
open Go.RowKit Go.Deep Go.Proofs.Ytcaffmkghllmgaa.Cl Go.Proofs.Ytcaffmkghllmgaa.cellLast
set_option linter.unusedVariables false
set_option linter.unusedSimpArgs false

theorem tmod5 (K : Int) : -4 ≤ K.tmod 5 ∧ K.tmod 5 ≤ 4 := by
  have h1 := Int.tmod_lt_of_pos K (b := 5) (by decide)
  have h2 := Int.lt_tmod_of_pos K (b := 5) (by decide)
  omega
theorem wrap64_kind (K : Int) : wrap64 (K.tmod 5 + 5) = K.tmod 5 + 5 := by
  have := tmod5 K
  exact IntWalk.wrap64_in (K.tmod 5 + 5) (by omega)
set_option maxRecDepth 1000000 in
theorem cellRings_bad (r : Int) (va : Value) (R : List Rn) (W : World) (hr : r < 1 ∨ 65536 < r) (hx : Lies W 2 va R.length (rcs .i64 R)) :
    Calls Try.prog 6 #[.int .i64 r, va] W fun e W' => e = .returned (.bool true) ∧ Below W.heap.size W W' := by
  obtain ⟨_, ao, cap, rfl, _, _⟩ := hx
  by_cases g1 : (200 : Int) < R.length
  · go_enter Try.func6, Try.ntmps6
    go_wp2_with fail
    go_ret
    exact ⟨rfl, Below.refl _ _⟩
  have hnew := newring_int_nil W r hr
  have key : ∀ P : Prop, (r < 1 → P) → (¬ r < 1 → 65536 < r → P) → P := fun P h1 h2 => by
    by_cases h : r < 1
    · exact h1 h
    · exact h2 h (hr.resolve_left h)
  clear hr
  go_enter Try.func6, Try.ntmps6
  go_wp2_with fail
  refine hnew.mono ?_
  rintro e w' ⟨rfl, he⟩
  rw [he]
  clear he hnew
  refine key _ (fun hr0 => ?_) (fun hr0 hr1 => ?_)
  all_goals
    clear key
    go_wp2_with fail
    refine (putnil W 1).mono ?_
    rintro e w' ⟨rfl, he⟩
    rw [he]
    clear he
    go_wp2_with fail
    refine (pop_nil W).mono ?_
    rintro e w' ⟨rfl, he⟩
    rw [he]
    clear he
    go_wp2_with fail
    refine (at_nil W 0).mono ?_
    rintro e w' ⟨rfl, he⟩
    rw [he]
    clear he
    go_wp2_with fail
    refine (len_nil W).mono ?_
    rintro e w' ⟨rfl, he⟩
    rw [he]
    clear he
    go_wp2_with fail
    refine (list_nil W).mono ?_
    rintro e w5 ⟨rfl, hb5⟩
    go_wp2_with fail
    refine (awake_any _).mono ?_
    rintro e w6 ⟨rfl, hb6⟩
    go_wp2_with fail
    go_ret
    exact ⟨rfl, hb5.trans (hb6.mono hb5.size)⟩
set_option maxRecDepth 1000000 in
set_option maxHeartbeats 400000 in
theorem cellRings_good (room : Nat) (va : Value) (R : List Rn) (W : World) (h0 : 0 < room) (h1 : room ≤ 65536) (hx : Lies W 2 va R.length (rcs .i64 R)) :
    Calls Try.prog 6 #[.int .i64 room, va] W fun e W' => e = .returned (.bool true) ∧ Below W.heap.size W W' := by
  obtain ⟨_, ao, cap, rfl, _, hcs⟩ := hx
  by_cases g1 : (200 : Int) < R.length
  · go_enter Try.func6, Try.ntmps6
    go_wp2_with fail
    go_ret
    exact ⟨rfl, Below.refl _ _⟩
  have hrl : R.length ≤ 200 := by omega
  have hr0 : ¬ (room : Int) < 1 := by omega
  have hr1 : ¬ (65536 : Int) < room := by omega
  go_enter Try.func6, Try.ntmps6
  go_wp2_with fail
  refine (newring_int W room (by omega) (by omega)).mono ?_
  rintro e w1 ⟨rfl, hr2, hb1, hs1⟩
  have hD1 := RingD.zero hr2
  clear hr2
  generalize hB : W.heap.size + 1 = B at *
  go_wp2
  go_loopw [12, 13] (fun m i wr => ∃ (k : Nat) (D : List Int), k ≤ R.length ∧ i = .int .i64 k ∧ RingD wr B W.heap.size room D ∧ LiesA wr (W.heap.size + 2) m D ∧ Below W.heap.size W wr ∧ W.heap.size + 2 ≤ wr.heap.size) (fun _ i _ => R.length - (intOf i).toNat)
  case atStart => exact ⟨0, [], Nat.zero_le _, rfl, hD1, .inl ⟨rfl, rfl⟩, hb1, by omega⟩
  case round =>
    obtain ⟨k, D, hk, rfl, hD, hm, hnx, hsz⟩ := hrel
    clear hD1
    by_cases hkl : k < R.length
    · obtain ⟨b, off, rfl, hb, hc⟩ := hcs.resolve_left (by omega)
      have hat := rcs_at .i64 R k hkl
      have c0 : wr.cell? ⟨b, off + k * 2, none⟩ = some (.int .i64 R[k].1) := (hnx.cell hb).trans (hc _ _ hat.1)
      have hc1 := hideR (hc (k * 2 + 1) _ hat.2)
      have hbr : b < wr.heap.size := by omega
      generalize R[k].1 = K at *
      generalize R[k].2 = X at *
      have c1 : wr.cell? ⟨b, off + k * 2 + 1, none⟩ = some (.int .i64 X) := (hnx.cell hb).trans hc1.out
      have hle := hD.le
      have hw5 : wrap64 (K.tmod 5 + 5) = K.tmod 5 + 5 := wrap64_kind K
      generalize hkd : (K.tmod 5 + 5).tmod 5 = kd at *
      obtain ⟨ao', cap', rfl⟩ := hm.form
      clear hcs hc hat
      by_cases hk3 : kd < 3
      · have hput := put_ring wr B W.heap.size room D hD X
        have kP := fun w2 (ho : Oth B W.heap.size wr w2) (hb2 : Below W.heap.size W w2) => put_refR w2 (W.heap.size + 2) _ room D X (hm.oth ho (by omega) (by omega)) (by rw [ho.size]; exact hsz) h0 h1 hle.1
        generalize putO room D X = PO at *
        generalize putB room D = PB at *
        generalize putL room D X = D' at *
        have n1 : (PO != PO) = false := by simp
        have n2 : (PB != PB) = false := by simp
        have HD0 := hideR hD
        clear hD hm
        go_wp2_with fail
        refine hput.mono ?_
        rintro e w2 ⟨rfl, hD2, ho2⟩
        have hb2 := ho2.below hnx (by omega) (Nat.le_refl _)
        have d1 : w2.cell? ⟨b, off + k * 2 + 1, none⟩ = some (.int .i64 X) := (hb2.cell hb).trans hc1.out
        have hbr2 : b < w2.heap.size := by rw [ho2.size]; exact hbr
        go_wp2_with fail
        refine (kP w2 ho2 hb2).mono ?_
        rintro e w3 ⟨v3, rfl, hm3, hb3⟩
        have hb30 := hb2.trans (hb3.mono hb2.size)
        have hD3 := hD2.below hb3
        have hs3 : W.heap.size + 2 ≤ w3.heap.size := by have := hb3.size; rw [ho2.size] at this; omega
        obtain ⟨ao3, cap3, rfl⟩ := hm3.form
        clear hD2 hput kP c0 c1 d1
        have hb_w3 := hb30
        have hs_w3 : W.heap.size + 2 ≤ w3.heap.size := hs3
        have hD_w3 := hD3
        have hm_w3 := hm3
        have hlD : (D').length ≤ 1000000 := by have := hD_w3.le; omega
        have kL := len_ring w3 B W.heap.size room _ hD_w3
        have kT := list_ring w3 B W.heap.size room _ hD_w3
        have HD := hideR hD_w3
        have HM := hideR hm_w3
        clear hD_w3 hm_w3
        go_wp2_with fail
        refine kL.mono ?_
        rintro e w' ⟨rfl, he⟩
        rw [he]
        clear he
        go_wp2_with fail
        refine kT.mono ?_
        rintro e w7 ⟨u, rfl, hown7, hb7⟩
        have hb70 := hb_w3.trans (hb7.mono hb_w3.size)
        go_wp2_with fail
        refine (same_self w7 _ _ (D') (Lies.of_owns hown7) (HM.out.below hb7).lies hlD).mono ?_
        rintro e w8 ⟨rfl, hb8⟩
        go_wp2
        go_roundw
        case rel => exact ⟨k + 1, D', hkl, by go_num, HD.out.below ((hb7.trans (hb8.mono hb7.size))), HM.out.below (hb7.trans (hb8.mono hb7.size)), hb70.trans (hb8.mono hb70.size), by have := hb7.size; have := hb8.size; omega⟩
        case measure => simp [intOf]; omega
      · by_cases hk4 : kd = 3
        · subst hk4
          rcases List.eq_nil_or_concat D with rfl | ⟨D', x, rfl⟩
          · have hpop := pop_empty wr B W.heap.size room hD
            simp only [List.length_nil] at hm
            go_wp2_with fail
            refine hpop.mono ?_
            rintro e w' ⟨rfl, he⟩
            rw [he]
            clear he hpop c0 c1
            have hb_wr := hnx
            have hs_wr : W.heap.size + 2 ≤ wr.heap.size := hsz
            have hD_wr := hD
            have hm_wr := hm
            have hlD : ([] : List Int).length ≤ 1000000 := by have := hD_wr.le; omega
            have kL := len_ring wr B W.heap.size room _ hD_wr
            have kT := list_ring wr B W.heap.size room _ hD_wr
            have HD := hideR hD_wr
            have HM := hideR hm_wr
            clear hD_wr hm_wr
            go_wp2_with fail
            refine kL.mono ?_
            rintro e w' ⟨rfl, he⟩
            rw [he]
            clear he
            go_wp2_with fail
            refine kT.mono ?_
            rintro e w7 ⟨u, rfl, hown7, hb7⟩
            have hb70 := hb_wr.trans (hb7.mono hb_wr.size)
            go_wp2_with fail
            refine (same_self w7 _ _ ([]) (Lies.of_owns hown7) (HM.out.below hb7).lies hlD).mono ?_
            rintro e w8 ⟨rfl, hb8⟩
            go_wp2
            go_roundw
            case rel => exact ⟨k + 1, [], hkl, by go_num, HD.out.below ((hb7.trans (hb8.mono hb7.size))), HM.out.below (hb7.trans (hb8.mono hb7.size)), hb70.trans (hb8.mono hb70.size), by have := hb7.size; have := hb8.size; omega⟩
            case measure => simp [intOf]; omega
          · rw [List.concat_eq_append] at *
            have hpop := pop_full wr B W.heap.size room D' x hD
            have hml : (D' ++ [x]).length = D'.length + 1 := by simp
            rcases hm with ⟨_, h⟩ | ⟨bm, om, cm, hv, hcm, hbm, hltm, hxm⟩
            · simp at h
            · simp only [Value.slice.injEq, true_and] at hv
              obtain ⟨rfl, rfl⟩ := hv
              have hx0 := hxm D'.length x (by simp)
              have hDl : D'.length ≤ 65536 := by have := hle; omega
              rw [hml] at *
              have hw1 : IntKind.i64.wrap (D'.length : Int) = D'.length := IntWalk.i64_in _ (by omega)
              have n1 : (x != x) = false := by simp
              have HX := hideR hxm
              clear hxm hD
              go_wp2_with fail
              refine hpop.mono ?_
              rintro e w2 ⟨rfl, hD2, ho2⟩
              have hb2 := ho2.below hnx (by omega) (Nat.le_refl _)
              have hs2 : W.heap.size + 2 ≤ w2.heap.size := by rw [ho2.size]; exact hsz
              have hx2 : w2.cell? ⟨bm, om + D'.length, none⟩ = some (.int .i64 x) := (World.cell?_of_block (ho2.block bm (by omega) (by omega))).trans hx0
              have hm2 : LiesA w2 (W.heap.size + 2) (.slice (some ⟨bm, om, none⟩) D'.length cap') D' := .inr ⟨bm, om, cap', rfl, by omega, hbm, by rw [ho2.size]; exact hltm, fun i y hy => (World.cell?_of_block (ho2.block bm (by omega) (by omega))).trans (HX.out i y (by rw [List.getElem?_append_left (List.getElem?_eq_some_iff.1 hy).1]; exact hy))⟩
              clear hpop c0 c1 hx0
              have hb_w2 := hb2
              have hs_w2 : W.heap.size + 2 ≤ w2.heap.size := hs2
              have hD_w2 := hD2
              have hm_w2 := hm2
              have hlD : (D').length ≤ 1000000 := by have := hD_w2.le; omega
              have kL := len_ring w2 B W.heap.size room _ hD_w2
              have kT := list_ring w2 B W.heap.size room _ hD_w2
              have HD := hideR hD_w2
              have HM := hideR hm_w2
              clear hD_w2 hm_w2
              go_wp2_with fail
              refine kL.mono ?_
              rintro e w' ⟨rfl, he⟩
              rw [he]
              clear he
              go_wp2_with fail
              refine kT.mono ?_
              rintro e w7 ⟨u, rfl, hown7, hb7⟩
              have hb70 := hb_w2.trans (hb7.mono hb_w2.size)
              go_wp2_with fail
              refine (same_self w7 _ _ (D') (Lies.of_owns hown7) (HM.out.below hb7).lies hlD).mono ?_
              rintro e w8 ⟨rfl, hb8⟩
              go_wp2
              go_roundw
              case rel => exact ⟨k + 1, D', hkl, by go_num, HD.out.below ((hb7.trans (hb8.mono hb7.size))), HM.out.below (hb7.trans (hb8.mono hb7.size)), hb70.trans (hb8.mono hb70.size), by have := hb7.size; have := hb8.size; omega⟩
              case measure => simp [intOf]; omega
        · have hatr := at_ring wr B W.heap.size room D hD X
          clear hD
          by_cases hin : 0 ≤ X ∧ X < D.length
          · obtain ⟨j, rfl⟩ : ∃ j : Nat, X = j := ⟨X.toNat, by omega⟩
            have hj : j < D.length := by omega
            have e1 : atV D (j : Int) = D[j] := by rw [atV, if_pos hin, Int.toNat_natCast, List.getElem?_eq_getElem hj]; rfl
            have e2 : atB D (j : Int) = true := decide_eq_true hin
            rw [e1, e2] at hatr
            rcases hm with ⟨_, h⟩ | ⟨bm, om, cm, hv, hcm, hbm, hltm, hxm⟩
            · rw [h] at hj; simp at hj
            · simp only [Value.slice.injEq, true_and] at hv
              obtain ⟨rfl, rfl⟩ := hv
              have hx0 := hxm j _ (List.getElem?_eq_getElem hj)
              have hj0 : (0 : Int) ≤ (j : Int) := by omega
              have hj1 : (j : Int) < D.length := by omega
              have HX := hideR hxm
              generalize D[j] = Y at *
              have n1 : (Y != Y) = false := by simp
              clear hxm e1 e2 hin
              go_wp2_with fail
              refine hatr.mono ?_
              rintro e w2 ⟨rfl, hD2, ho2⟩
              have hb2 := ho2.below hnx (by omega) (Nat.le_refl _)
              have hs2 : W.heap.size + 2 ≤ w2.heap.size := by rw [ho2.size]; exact hsz
              have d1 : w2.cell? ⟨b, off + k * 2 + 1, none⟩ = some (.int .i64 j) := (hb2.cell hb).trans hc1.out
              have hx2 : w2.cell? ⟨bm, om + j, none⟩ = some (.int .i64 Y) := (World.cell?_of_block (ho2.block bm (by omega) (by omega))).trans hx0
              have hm2 : LiesA w2 (W.heap.size + 2) (.slice (some ⟨bm, om, none⟩) D.length cap') D := .inr ⟨bm, om, cap', rfl, by omega, hbm, by rw [ho2.size]; exact hltm, fun i y hy => (World.cell?_of_block (ho2.block bm (by omega) (by omega))).trans (HX.out i y hy)⟩
              clear hatr c0 c1 hx0
              have hb_w2 := hb2
              have hs_w2 : W.heap.size + 2 ≤ w2.heap.size := hs2
              have hD_w2 := hD2
              have hm_w2 := hm2
              have hlD : (D).length ≤ 1000000 := by have := hD_w2.le; omega
              have kL := len_ring w2 B W.heap.size room _ hD_w2
              have kT := list_ring w2 B W.heap.size room _ hD_w2
              have HD := hideR hD_w2
              have HM := hideR hm_w2
              clear hD_w2 hm_w2
              go_wp2_with fail
              refine kL.mono ?_
              rintro e w' ⟨rfl, he⟩
              rw [he]
              clear he
              go_wp2_with fail
              refine kT.mono ?_
              rintro e w7 ⟨u, rfl, hown7, hb7⟩
              have hb70 := hb_w2.trans (hb7.mono hb_w2.size)
              go_wp2_with fail
              refine (same_self w7 _ _ (D) (Lies.of_owns hown7) (HM.out.below hb7).lies hlD).mono ?_
              rintro e w8 ⟨rfl, hb8⟩
              go_wp2
              go_roundw
              case rel => exact ⟨k + 1, D, hkl, by go_num, HD.out.below ((hb7.trans (hb8.mono hb7.size))), HM.out.below (hb7.trans (hb8.mono hb7.size)), hb70.trans (hb8.mono hb70.size), by have := hb7.size; have := hb8.size; omega⟩
              case measure => simp [intOf]; omega
          · have e1 : atV D X = 0 := if_neg hin
            have e2 : atB D X = false := decide_eq_false hin
            rw [e1, e2] at hatr
            have key : ∀ P : Prop, (X < 0 → P) → (¬ X < 0 → ¬ X < D.length → P) → P := fun P h1 h2 => by
              by_cases h : X < 0
              · exact h1 h
              · exact h2 h (fun h' => hin ⟨by omega, h'⟩)
            clear e1 e2 hin
            refine key _ (fun hX0 => ?_) (fun hX0 hX1 => ?_)
            all_goals
              clear key
              go_wp2_with fail
              refine hatr.mono ?_
              rintro e w2 ⟨rfl, hD2, ho2⟩
              have hb2 := ho2.below hnx (by omega) (Nat.le_refl _)
              have hs2 : W.heap.size + 2 ≤ w2.heap.size := by rw [ho2.size]; exact hsz
              have d1 : w2.cell? ⟨b, off + k * 2 + 1, none⟩ = some (.int .i64 X) := (hb2.cell hb).trans hc1.out
              have hm2 := hm.oth ho2 (by omega) (by omega)
              clear hatr c0 c1
              have hb_w2 := hb2
              have hs_w2 : W.heap.size + 2 ≤ w2.heap.size := hs2
              have hD_w2 := hD2
              have hm_w2 := hm2
              have hlD : (D).length ≤ 1000000 := by have := hD_w2.le; omega
              have kL := len_ring w2 B W.heap.size room _ hD_w2
              have kT := list_ring w2 B W.heap.size room _ hD_w2
              have HD := hideR hD_w2
              have HM := hideR hm_w2
              clear hD_w2 hm_w2
              go_wp2_with fail
              refine kL.mono ?_
              rintro e w' ⟨rfl, he⟩
              rw [he]
              clear he
              go_wp2_with fail
              refine kT.mono ?_
              rintro e w7 ⟨u, rfl, hown7, hb7⟩
              have hb70 := hb_w2.trans (hb7.mono hb_w2.size)
              go_wp2_with fail
              refine (same_self w7 _ _ (D) (Lies.of_owns hown7) (HM.out.below hb7).lies hlD).mono ?_
              rintro e w8 ⟨rfl, hb8⟩
              go_wp2
              go_roundw
              case rel => exact ⟨k + 1, D, hkl, by go_num, HD.out.below ((hb7.trans (hb8.mono hb7.size))), HM.out.below (hb7.trans (hb8.mono hb7.size)), hb70.trans (hb8.mono hb70.size), by have := hb7.size; have := hb8.size; omega⟩
              case measure => simp [intOf]; omega
    · go_wp2_with fail
      refine (awake_any _).mono ?_
      rintro e w6 ⟨rfl, hb6⟩
      go_wp2_with fail
      go_ret
      exact ⟨rfl, hnx.trans (hb6.mono hnx.size)⟩
theorem cellRings_walk (r : Int) (va : Value) (R : List Rn) (W : World) (r0 : -9223372036854775808 ≤ r) (r1 : r ≤ 9223372036854775807) (hx : Lies W 2 va R.length (rcs .i64 R)) :
    Calls Try.prog 6 #[.int .i64 r, va] W fun e W' => e = .returned (.bool true) ∧ Below W.heap.size W W' := by
  by_cases h : r < 1 ∨ 65536 < r
  · exact cellRings_bad r va R W h hx
  · obtain ⟨room, rfl⟩ : ∃ n : Nat, r = n := ⟨r.toNat, by omega⟩
    exact cellRings_good room va R W (by omega) (by omega) hx
end Go.Proofs.Ytcaffmkghllmgaa.cellRings
