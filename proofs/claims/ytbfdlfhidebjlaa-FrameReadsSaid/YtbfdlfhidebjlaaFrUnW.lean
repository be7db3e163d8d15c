/- Package frame: a picture read of bytes. -/
import Derived.Test.YtbfdlfhidebjlaaFrRowR
import Derived.Laws.BitsLemmas
import Derived.Lib.SliceRun
import Derived.RangeFuncNested
namespace Go.Proofs.Ytbfdlfhidebjlaa.Cl
open Go.RowKit Go.Deep
set_option linter.unusedVariables false
set_option linter.unusedSimpArgs false

theorem or_bytes (a b : Int) (ha : 0 ≤ a ∧ a < 256) (hb : 0 ≤ b ∧ b < 256) : bits .or .i64 a (b * 256) = a + 256 * b := by
  obtain ⟨x, rfl⟩ : ∃ x : Nat, a = x := ⟨a.toNat, by omega⟩
  obtain ⟨y, rfl⟩ : ∃ y : Nat, b = y := ⟨b.toNat, by omega⟩
  have e16 : (2 : Nat) ^ 16 = 65536 := rfl
  have i16 : (2 : Int) ^ 16 = 65536 := rfl
  have e8 : (2 : Nat) ^ 8 = 256 := rfl
  have hx : x < 2 ^ 16 := by rw [e16]; omega
  have hy : y * 256 < 2 ^ 16 := by rw [e16]; omega
  have hx8 : x < 2 ^ 8 := by rw [e8]; omega
  have hk : ∀ n : Int, 0 ≤ n → n < 2 ^ 16 → IntKind.i64.wrap n = n := fun n h0 h1 => by
    rw [i16] at h1
    exact IntWalk.i64_in n (by omega)
  have h := (bits_nat .i64 16 (by decide) hk x (y * 256) hx hy).2
  have h3 := Nat.two_pow_add_eq_or_of_lt hx8 y
  rw [e8] at h3
  rw [show ((y : Int) * 256) = ((y * 256 : Nat) : Int) from (Int.natCast_mul y 256).symm, h, Nat.or_comm, Nat.mul_comm y 256, ← h3, Int.natCast_add, Int.natCast_mul]
  clear h h3 hk hx hy hx8 e16 i16 e8
  omega
/-- A row put behind the others of a picture that is being made: the rows are as they were. -/
theorem rows_put {W w1 : World} {o : Obj} {F : Nat} {v u2 : Value} {n base : Nat} {xs : List Value} (hrow : W.ownsRow base 45 1 v n xs) (hv : Boxed W F 33 v) (hgrow : (W.alloc o).grownBy w1 v.ownBlock) (k : Nat) (cs : Array Value) (fr : Nat × Nat) (e : W.heap[k]? = some (Obj.cells cs 5 fr)) :
    (w1.setCell ⟨F, 0, none⟩ u2).heap[k]? = some (Obj.cells cs 5 fr) := by
  have hkl : k < W.heap.size := (Array.getElem?_eq_some_iff.1 e).1
  have k1 : some k ≠ v.ownBlock := by
    obtain ⟨_, ⟨rfl, _⟩ | ⟨g, cap, cur, rfl, _, hh, _⟩⟩ := hrow
    · simp [Value.ownBlock]
    · intro he
      simp only [Value.ownBlock, Option.some.injEq] at he
      subst he
      rw [e] at hh
      simp at hh
  have k2 : k ≠ F := by
    intro he
    subst he
    rw [show W.heap[k]? = _ from hv] at e
    simp at e
  rw [heap_setCell_other _ _ _ _ k2, hgrow.block k (by simp; omega) k1, Below.heap_alloc _ _ _ hkl]
  exact e

set_option maxRecDepth 1000000 in
set_option maxHeartbeats 2000000 in
theorem unpack_short (w : World) (ao : Option Addr) (n cap : Nat) (bs : List Int) (hL : Lies w 1 (.slice ao n cap) bs.length (bs.map (Value.int .u8))) (hb : Byt bs) (hs : bs.length ≤ 1000000) (h2 : (n : Int) < 2) :
    Calls Try.prog 23 #[.slice ao n cap] w fun e w' => ∃ v, e = .returned (.tuple #[.agg #[v], .int .i64 (picF bs).2]) ∧ TPic w' v (picF bs).1 ∧ Below w.heap.size w w' := by
  obtain ⟨i0, hi, hz0, hz1, hz2⟩ := info_parts info_sl
  have HL := hideR hL
  obtain ⟨hn, hcap, HC⟩ := bytesAt hL
  have HN := hideR hn
  have HB := hideR hb
  have hn6 : n ≤ 1000000 := by omega
  clear hL hn hb hs
  have hA1 := (Below.refl _ w).alloc (Nat.le_refl _) (.cells #[.slice none 0 0] 33)
  have hF := picF_short (b := bs) (by have := HN.out; omega)
  have HF := hideR hF
  clear hF
  go_enter Try.func23, Try.ntmps23
  go_wp2
  refine bodyPost_ret (v := .tuple #[.agg #[.slice none 0 0], .int .i64 9]) (by simp [results, Try.results23, go_sem]) rfl ?_
  rw [HF.out]
  exact ⟨_, rfl, TPic.nil _, hA1⟩

set_option maxRecDepth 1000000 in
set_option maxHeartbeats 2000000 in
theorem unpack_many (w : World) (ao : Option Addr) (n cap : Nat) (bs : List Int) (hL : Lies w 1 (.slice ao n cap) bs.length (bs.map (Value.int .u8))) (hb : Byt bs) (hs : bs.length ≤ 1000000) (h2 : 2 ≤ (n : Int)) (hbig : 320 < pix bs 0 + 256 * pix bs 1) :
    Calls Try.prog 23 #[.slice ao n cap] w fun e w' => ∃ v, e = .returned (.tuple #[.agg #[v], .int .i64 (picF bs).2]) ∧ TPic w' v (picF bs).1 ∧ Below w.heap.size w w' := by
  obtain ⟨i0, hi, hz0, hz1, hz2⟩ := info_parts info_sl
  have HL := hideR hL
  obtain ⟨hn, hcap, HC⟩ := bytesAt hL
  have HN := hideR hn
  have HB := hideR hb
  have hn6 : n ≤ 1000000 := by omega
  clear hL hn hb hs
  have hA1 := (Below.refl _ w).alloc (Nat.le_refl _) (.cells #[.slice none 0 0] 33)
  obtain ⟨b, off, rfl, hbl, hc⟩ := HC.out.resolve_left (by omega)
  have hc0 := hc 0 (by omega)
  have hc1 := hc 1 (by omega)
  rw [Nat.add_zero] at hc0
  have hp0 := pix_byt HB.out 0
  have hp1 := pix_byt HB.out 1
  obtain ⟨N, hN⟩ : ∃ N : Nat, pix bs 0 + 256 * pix bs 1 = N := ⟨(pix bs 0 + 256 * pix bs 1).toNat, by omega⟩
  have hor := or_bytes (pix bs 0) (pix bs 1) hp0 hp1
  rw [hN] at hor
  have HPN := hideR hN
  have hw0 : IntKind.i64.wrap (pix bs 0) = pix bs 0 := IntWalk.i64_in _ (by omega)
  have hw1 : IntKind.i64.wrap (pix bs 1) = pix bs 1 := IntWalk.i64_in _ (by omega)
  have hw2 : IntKind.i64.wrap (pix bs 1 * 256) = pix bs 1 * 256 := IntWalk.i64_in _ (by omega)
  have hmany : 320 < N → picF bs = ([], 9) := fun h => picF_many (by rw [hN]; omega)
  have HMANY := hideR hmany
  have h2n : 2 ≤ bs.length := by have := HN.out; omega
  have H2N := hideR h2n
  generalize hP0 : pix bs 0 = p0 at *
  generalize hP1 : pix bs 1 = p1 at *
  have HPX : Hid (pix bs 0 + 256 * pix bs 1 = N) := by
    show pix bs 0 + 256 * pix bs 1 = N
    rw [hP0, hP1]; exact hN
  clear hc hN HC hmany hP0 hP1 h2n
  have HA1 := hideR hA1
  have hbg : (320 : Int) < N := by have := HPN.out; omega
  have hF := HMANY.out (by omega)
  have HF := hideR hF
  clear hF hA1 hbig
  go_enter Try.func23, Try.ntmps23
  go_wp2_with fail
  go_quiet (fail)
  go_wp2
  refine bodyPost_ret (v := .tuple #[.agg #[.slice none 0 0], .int .i64 9]) (by simp [results, Try.results23, go_sem]) rfl ?_
  rw [HF.out]
  exact ⟨_, rfl, TPic.nil _, by first | exact (below_drewN HA1.out _).setCell (Nat.le_refl _) _ | exact below_drewN HA1.out _⟩

set_option maxRecDepth 1000000 in
set_option maxHeartbeats 2000000 in
theorem unpack_at2 (w : World) (ao : Option Addr) (n cap : Nat) (bs : List Int) (hL : Lies w 1 (.slice ao n cap) bs.length (bs.map (Value.int .u8))) (hb : Byt bs) (hs : bs.length ≤ 1000000) (h2 : 2 ≤ (n : Int)) (hbig : pix bs 0 + 256 * pix bs 1 ≤ 320) (hc2 : cap = 2) :
    Calls Try.prog 23 #[.slice ao n cap] w fun e w' => ∃ v, e = .returned (.tuple #[.agg #[v], .int .i64 (picF bs).2]) ∧ TPic w' v (picF bs).1 ∧ Below w.heap.size w w' := by
  obtain ⟨i0, hi, hz0, hz1, hz2⟩ := info_parts info_sl
  have HL := hideR hL
  obtain ⟨hn, hcap, HC⟩ := bytesAt hL
  have HN := hideR hn
  have HB := hideR hb
  have hn6 : n ≤ 1000000 := by omega
  clear hL hn hb hs
  have hA1 := (Below.refl _ w).alloc (Nat.le_refl _) (.cells #[.slice none 0 0] 33)
  obtain ⟨b, off, rfl, hbl, hc⟩ := HC.out.resolve_left (by omega)
  have hc0 := hc 0 (by omega)
  have hc1 := hc 1 (by omega)
  rw [Nat.add_zero] at hc0
  have hp0 := pix_byt HB.out 0
  have hp1 := pix_byt HB.out 1
  obtain ⟨N, hN⟩ : ∃ N : Nat, pix bs 0 + 256 * pix bs 1 = N := ⟨(pix bs 0 + 256 * pix bs 1).toNat, by omega⟩
  have hor := or_bytes (pix bs 0) (pix bs 1) hp0 hp1
  rw [hN] at hor
  have HPN := hideR hN
  have hw0 : IntKind.i64.wrap (pix bs 0) = pix bs 0 := IntWalk.i64_in _ (by omega)
  have hw1 : IntKind.i64.wrap (pix bs 1) = pix bs 1 := IntWalk.i64_in _ (by omega)
  have hw2 : IntKind.i64.wrap (pix bs 1 * 256) = pix bs 1 * 256 := IntWalk.i64_in _ (by omega)
  have hmany : 320 < N → picF bs = ([], 9) := fun h => picF_many (by rw [hN]; omega)
  have HMANY := hideR hmany
  have h2n : 2 ≤ bs.length := by have := HN.out; omega
  have H2N := hideR h2n
  generalize hP0 : pix bs 0 = p0 at *
  generalize hP1 : pix bs 1 = p1 at *
  have HPX : Hid (pix bs 0 + 256 * pix bs 1 = N) := by
    show pix bs 0 + 256 * pix bs 1 = N
    rw [hP0, hP1]; exact hN
  clear hc hN HC hmany hP0 hP1 h2n
  have hbg : (N : Int) ≤ 320 := by have := HPN.out; omega
  have HA1 := hideR hA1
  have hLd := lies_drop HL.out (E := 2) (by omega) HN.out _ rfl
  have hdl : (bs.drop 2).length = n - 2 := by rw [List.length_drop, ← HN.out]
  rw [if_pos hc2, show cap - 2 = 0 from by omega] at hLd
  have HLd := hideR hLd
  have HDL := hideR hdl
  have hxx := heap_alloc_new w (.cells #[.slice none 0 0] 33)
  have HXX := hideR hxx
  clear hLd hdl hA1 hbig hxx
  subst hc2
  go_enter Try.func23, Try.ntmps23
  go_wp2_with fail
  go_quiet (fail)
  go_wp2
  have hR0 : (((w.alloc (.cells #[.slice none 0 0] 33)).drewN nq).alloc (.cells #[.slice none 0 0] 33)).heap[w.heap.size]? = some (Obj.cells #[.slice none 0 0] 33 (0, 0)) := (Below.heap_alloc _ _ _ (by show w.heap.size < (w.alloc _).heap.size; simp)).trans HXX.out
  have hF0 : (((w.alloc (.cells #[.slice none 0 0] 33)).drewN nq).alloc (.cells #[.slice none 0 0] 33)).heap[w.heap.size + 1]? = some (Obj.cells #[.slice none 0 0] 33 (0, 0)) := by
    have := heap_alloc_new ((w.alloc (.cells #[.slice none 0 0] 33)).drewN nq) (.cells #[.slice none 0 0] 33)
    rw [show ((w.alloc (.cells #[.slice none 0 0] 33)).drewN nq).heap.size = w.heap.size + 1 from World.size_alloc _ _] at this
    exact this
  have hBV : Below w.heap.size w (((w.alloc (.cells #[.slice none 0 0] 33)).drewN nq).alloc (.cells #[.slice none 0 0] 33)) := (below_drewN HA1.out nq).alloc (by show w.heap.size ≤ (w.alloc _).heap.size; simp) _
  generalize ((w.alloc (.cells #[.slice none 0 0] 33)).drewN nq).alloc (.cells #[.slice none 0 0] 33) = V at *
  go_loopw [0, 27] (fun s i wr => ∃ (k : Nat) (A : List (List Int)) (rest : List Int) (v : Value) (vs : List Value), k ≤ N ∧ i = .int .i64 k ∧ Hid (rowsF (bs.drop 2) k = some (A, rest)) ∧ Hid (Lies w 1 s rest.length (rest.map (Value.int .u8))) ∧ (∃ ao' cap', s = .slice ao' rest.length cap') ∧ Boxed wr (w.heap.size + 1) 33 v ∧ wr.ownsRow w.heap.size 45 1 v vs.length vs ∧ vs.length = A.length ∧ Hid (∀ (y : Nat) u row, vs[y]? = some u → A[y]? = some row → URow wr u row) ∧ Boxed wr w.heap.size 33 (.slice none 0 0) ∧ Below w.heap.size w wr)
    (fun _ i _ => N - (intOf i).toNat)
  case atStart => exact ⟨0, [], bs.drop 2, .slice none 0 0, [], Nat.zero_le _, rfl, rfl, by have := HLd.out; rw [show n - 2 = 0 from by omega] at this; exact this, ⟨_, _, by rw [HDL.out, show n - 2 = 0 from by omega]⟩, hF0, World.ownsRow_nil _ _ _ _, rfl, fun y u row h => by (simp at h), hR0, hBV⟩
  case round =>
    obtain ⟨k, A, rest, v, vs, hk, rfl, hrf, hLs, ⟨ao', cap', rfl⟩, hbF, hown, hvA, hU, hbR, hnx⟩ := hrel
    clear hR0 hF0 hBV
    have hall := rowsF_all (b := bs.drop 2) (fun x hx => HB.out x (List.mem_of_mem_drop hx)) hrf.out
    have hrl : rest.length ≤ 1000000 := by have := hall.2.2.2; rw [HDL.out] at this; omega
    have hAk : A.length = k := hall.1
    have hsz := hnx.size
    by_cases hkl : k < N
    · have k1 := row_any w wr _ rest hLs.out hnx hall.2.2.1 hrl
      have HVA := hideR hvA
      have HAK := hideR hAk
      clear hall hvA hAk
      go_wp2_with fail
      refine k1.mono ?_
      rintro e w1 ⟨hcase, hb1⟩
      have hnx1 := hnx.trans (hb1.mono hsz)
      have bF1 : Boxed w1 (w.heap.size + 1) 33 v := (hb1.block _ hbF.lt).trans hbF
      have bR1 : Boxed w1 w.heap.size 33 (.slice none 0 0) := (hb1.block _ hbR.lt).trans hbR
      have own1 := owns_below hown hb1
      have cR := bR1.cell
      have fR := bR1.frozen
      have cF := bF1.cell
      have hsz1 := hnx1.size
      have U1 : Hid (∀ (y : Nat) u row, vs[y]? = some u → A[y]? = some row → URow w1 u row) := fun y u row a b => (hU.out y u row a b).below hb1
      clear k1 hbF hown hbR hU
      rcases hcase with ⟨hnone, rfl⟩ | ⟨row, rest', g, cp, ao2, cap2, hsome, rfl, hro, hLr⟩
      · have hF : picF bs = ([], 9) := picF_fail HPX.out hkl (rowsF_fail hrf.out hnone)
        have HF := hideR hF
        have hne : ¬ w.heap.size = w.heap.size + 1 := by omega
        clear hF hnone
        have keq := Lib.run_eql_slice_nil (P := Try.prog) w1 45 5 none 0 0 0 0 Try.underlying45
        go_wp2
        have hb9 : Below w.heap.size w (w1.setCell ⟨w.heap.size, 0, none⟩ (.slice none 0 0)) := hnx1.setCell (Nat.le_refl _) _
        refine bodyPost_ret (v := .tuple #[.agg #[.slice none 0 0], .int .i64 9]) (by simp [results, Try.results23, go_sem, cR, fR]) rfl ?_
        rw [HF.out]
        exact ⟨_, rfl, TPic.nil _, by first | exact hb9 | exact hnx1⟩
      · have keq := Lib.run_eql_slice_nil (P := Try.prog) w1 45 5 (some ⟨g, 0, none⟩) 160 cp 0 0 Try.underlying45
        have hrf2 := rowsF_more hrf.out hsome
        have HRF2 := hideR hrf2
        have hlen := rowF_len hsome
        have hUr : URow w1 (.slice (some ⟨g, 0, none⟩) 160 cp) row := URow.of_owns hlen.1 (by decide) hro
        have HUR := hideR hUr
        have HLR := hideR hLr
        have hvl : vs.length ≤ 320 := by have := HVA.out; have := HAK.out; omega
        obtain ⟨aoV, capV, rfl⟩ := shapeOf own1
        clear hrf2 hsome hlen hUr hLr hro
        go_wp2_with (at_builtin; refine wpList_append_lies _ rfl _ _ 27 rfl w.heap.size 45 i0 (.slice none 0 0) 1 24 Try.underlying27 hi hz0 hz1 hz2 rfl (by decide) _ _ _ rfl (own1.alloc _) ⟨w1.heap.size, 0, none⟩ 1 1 [.slice (some ⟨g, 0, none⟩) 160 cp] rfl rfl (World.news_of_block (heap_alloc_new _ _)) (by simp [Value.oneCell']) (by decide) (by simp only [maxLen]; omega) (by omega) (by simp; omega) (w1.heap.size + 1) (by simp) ?_)
        intro g2 cap3 w2 hown2 hgrow2 hat2 hlt2
        obtain ⟨hv1, hv2, hr2, hk2, hb2⟩ := bF1.appended (by decide) own1 hsz1 (by omega) hown2 hgrow2
        have hc1' := hv1.cell
        have hf1' := hv1.frozen
        have hbr1 := ((bR1.alloc (.cells #[.slice (some ⟨g, 0, none⟩) 160 cp] 45)).kept hgrow2 (bR1.not_row (by decide) own1)).other (B' := w.heap.size + 1) (by omega) (.slice (some ⟨g2, 0, none⟩) (vs.length + 1) cap3)
        have hku := fun k cs fr e => rows_put (u2 := .slice (some ⟨g2, 0, none⟩) (vs.length + 1) cap3) own1 bF1 hgrow2 k cs fr e
        have U2 : Hid (∀ (y : Nat) u row', (vs ++ [.slice (some ⟨g, 0, none⟩) 160 cp])[y]? = some u → (A ++ [row])[y]? = some row' → URow (w2.setCell ⟨w.heap.size + 1, 0, none⟩ (.slice (some ⟨g2, 0, none⟩) (vs.length + 1) cap3)) u row') := by
          intro y u row' hy hr
          have lift : ∀ u row', URow w1 u row' → URow (w2.setCell ⟨w.heap.size + 1, 0, none⟩ (.slice (some ⟨g2, 0, none⟩) (vs.length + 1) cap3)) u row' := by
            rintro u row' ⟨g, cap, cur, fr, hv, hc, hh, ht⟩
            exact ⟨g, cap, cur, fr, hv, hc, hku _ _ _ hh, ht⟩
          by_cases hyk : y < vs.length
          · rw [List.getElem?_append_left hyk] at hy
            rw [List.getElem?_append_left (by rw [← HVA.out]; exact hyk)] at hr
            exact lift _ _ (U1.out y u row' hy hr)
          · rw [List.getElem?_append_right (by omega)] at hy
            rw [List.getElem?_append_right (by rw [← HVA.out]; omega)] at hr
            have hy0 : y - vs.length = 0 := by have := (List.getElem?_eq_some_iff.1 hy).1; simp at this; omega
            rw [hy0] at hy
            rw [← HVA.out, hy0] at hr
            obtain rfl := Option.some.inj hy
            obtain rfl := Option.some.inj hr
            exact lift _ _ HUR.out
        have hnx3 := hnx1.trans hb2
        clear hgrow2 hat2 hown2 own1 bF1 bR1 U1 hku hk2 hb2 cR fR cF
        go_wp2
        go_roundw
        case rel => exact ⟨k + 1, A ++ [row], rest', Value.slice (some ⟨g2, 0, none⟩) (vs.length + 1) cap3, vs ++ [Value.slice (some ⟨g, 0, none⟩) 160 cp], hkl, by go_num, HRF2.out, HLR.out, ⟨_, _, rfl⟩, hv2, by simpa using hr2, by simp [HVA.out], U2.out, hbr1, hnx3⟩
        case measure => simp [intOf]; omega
    · obtain rfl : k = N := by omega
      have cR := hbR.cell
      have fR := hbR.frozen
      have cF := hbF.cell
      clear hall
      by_cases hr0 : (rest.length : Int) = 0
      · have hre : rest = [] := List.eq_nil_of_length_eq_zero (by omega)
        have hF : picF bs = (A, 0) := picF_good H2N.out HPX.out (by omega) (by rw [hrf.out, hre])
        have HF := hideR hF
        have hT : TPic wr v A := ⟨vs, w.heap.size, hown, hvA, hU.out⟩
        have hT2 := hT.set (p := ⟨w.heap.size, 0, none⟩) (show wr.heap[w.heap.size]? = _ from hbR) (by decide) (by decide) v
        have hb9 := hnx.setCell (p := ⟨w.heap.size, 0, none⟩) (Nat.le_refl _) v
        obtain ⟨aoV, capV, rfl⟩ := shapeOf hown
        clear hF hre hT hown hU hbR hbF hvA hAk
        go_wp2
        refine bodyPost_ret (v := .tuple #[.agg #[.slice aoV vs.length capV], .int .i64 0]) (by simp [results, Try.results23, go_sem, cR, fR]) rfl ?_
        rw [HF.out]
        exact ⟨_, rfl, hT2, hb9⟩
      · have hF : picF bs = ([], 9) := picF_rest HPX.out hrf.out (fun e => hr0 (by rw [e]; rfl))
        have HF := hideR hF
        clear hF
        go_wp2
        have hb9 : Below w.heap.size w (wr.setCell ⟨w.heap.size, 0, none⟩ (.slice none 0 0)) := hnx.setCell (Nat.le_refl _) _
        refine bodyPost_ret (v := .tuple #[.agg #[.slice none 0 0], .int .i64 9]) (by simp [results, Try.results23, go_sem, cR, fR]) rfl ?_
        rw [HF.out]
        exact ⟨_, rfl, TPic.nil _, by first | exact hb9 | exact hnx⟩

set_option maxRecDepth 1000000 in
set_option maxHeartbeats 2000000 in
theorem unpack_over (w : World) (ao : Option Addr) (n cap : Nat) (bs : List Int) (hL : Lies w 1 (.slice ao n cap) bs.length (bs.map (Value.int .u8))) (hb : Byt bs) (hs : bs.length ≤ 1000000) (h2 : 2 ≤ (n : Int)) (hbig : pix bs 0 + 256 * pix bs 1 ≤ 320) (hc2 : ¬ cap = 2) :
    Calls Try.prog 23 #[.slice ao n cap] w fun e w' => ∃ v, e = .returned (.tuple #[.agg #[v], .int .i64 (picF bs).2]) ∧ TPic w' v (picF bs).1 ∧ Below w.heap.size w w' := by
  obtain ⟨i0, hi, hz0, hz1, hz2⟩ := info_parts info_sl
  have HL := hideR hL
  obtain ⟨hn, hcap, HC⟩ := bytesAt hL
  have HN := hideR hn
  have HB := hideR hb
  have hn6 : n ≤ 1000000 := by omega
  clear hL hn hb hs
  have hA1 := (Below.refl _ w).alloc (Nat.le_refl _) (.cells #[.slice none 0 0] 33)
  obtain ⟨b, off, rfl, hbl, hc⟩ := HC.out.resolve_left (by omega)
  have hc0 := hc 0 (by omega)
  have hc1 := hc 1 (by omega)
  rw [Nat.add_zero] at hc0
  have hp0 := pix_byt HB.out 0
  have hp1 := pix_byt HB.out 1
  obtain ⟨N, hN⟩ : ∃ N : Nat, pix bs 0 + 256 * pix bs 1 = N := ⟨(pix bs 0 + 256 * pix bs 1).toNat, by omega⟩
  have hor := or_bytes (pix bs 0) (pix bs 1) hp0 hp1
  rw [hN] at hor
  have HPN := hideR hN
  have hw0 : IntKind.i64.wrap (pix bs 0) = pix bs 0 := IntWalk.i64_in _ (by omega)
  have hw1 : IntKind.i64.wrap (pix bs 1) = pix bs 1 := IntWalk.i64_in _ (by omega)
  have hw2 : IntKind.i64.wrap (pix bs 1 * 256) = pix bs 1 * 256 := IntWalk.i64_in _ (by omega)
  have hmany : 320 < N → picF bs = ([], 9) := fun h => picF_many (by rw [hN]; omega)
  have HMANY := hideR hmany
  have h2n : 2 ≤ bs.length := by have := HN.out; omega
  have H2N := hideR h2n
  generalize hP0 : pix bs 0 = p0 at *
  generalize hP1 : pix bs 1 = p1 at *
  have HPX : Hid (pix bs 0 + 256 * pix bs 1 = N) := by
    show pix bs 0 + 256 * pix bs 1 = N
    rw [hP0, hP1]; exact hN
  clear hc hN HC hmany hP0 hP1 h2n
  have hbg : (N : Int) ≤ 320 := by have := HPN.out; omega
  have HA1 := hideR hA1
  have hLd := lies_drop HL.out (E := 2) (by omega) HN.out _ rfl
  have hdl : (bs.drop 2).length = n - 2 := by rw [List.length_drop, ← HN.out]
  rw [if_neg hc2] at hLd
  have HLd := hideR hLd
  have HDL := hideR hdl
  have hxx := heap_alloc_new w (.cells #[.slice none 0 0] 33)
  have HXX := hideR hxx
  clear hLd hdl hA1 hbig hxx
  go_enter Try.func23, Try.ntmps23
  go_wp2_with fail
  go_quiet (fail)
  go_wp2
  have hR0 : (((w.alloc (.cells #[.slice none 0 0] 33)).drewN nq).alloc (.cells #[.slice none 0 0] 33)).heap[w.heap.size]? = some (Obj.cells #[.slice none 0 0] 33 (0, 0)) := (Below.heap_alloc _ _ _ (by show w.heap.size < (w.alloc _).heap.size; simp)).trans HXX.out
  have hF0 : (((w.alloc (.cells #[.slice none 0 0] 33)).drewN nq).alloc (.cells #[.slice none 0 0] 33)).heap[w.heap.size + 1]? = some (Obj.cells #[.slice none 0 0] 33 (0, 0)) := by
    have := heap_alloc_new ((w.alloc (.cells #[.slice none 0 0] 33)).drewN nq) (.cells #[.slice none 0 0] 33)
    rw [show ((w.alloc (.cells #[.slice none 0 0] 33)).drewN nq).heap.size = w.heap.size + 1 from World.size_alloc _ _] at this
    exact this
  have hBV : Below w.heap.size w (((w.alloc (.cells #[.slice none 0 0] 33)).drewN nq).alloc (.cells #[.slice none 0 0] 33)) := (below_drewN HA1.out nq).alloc (by show w.heap.size ≤ (w.alloc _).heap.size; simp) _
  generalize ((w.alloc (.cells #[.slice none 0 0] 33)).drewN nq).alloc (.cells #[.slice none 0 0] 33) = V at *
  go_loopw [0, 27] (fun s i wr => ∃ (k : Nat) (A : List (List Int)) (rest : List Int) (v : Value) (vs : List Value), k ≤ N ∧ i = .int .i64 k ∧ Hid (rowsF (bs.drop 2) k = some (A, rest)) ∧ Hid (Lies w 1 s rest.length (rest.map (Value.int .u8))) ∧ (∃ ao' cap', s = .slice ao' rest.length cap') ∧ Boxed wr (w.heap.size + 1) 33 v ∧ wr.ownsRow w.heap.size 45 1 v vs.length vs ∧ vs.length = A.length ∧ Hid (∀ (y : Nat) u row, vs[y]? = some u → A[y]? = some row → URow wr u row) ∧ Boxed wr w.heap.size 33 (.slice none 0 0) ∧ Below w.heap.size w wr)
    (fun _ i _ => N - (intOf i).toNat)
  case atStart => exact ⟨0, [], bs.drop 2, .slice none 0 0, [], Nat.zero_le _, rfl, rfl, HLd.out, ⟨_, _, by rw [HDL.out]⟩, hF0, World.ownsRow_nil _ _ _ _, rfl, fun y u row h => by (simp at h), hR0, hBV⟩
  case round =>
    obtain ⟨k, A, rest, v, vs, hk, rfl, hrf, hLs, ⟨ao', cap', rfl⟩, hbF, hown, hvA, hU, hbR, hnx⟩ := hrel
    clear hR0 hF0 hBV
    have hall := rowsF_all (b := bs.drop 2) (fun x hx => HB.out x (List.mem_of_mem_drop hx)) hrf.out
    have hrl : rest.length ≤ 1000000 := by have := hall.2.2.2; rw [HDL.out] at this; omega
    have hAk : A.length = k := hall.1
    have hsz := hnx.size
    by_cases hkl : k < N
    · have k1 := row_any w wr _ rest hLs.out hnx hall.2.2.1 hrl
      have HVA := hideR hvA
      have HAK := hideR hAk
      clear hall hvA hAk
      go_wp2_with fail
      refine k1.mono ?_
      rintro e w1 ⟨hcase, hb1⟩
      have hnx1 := hnx.trans (hb1.mono hsz)
      have bF1 : Boxed w1 (w.heap.size + 1) 33 v := (hb1.block _ hbF.lt).trans hbF
      have bR1 : Boxed w1 w.heap.size 33 (.slice none 0 0) := (hb1.block _ hbR.lt).trans hbR
      have own1 := owns_below hown hb1
      have cR := bR1.cell
      have fR := bR1.frozen
      have cF := bF1.cell
      have hsz1 := hnx1.size
      have U1 : Hid (∀ (y : Nat) u row, vs[y]? = some u → A[y]? = some row → URow w1 u row) := fun y u row a b => (hU.out y u row a b).below hb1
      clear k1 hbF hown hbR hU
      rcases hcase with ⟨hnone, rfl⟩ | ⟨row, rest', g, cp, ao2, cap2, hsome, rfl, hro, hLr⟩
      · have hF : picF bs = ([], 9) := picF_fail HPX.out hkl (rowsF_fail hrf.out hnone)
        have HF := hideR hF
        have hne : ¬ w.heap.size = w.heap.size + 1 := by omega
        clear hF hnone
        have keq := Lib.run_eql_slice_nil (P := Try.prog) w1 45 5 none 0 0 0 0 Try.underlying45
        go_wp2
        have hb9 : Below w.heap.size w (w1.setCell ⟨w.heap.size, 0, none⟩ (.slice none 0 0)) := hnx1.setCell (Nat.le_refl _) _
        refine bodyPost_ret (v := .tuple #[.agg #[.slice none 0 0], .int .i64 9]) (by simp [results, Try.results23, go_sem, cR, fR]) rfl ?_
        rw [HF.out]
        exact ⟨_, rfl, TPic.nil _, by first | exact hb9 | exact hnx1⟩
      · have keq := Lib.run_eql_slice_nil (P := Try.prog) w1 45 5 (some ⟨g, 0, none⟩) 160 cp 0 0 Try.underlying45
        have hrf2 := rowsF_more hrf.out hsome
        have HRF2 := hideR hrf2
        have hlen := rowF_len hsome
        have hUr : URow w1 (.slice (some ⟨g, 0, none⟩) 160 cp) row := URow.of_owns hlen.1 (by decide) hro
        have HUR := hideR hUr
        have HLR := hideR hLr
        have hvl : vs.length ≤ 320 := by have := HVA.out; have := HAK.out; omega
        obtain ⟨aoV, capV, rfl⟩ := shapeOf own1
        clear hrf2 hsome hlen hUr hLr hro
        go_wp2_with (at_builtin; refine wpList_append_lies _ rfl _ _ 27 rfl w.heap.size 45 i0 (.slice none 0 0) 1 24 Try.underlying27 hi hz0 hz1 hz2 rfl (by decide) _ _ _ rfl (own1.alloc _) ⟨w1.heap.size, 0, none⟩ 1 1 [.slice (some ⟨g, 0, none⟩) 160 cp] rfl rfl (World.news_of_block (heap_alloc_new _ _)) (by simp [Value.oneCell']) (by decide) (by simp only [maxLen]; omega) (by omega) (by simp; omega) (w1.heap.size + 1) (by simp) ?_)
        intro g2 cap3 w2 hown2 hgrow2 hat2 hlt2
        obtain ⟨hv1, hv2, hr2, hk2, hb2⟩ := bF1.appended (by decide) own1 hsz1 (by omega) hown2 hgrow2
        have hc1' := hv1.cell
        have hf1' := hv1.frozen
        have hbr1 := ((bR1.alloc (.cells #[.slice (some ⟨g, 0, none⟩) 160 cp] 45)).kept hgrow2 (bR1.not_row (by decide) own1)).other (B' := w.heap.size + 1) (by omega) (.slice (some ⟨g2, 0, none⟩) (vs.length + 1) cap3)
        have hku := fun k cs fr e => rows_put (u2 := .slice (some ⟨g2, 0, none⟩) (vs.length + 1) cap3) own1 bF1 hgrow2 k cs fr e
        have U2 : Hid (∀ (y : Nat) u row', (vs ++ [.slice (some ⟨g, 0, none⟩) 160 cp])[y]? = some u → (A ++ [row])[y]? = some row' → URow (w2.setCell ⟨w.heap.size + 1, 0, none⟩ (.slice (some ⟨g2, 0, none⟩) (vs.length + 1) cap3)) u row') := by
          intro y u row' hy hr
          have lift : ∀ u row', URow w1 u row' → URow (w2.setCell ⟨w.heap.size + 1, 0, none⟩ (.slice (some ⟨g2, 0, none⟩) (vs.length + 1) cap3)) u row' := by
            rintro u row' ⟨g, cap, cur, fr, hv, hc, hh, ht⟩
            exact ⟨g, cap, cur, fr, hv, hc, hku _ _ _ hh, ht⟩
          by_cases hyk : y < vs.length
          · rw [List.getElem?_append_left hyk] at hy
            rw [List.getElem?_append_left (by rw [← HVA.out]; exact hyk)] at hr
            exact lift _ _ (U1.out y u row' hy hr)
          · rw [List.getElem?_append_right (by omega)] at hy
            rw [List.getElem?_append_right (by rw [← HVA.out]; omega)] at hr
            have hy0 : y - vs.length = 0 := by have := (List.getElem?_eq_some_iff.1 hy).1; simp at this; omega
            rw [hy0] at hy
            rw [← HVA.out, hy0] at hr
            obtain rfl := Option.some.inj hy
            obtain rfl := Option.some.inj hr
            exact lift _ _ HUR.out
        have hnx3 := hnx1.trans hb2
        clear hgrow2 hat2 hown2 own1 bF1 bR1 U1 hku hk2 hb2 cR fR cF
        go_wp2
        go_roundw
        case rel => exact ⟨k + 1, A ++ [row], rest', Value.slice (some ⟨g2, 0, none⟩) (vs.length + 1) cap3, vs ++ [Value.slice (some ⟨g, 0, none⟩) 160 cp], hkl, by go_num, HRF2.out, HLR.out, ⟨_, _, rfl⟩, hv2, by simpa using hr2, by simp [HVA.out], U2.out, hbr1, hnx3⟩
        case measure => simp [intOf]; omega
    · obtain rfl : k = N := by omega
      have cR := hbR.cell
      have fR := hbR.frozen
      have cF := hbF.cell
      clear hall
      by_cases hr0 : (rest.length : Int) = 0
      · have hre : rest = [] := List.eq_nil_of_length_eq_zero (by omega)
        have hF : picF bs = (A, 0) := picF_good H2N.out HPX.out (by omega) (by rw [hrf.out, hre])
        have HF := hideR hF
        have hT : TPic wr v A := ⟨vs, w.heap.size, hown, hvA, hU.out⟩
        have hT2 := hT.set (p := ⟨w.heap.size, 0, none⟩) (show wr.heap[w.heap.size]? = _ from hbR) (by decide) (by decide) v
        have hb9 := hnx.setCell (p := ⟨w.heap.size, 0, none⟩) (Nat.le_refl _) v
        obtain ⟨aoV, capV, rfl⟩ := shapeOf hown
        clear hF hre hT hown hU hbR hbF hvA hAk
        go_wp2
        refine bodyPost_ret (v := .tuple #[.agg #[.slice aoV vs.length capV], .int .i64 0]) (by simp [results, Try.results23, go_sem, cR, fR]) rfl ?_
        rw [HF.out]
        exact ⟨_, rfl, hT2, hb9⟩
      · have hF : picF bs = ([], 9) := picF_rest HPX.out hrf.out (fun e => hr0 (by rw [e]; rfl))
        have HF := hideR hF
        clear hF
        go_wp2
        have hb9 : Below w.heap.size w (wr.setCell ⟨w.heap.size, 0, none⟩ (.slice none 0 0)) := hnx.setCell (Nat.le_refl _) _
        refine bodyPost_ret (v := .tuple #[.agg #[.slice none 0 0], .int .i64 9]) (by simp [results, Try.results23, go_sem, cR, fR]) rfl ?_
        rw [HF.out]
        exact ⟨_, rfl, TPic.nil _, by first | exact hb9 | exact hnx⟩

theorem unpack_any (w : World) (v : Value) (bs : List Int) (hL : Lies w 1 v bs.length (bs.map (Value.int .u8))) (hb : Byt bs) (hs : bs.length ≤ 1000000) :
    Calls Try.prog 23 #[v] w fun e w' => ∃ v, e = .returned (.tuple #[.agg #[v], .int .i64 (picF bs).2]) ∧ TPic w' v (picF bs).1 ∧ Below w.heap.size w w' := by
  obtain ⟨n, ao, cap, rfl⟩ : ∃ n ao cap, v = .slice ao n cap := by obtain ⟨_, ao, cap, h, _⟩ := hL; exact ⟨_, _, _, h⟩
  by_cases h2 : (n : Int) < 2
  · exact unpack_short w ao n cap bs hL hb hs h2
  · by_cases hbig : 320 < pix bs 0 + 256 * pix bs 1
    · exact unpack_many w ao n cap bs hL hb hs (by omega) hbig
    · by_cases hc : cap = 2
      · exact unpack_at2 w ao n cap bs hL hb hs (by omega) (by omega) hc
      · exact unpack_over w ao n cap bs hL hb hs (by omega) (by omega) hc
end Go.Proofs.Ytbfdlfhidebjlaa.Cl
