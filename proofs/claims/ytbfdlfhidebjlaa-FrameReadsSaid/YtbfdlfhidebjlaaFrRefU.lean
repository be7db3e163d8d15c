/- The reference of package frame: a picture read of bytes. -/
import Derived.Test.YtbfdlfhidebjlaaFrUnW
namespace Go.Proofs.Ytbfdlfhidebjlaa.Cl
open Go.RowKit Go.Deep
set_option linter.unusedVariables false
set_option linter.unusedSimpArgs false

theorem pix_drop (bs : List Int) (a i : Nat) : pix (bs.drop a) i = pix bs (a + i) := by unfold pix; rw [List.getElem?_drop]
/-- A row that is being put together of its runs. -/
structure RowS (rest : List Int) (k : Nat) (row : List Int) : Prop where
  ap : ∀ j, j + 1 < k → pix rest (2 * j + 2) ≠ pix rest (2 * (j + 1) + 2)
  un : unp 160 [] (runsAt rest k) = (row, 0)
  le : row.length ≤ 160
theorem RowS.zero (rest : List Int) : RowS rest 0 [] := ⟨fun j h => by omega, rfl, by decide⟩
theorem RowS.next {rest row : List Int} {k : Nat} (h : RowS rest k row) (h1 : 1 ≤ pix rest (2 * k + 1)) (h2 : pix rest (2 * k + 1) + row.length ≤ 160) (h3 : ∀ j, j + 1 = k → pix rest (2 * j + 2) ≠ pix rest (2 * k + 2)) :
    RowS rest (k + 1) (row ++ List.replicate (pix rest (2 * k + 1)).toNat (pix rest (2 * k + 2))) :=
  ⟨fun j hj => by
    by_cases e : j + 1 = k
    · rw [e]; exact h3 j e
    · exact h.ap j (by omega), unp_run h.un h1 h2, by rw [List.length_append, List.length_replicate]; omega⟩
theorem RowS.done {rest row : List Int} {K : Nat} (h : RowS rest K row) (hK : pix rest 0 = K) (hl : 1 + 2 * K ≤ rest.length) (h160 : row.length = 160) : rowF rest = some (row, rest.drop (1 + 2 * K)) := by
  have hn : (pix rest 0).toNat = K := by rw [hK]; rfl
  have := rowF_good (b := rest) (row := row) (by rw [hn]; omega) (by rw [hn]; exact h.ap) (by rw [hn]; exact h.un) h160
  rwa [hn] at this
theorem RowS.not160 {rest row : List Int} {K : Nat} (h : RowS rest K row) (hK : pix rest 0 = K) (h160 : row.length ≠ 160) : rowF rest = none := by
  have hn : (pix rest 0).toNat = K := by rw [hK]; rfl
  exact rowF_bad (.inr (.inr (by rw [hn, h.un]; exact h160)))
theorem RowS.bad {rest row : List Int} {k K : Nat} (h : RowS rest k row) (hK : pix rest 0 = K) (hk : k < K) (hb : pix rest (2 * k + 1) < 1 ∨ 160 < pix rest (2 * k + 1) + row.length) : rowF rest = none :=
  rowF_run (k := k) (by rw [hK]; exact hk) h.un hb
theorem RowS.alike {rest row : List Int} {j K : Nat} (hK : pix rest 0 = K) (hk : j + 1 < K) (he : pix rest (2 * j + 2) = pix rest (2 * (j + 1) + 2)) : rowF rest = none :=
  rowF_bad (.inl fun h => h j (by rw [hK]; exact hk) he)
theorem short_row {rest : List Int} {k K : Nat} (hK : pix rest 0 = K) (hk : k < K) (h : rest.length ≤ 2 * k + 2) : rowF rest = none :=
  rowF_short (.inr (by rw [hK, Int.toNat_natCast]; omega))

theorem rows_kept {W w1 : World} {o : Obj} {v : Value} {n base : Nat} {xs : List Value} (hrow : W.ownsRow base 45 1 v n xs) (hgrow : (W.alloc o).grownBy w1 v.ownBlock) (k : Nat) (cs : Array Value) (fr : Nat × Nat) (e : W.heap[k]? = some (Obj.cells cs 5 fr)) :
    w1.heap[k]? = some (Obj.cells cs 5 fr) := by
  have hkl : k < W.heap.size := (Array.getElem?_eq_some_iff.1 e).1
  have k1 : some k ≠ v.ownBlock := by
    obtain ⟨_, ⟨rfl, _⟩ | ⟨g, cap, cur, rfl, _, hh, _⟩⟩ := hrow
    · simp [Value.ownBlock]
    · intro he
      simp only [Value.ownBlock, Option.some.injEq] at he
      subst he
      rw [e] at hh
      simp at hh
  rw [hgrow.block k (by simp; omega) k1, Below.heap_alloc _ _ _ hkl]
  exact e
set_option maxRecDepth 1000000 in
set_option maxHeartbeats 4000000 in
theorem refun_core (w : World) (ao : Option Addr) (n cap : Nat) (bs : List Int) (hL : Lies w 1 (.slice ao n cap) bs.length (bs.map (Value.int .u8))) (hb : Byt bs) (hs : bs.length ≤ 1000000) (h2 : 2 ≤ (n : Int)) (hbig : pix bs 0 + 256 * pix bs 1 ≤ 320) :
    Calls Try.prog 24 #[.slice ao n cap] w fun e w' => ∃ r, e = .returned (.tuple #[r, .int .i64 (picF bs).2]) ∧ TPic w' r (picF bs).1 ∧ Below w.heap.size w w' := by
  obtain ⟨i0, hi, hz0, hz1, hz2⟩ := info_parts info_u8
  obtain ⟨i1, hj, hy0, hy1, hy2⟩ := info_parts info_sl
  obtain ⟨hn, hcap, HC⟩ := bytesAt hL
  have HN := hideR hn
  have HB := hideR hb
  have hn6 : n ≤ 1000000 := by omega
  clear hL hn hb hs
  obtain ⟨b, off, rfl, hbl, hc⟩ := HC.out.resolve_left (by omega)
  have HCC := hideR hc
  have hc0 := hc 0 (by omega)
  have hc1 := hc 1 (by omega)
  rw [Nat.add_zero] at hc0
  have hp0 := pix_byt HB.out 0
  have hp1 := pix_byt HB.out 1
  obtain ⟨N, hN⟩ : ∃ N : Nat, pix bs 0 + 256 * pix bs 1 = N := ⟨(pix bs 0 + 256 * pix bs 1).toNat, by omega⟩
  have HPX := hideR hN
  have hw0 : IntKind.i64.wrap (pix bs 0) = pix bs 0 := IntWalk.i64_in _ (by omega)
  have hw1 : IntKind.i64.wrap (pix bs 1) = pix bs 1 := IntWalk.i64_in _ (by omega)
  have hN320 : (N : Int) ≤ 320 := by omega
  have h2n : 2 ≤ bs.length := by have := HN.out; omega
  have H2N := hideR h2n
  generalize hP0 : pix bs 0 = p0 at *
  generalize hP1 : pix bs 1 = p1 at *
  have HPX : Hid (pix bs 0 + 256 * pix bs 1 = N) := by
    show pix bs 0 + 256 * pix bs 1 = N
    rw [hP0, hP1]; exact hN
  clear hc HC hbig h2n hP0 hP1
  have hd2 : decide ((n : Int) < 2) = false := decide_eq_false (by omega)
  have hd3 : decide (320 < p0 + 256 * p1) = false := decide_eq_false (by omega)
  go_enter Try.func24, Try.ntmps24
  go_wp2_with fail
  go_quiet (fail)
  go_wp2
  go_loopw [4, 5, 6] (fun s a i wr => ∃ (y at' : Nat) (A : List (List Int)) (vs : List Value), y ≤ N ∧ i = .int .i64 y ∧ a = .int .i64 at' ∧ at' ≤ n ∧ Hid (rowsF (bs.drop 2) y = some (A, bs.drop at')) ∧ wr.ownsRow w.heap.size 45 1 s vs.length vs ∧ Hid (vs.length = A.length ∧ (∀ (y : Nat) u row, vs[y]? = some u → A[y]? = some row → URow wr u row)) ∧ vs.length = y ∧ Below w.heap.size w wr)
    (fun _ _ i _ => N - (intOf i).toNat)
  case atStart => exact ⟨0, 2, [], [], Nat.zero_le _, rfl, rfl, by omega, rfl, World.ownsRow_nil _ _ _ _, ⟨rfl, fun y u row h => by (simp at h)⟩, rfl, below_drewN (Below.refl _ _) _⟩
  case round =>
    obtain ⟨y, at', A, vs, hy, rfl, rfl, hat, hrf, hown, hU, hvy, hnx⟩ := hrel
    have hsz := hnx.size
    have q0 := (hnx.cell (p := ⟨b, off, none⟩) hbl).trans hc0
    have q1 := (hnx.cell (p := ⟨b, off + 1, none⟩) hbl).trans hc1
    obtain ⟨aoS, capS, rfl⟩ := shapeOf hown
    have HVY := hideR hvy
    clear hvy
    by_cases hyl : y < N
    · have hyI : (y : Int) < p0 + 256 * p1 := by omega
      go_wp2_with fail
      go_quiet (fail)
      have hnx2 := below_drewN hnx nq
      have hV := below_drewN (Below.refl wr.heap.size wr) nq
      have hown2 := owns_below hown hV
      have hU2 : Hid (vs.length = A.length ∧ (∀ (y : Nat) u row, vs[y]? = some u → A[y]? = some row → URow (wr.drewN nq) u row)) := ⟨hU.out.1, fun y u row a b => (hU.out.2 y u row a b).below hV⟩
      clear hown hU hV hnx q0 q1
      generalize wr.drewN nq = W1 at *
      have hs1 := hnx2.size
      by_cases hatn : (n : Int) ≤ (at' : Int)
      · have hF : picF bs = ([], 9) := picF_fail HPX.out hyl (rowsF_fail hrf.out (rowF_short (.inl (by rw [List.length_drop, ← HN.out]; omega))))
        have HF := hideR hF
        clear hF
        go_wp2
        go_ret2
        rw [HF.out]
        exact ⟨_, rfl, TPic.nil _, hnx2⟩
      have hatl : at' < n := by omega
      have hca := (hnx2.cell (p := ⟨b, off + at', none⟩) hbl).trans (HCC.out at' hatl)
      have hpa := pix_byt HB.out at'
      obtain ⟨K, hK⟩ : ∃ K : Nat, pix bs at' = K := ⟨(pix bs at').toNat, by omega⟩
      rw [hK] at hca hpa
      have hKr : pix (bs.drop at') 0 = K := by rw [pix_drop, Nat.add_zero]; exact hK
      have HKR := hideR hKr
      have hrl : (bs.drop at').length = n - at' := by rw [List.length_drop, ← HN.out]
      have HRL := hideR hrl
      have hkk : (at' : Int) < (n : Int) := by omega
      have hkk0 : (0 : Int) ≤ (at' : Int) := by omega
      generalize hrest : bs.drop at' = rest at *
      have HREST := hideR hrest
      clear hK hKr hrl hrest
      go_wp2
      go_loopw [5, 8, 9] (fun a v i wr => ∃ (k at2 : Nat) (row : List Int), k ≤ K ∧ i = .int .i64 k ∧ a = .int .i64 at2 ∧ at2 = at' + 1 + 2 * k ∧ at2 ≤ n ∧ Hid (RowS rest k row) ∧ wr.ownsRow W1.heap.size 5 1 v row.length (row.map (Value.int .u8)) ∧ Below W1.heap.size W1 wr) (fun _ _ i _ => K - (intOf i).toNat)
      case atStart => exact ⟨0, at' + 1, [], Nat.zero_le _, rfl, by first | rfl | go_num, by omega, by omega, RowS.zero _, World.ownsRow_nil _ _ _ _, Below.refl _ _⟩
      case round =>
        obtain ⟨k, at2, row, hk, rfl, rfl, hat2, hat2n, HRS, hown3, hb3⟩ := hrel
        have HAT := hideR hat2
        have hw3 := hnx2.trans (hb3.mono hs1)
        have hs3 := hw3.size
        by_cases hkl : k < K
        · have hK256 : K ≤ 255 := by omega
          clear hc0 hp0 hw0 hc1 hp1 hw1 hN hd2 hd3 hN320 hy hyI hca hpa hkk hkk0 h2 hj hy0 hy1 hy2 hown2 hU2 hcap hsz
          obtain ⟨J, hJ⟩ : ∃ J : Nat, J = at2 + 1 := ⟨_, rfl⟩
          have hwJ : IntKind.i64.wrap ((at2 : Int) + 1) = J := by rw [IntWalk.i64_in _ (by omega)]; omega
          have hrl := HRL.out
          by_cases hJb : (n : Int) ≤ (J : Int)
          · have hga : decide ((n : Int) ≤ (J : Int)) = true := decide_eq_true hJb
            have hJbn : n ≤ J := by omega
            have hJbd : decide (n ≤ J) = true := decide_eq_true hJbn
            have HF0 : rowF rest = none := short_row HKR.out hkl (by omega)
            have hF : picF bs = ([], 9) := picF_fail HPX.out hyl (rowsF_fail hrf.out HF0)
            have HF := hideR hF
            clear hF hat2 hJ hrl hat hatl hatn hat2n hk hown3 hb3 hi hz0 hz1 hz2
            clear HF0
            go_wp2_with fail
            go_quiet (fail)
            go_wp2
            go_ret2
            rw [HF.out]
            exact ⟨_, rfl, TPic.nil _, hw3.trans (below_drewN (Below.refl _ _) nq |>.mono hw3.size)⟩
          have hJn : J < n := by omega
          have hga : decide ((n : Int) ≤ (J : Int)) = false := decide_eq_false hJb
          have hgan : decide (n ≤ J) = false := decide_eq_false (by omega)
          have hcc := (hw3.cell (p := ⟨b, off + at2, none⟩) hbl).trans (HCC.out at2 (by omega))
          have hxx := (hw3.cell (p := ⟨b, off + J, none⟩) hbl).trans (HCC.out J hJn)
          have hpC : pix bs at2 = pix rest (2 * k + 1) := by rw [← HREST.out, pix_drop]; congr 1; omega
          have hpX : pix bs J = pix rest (2 * k + 2) := by rw [← HREST.out, pix_drop]; congr 1; omega
          have hbc := pix_byt HB.out at2
          obtain ⟨c', hc'⟩ : ∃ c' : Nat, pix bs at2 = c' := ⟨(pix bs at2).toNat, by omega⟩
          have hC1 : pix rest (2 * k + 1) = c' := by rw [← hpC]; exact hc'
          obtain ⟨X, hX⟩ : ∃ X : Int, pix bs J = X := ⟨_, rfl⟩
          have hX1 : pix rest (2 * k + 2) = X := by rw [← hpX]; exact hX
          rw [hc'] at hcc hbc
          rw [hX] at hxx
          have HPC := hideR hc'
          have HPX2 := hideR hX
          have HC1 := hideR hC1
          have HX1 := hideR hX1
          have hle := HRS.out.le
          have hja : (J : Int) < (n : Int) := by omega
          have hj0 : (0 : Int) ≤ (J : Int) := by omega
          have hai : (at2 : Int) < (n : Int) := by omega
          have hai0 : (0 : Int) ≤ (at2 : Int) := by omega
          have hwc : IntKind.i64.wrap (c' : Int) = c' := IntWalk.i64_in _ (by omega)
          have hwl : IntKind.i64.wrap ((row.length : Int) + c') = row.length + c' := IntWalk.i64_in _ (by omega)
          obtain ⟨ao3, cap3, rfl⟩ := shapeOf hown3
          have hnext2 : at2 + 2 ≤ n := by omega
          clear hJ hat2 hpC hpX hc' hX hC1 hX1 hJb hrl hat hatl hatn hat2n hk
          by_cases hc0' : c' = 0
          · have hcb : ((c' : Int) == 0) = !false := by rw [hc0']; rfl
            have HF0 : rowF rest = none := HRS.out.bad HKR.out hkl (.inl (by rw [HC1.out]; omega))
            have hF : picF bs = ([], 9) := picF_fail HPX.out hyl (rowsF_fail hrf.out HF0)
            have HF := hideR hF
            clear hF hwc hwl hc0' hbc hle hxx hja hj0 hown3 hb3 hi hz0 hz1 hz2
            clear HF0
            go_wp2_with fail
            go_quiet (fail)
            go_wp2
            go_ret2
            rw [HF.out]
            exact ⟨_, rfl, TPic.nil _, hw3.trans (below_drewN (Below.refl _ _) nq |>.mono hw3.size)⟩
          have hcb : ((c' : Int) == 0) = false := by simpa using hc0'
          by_cases hlong : 160 < (row.length : Int) + (c' : Int)
          · have hgl : decide (160 < (row.length : Int) + (c' : Int)) = !false := decide_eq_true hlong
            have HF0 : rowF rest = none := HRS.out.bad HKR.out hkl (.inr (by rw [HC1.out]; omega))
            have hF : picF bs = ([], 9) := picF_fail HPX.out hyl (rowsF_fail hrf.out HF0)
            have HF := hideR hF
            clear hF hc0' hlong hle hxx hja hj0 hown3 hb3 hi hz0 hz1 hz2
            clear HF0
            go_wp2_with fail
            go_quiet (fail)
            go_wp2
            go_ret2
            rw [HF.out]
            exact ⟨_, rfl, TPic.nil _, hw3.trans (below_drewN (Below.refl _ _) nq |>.mono hw3.size)⟩
          have hgl : decide (160 < (row.length : Int) + (c' : Int)) = false := decide_eq_false hlong
          have hcpos : 1 ≤ c' := by omega
          have hsum : (row.length : Int) + (c' : Int) ≤ 160 := by omega
          clear hlong hc0'
          have hcase : k = 0 ∨ ∃ j, k = j + 1 := by cases k with
            | zero => exact .inl rfl
            | succ j => exact .inr ⟨j, rfl⟩
          have HO := hideR hown3
          rcases hcase with hk0 | ⟨j, hkj⟩
          · have hpos : decide ((0 : Int) < (k : Int)) = false := decide_eq_false (by omega)
            have hposn : decide (0 < k) = false := decide_eq_false (by omega)
            have hdiff : ∀ j, j + 1 = k → pix rest (2 * j + 2) ≠ pix rest (2 * k + 2) := fun j h => by omega
            clear hk0 hown3
            go_wp2_with fail
            go_quiet (fail)
            have hnx4 := below_drewN hb3 nq
            have hown4 := owns_below HO.out (below_drewN (Below.refl wr.heap.size wr) nq)
            have hV4 := below_drewN (Below.refl wr.heap.size wr) nq
            have cc4 := (hV4.cell (p := ⟨b, off + at2, none⟩) (by show b < _; omega)).trans hcc
            have cx4 := (hV4.cell (p := ⟨b, off + J, none⟩) (by show b < _; omega)).trans hxx
            clear hb3 HO hV4 hcc hxx
            generalize wr.drewN nq = V at *
            go_wp2
            clear hga hcb hgl hpos hposn
            go_loopw [8, 10] (fun v i wr => ∃ m : Nat, m ≤ c' ∧ i = .int .i64 m ∧ wr.ownsRow W1.heap.size 5 1 v (row ++ List.replicate m X).length ((row ++ List.replicate m X).map (Value.int .u8)) ∧ Below W1.heap.size W1 wr) (fun _ i _ => c' - (intOf i).toNat)
            case atStart => exact ⟨0, Nat.zero_le _, rfl, by simpa using hown4, hnx4⟩
            case round =>
              obtain ⟨m, hm, rfl, hown5, hnx5⟩ := hrel
              clear hown4 hnx4 cc4 cx4
              have hw5 := hnx2.trans (hnx5.mono hs1)
              have cc5 := (hw5.cell (p := ⟨b, off + at2, none⟩) hbl).trans (HCC.out at2 (by omega))
              have cx5 := (hw5.cell (p := ⟨b, off + J, none⟩) hbl).trans (HCC.out J hJn)
              rw [HPC.out] at cc5
              rw [HPX2.out] at cx5
              have hs5 := hnx5.size
              by_cases hml : m < c'
              · obtain ⟨ao5, cap5, rfl⟩ := shapeOf hown5
                have hl5 : (row ++ List.replicate m X).length ≤ 160 := by rw [List.length_append, List.length_replicate]; omega
                have hrep : (row ++ List.replicate (m + 1) X) = (row ++ List.replicate m X) ++ [X] := by rw [List.replicate_succ', List.append_assoc]
                have HREP := hideR hrep
                generalize row ++ List.replicate m X = E at *
                have mc : (m : Int) < (c' : Int) := by omega
                clear hrep hw5
                go_wp2_with (at_builtin; refine wpList_append_lies _ rfl _ _ 45 rfl W1.heap.size 5 i0 (.int .u8 0) 1 1 Try.underlying45 hi hz0 hz1 hz2 rfl (by decide) _ _ _ rfl (hown5.alloc _) ⟨wr.heap.size, 0, none⟩ 1 1 [.int .u8 X] rfl rfl (World.news_of_block (heap_alloc_new _ _)) (by simp [Value.oneCell']) (by decide) (by simp only [maxLen]; omega) (by omega) (by simp; omega) (wr.heap.size + 1) (by simp) ?_)
                intro g6 cap6 w6 hown6 hgrow6 hat6 hlt6
                have hb6 := (hnx5.alloc hs5 (.cells #[.int .u8 X] 5)).grown hgrow6 (by simp; omega) (fun j hj => (hown5.lt j hj).1)
                clear hgrow6 hat6 hown5
                go_wp2
                go_roundw
                case rel => exact ⟨m + 1, hml, by go_num, by rw [HREP.out, List.length_append, List.map_append]; exact hown6, hb6⟩
                case measure => simp [intOf]; omega
              · obtain rfl : m = c' := by omega
                have hnext := HRS.out.next (by rw [HC1.out]; omega) (by rw [HC1.out]; omega) hdiff
                rw [HC1.out, HX1.out, Int.toNat_natCast] at hnext
                have mc : ¬ (m : Int) < (m : Int) := by omega
                have hw2 : IntKind.i64.wrap ((at2 : Int) + 2) = ((at2 + 2 : Nat) : Int) := by rw [IntWalk.i64_in _ (by omega)]; push_cast; rfl
                have HNEXT := hideR hnext
                clear hnext hw5
                go_wp2
                go_roundw
                case rel => exact ⟨k + 1, at2 + 2, row ++ List.replicate m X, hkl, by go_num, by first | rfl | go_num, by have := HAT.out; omega, hnext2, HNEXT.out, hown5, hnx5⟩
                case measure => simp [intOf]; omega
          · have hlast := unp_last HRS.out.un (by omega)
            rw [show k - 1 = j from by omega] at hlast
            have HKJ := hideR hkj
            obtain ⟨hl0, hlY⟩ := hlast
            obtain ⟨g3, hg3⟩ : ∃ g3, ao3 = some ⟨g3, 0, none⟩ := by
              obtain ⟨_, ⟨h, h0⟩ | ⟨g, cap', cur, h, _⟩⟩ := hown3
              · omega
              · cases h; exact ⟨g, rfl⟩
            subst hg3
            obtain ⟨R, hR⟩ : ∃ R : Nat, R = row.length - 1 := ⟨_, rfl⟩
            have hwR : IntKind.i64.wrap ((row.length : Int) - 1) = R := by rw [IntWalk.i64_in _ (by omega)]; omega
            have hrl2 : (R : Int) < (row.length : Int) := by omega
            have hcR : wr.cell? ⟨g3, R, none⟩ = some (.int .u8 (pix row R)) := by
              rw [hown3.cellAt R (by omega), List.getElem?_map]
              unfold pix
              rw [List.getElem?_eq_getElem (by omega)]; rfl
            rw [hR] at hcR
            rw [hlY, ← hR] at hcR
            generalize hY : pix rest (2 * j + 2) = Y at *
            have HY := hideR hY
            have hpos : decide ((0 : Int) < (k : Int)) = true := decide_eq_true (by omega)
            have h0k : 0 < k := by omega
            have h0ki : (0 : Int) < (k : Int) := by omega
            clear hown3 hlY hY hR hkj
            by_cases hYX : Y = X
            · have hyx : (Y == X) = true := by rw [hYX]; simp
              have HF0 : rowF rest = none := RowS.alike (row := row) (j := j) HKR.out (by have := HKJ.out; omega) (by rw [HY.out, ← HKJ.out, HX1.out]; exact hYX)
              have hF : picF bs = ([], 9) := picF_fail HPX.out hyl (rowsF_fail hrf.out HF0)
              have HF := hideR hF
              clear hF hYX hle hi hz0 hz1 hz2 hb3 hcpos hsum
              clear HF0
              go_wp2_with fail
              go_quiet (fail)
              go_wp2
              go_ret2
              rw [HF.out]
              exact ⟨_, rfl, TPic.nil _, hw3.trans (below_drewN (Below.refl _ _) nq |>.mono hw3.size)⟩
            have hyx : (Y == X) = false := by simpa using hYX
            have hdiff : ∀ j', j' + 1 = k → pix rest (2 * j' + 2) ≠ pix rest (2 * k + 2) := fun j' h => by
              have := HKJ.out
              obtain rfl : j' = j := by omega
              rw [HY.out, HX1.out]; exact hYX
            clear hYX
            go_wp2_with fail
            go_quiet (fail)
            clear hcR
            have hnx4 := below_drewN hb3 nq
            have hown4 := owns_below HO.out (below_drewN (Below.refl wr.heap.size wr) nq)
            have hV4 := below_drewN (Below.refl wr.heap.size wr) nq
            have cc4 := (hV4.cell (p := ⟨b, off + at2, none⟩) (by show b < _; omega)).trans hcc
            have cx4 := (hV4.cell (p := ⟨b, off + J, none⟩) (by show b < _; omega)).trans hxx
            clear hb3 HO hV4 hcc hxx
            generalize wr.drewN nq = V at *
            go_wp2
            clear hga hcb hgl hpos hyx h0k h0ki hwR hrl2
            go_loopw [8, 10] (fun v i wr => ∃ m : Nat, m ≤ c' ∧ i = .int .i64 m ∧ wr.ownsRow W1.heap.size 5 1 v (row ++ List.replicate m X).length ((row ++ List.replicate m X).map (Value.int .u8)) ∧ Below W1.heap.size W1 wr) (fun _ i _ => c' - (intOf i).toNat)
            case atStart => exact ⟨0, Nat.zero_le _, rfl, by simpa using hown4, hnx4⟩
            case round =>
              obtain ⟨m, hm, rfl, hown5, hnx5⟩ := hrel
              clear hown4 hnx4 cc4 cx4
              have hw5 := hnx2.trans (hnx5.mono hs1)
              have cc5 := (hw5.cell (p := ⟨b, off + at2, none⟩) hbl).trans (HCC.out at2 (by omega))
              have cx5 := (hw5.cell (p := ⟨b, off + J, none⟩) hbl).trans (HCC.out J hJn)
              rw [HPC.out] at cc5
              rw [HPX2.out] at cx5
              have hs5 := hnx5.size
              by_cases hml : m < c'
              · obtain ⟨ao5, cap5, rfl⟩ := shapeOf hown5
                have hl5 : (row ++ List.replicate m X).length ≤ 160 := by rw [List.length_append, List.length_replicate]; omega
                have hrep : (row ++ List.replicate (m + 1) X) = (row ++ List.replicate m X) ++ [X] := by rw [List.replicate_succ', List.append_assoc]
                have HREP := hideR hrep
                generalize row ++ List.replicate m X = E at *
                have mc : (m : Int) < (c' : Int) := by omega
                clear hrep hw5
                go_wp2_with (at_builtin; refine wpList_append_lies _ rfl _ _ 45 rfl W1.heap.size 5 i0 (.int .u8 0) 1 1 Try.underlying45 hi hz0 hz1 hz2 rfl (by decide) _ _ _ rfl (hown5.alloc _) ⟨wr.heap.size, 0, none⟩ 1 1 [.int .u8 X] rfl rfl (World.news_of_block (heap_alloc_new _ _)) (by simp [Value.oneCell']) (by decide) (by simp only [maxLen]; omega) (by omega) (by simp; omega) (wr.heap.size + 1) (by simp) ?_)
                intro g6 cap6 w6 hown6 hgrow6 hat6 hlt6
                have hb6 := (hnx5.alloc hs5 (.cells #[.int .u8 X] 5)).grown hgrow6 (by simp; omega) (fun j hj => (hown5.lt j hj).1)
                clear hgrow6 hat6 hown5
                go_wp2
                go_roundw
                case rel => exact ⟨m + 1, hml, by go_num, by rw [HREP.out, List.length_append, List.map_append]; exact hown6, hb6⟩
                case measure => simp [intOf]; omega
              · obtain rfl : m = c' := by omega
                have hnext := HRS.out.next (by rw [HC1.out]; omega) (by rw [HC1.out]; omega) hdiff
                rw [HC1.out, HX1.out, Int.toNat_natCast] at hnext
                have mc : ¬ (m : Int) < (m : Int) := by omega
                have hw2 : IntKind.i64.wrap ((at2 : Int) + 2) = ((at2 + 2 : Nat) : Int) := by rw [IntWalk.i64_in _ (by omega)]; push_cast; rfl
                have HNEXT := hideR hnext
                clear hnext hw5
                go_wp2
                go_roundw
                case rel => exact ⟨k + 1, at2 + 2, row ++ List.replicate m X, hkl, by go_num, by first | rfl | go_num, by have := HAT.out; omega, hnext2, HNEXT.out, hown5, hnx5⟩
                case measure => simp [intOf]; omega
        · obtain rfl : k = K := by omega
          have hrl3 := HRL.out
          by_cases h160 : row.length = 160
          · have hI : (row.length : Int) = 160 := by omega
            have hdone := HRS.out.done HKR.out (by omega) h160
            have hrd : rest.drop (1 + 2 * k) = bs.drop at2 := by rw [← HREST.out, List.drop_drop]; congr 1; omega
            rw [hrd] at hdone
            have hrf2 := rowsF_more hrf.out hdone
            have HRF2 := hideR hrf2
            obtain ⟨ao8, cap8, rfl⟩ := shapeOf hown3
            have hU8 : URow wr (.slice ao8 row.length cap8) row := by
              have h9 := hown3
              rw [h160] at h9 ⊢
              exact URow.of_owns h160 (by decide) h9
            have HU8 := hideR hU8
            have hownS := owns_below hown2 hb3
            have US : Hid (∀ (y : Nat) u row, vs[y]? = some u → A[y]? = some row → URow wr u row) := fun y u row a b => (hU2.out.2 y u row a b).below hb3
            have hvl : vs.length ≤ 320 := by have := HVY.out; omega
            clear hat2 h160 hdone hrd hrf2 hU8 hown3 hrl3
            go_wp2_with (at_builtin; refine wpList_append_lies _ rfl _ _ 27 rfl w.heap.size 45 i1 (.slice none 0 0) 1 24 Try.underlying27 hj hy0 hy1 hy2 rfl (by decide) _ _ _ rfl (hownS.alloc _) ⟨wr.heap.size, 0, none⟩ 1 1 [.slice ao8 row.length cap8] rfl rfl (World.news_of_block (heap_alloc_new _ _)) (by simp [Value.oneCell']) (by decide) (by simp only [maxLen]; omega) (by omega) (by simp; omega) (wr.heap.size + 1) (by simp) ?_)
            intro g9 cap9 w9 hown9 hgrow9 hat9 hlt9
            have hb9 := (hw3.alloc hs3 (.cells #[.slice ao8 row.length cap8] 45)).grown hgrow9 (by simp; omega) (fun j hj => (hownS.lt j hj).1)
            have U9 : Hid ((vs ++ [Value.slice ao8 row.length cap8]).length = (A ++ [row]).length ∧ (∀ (y : Nat) u row', (vs ++ [Value.slice ao8 row.length cap8])[y]? = some u → (A ++ [row])[y]? = some row' → URow w9 u row')) := by
              have lift : ∀ u row', URow wr u row' → URow w9 u row' := by
                rintro u row' ⟨g, cap, cur, fr, hv, hc, hh, ht⟩
                exact ⟨g, cap, cur, fr, hv, hc, rows_kept hownS hgrow9 _ _ _ hh, ht⟩
              refine ⟨by simp [hU2.out.1], fun y u row' hy hr => ?_⟩
              by_cases hyk : y < vs.length
              · rw [List.getElem?_append_left hyk] at hy
                rw [List.getElem?_append_left (by rw [← hU2.out.1]; exact hyk)] at hr
                exact lift _ _ (US.out y u row' hy hr)
              · rw [List.getElem?_append_right (by omega)] at hy
                rw [List.getElem?_append_right (by rw [← hU2.out.1]; omega)] at hr
                have hy0 : y - vs.length = 0 := by have := (List.getElem?_eq_some_iff.1 hy).1; simp at this; omega
                rw [hy0] at hy
                rw [← hU2.out.1, hy0] at hr
                obtain rfl := Option.some.inj hy
                obtain rfl := Option.some.inj hr
                exact lift _ _ HU8.out
            clear hgrow9 hat9 hownS
            go_wp2
            go_roundw
            case rel => exact ⟨y + 1, at2, A ++ [row], vs ++ [Value.slice ao8 row.length cap8], hyl, by go_num, rfl, hat2n, HRF2.out, by simpa using hown9, U9.out, by simp [HVY.out], hb9⟩
            case measure => simp [intOf]; omega
          · have hI : ¬ (row.length : Int) = 160 := by omega
            have HF0 : rowF rest = none := HRS.out.not160 HKR.out h160
            have hF : picF bs = ([], 9) := picF_fail HPX.out hyl (rowsF_fail hrf.out HF0)
            have HF := hideR hF
            obtain ⟨ao8, cap8, rfl⟩ := shapeOf hown3
            clear hF HF0 hat2 hrl3 h160
            go_wp2
            go_ret2
            rw [HF.out]
            exact ⟨_, rfl, TPic.nil _, hw3⟩
    · obtain rfl : y = N := by omega
      have hyI : ¬ (y : Int) < p0 + 256 * p1 := by omega
      have hTP : TPic wr (.slice aoS vs.length capS) A := ⟨vs, w.heap.size, hown, hU.out.1, hU.out.2⟩
      have HTP := hideR hTP
      clear hTP hown hU
      by_cases hend : (at' : Int) = n
      · have hF : picF bs = (A, 0) := picF_good H2N.out HPX.out (by omega) (by rw [hrf.out, List.drop_eq_nil_of_le (by have := HN.out; omega)])
        have HF := hideR hF
        clear hF
        go_wp2_with fail
        go_quiet (fail)
        go_wp2
        go_ret2
        rw [HF.out]
        exact ⟨_, rfl, HTP.out.below (below_drewN (Below.refl _ _) nq), below_drewN hnx _⟩
      · have hF : picF bs = ([], 9) := picF_rest HPX.out hrf.out (fun e => by
          have h1 : (bs.drop at').length = 0 := by rw [e]; rfl
          rw [List.length_drop] at h1
          have := HN.out
          omega)
        have HF := hideR hF
        clear hF
        go_wp2_with fail
        go_quiet (fail)
        go_wp2
        go_ret2
        rw [HF.out]
        exact ⟨_, rfl, TPic.nil _, below_drewN hnx _⟩
end Go.Proofs.Ytbfdlfhidebjlaa.Cl
