/- The laws of package frame: what the chapter's examples say comes to true. -/
import Derived.Test.YtbfdlfhidebjlaaFrFeed
import Derived.Test.YtbfdlfhidebjlaaFrPack
import Derived.Test.YtbfdlfhidebjlaaFrStr
namespace Go.Proofs.Ytbfdlfhidebjlaa.Cl
open Go.RowKit Go.Deep
set_option linter.unusedVariables false
set_option linter.unusedSimpArgs false

theorem st1 : FSt.feed ⟨blankM, 0, false, false⟩ 0 0 true = ⟨blankM, 1, false, true⟩ := rfl
theorem st2 : FSt.feed ⟨blankM, 1, false, true⟩ 68 30 false = ⟨setM blankM 0 0 30, 1, false, true⟩ := by
  unfold FSt.feed
  rw [if_neg (by decide), if_pos (by refine ⟨by decide, rfl, ?_, by decide⟩; show 0 < 1; decide)]
  rfl
theorem st3 (M : List (List Int)) : FSt.feed ⟨M, 1, false, true⟩ 0 0 false = ⟨M, 2, false, false⟩ := rfl
theorem st4 (M : List (List Int)) : FSt.pic ⟨M, 2, false, false⟩ 0 true = M.take 2 := rfl
theorem st4t (M : List (List Int)) : FSt.told ⟨M, 2, false, false⟩ 0 true = true := rfl
theorem rows2 : (setM blankM 0 0 30).take 2 = [(List.replicate 160 (0 : Int)).set 0 30, List.replicate 160 0] := by decide +kernel
theorem packOne : packF [List.replicate 160 0] = ([1, 0, 1, 160, 0], 0) := by decide +kernel
theorem first_cell {W : World} {v : Value} {r0 r1 : List Int} {x : Int} {n : Nat} (hl : r0.length = n) (hx : r0[0]? = some x) (h : Pic W v [r0, r1]) : ∃ b off cap b' off' cap', v = .slice (some ⟨b, off, none⟩) 2 cap ∧ W.cell? ⟨b, off, none⟩ = some (.slice (some ⟨b', off', none⟩) n cap') ∧ W.cell? ⟨b', off', none⟩ = some (.int .u8 x) := by
  obtain ⟨vs, ⟨_, ao, cap, rfl, _, hcs⟩, hl2, hy⟩ := h
  have h2 : vs.length = 2 := hl2
  obtain ⟨b, off, rfl, hb, hc⟩ := hcs.resolve_left (by omega)
  have e0 : vs[0]? = some (vs[0]'(by omega)) := List.getElem?_eq_getElem _
  obtain ⟨_, ao', cap', hv, _, hcs'⟩ := hy 0 _ _ e0 rfl
  have hpos : 0 < r0.length := (List.getElem?_eq_some_iff.1 hx).1
  obtain ⟨b', off', rfl, _, hc'⟩ := hcs'.resolve_left (by omega)
  refine ⟨b, off, cap, b', off', cap', by rw [h2], ?_, ?_⟩
  · have := hc 0 _ e0
    rw [Nat.add_zero] at this
    rw [this, hv, hl]
  · have := hc' 0 (.int .u8 x) (by rw [List.getElem?_map, hx]; rfl)
    rwa [Nat.add_zero] at this

set_option maxRecDepth 100000 in
theorem awake_any (w : World) : Calls Try.prog 19 #[] w fun e w' => e = .returned (.bool true) ∧ Below w.heap.size w w' := by
  go_enter Try.func19, Try.ntmps19
  go_wp2_with fail
  refine (new_any w).mono ?_
  rintro e w1 ⟨P, rfl, hP, hM1, hb1⟩
  have hs1 := hb1.size
  have k1 := feed_any w1 w.heap.size P ⟨blankM, 0, false, false⟩ 0 false true 0 0 false 0 hM1 hs1 0 (by decide) (by decide)
  rw [st1] at k1
  unfold recV at k1
  go_wp2_with fail
  refine k1.mono ?_
  rintro e w2 ⟨v2, rfl, _, hM2, hb2⟩
  have hb2 := hb1.trans hb2
  have hs2 := hb2.size
  clear k1 hM1 hb1 hs1
  have k1 := feed_any w2 w.heap.size P ⟨blankM, 1, false, true⟩ 30 false false 0 0 false 0 hM2 hs2 68 (by decide) (by decide)
  rw [st2] at k1
  unfold recV at k1
  go_wp2_with fail
  refine k1.mono ?_
  rintro e w3 ⟨v3, rfl, _, hM3, hb3⟩
  have hb3 := hb2.trans hb3
  have hs3 := hb3.size
  clear k1 hM2 hb2 hs2
  have k1 := feed_any w3 w.heap.size P ⟨setM blankM 0 0 30, 1, false, true⟩ 0 false false 0 0 false 0 hM3 hs3 0 (by decide) (by decide)
  rw [st3] at k1
  unfold recV at k1
  go_wp2_with fail
  refine k1.mono ?_
  rintro e w4 ⟨v4, rfl, _, hM4, hb4⟩
  have hb4 := hb3.trans hb4
  have hs4 := hb4.size
  clear k1 hM3 hb3 hs3
  have k1 := feed_any w4 w.heap.size P ⟨setM blankM 0 0 30, 2, false, false⟩ 0 false true 0 0 false 0 hM4 hs4 0 (by decide) (by decide)
  rw [st4, st4t, rows2] at k1
  unfold recV at k1
  go_wp2_with fail
  refine k1.mono ?_
  rintro e w5 ⟨v, rfl, hP5, _, hb5⟩
  have hb5 := hb4.trans hb5
  have hs5 := hb5.size
  clear k1 hM4 hb4 hs4
  obtain ⟨b, off, cap, b', off', cap', rfl, hc, hc'⟩ := first_cell (n := 160) rfl rfl hP5.pic
  have hbl := block_lt_of_cell hc
  have hbl' := block_lt_of_cell hc'
  have hmk : ∀ w, (Instr.makeSlice 45 (.int .i64 160) (.int .i64 160)).run Try.prog w = _ := run_make_row' (P := Try.prog) 45 5 (.int .u8 0) 1 Try.underlying45 info_u8 rfl .i64 .i64 160 (by decide) (by decide)
  go_wp2_with fail
  have q0 : (((w5.alloc (.cells #[.slice (some ⟨b, off, none⟩) 2 cap] 33)).alloc (.cells (madeCells #[.int .u8 0] 160) 5)).alloc (.cells #[.slice (some ⟨w5.heap.size + 1, 0, none⟩) 160 160] 45)).heap[w5.heap.size]? = some (Obj.cells #[.slice (some ⟨b, off, none⟩) 2 cap] 33 (0, 0)) := (Below.heap_alloc _ _ _ (by simp; omega)).trans ((Below.heap_alloc _ _ _ (by simp)).trans (heap_alloc_new w5 _))
  have q1 : (((w5.alloc (.cells #[.slice (some ⟨b, off, none⟩) 2 cap] 33)).alloc (.cells (madeCells #[.int .u8 0] 160) 5)).alloc (.cells #[.slice (some ⟨w5.heap.size + 1, 0, none⟩) 160 160] 45)).heap[w5.heap.size + 1]? = some (Obj.cells ((List.replicate 160 (0 : Int)).map (Value.int .u8)).toArray 5 (0, 0)) := by
    refine (Below.heap_alloc _ _ _ (by simp)).trans ?_
    have := heap_alloc_new (w5.alloc (.cells #[.slice (some ⟨b, off, none⟩) 2 cap] 33)) (.cells (madeCells #[.int .u8 0] 160) 5)
    rw [World.size_alloc, made_row] at this
    rw [made_row, this]; rfl
  have q2 : (((w5.alloc (.cells #[.slice (some ⟨b, off, none⟩) 2 cap] 33)).alloc (.cells (madeCells #[.int .u8 0] 160) 5)).alloc (.cells #[.slice (some ⟨w5.heap.size + 1, 0, none⟩) 160 160] 45)).heap[w5.heap.size + 1 + 1]? = some (Obj.cells [.slice (some ⟨w5.heap.size + 1, 0, none⟩) 160 160].toArray 45 (0, 0)) := by
    have := heap_alloc_new ((w5.alloc (.cells #[.slice (some ⟨b, off, none⟩) 2 cap] 33)).alloc (.cells (madeCells #[.int .u8 0] 160) 5)) (.cells #[.slice (some ⟨w5.heap.size + 1, 0, none⟩) 160 160] 45)
    rw [World.size_alloc, World.size_alloc] at this
    exact this
  have hbV : Below w5.heap.size w5 (((w5.alloc (.cells #[.slice (some ⟨b, off, none⟩) 2 cap] 33)).alloc (.cells (madeCells #[.int .u8 0] 160) 5)).alloc (.cells #[.slice (some ⟨w5.heap.size + 1, 0, none⟩) 160 160] 45)) := (((Below.refl _ w5).alloc (Nat.le_refl _) _).alloc (by simp) _).alloc (by simp; omega) _
  have hsV : (((w5.alloc (.cells #[.slice (some ⟨b, off, none⟩) 2 cap] 33)).alloc (.cells (madeCells #[.int .u8 0] 160) 5)).alloc (.cells #[.slice (some ⟨w5.heap.size + 1, 0, none⟩) 160 160] 45)).heap.size = w5.heap.size + 3 := by simp
  generalize (((w5.alloc (.cells #[.slice (some ⟨b, off, none⟩) 2 cap] 33)).alloc (.cells (madeCells #[.int .u8 0] 160) 5)).alloc (.cells #[.slice (some ⟨w5.heap.size + 1, 0, none⟩) 160 160] 45)) = V at *
  have hPic : Pic V (.slice (some ⟨w5.heap.size + 1 + 1, 0, none⟩) 1 1) [List.replicate 160 0] := by
    refine ⟨[.slice (some ⟨w5.heap.size + 1, 0, none⟩) 160 160], lies_block q2 rfl (by decide), rfl, fun y u row hy hr => ?_⟩
    cases y with
    | succ y => simp at hy
    | zero =>
      obtain rfl := Option.some.inj hy
      obtain rfl := Option.some.inj hr
      exact lies_block q1 (by simp) (by simp)
  have kp := pack_pic V _ _ hPic (by intro row hr; rw [List.mem_singleton.1 hr]; simp)
  rw [packOne] at kp
  have cV := (hbV.cell (p := ⟨b, off, none⟩) hbl).trans hc
  have cV' := (hbV.cell (p := ⟨b', off', none⟩) hbl').trans hc'
  have cf : V.cell? ⟨w5.heap.size, 0, none⟩ = some (.slice (some ⟨b, off, none⟩) 2 cap) := by rw [cell_of_row V _ 0 _ _ _ q0]; rfl
  have hbl2 : w5.heap.size < V.heap.size := by omega
  have hbVw := hb5.trans (hbV.mono hs5)
  clear hPic q0 q1 q2 hc hc' hmk
  refine kp.mono ?_
  rintro e w6 ⟨r, rfl, hown, hb6⟩
  obtain ⟨ao, cp, rfl⟩ := shapeOf hown
  have c1 := (hb6.cell (p := ⟨b, off, none⟩) (by show b < _; omega)).trans cV
  have c2 := (hb6.cell (p := ⟨b', off', none⟩) (by show b' < _; omega)).trans cV'
  have c3 := (hb6.cell (p := ⟨w5.heap.size, 0, none⟩) hbl2).trans cf
  have hb7 := hbVw.trans (hb6.mono (by omega))
  have hcv : (convert 45 9 (.slice ao 5 cp)).run Try.prog w6 = .ok (.string ⟨#[1, 0, 1, 160, 0]⟩) w6 := conv_lies w6 ao 5 cp [1, 0, 1, 160, 0] (Lies.of_owns hown)
  clear cV cV' cf hbV kp hb5 hbVw
  go_wp2
  go_ret
  exact ⟨rfl, hb7⟩
end Go.Proofs.Ytbfdlfhidebjlaa.Cl
