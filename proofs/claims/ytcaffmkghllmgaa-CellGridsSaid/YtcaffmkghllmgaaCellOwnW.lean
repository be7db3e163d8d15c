/- The Go law CellOwn: its walk. -/
import Derived.Test.YtcaffmkghllmgaaCellAwake
import Derived.Test.YtcaffmkghllmgaaCellAt
import Derived.Test.YtcaffmkghllmgaaCellGridG
namespace Go.Proofs.Ytcaffmkghllmgaa.cellOwn
open Go.RowKit Go.Deep Go.Proofs.Ytcaffmkghllmgaa.Cl
set_option linter.unusedVariables false
set_option linter.unusedSimpArgs false
theorem grid_keep {W W' : World} {base b gr capr n : Nat} {rs : List Nat} {M : List (List Int)} (g : GridS W base b gr capr n rs M) (h0 : 0 < rs.length) (h : ∀ k, base ≤ k → k < W.heap.size → W'.heap[k]? = W.heap[k]?) : GridS W' base b gr capr n rs M := by
  have hbl : b < W.heap.size := (Array.getElem?_eq_some_iff.1 g.hb).1
  obtain ⟨r0, _, _, _, _, hc, _⟩ := g.row 0 h0
  have hgl : gr < W.heap.size := block_lt_of_cell hc
  refine ⟨(h b g.bb hbl).trans g.hb, fun y r hy => (World.cell?_of_block (h gr g.bg hgl)).trans (g.hr y r hy), fun y r row hy hrow => ?_, g.len, g.nodup, g.above, g.ne, g.bb, g.bg⟩
  obtain ⟨h1, h2⟩ := g.hm y r row hy hrow
  exact ⟨(h r (g.above r (List.mem_of_getElem? hy)).1 (Array.getElem?_eq_some_iff.1 h1).1).trans h1, h2⟩
theorem ring_keep {W W' : World} {b g room : Nat} {D : List Int} (h : RingD W b g room D) (h1 : W'.heap[b]? = W.heap[b]?) (h2 : W'.heap[g]? = W.heap[g]?) : RingD W' b g room D := by
  obtain ⟨f, cs, h, hc⟩ := h; exact ⟨f, cs, h.moved h1 h2, hc⟩
set_option maxRecDepth 1000000 in
theorem cellOwn_walk (x y : Int) (W : World) (x0 : -9223372036854775808 ≤ x) (x1 : x ≤ 9223372036854775807) (y0 : -9223372036854775808 ≤ y) (y1 : y ≤ 9223372036854775807) :
    Calls Try.prog 8 #[.int .i64 x, .int .i64 y] W fun e W' => e = .returned (.bool true) ∧ Below W.heap.size W W' := by
  go_enter Try.func8, Try.ntmps8
  go_wp2_with fail
  refine (newring_int W 3 (by decide) (by decide)).mono ?_
  rintro e w1 ⟨rfl, hr1, hb1, hs1⟩
  have hD1 := RingD.zero hr1
  clear hr1
  generalize hB : W.heap.size + 1 = B at *
  go_wp2_with fail
  refine (put_ring w1 B W.heap.size 3 [] hD1 x).mono ?_
  rintro e w2 ⟨rfl, hD2, ho2⟩
  rw [show putL 3 [] x = [x] from rfl] at hD2
  have hb2 := ho2.below hb1 (by omega) (Nat.le_refl _)
  go_wp2_with fail
  refine (put_ring w2 B W.heap.size 3 _ hD2 y).mono ?_
  rintro e w3 ⟨rfl, hD3, ho3⟩
  rw [show putL 3 [x] y = [x, y] from rfl] at hD3
  have hb3 := ho3.below hb2 (by omega) (Nat.le_refl _)
  have hs3 : w3.heap.size = W.heap.size + 2 := by rw [ho3.size, ho2.size, hs1]
  clear hD1 hD2 ho2 ho3 hb1 hb2
  go_wp2_with fail
  refine (list_ring w3 B W.heap.size 3 _ hD3).mono ?_
  rintro e w4 ⟨l, rfl, hown4, hb34⟩
  have hb4 := hb3.trans (hb34.mono (by omega))
  have hD4 := hD3.below hb34
  obtain ⟨gl, cl, rfl, hgl, hgl4⟩ := hown4.form (by show 0 < 2; decide)
  have hs4 := hb34.size
  have hl0 : w4.cell? ⟨gl, 0, none⟩ = some (.int .i64 x) := (hown4.cellAt 0 (by show 0 < 2; decide)).trans rfl
  have hf0 := hown4.frozenAt 0
  clear hD3 hb3 hown4
  go_wp2_with fail
  refine (newgrid_int w4 2 1 x (by decide) (by decide) (by decide) (by decide)).mono ?_
  rintro e w5 ⟨gr, capr, rs, rfl, hrl, hg5, hgr5, hb45⟩
  have hb5 := hb4.trans (hb45.mono (by omega))
  have hD5 := hD4.below hb45
  have hs5 := hb45.size
  have hl5 := (hb45.cell (p := ⟨gl, 0, none⟩) hgl4).trans hl0
  have hf5 := (hb45.frozen (p := ⟨gl, 0, none⟩) hgl4).trans hf0
  clear hD4 hl0 hf0 hb4
  go_wp2_with fail
  refine (row_in w5 _ _ _ _ _ _ _ hg5 0 (by decide) (by decide) (by omega) [x, x] rfl).mono ?_
  rintro e w6 ⟨rw0, rfl, hown6, hb56⟩
  obtain ⟨gw, cw, rfl, hgw, hgw6⟩ := hown6.form (by show 0 < 2; decide)
  have hb6 := hb5.trans (hb56.mono (by omega))
  have hD6 := hD5.below hb56
  have hs6 := hb56.size
  have hl6 := (hb56.cell (p := ⟨gl, 0, none⟩) (by show gl < _; omega)).trans hl5
  have hf6 := (hb56.frozen (p := ⟨gl, 0, none⟩) (by show gl < _; omega)).trans hf5
  have hw6 : w6.cell? ⟨gw, 0, none⟩ = some (.int .i64 x) := (hown6.cellAt 0 (by show 0 < 2; decide)).trans rfl
  have hwf6 := hown6.frozenAt 0
  have hne : ¬ gl = gw := by omega
  have hne' : ¬ gw = gl := by omega
  have hDf := ring_keep (W' := (w6.setCell ⟨gl, 0, none⟩ (.int .i64 5)).setCell ⟨gw, 0, none⟩ (.int .i64 6)) hD6
    (by rw [heap_setCell_other _ _ _ _ (by show B ≠ gw; omega), heap_setCell_other _ _ _ _ (by show B ≠ gl; omega)])
    (by rw [heap_setCell_other _ _ _ _ (by show W.heap.size ≠ gw; omega), heap_setCell_other _ _ _ _ (by show W.heap.size ≠ gl; omega)])
  have hGf := grid_keep (W' := (w6.setCell ⟨gl, 0, none⟩ (.int .i64 5)).setCell ⟨gw, 0, none⟩ (.int .i64 6)) hg5 (by omega) (fun k hk hk' => by
    rw [heap_setCell_other _ _ _ _ (by show k ≠ gw; omega), heap_setCell_other _ _ _ _ (by show k ≠ gl; omega)]
    exact hb56.block k hk')
  have hbf : Below W.heap.size W ((w6.setCell ⟨gl, 0, none⟩ (.int .i64 5)).setCell ⟨gw, 0, none⟩ (.int .i64 6)) := (hb6.setCell (by show _ ≤ gl; omega) _).setCell (by show _ ≤ gw; omega) _
  have HD := hideR hDf
  have HG := hideR hGf
  have HB := hideR hbf
  clear hDf hGf hbf hD6 hD5 hg5 hb6 hb5 hown6
  go_wp2_with fail
  refine (at_ring _ B W.heap.size 3 _ HD.out 0).mono ?_
  rintro e w7 ⟨rfl, hD7, ho7⟩
  have hG7 := grid_keep (W' := w7) HG.out (by omega) (fun k hk hk' => ho7.block k (by omega) (by omega))
  have hb7 := ho7.below HB.out (by omega) (Nat.le_refl _)
  have hg0 := get_in w7 _ _ _ _ _ _ _ hG7 0 0 (by decide) (by omega) x [x, x] rfl rfl
  have hatv : atV [x, y] 0 = x := rfl
  clear hG7 HG HD
  go_wp2_with fail
  refine hg0.mono ?_
  rintro e w8 ⟨rfl, he⟩
  rw [he]
  go_wp2_with fail
  refine (awake_any w7).mono ?_
  rintro e w9 ⟨rfl, hb9⟩
  go_wp2_with fail
  go_ret
  exact ⟨rfl, hb7.trans (hb9.mono hb7.size)⟩
end Go.Proofs.Ytcaffmkghllmgaa.cellOwn
