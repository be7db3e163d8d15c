/- Package cell: a grid's methods. -/
import Derived.Test.YtbfdlfhidebjlaaFrGrid
namespace Go.Proofs.Ytbfdlfhidebjlaa.Cl
open Go.RowKit Go.Deep
set_option linter.unusedVariables false
set_option linter.unusedSimpArgs false
section
variable {W : World} {base b gr capr n : Nat} {rs : List Nat} {M : List (List Int)}
theorem GridS.cb (g : GridS W base b gr capr n rs M) : W.cell? ⟨b, 0, none⟩ = some (.slice (some ⟨gr, 0, none⟩) rs.length capr) := cell_of_one g.hb
theorem GridS.row (g : GridS W base b gr capr n rs M) (y : Nat) (hy : y < rs.length) : ∃ r row, rs[y]? = some r ∧ M[y]? = some row ∧ row.length = n ∧ W.cell? ⟨gr, y, none⟩ = some (.slice (some ⟨r, 0, none⟩) n n) ∧ W.heap[r]? = some (.cells (row.map (Value.int .u8)).toArray 5 (0, 0)) := by
  have hyM : y < M.length := by rw [g.len]; exact hy
  refine ⟨rs[y], M[y], List.getElem?_eq_getElem hy, List.getElem?_eq_getElem hyM, ?_, g.hr y _ (List.getElem?_eq_getElem hy), ?_⟩
  · exact (g.hm y _ _ (List.getElem?_eq_getElem hy) (List.getElem?_eq_getElem hyM)).2
  · exact (g.hm y _ _ (List.getElem?_eq_getElem hy) (List.getElem?_eq_getElem hyM)).1
theorem GridS.drew (g : GridS W base b gr capr n rs M) : GridS W.drew base b gr capr n rs M := ⟨g.hb, g.hr, g.hm, g.len, g.nodup, g.above, g.ne, g.bb, g.bg⟩
theorem GridS.below {W' : World} (g : GridS W base b gr capr n rs M) (h0 : 0 < rs.length) (h : Below W.heap.size W W') : GridS W' base b gr capr n rs M := by
  have hbl : b < W.heap.size := (Array.getElem?_eq_some_iff.1 g.hb).1
  obtain ⟨r0, _, _, _, _, hc, _⟩ := g.row 0 h0
  have hgl : gr < W.heap.size := block_lt_of_cell hc
  refine ⟨(h.block b hbl).trans g.hb, fun y r hy => (h.cell (p := ⟨gr, y, none⟩) hgl).trans (g.hr y r hy), fun y r row hy hrow => ?_, g.len, g.nodup, g.above, g.ne, g.bb, g.bg⟩
  obtain ⟨h1, h2⟩ := g.hm y r row hy hrow
  exact ⟨(h.block r (Array.getElem?_eq_some_iff.1 h1).1).trans h1, h2⟩
/-- One thing of a grid is set. -/
def setM (M : List (List Int)) (y x : Nat) (v : Int) : List (List Int) := M.set y ((M[y]?.getD []).set x v)
theorem GridS.set (g : GridS W base b gr capr n rs M) (y x : Nat) (v : Int) (r : Nat) (hr : rs[y]? = some r) : GridS (W.setCell ⟨r, x, none⟩ (.int .u8 v)) base b gr capr n rs (setM M y x v) := by
  have hy : y < rs.length := (List.getElem?_eq_some_iff.1 hr).1
  have hyM : y < M.length := by rw [g.len]; exact hy
  obtain ⟨_, hrb, hrg⟩ := g.above r (List.mem_of_getElem? hr)
  refine ⟨(heap_setCell_other _ _ _ _ (fun e => hrb e.symm)).trans g.hb, fun y' r' hy' => ?_, fun y' r' row hy' hrow => ?_, by simp [setM, g.len], g.nodup, g.above, g.ne, g.bb, g.bg⟩
  · rw [World.cell?_of_block (heap_setCell_other W ⟨r, x, none⟩ gr _ (fun e => hrg e.symm))]; exact g.hr y' r' hy'
  · unfold setM at hrow
    by_cases e : y' = y
    · subst e
      obtain rfl : r' = r := Option.some.inj (hy'.symm.trans hr)
      rw [List.getElem?_set_self hyM] at hrow
      obtain rfl := Option.some.inj hrow
      rw [List.getElem?_eq_getElem hyM]
      obtain ⟨h1, h2⟩ := g.hm y' r' _ hy' (List.getElem?_eq_getElem hyM)
      refine ⟨?_, by simpa using h2⟩
      rw [heap_setCell_same _ _ _ _ _ _ h1]
      simp [List.map_set]
    · rw [List.getElem?_set_ne (fun h => e h.symm)] at hrow
      obtain ⟨h1, h2⟩ := g.hm y' r' row hy' hrow
      have hne : r' ≠ r := by
        intro er
        subst er
        exact e ((List.getElem?_inj (List.getElem?_eq_some_iff.1 hy').1 g.nodup).1 (hy'.trans hr.symm))
      exact ⟨(heap_setCell_other _ _ _ _ hne).trans h1, h2⟩
end
theorem at_gnil (W : World) (x y : Int) : Calls Try.prog 51 #[.pointer none, .int .i64 x, .int .i64 y] W fun e w' => e = .returned (.tuple #[.pointer none, .int .i64 1]) ∧ w' = W := by
  go_enter Try.func51, Try.ntmps51
  go_wp2_with fail
  go_ret2
  exact ⟨rfl, rfl⟩
theorem at_gin (W : World) (base b gr capr n : Nat) (rs : List Nat) (M : List (List Int)) (g : GridS W base b gr capr n rs M) (x y : Nat) (hx : x < n) (hy : y < rs.length) :
    Calls Try.prog 51 #[.pointer (some ⟨b, 0, none⟩), .int .i64 x, .int .i64 y] W fun e w' => e = .returned (.tuple #[.pointer (some ⟨rs[y], x, none⟩), .int .i64 0]) ∧ w' = W := by
  obtain ⟨r, row, hr, hM, hl, hc, hh⟩ := g.row y hy
  have cb := g.cb
  rw [List.getElem?_eq_getElem hy] at hr
  obtain rfl := Option.some.inj hr
  generalize rs[y] = r at *
  generalize rs.length = h at *
  have hx0 : (0 : Int) ≤ (x : Int) := by omega
  have hx1 : (x : Int) < n := by omega
  have hx2 : ¬ (x : Int) < 0 := by omega
  have hy0 : (0 : Int) ≤ (y : Int) := by omega
  have hy1 : (y : Int) < h := by omega
  have hy2 : ¬ (y : Int) < 0 := by omega
  clear g hM hh
  go_enter Try.func51, Try.ntmps51
  go_wp2_with fail
  go_ret2
  exact ⟨rfl, rfl⟩
theorem at_gout (W : World) (base b gr capr n : Nat) (rs : List Nat) (M : List (List Int)) (g : GridS W base b gr capr n rs M) (x y : Int) (h : ¬ (0 ≤ x ∧ x < n ∧ 0 ≤ y ∧ y < rs.length)) :
    Calls Try.prog 51 #[.pointer (some ⟨b, 0, none⟩), .int .i64 x, .int .i64 y] W fun e w' => e = .returned (.tuple #[.pointer none, .int .i64 6]) ∧ w' = W := by
  have cb := g.cb
  by_cases h1 : y < 0
  · clear h
    go_enter Try.func51, Try.ntmps51
    go_wp2_with fail
    go_ret2
    exact ⟨rfl, rfl⟩
  by_cases h2 : (rs.length : Int) ≤ y
  · clear h
    go_enter Try.func51, Try.ntmps51
    go_wp2_with fail
    go_ret2
    exact ⟨rfl, rfl⟩
  by_cases h3 : x < 0
  · clear h
    go_enter Try.func51, Try.ntmps51
    go_wp2_with fail
    go_ret2
    exact ⟨rfl, rfl⟩
  have h4 : (n : Int) ≤ x := by omega
  obtain ⟨k, rfl⟩ : ∃ k : Nat, y = k := ⟨y.toNat, by omega⟩
  obtain ⟨r, row, hr, hM, hl, hc, hh⟩ := g.row k (by omega)
  have hk0 : (0 : Int) ≤ (k : Int) := by omega
  have hk1 : (k : Int) < rs.length := by omega
  clear h g
  generalize rs.length = h at *
  go_enter Try.func51, Try.ntmps51
  go_wp2_with fail
  go_ret2
  exact ⟨rfl, rfl⟩
end Go.Proofs.Ytbfdlfhidebjlaa.Cl
