/- Package cell: a grid's things told and set. -/
import Derived.Test.YtbfdlfhidebjlaaFrGridM
import Derived.Test.YtbfdlfhidebjlaaAppendOf
import Derived.Lib.SliceRun
namespace Go.Proofs.Ytbfdlfhidebjlaa.Cl
open Go.RowKit Go.Deep
set_option linter.unusedVariables false
set_option linter.unusedSimpArgs false
set_option maxRecDepth 100000 in
theorem clone_int (w : World) (v : Value) (xs : List Int) (hx : Lies w 1 v xs.length (xs.map (Value.int .u8))) (hs : xs.length ≤ 100000) (hn : ∃ ad n c, v = .slice (some ad) n c) :
    Calls Try.prog 58 #[v] w fun e w' => ∃ r, e = .returned r ∧ w'.ownsRow w.heap.size 5 1 r xs.length (xs.map (Value.int .u8)) ∧ Below w.heap.size w w' := by
  obtain ⟨ad, nn, c, rfl⟩ := hn
  have HX := hideR hx
  obtain ⟨i0, hi, hz0, hz1, hz2⟩ := info_parts info_int
  have hown0 := World.ownsRow_lit (base := w.heap.size) (e := 5) (size := 1) w #[] 0 (Nat.le_refl _) (by decide) rfl
  have hb0 : Below w.heap.size w (w.alloc (.cells #[] 5)) := (Below.refl _ _).alloc (Nat.le_refl _) _
  clear hx
  have keq := Lib.run_eql_slice_nil (P := Try.prog) w 45 5 (some ad) nn c 0 0 Try.underlying45
  go_enter Try.func58, Try.ntmps58
  go_wp2_with (at_builtin; refine wpList_append_of rfl _ _ 45 rfl w.heap.size 5 i0 (.int .u8 0) 1 1 Try.underlying45 hi hz0 hz1 hz2 rfl (by decide) _ _ _ rfl hown0 _ _ _ rfl (HX.out.below ((Below.refl _ _).alloc (Nat.le_refl _) _)) (ints_oneCell _ _) (by simp only [maxLen]; omega) (by omega) hb0.size ?_)
  intro v1 w1 hown1 hgrow1
  have hb1 : Below w.heap.size w w1 := hb0.grown hgrow1 hb0.size (fun k hk => by cases hk; exact Nat.le_refl _)
  clear hown0 hgrow1 hb0
  go_wp2_with fail
  go_ret
  exact ⟨_, rfl, by simpa using hown1, hb1⟩
theorem set_nil (W : World) (x y v : Int) : Calls Try.prog 36 #[.pointer none, .int .i64 x, .int .i64 y, .int .u8 v] W fun e w' => e = .returned (.int .i64 1) ∧ w' = W := by
  go_enter Try.func36, Try.ntmps36
  go_wp2_with fail
  refine (at_gnil W x y).mono ?_
  rintro e w' ⟨rfl, he⟩
  rw [he]
  go_wp2_with fail
  go_ret
  exact ⟨rfl, rfl⟩
theorem row_nil (W : World) (y : Int) : Calls Try.prog 53 #[.pointer none, .int .i64 y] W fun e w' => e = .returned (.slice none 0 0) ∧ w' = W := by
  go_enter Try.func53, Try.ntmps53
  go_wp2_with fail
  refine (at_gnil W 0 y).mono ?_
  rintro e w' ⟨rfl, he⟩
  rw [he]
  go_wp2_with fail
  go_ret
  exact ⟨rfl, rfl⟩
section
variable (W : World) (base b gr capr n : Nat) (rs : List Nat) (M : List (List Int)) (g : GridS W base b gr capr n rs M)
include g
theorem set_out (x y v : Int) (h : ¬ (0 ≤ x ∧ x < n ∧ 0 ≤ y ∧ y < rs.length)) : Calls Try.prog 36 #[.pointer (some ⟨b, 0, none⟩), .int .i64 x, .int .i64 y, .int .u8 v] W fun e w' => e = .returned (.int .i64 6) ∧ w' = W := by
  have k := at_gout W base b gr capr n rs M g x y h
  clear h g
  go_enter Try.func36, Try.ntmps36
  go_wp2_with fail
  refine k.mono ?_
  rintro e w' ⟨rfl, he⟩
  rw [he]
  go_wp2_with fail
  go_ret
  exact ⟨rfl, rfl⟩
theorem set_in (x y : Nat) (v : Int) (hx : x < n) (hy : y < rs.length) : Calls Try.prog 36 #[.pointer (some ⟨b, 0, none⟩), .int .i64 x, .int .i64 y, .int .u8 v] W fun e w' => e = .returned (.int .i64 0) ∧ GridS w' base b gr capr n rs (setM M y x v) ∧ w' = W.setCell ⟨rs[y], x, none⟩ (.int .u8 v) := by
  have k := at_gin W base b gr capr n rs M g x y hx hy
  obtain ⟨r, row, hr, hM, hl, hc, hh⟩ := g.row y hy
  have hg := g.set y x v r hr
  rw [List.getElem?_eq_getElem hy] at hr
  obtain rfl := Option.some.inj hr
  have hcx : W.cell? ⟨rs[y], x, none⟩ = some (.int .u8 (row[x]'(by omega))) := by
    rw [cell_of_row W _ x _ _ _ hh, List.getElem?_toArray, List.getElem?_map, List.getElem?_eq_getElem (by omega)]; rfl
  have hfx := frozen_of_row W _ x _ _ hh
  have HG := hideR hg
  generalize rs[y] = r at *
  generalize (row[x]'(by omega)) = old at *
  clear g hM hh hg hc
  go_enter Try.func36, Try.ntmps36
  go_wp2_with fail
  refine k.mono ?_
  rintro e w' ⟨rfl, he⟩
  rw [he]
  go_wp2_with fail
  go_ret
  exact ⟨rfl, HG.out, rfl⟩
theorem row_out (y : Int) (h : ¬ (0 ≤ y ∧ y < rs.length)) : Calls Try.prog 53 #[.pointer (some ⟨b, 0, none⟩), .int .i64 y] W fun e w' => e = .returned (.slice none 0 0) ∧ w' = W := by
  have k := at_gout W base b gr capr n rs M g 0 y (fun h' => h ⟨h'.2.2.1, h'.2.2.2⟩)
  clear h g
  go_enter Try.func53, Try.ntmps53
  go_wp2_with fail
  refine k.mono ?_
  rintro e w' ⟨rfl, he⟩
  rw [he]
  go_wp2_with fail
  go_ret
  exact ⟨rfl, rfl⟩
theorem row_in (y : Nat) (hn : 0 < n) (hn1 : n ≤ 1024) (hy : y < rs.length) (row : List Int) (hM : M[y]? = some row) : Calls Try.prog 53 #[.pointer (some ⟨b, 0, none⟩), .int .i64 y] W fun e w' => ∃ v, e = .returned v ∧ w'.ownsRow W.heap.size 5 1 v row.length (row.map (Value.int .u8)) ∧ Below W.heap.size W w' := by
  have k : Calls Try.prog 51 #[.pointer (some ⟨b, 0, none⟩), .int .i64 0, .int .i64 y] W _ := at_gin W base b gr capr n rs M g 0 y hn hy
  obtain ⟨r, row', hr, hM', hl, hc, hh⟩ := g.row y hy
  obtain rfl := Option.some.inj (hM.symm.trans hM')
  have cb := g.cb
  have hL : Lies W 1 (.slice (some ⟨r, 0, none⟩) n n) row.length (row.map (Value.int .u8)) := by
    rw [← hl]; exact lies_block hh (by simp) (Nat.le_refl _)
  have kc := clone_int W _ row hL (by omega) ⟨_, _, _, rfl⟩
  have hy0 : (0 : Int) ≤ (y : Int) := by omega
  have hy1 : (y : Int) < rs.length := by omega
  generalize rs[y] = r at *
  generalize rs.length = h at *
  clear g hM hh hM' hL hl hr
  go_enter Try.func53, Try.ntmps53
  go_wp2_with fail
  refine k.mono ?_
  rintro e w' ⟨rfl, he⟩
  rw [he]
  go_wp2_with fail
  refine kc.mono ?_
  rintro e w1 ⟨v, rfl, hown, hb⟩
  go_wp2_with fail
  go_ret
  exact ⟨_, rfl, hown, hb⟩
end
end Go.Proofs.Ytbfdlfhidebjlaa.Cl
