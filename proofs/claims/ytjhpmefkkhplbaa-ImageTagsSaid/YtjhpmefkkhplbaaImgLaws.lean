/- The walks of the laws on images: each comes to true, and turns nothing of what was there. -/
import Derived.Test.YtjhpmefkkhplbaaImgRest
namespace Go.Proofs.Ytjhpmefkkhplbaa
open Go.RowKit
set_option linter.unusedVariables false
set_option linter.unusedSimpArgs false
theorem shape_is (k n : Int) : ∃ B S W : Int, ∃ X : Bool, B = Img.banksK k n ∧ S = Img.szK k n ∧ W = Img.winsK k n ∧ X = Img.exK k n ∧ Img.shape k n = .agg #[.int .i64 B, .int .i64 S, .int .i64 W, .bool X] := ⟨_, _, _, _, rfl, rfl, rfl, rfl, rfl⟩
theorem keepA {w w1 : World} {O : Obj} (hb : Below (w.alloc O).heap.size (w.alloc O) w1) : w1.heap[w.heap.size]? = some O ∧ w.heap.size < w1.heap.size ∧ Below w.heap.size w w1 := by
  have s1 := hb.size
  simp only [World.size_alloc] at s1
  exact ⟨(hb.block _ (by simp)).trans (heap_alloc_last w O), by omega, ((Below.refl _ _).alloc (Nat.le_refl _) O).trans (hb.mono (by simp))⟩
set_option maxHeartbeats 2000000 in
theorem awake_any (w : World) : Calls Try.prog 11 #[] w fun e w' => e = .returned (.bool true) ∧ Below w.heap.size w w' := by
  have k1 : Img.idx ⟨#[70, 56]⟩ = 8 := by decide +kernel
  have k2 : Img.idx ⟨#[102, 56]⟩ = -1 := by decide +kernel
  have k3 : Img.idx ⟨#[51, 70]⟩ = 1 := by decide +kernel
  have s1 : Img.shape 8 8192 = .agg #[.int .i64 2, .int .i64 4096, .int .i64 1, .bool false] := by kernel_rfl
  have s2 : Img.shape 8 4096 = .agg #[.int .i64 0, .int .i64 0, .int .i64 0, .bool false] := by kernel_rfl
  have s3 : Img.shape (-1) 8192 = .agg #[.int .i64 0, .int .i64 0, .int .i64 0, .bool false] := by kernel_rfl
  have e1 : Img.errK 8 8192 = 0 := by decide +kernel
  have e2 : Img.errK 8 4096 = 4 := by decide +kernel
  have e3 : Img.errK (-1) 8192 = 3 := by decide +kernel
  have f3 : Img.firstK 1 6144 = [0, 2] := by decide +kernel
  go_enter Try.func11, Try.ntmps11
  go_wp2_with fail
  refine (fit_any _ _ _ (by omega) (by omega)).mono ?_
  rintro e w1 ⟨rfl, hb1⟩
  go_wp2_with fail
  refine (fit_any _ _ _ (by omega) (by omega)).mono ?_
  rintro e w2 ⟨rfl, hb2⟩
  go_wp2_with fail
  refine (fit_any _ _ _ (by omega) (by omega)).mono ?_
  rintro e w3 ⟨rfl, hb3⟩
  obtain ⟨g1, z1, b1⟩ := keepA hb2
  obtain ⟨g2, z2, b2⟩ := keepA hb3
  have g3 := (b2.block _ z1).trans g1
  have c0 : w3.cell? ⟨w1.heap.size, 0, none⟩ = some (.int .i64 2) := cell_of_row w3 _ 0 _ _ _ g3
  have c2 : w3.cell? ⟨w1.heap.size, 2, none⟩ = some (.int .i64 1) := cell_of_row w3 _ 2 _ _ _ g3
  have z3 : w1.heap.size < w3.heap.size := by omega
  have B := (hb1.trans (b1.mono hb1.size)).trans (b2.mono (Nat.le_trans hb1.size (by omega)))
  have zw := hb1.size
  clear g1 g2 g3 hb1 hb2 hb3 b1 b2
  go_wp2_with fail
  refine (first_any _ _ _ (by omega) (by omega)).mono ?_
  rintro e w4 ⟨v, rfl, hv, hb4⟩
  rw [k3, f3] at hv
  obtain ⟨g4, z4, b4⟩ := keepA hb4
  have z5 := hb4.size
  clear g4 hb4
  go_wp2_with fail
  refine (same_any _ _ _ _ _ (hv.below ((Below.refl _ _).alloc (Nat.le_refl _) _)) (IsRow.row [0, 2] (by simp) _ rfl (heap_alloc_last w4 _))).mono ?_
  rintro e w5 ⟨rfl, m, rfl⟩
  go_wp2_with fail
  go_ret
  refine ⟨rfl, ?_⟩
  have b5 := B.trans (b4.mono (Nat.le_trans zw (by omega)))
  exact below_drewN (b5.alloc (by omega) _) m
set_option maxHeartbeats 2000000 in
theorem imageFits_walk (tag : ByteArray) (n : Int) (w : World) (ht : tag.size ≤ 9223372036854775807) (h0 : -9223372036854775808 ≤ n) (h1 : n ≤ 9223372036854775807) :
    Calls Try.prog 3 #[.string tag, .int .i64 n] w fun e w' => e = .returned (.bool true) ∧ Below w.heap.size w w' := by
  obtain ⟨B, S, W, X, -, -, -, -, hsh⟩ := shape_is (Img.idx tag) n
  obtain ⟨E, hE⟩ : ∃ E, Img.errK (Img.idx tag) n = E := ⟨_, rfl⟩
  clear ht
  go_enter Try.func3, Try.ntmps3
  go_wp2_with fail
  refine (fit_any _ _ _ h0 h1).mono ?_
  rintro e w1 ⟨rfl, hb1⟩
  go_wp2_with fail
  refine (rfit_any _ _ _ h0 h1).mono ?_
  rintro e w2 ⟨rfl, hb2⟩
  obtain ⟨g1, z1, b1⟩ := keepA hb2
  have c0 : w2.cell? ⟨w1.heap.size, 0, none⟩ = some (.int .i64 B) := cell_of_row w2 _ 0 _ _ _ g1
  have c1 : w2.cell? ⟨w1.heap.size, 1, none⟩ = some (.int .i64 S) := cell_of_row w2 _ 1 _ _ _ g1
  have c2 : w2.cell? ⟨w1.heap.size, 2, none⟩ = some (.int .i64 W) := cell_of_row w2 _ 2 _ _ _ g1
  have c3 : w2.cell? ⟨w1.heap.size, 3, none⟩ = some (.bool X) := cell_of_row w2 _ 3 _ _ _ g1
  have hw := hb1.trans (b1.mono hb1.size)
  have zw := hw.size
  clear g1 hb1 hb2 b1
  go_wp2_with fail
  refine (first_any _ _ _ h0 h1).mono ?_
  rintro e w3 ⟨v, rfl, hv, hb3⟩
  obtain ⟨g3, z3, b3⟩ := keepA hb3
  have y3 := hb3.size
  clear g3 hb3
  go_wp2_with fail
  refine (rfirst_any _ _ _ h0 h1).mono ?_
  rintro e w4 ⟨v2, rfl, hv2, hb4⟩
  have y4 := hb4.size
  go_wp2_with fail
  refine (same_any _ _ _ _ _ (hv.below hb4) hv2).mono ?_
  rintro e w5 ⟨rfl, m, rfl⟩
  go_wp2_with fail
  refine (awake_any _).mono ?_
  rintro e w6 ⟨rfl, hb6⟩
  go_wp2_with fail
  go_ret
  have b4 := (hw.trans (b3.mono zw)).trans (hb4.mono (by omega))
  exact ⟨rfl, (below_drewN b4 m).trans (hb6.mono (by show w.heap.size ≤ w4.heap.size; omega))⟩
end Go.Proofs.Ytjhpmefkkhplbaa
