/- Package frame: a colour's red, green, blue; and the reference's. -/
import Derived.Test.YtbfdlfhidebjlaaFrKit
namespace Go.Proofs.Ytbfdlfhidebjlaa.Cl
open Go.RowKit Go.Deep
set_option linter.unusedVariables false
set_option linter.unusedSimpArgs false

def bnd (x : Int) : Int := if x < 0 then 0 else if 255 < x then 255 else x
theorem bound_any (w : World) (x : Int) (h0 : -1000 ≤ x) (h1 : x ≤ 1000) : Calls Try.prog 38 #[.int .i64 x] w fun e w' => e = .returned (.int .u8 (bnd x)) ∧ w' = w := by
  by_cases h : x < 0
  · rw [show bnd x = 0 from if_pos h]
    go_enter Try.func38, Try.ntmps38
    go_wp2
    go_ret
    exact ⟨rfl, rfl⟩
  · by_cases g : 255 < x
    · rw [show bnd x = 255 from by unfold bnd; rw [if_neg h, if_pos g]]
      go_enter Try.func38, Try.ntmps38
      go_wp2
      go_ret
      exact ⟨rfl, rfl⟩
    · rw [show bnd x = x from by unfold bnd; rw [if_neg h, if_neg g]]
      have hw : IntKind.u8.wrap x = x := by rw [IntKind.wrap_u8]; omega
      go_enter Try.func38, Try.ntmps38
      go_wp2
      go_ret
      exact ⟨rfl, rfl⟩
theorem bnd_clip (x : Int) : (if 255 < (if x < 0 then 0 else x) then 255 else if x < 0 then 0 else x) = bnd x := by
  unfold bnd
  by_cases h : x < 0
  · rw [if_pos h, if_pos h]; rfl
  · rw [if_neg h, if_neg h]
def greyV (c : Int) : Int := 36 * (c / 2 % 8)
def tintV (c k a : Int) : Int := bnd (greyV c + 4 * ((k * (c / 16) + a) % 15 - 7))
/-- A colour's three. -/
def shadeF (c : Int) : Int × Int × Int := if c / 16 = 0 then (greyV c, greyV c, greyV c) else (tintV c 1 1, tintV c 2 3, tintV c 4 9)
theorem grey_le (c : Int) (h0 : 0 ≤ c) (h1 : c ≤ 255) : 0 ≤ greyV c ∧ greyV c ≤ 252 := by unfold greyV; omega
theorem bnd_id (x : Int) (h0 : 0 ≤ x) (h1 : x ≤ 255) : bnd x = x := by unfold bnd; rw [if_neg (by omega), if_neg (by omega)]
theorem bnd_range (x : Int) : 0 ≤ bnd x ∧ bnd x ≤ 255 := by
  unfold bnd
  split
  · omega
  · split <;> omega
set_option maxRecDepth 100000 in
theorem rshade_any (w : World) (c : Int) (h0 : 0 ≤ c) (h1 : c ≤ 255) : Calls Try.prog 21 #[.int .i64 c] w fun e w' =>
    e = .returned (.agg #[.int .u8 (shadeF c).1, .int .u8 (shadeF c).2.1, .int .u8 (shadeF c).2.2]) ∧ Below w.heap.size w w' := by
  have hb : ∀ o : Obj, Below w.heap.size w (w.alloc o) := fun o => (Below.refl _ w).alloc (Nat.le_refl _) o
  by_cases hh : c / 16 = 0
  · have k := bound_any (w.alloc (.cells #[.int .u8 0, .int .u8 0, .int .u8 0] 48)) (36 * (c / 2 % 8)) (by omega) (by omega)
    rw [bnd_id _ (by omega) (by omega)] at k
    rw [show shadeF c = (greyV c, greyV c, greyV c) from if_pos hh]
    unfold greyV
    go_enter Try.func21, Try.ntmps21
    go_wp2_with fail
    refine k.mono ?_
    rintro e w' ⟨rfl, he⟩
    rw [he]
    go_wp2_with fail
    refine k.mono ?_
    rintro e w' ⟨rfl, he⟩
    rw [he]
    go_wp2_with fail
    refine k.mono ?_
    rintro e w' ⟨rfl, he⟩
    rw [he]
    go_wp2
    refine bodyPost_ret (v := .agg #[.int .u8 (36 * (c / 2 % 8)), .int .u8 (36 * (c / 2 % 8)), .int .u8 (36 * (c / 2 % 8))]) (by simp [results, Try.results21, go_sem]) rfl ⟨rfl, ?_⟩
    exact hb _
  · rw [show shadeF c = (tintV c 1 1, tintV c 2 3, tintV c 4 9) from if_neg hh]
    have k1 := bound_any (w.alloc (.cells #[.int .u8 0, .int .u8 0, .int .u8 0] 48)) (36 * (c / 2 % 8) + 4 * ((c / 16 + 1) % 15 - 7)) (by omega) (by omega)
    have k2 := bound_any (w.alloc (.cells #[.int .u8 0, .int .u8 0, .int .u8 0] 48)) (36 * (c / 2 % 8) + 4 * ((2 * (c / 16) + 3) % 15 - 7)) (by omega) (by omega)
    have k3 := bound_any (w.alloc (.cells #[.int .u8 0, .int .u8 0, .int .u8 0] 48)) (36 * (c / 2 % 8) + 4 * ((4 * (c / 16) + 9) % 15 - 7)) (by omega) (by omega)
    unfold tintV greyV
    rw [show (1 : Int) * (c / 16) + 1 = c / 16 + 1 from by omega]
    go_enter Try.func21, Try.ntmps21
    go_wp2_with fail
    refine k1.mono ?_
    rintro e w' ⟨rfl, he⟩
    rw [he]
    go_wp2_with fail
    refine k2.mono ?_
    rintro e w' ⟨rfl, he⟩
    rw [he]
    go_wp2_with fail
    refine k3.mono ?_
    rintro e w' ⟨rfl, he⟩
    rw [he]
    go_wp2
    refine bodyPost_ret (v := .agg #[.int .u8 (bnd (36 * (c / 2 % 8) + 4 * ((c / 16 + 1) % 15 - 7))), .int .u8 (bnd (36 * (c / 2 % 8) + 4 * ((2 * (c / 16) + 3) % 15 - 7))), .int .u8 (bnd (36 * (c / 2 % 8) + 4 * ((4 * (c / 16) + 9) % 15 - 7)))]) (by simp [results, Try.results21, go_sem]) rfl ⟨rfl, ?_⟩
    exact hb _
set_option maxRecDepth 100000 in
theorem shade_any (w : World) (c : Int) (h0 : 0 ≤ c) (h1 : c ≤ 255) : Calls Try.prog 20 #[.int .u8 c] w fun e w' =>
    e = .returned (.agg #[.int .u8 (shadeF c).1, .int .u8 (shadeF c).2.1, .int .u8 (shadeF c).2.2]) ∧ Below w.heap.size w w' := by
  by_cases hh : c / 16 = 0
  · rw [show shadeF c = (greyV c, greyV c, greyV c) from if_pos hh]
    unfold greyV
    go_enter Try.func20, Try.ntmps20
    go_wp2
    refine bodyPost_ret (v := .agg #[.int .u8 (36 * (c / 2 % 8)), .int .u8 (36 * (c / 2 % 8)), .int .u8 (36 * (c / 2 % 8))]) (by simp [results, Try.results20, go_sem]) rfl ⟨rfl, ?_⟩
    exact ((Below.refl _ w).alloc (Nat.le_refl _) _).alloc (by simp) _
  · rw [show shadeF c = (tintV c 1 1, tintV c 2 3, tintV c 4 9) from if_neg hh]
    have x1 : ∀ a b d w, (Instr.index 83 (.agg #[.int .i64 a, .int .i64 b, .int .i64 d]) (.int .i64 0)).run Try.prog w = .ok (.int .i64 a) w := fun a b d w => by kernel_rfl
    have x2 : ∀ a b d w, (Instr.index 83 (.agg #[.int .i64 a, .int .i64 b, .int .i64 d]) (.int .i64 1)).run Try.prog w = .ok (.int .i64 b) w := fun a b d w => by kernel_rfl
    have x3 : ∀ a b d w, (Instr.index 83 (.agg #[.int .i64 a, .int .i64 b, .int .i64 d]) (.int .i64 2)).run Try.prog w = .ok (.int .i64 d) w := fun a b d w => by kernel_rfl
    have b1 : (if 255 < (if 36 * (c / 2 % 8) + 4 * ((c / 16 + 1) % 15 - 7) < 0 then 0 else 36 * (c / 2 % 8) + 4 * ((c / 16 + 1) % 15 - 7)) then 255 else if 36 * (c / 2 % 8) + 4 * ((c / 16 + 1) % 15 - 7) < 0 then 0 else 36 * (c / 2 % 8) + 4 * ((c / 16 + 1) % 15 - 7)) = tintV c 1 1 := by rw [bnd_clip]; unfold tintV greyV; rw [show (1 : Int) * (c / 16) + 1 = c / 16 + 1 from by omega]
    have b2 : (if 255 < (if 36 * (c / 2 % 8) + 4 * ((2 * (c / 16) + 3) % 15 - 7) < 0 then 0 else 36 * (c / 2 % 8) + 4 * ((2 * (c / 16) + 3) % 15 - 7)) then 255 else if 36 * (c / 2 % 8) + 4 * ((2 * (c / 16) + 3) % 15 - 7) < 0 then 0 else 36 * (c / 2 % 8) + 4 * ((2 * (c / 16) + 3) % 15 - 7)) = tintV c 2 3 := bnd_clip _
    have b3 : (if 255 < (if 36 * (c / 2 % 8) + 4 * ((4 * (c / 16) + 9) % 15 - 7) < 0 then 0 else 36 * (c / 2 % 8) + 4 * ((4 * (c / 16) + 9) % 15 - 7)) then 255 else if 36 * (c / 2 % 8) + 4 * ((4 * (c / 16) + 9) % 15 - 7) < 0 then 0 else 36 * (c / 2 % 8) + 4 * ((4 * (c / 16) + 9) % 15 - 7)) = tintV c 4 9 := bnd_clip _
    have w1 : IntKind.u8.wrap (tintV c 1 1) = tintV c 1 1 := by rw [IntKind.wrap_u8]; have := bnd_range (greyV c + 4 * ((1 * (c / 16) + 1) % 15 - 7)); unfold tintV; omega
    have w2 : IntKind.u8.wrap (tintV c 2 3) = tintV c 2 3 := by rw [IntKind.wrap_u8]; have := bnd_range (greyV c + 4 * ((2 * (c / 16) + 3) % 15 - 7)); unfold tintV; omega
    have w3 : IntKind.u8.wrap (tintV c 4 9) = tintV c 4 9 := by rw [IntKind.wrap_u8]; have := bnd_range (greyV c + 4 * ((4 * (c / 16) + 9) % 15 - 7)); unfold tintV; omega
    have hs0 := heap_alloc_new w (.cells #[.int .u8 0, .int .u8 0, .int .u8 0] 48)
    go_enter Try.func20, Try.ntmps20
    go_wp2
    go_loopw [35] (fun i wr => ∃ k : Nat, k ≤ 3 ∧ i = .int .i64 k ∧ wr.heap[w.heap.size + 1]? = some (Obj.cells #[if 0 < k then (.int .u8 (tintV c 1 1)) else (.int .u8 (36 * (c / 2 % 8))), if 1 < k then (.int .u8 (tintV c 2 3)) else (.int .u8 (36 * (c / 2 % 8))), if 2 < k then (.int .u8 (tintV c 4 9)) else (.int .u8 (36 * (c / 2 % 8)))] 48 (0, 0)) ∧ wr.heap[w.heap.size]? = some (Obj.cells #[.int .u8 0, .int .u8 0, .int .u8 0] 48 (0, 0)) ∧ Below w.heap.size w wr)
      (fun i _ => 3 - (intOf i).toNat)
    case atStart =>
      refine ⟨0, by decide, rfl, ?_, (Below.heap_alloc _ _ _ (by simp)).trans hs0, ((Below.refl _ w).alloc (Nat.le_refl _) _).alloc (by simp) _⟩
      have := heap_alloc_new (w.alloc (.cells #[.int .u8 0, .int .u8 0, .int .u8 0] 48)) (.cells #[(.int .u8 (36 * (c / 2 % 8))), (.int .u8 (36 * (c / 2 % 8))), (.int .u8 (36 * (c / 2 % 8)))] 48)
      rw [World.size_alloc] at this
      exact this
    case round =>
      obtain ⟨k, hk, rfl, hG, hR, hB⟩ := hrel
      have hf := fun i => frozen_of_row wr (w.heap.size + 1) i _ _ hG
      have hf0 := hf 0
      have hf1 := hf 1
      have hf2 := hf 2
      clear hf hs0
      have hk4 : k = 0 ∨ k = 1 ∨ k = 2 ∨ k = 3 := by omega
      rcases hk4 with rfl | rfl | rfl | rfl
      · have c0 : wr.cell? ⟨w.heap.size + 1, 0, none⟩ = some (.int .u8 (36 * (c / 2 % 8))) := by rw [cell_of_row wr _ 0 _ _ _ hG]; rfl
        have hst : (wr.setCell ⟨w.heap.size + 1, 0, none⟩ (.int .u8 (tintV c 1 1))).heap[w.heap.size + 1]? = some (Obj.cells #[if 0 < 0 + 1 then (.int .u8 (tintV c 1 1)) else (.int .u8 (36 * (c / 2 % 8))), if 1 < 0 + 1 then (.int .u8 (tintV c 2 3)) else (.int .u8 (36 * (c / 2 % 8))), if 2 < 0 + 1 then (.int .u8 (tintV c 4 9)) else (.int .u8 (36 * (c / 2 % 8)))] 48 (0, 0)) := by rw [heap_setCell_same wr _ 0 _ _ _ hG]; rfl
        go_wp2
        go_roundw
        case rel => exact ⟨0 + 1, by decide, rfl, hst, (heap_setCell_other _ _ _ _ (by show w.heap.size ≠ w.heap.size + 1; omega)).trans hR, hB.setCell (by show w.heap.size ≤ w.heap.size + 1; omega) _⟩
        case measure => simp [intOf]
      · have c0 : wr.cell? ⟨w.heap.size + 1, 1, none⟩ = some (.int .u8 (36 * (c / 2 % 8))) := by rw [cell_of_row wr _ 1 _ _ _ hG]; rfl
        have hst : (wr.setCell ⟨w.heap.size + 1, 1, none⟩ (.int .u8 (tintV c 2 3))).heap[w.heap.size + 1]? = some (Obj.cells #[if 0 < 1 + 1 then (.int .u8 (tintV c 1 1)) else (.int .u8 (36 * (c / 2 % 8))), if 1 < 1 + 1 then (.int .u8 (tintV c 2 3)) else (.int .u8 (36 * (c / 2 % 8))), if 2 < 1 + 1 then (.int .u8 (tintV c 4 9)) else (.int .u8 (36 * (c / 2 % 8)))] 48 (0, 0)) := by rw [heap_setCell_same wr _ 1 _ _ _ hG]; rfl
        go_wp2
        go_roundw
        case rel => exact ⟨1 + 1, by decide, rfl, hst, (heap_setCell_other _ _ _ _ (by show w.heap.size ≠ w.heap.size + 1; omega)).trans hR, hB.setCell (by show w.heap.size ≤ w.heap.size + 1; omega) _⟩
        case measure => simp [intOf]
      · have c0 : wr.cell? ⟨w.heap.size + 1, 2, none⟩ = some (.int .u8 (36 * (c / 2 % 8))) := by rw [cell_of_row wr _ 2 _ _ _ hG]; rfl
        have hst : (wr.setCell ⟨w.heap.size + 1, 2, none⟩ (.int .u8 (tintV c 4 9))).heap[w.heap.size + 1]? = some (Obj.cells #[if 0 < 2 + 1 then (.int .u8 (tintV c 1 1)) else (.int .u8 (36 * (c / 2 % 8))), if 1 < 2 + 1 then (.int .u8 (tintV c 2 3)) else (.int .u8 (36 * (c / 2 % 8))), if 2 < 2 + 1 then (.int .u8 (tintV c 4 9)) else (.int .u8 (36 * (c / 2 % 8)))] 48 (0, 0)) := by rw [heap_setCell_same wr _ 2 _ _ _ hG]; rfl
        go_wp2
        go_roundw
        case rel => exact ⟨2 + 1, by decide, rfl, hst, (heap_setCell_other _ _ _ _ (by show w.heap.size ≠ w.heap.size + 1; omega)).trans hR, hB.setCell (by show w.heap.size ≤ w.heap.size + 1; omega) _⟩
        case measure => simp [intOf]
      · have hG' : wr.heap[w.heap.size + 1]? = some (Obj.cells #[(.int .u8 (tintV c 1 1)), (.int .u8 (tintV c 2 3)), (.int .u8 (tintV c 4 9))] 48 (0, 0)) := hG
        have d0 : wr.cell? ⟨w.heap.size + 1, 0, none⟩ = some (.int .u8 (tintV c 1 1)) := by rw [cell_of_row wr _ 0 _ _ _ hG']; rfl
        have d1 : wr.cell? ⟨w.heap.size + 1, 1, none⟩ = some (.int .u8 (tintV c 2 3)) := by rw [cell_of_row wr _ 1 _ _ _ hG']; rfl
        have d2 : wr.cell? ⟨w.heap.size + 1, 2, none⟩ = some (.int .u8 (tintV c 4 9)) := by rw [cell_of_row wr _ 2 _ _ _ hG']; rfl
        have r0 : wr.cell? ⟨w.heap.size, 0, none⟩ = some (.int .u8 0) := by rw [cell_of_row wr _ 0 _ _ _ hR]; rfl
        have r1 : wr.cell? ⟨w.heap.size, 1, none⟩ = some (.int .u8 0) := by rw [cell_of_row wr _ 1 _ _ _ hR]; rfl
        have r2 : wr.cell? ⟨w.heap.size, 2, none⟩ = some (.int .u8 0) := by rw [cell_of_row wr _ 2 _ _ _ hR]; rfl
        have g0 := frozen_of_row wr w.heap.size 0 _ _ hR
        have g1 := frozen_of_row wr w.heap.size 1 _ _ hR
        have g2 := frozen_of_row wr w.heap.size 2 _ _ hR
        clear hG hG'
        have hne : ¬ w.heap.size = w.heap.size + 1 := by omega
        go_wp2
        refine bodyPost_ret (v := .agg #[.int .u8 (tintV c 1 1), .int .u8 (tintV c 2 3), .int .u8 (tintV c 4 9)]) (by simp [results, Try.results20, go_sem, r0, r1, r2, g0, g1, g2]) rfl ⟨rfl, ?_⟩
        exact ((hB.setCell (Nat.le_refl _) _).setCell (Nat.le_refl _) _).setCell (Nat.le_refl _) _
end Go.Proofs.Ytbfdlfhidebjlaa.Cl
