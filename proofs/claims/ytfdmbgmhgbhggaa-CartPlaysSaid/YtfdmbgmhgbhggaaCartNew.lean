/- Package cart: New. -/
import Derived.Test.YtfdmbgmhgbhggaaCartWh
import Derived.Test.YtfdmbgmhgbhggaaCartFirst
import Derived.Deep.RegionHeld3
import Derived.Lib.SliceRun
import Derived.Deep.MidRow
import Derived.Great.FillDense
namespace Go.Proofs.Ytfdmbgmhgbhggaa.Ca
open Go.RowKit Go.Deep Go.Proofs.Ytfdmbgmhgbhggaa Go.Proofs.Ytfdmbgmhgbhggaa.Cl
set_option linter.unusedVariables false
set_option linter.unusedSimpArgs false
theorem info_u8 : (Try.prog.info? 5).map (fun i => (i.zero, i.size, i.bytes)) = some (some (.int .u8 0), 1, 1) := by kernel_rfl
theorem info_i64 : (Try.prog.info? 3).map (fun i => (i.zero, i.size, i.bytes)) = some (some (.int .i64 0), 1, 8) := by kernel_rfl
theorem ints_one (k : IntKind) (xs : List Int) : ∀ u ∈ xs.map (Value.int k), u.oneCell' = true := fun u hu => by
  obtain ⟨x, _, rfl⟩ := List.mem_map.1 hu; rfl
set_option maxRecDepth 100000 in
theorem clone_int (w : World) (v : Value) (xs : List Int) (hx : Lies w 1 v xs.length (xs.map (Value.int .i64))) (hs : xs.length ≤ 1000000) (hn : ∃ ad n c, v = .slice (some ad) n c) :
    Calls Try.prog 39 #[v] w fun e w' => ∃ r, e = .returned r ∧ w'.ownsRow w.heap.size 3 1 r xs.length (xs.map (Value.int .i64)) ∧ Below w.heap.size w w' := by
  obtain ⟨ad, nn, c, rfl⟩ := hn
  have HX := hideR hx
  obtain ⟨i0, hi, hz0, hz1, hz2⟩ := info_parts info_i64
  have hown0 := World.ownsRow_lit (base := w.heap.size) (e := 3) (size := 1) w #[] 0 (Nat.le_refl _) (by decide) rfl
  have hb0 : Below w.heap.size w (w.alloc (.cells #[] 3)) := (Below.refl _ _).alloc (Nat.le_refl _) _
  clear hx
  have keq := Lib.run_eql_slice_nil (P := Try.prog) w 42 3 (some ad) nn c 0 0 Try.underlying42
  go_enter Try.func39, Try.ntmps39
  go_wp2_with (at_builtin; refine wpList_append_of rfl _ _ 42 rfl w.heap.size 3 i0 (.int .i64 0) 1 8 Try.underlying42 hi hz0 hz1 hz2 rfl (by decide) _ _ _ rfl hown0 _ _ _ rfl (HX.out.below ((Below.refl _ _).alloc (Nat.le_refl _) _)) (ints_one _ _) (by simp only [maxLen]; omega) (by omega) hb0.size ?_)
  intro v1 w1 hown1 hgrow1
  have hb1 : Below w.heap.size w w1 := hb0.grown hgrow1 hb0.size (fun k hk => by cases hk; exact Nat.le_refl _)
  clear hown0 hgrow1 hb0
  go_wp2_with fail
  go_ret
  exact ⟨_, rfl, by simpa using hown1, hb1⟩
set_option maxRecDepth 100000 in
theorem clone_u8 (w : World) (v : Value) (xs : List Int) (hx : Lies w 1 v xs.length (xs.map (Value.int .u8))) (hs : xs.length ≤ 1000000) (hn : ∃ ad n c, v = .slice (some ad) n c) :
    Calls Try.prog 29 #[v] w fun e w' => ∃ r, e = .returned r ∧ w'.ownsRow w.heap.size 5 1 r xs.length (xs.map (Value.int .u8)) ∧ Below w.heap.size w w' := by
  obtain ⟨ad, nn, c, rfl⟩ := hn
  have HX := hideR hx
  obtain ⟨i0, hi, hz0, hz1, hz2⟩ := info_parts info_u8
  have hown0 := World.ownsRow_lit (base := w.heap.size) (e := 5) (size := 1) w #[] 0 (Nat.le_refl _) (by decide) rfl
  have hb0 : Below w.heap.size w (w.alloc (.cells #[] 5)) := (Below.refl _ _).alloc (Nat.le_refl _) _
  clear hx
  have keq := Lib.run_eql_slice_nil (P := Try.prog) w 28 5 (some ad) nn c 0 0 Try.underlying28
  go_enter Try.func29, Try.ntmps29
  go_wp2_with (at_builtin; refine wpList_append_of rfl _ _ 28 rfl w.heap.size 5 i0 (.int .u8 0) 1 1 Try.underlying28 hi hz0 hz1 hz2 rfl (by decide) _ _ _ rfl hown0 _ _ _ rfl (HX.out.below ((Below.refl _ _).alloc (Nat.le_refl _) _)) (ints_one _ _) (by simp only [maxLen]; omega) (by omega) hb0.size ?_)
  intro v1 w1 hown1 hgrow1
  have hb1 : Below w.heap.size w w1 := hb0.grown hgrow1 hb0.size (fun k hk => by cases hk; exact Nat.le_refl _)
  clear hown0 hgrow1 hb0
  go_wp2_with fail
  go_ret
  exact ⟨_, rfl, by simpa using hown1, hb1⟩

/-! ### The struct's cells -/
def zrow : Array Value := (.slice none 0 0 :: .int .i64 0 :: .slice none 0 0 :: .string ⟨#[]⟩ :: .bool false :: (List.replicate 128 (.int .u8 0) ++ [.bool false])).toArray
theorem zero_cart (W : World) : (zeroValue 71).run Try.prog W = .ok (.agg zrow) W := by kernel_rfl
theorem zrow_size : zrow.size = 134 := by kernel_rfl
def over (cs : Array Value) (el : List Value) : Array Value := List.foldl (fun cs (x : Value × Nat) => cs.setIfInBounds (5 + x.2) x.1) cs el.zipIdx
theorem over_eq (cs : Array Value) (el : List Value) : List.foldl (fun cs (x : Value × Nat) => cs.setIfInBounds (5 + x.2) x.1) cs el.zipIdx = over cs el := rfl
theorem over_size (cs : Array Value) (el : List Value) : (over cs el).size = cs.size := (Go.Great.foldl_set 5 el 0 cs).1
theorem over_row (s1 s2 : Value) (S : Int) (tag : ByteArray) (r : Bool) (el : List Value) (hl : el.length = 128) :
    (over (((((zrow.setIfInBounds 0 s1).setIfInBounds 1 (.int .i64 S)).setIfInBounds 2 s2).setIfInBounds 3 (.string tag)).setIfInBounds 4 (.bool r)) el).setIfInBounds 133 (.bool false) =
      (s1 :: .int .i64 S :: s2 :: .string tag :: .bool r :: (el ++ [.bool false])).toArray := by
  apply Array.ext_getElem?
  intro k
  have hz := zrow_size
  rw [Array.getElem?_setIfInBounds, over_size]
  simp only [Array.size_setIfInBounds, hz]
  have h5 := (Go.Great.foldl_set 5 el 0 (((((zrow.setIfInBounds 0 s1).setIfInBounds 1 (.int .i64 S)).setIfInBounds 2 s2).setIfInBounds 3 (.string tag)).setIfInBounds 4 (.bool r))).2 k
  unfold over
  rw [h5]
  simp only [Array.size_setIfInBounds, hz, hl]
  by_cases h133 : 133 = k
  · subst h133
    simp [hl]
  · rw [if_neg h133]
    by_cases hk : 5 ≤ k ∧ k < 133
    · rw [if_pos (by omega)]
      obtain ⟨j, rfl⟩ : ∃ j, k = j + 1 + 1 + 1 + 1 + 1 := ⟨k - 5, by omega⟩
      simp only [List.getElem?_toArray, List.getElem?_cons_succ]
      rw [List.getElem?_append_left (by omega)]
      congr 1
    · rw [if_neg (by omega)]
      by_cases hk5 : k < 5
      · have hc : k = 0 ∨ k = 1 ∨ k = 2 ∨ k = 3 ∨ k = 4 := by omega
        rcases hc with rfl | rfl | rfl | rfl | rfl <;> simp [Array.getElem?_setIfInBounds, hz]
      · rw [Array.getElem?_eq_none (by simp [hz]; omega), Array.getElem?_eq_none (by simp [hl]; omega)]
theorem owns_of_block {W : World} {base g : Nat} {l : List Int} (hg : base ≤ g) (h : W.heap[g]? = some (.cells (cellsOf l) 3 (0, 0))) (hm : l.length ≤ 1000000) :
    W.ownsRow base 3 1 (.slice (some ⟨g, 0, none⟩) l.length l.length) l.length (l.map (Value.int .i64)) :=
  ⟨by simp, .inr ⟨g, l.length, cellsOf l, rfl, hg, h, Nat.le_refl _, by simp only [maxLen]; omega, by simp [cellsOf], by simp [cellsOf, List.take_of_length_le]⟩⟩
end Go.Proofs.Ytfdmbgmhgbhggaa.Ca
