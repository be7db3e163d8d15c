/- The reference's image; whether a play is small enough. -/
import Derived.Test.YtfdmbgmhgbhggaaCartNew
import Derived.Deep.AppendLies
namespace Go.Proofs.Ytfdmbgmhgbhggaa.Ca
open Go.RowKit Go.Deep Go.Proofs.Ytfdmbgmhgbhggaa Go.Proofs.Ytfdmbgmhgbhggaa.Cl
set_option linter.unusedVariables false
set_option linter.unusedSimpArgs false
set_option maxRecDepth 1000000 in
theorem image_any (len seed : Int) (w : World) (l0 : -9223372036854775808 ≤ len) (l1 : len ≤ 32768) (s0 : 0 ≤ seed) (s1 : seed ≤ 255) :
    Calls Try.prog 10 #[.int .i64 len, .int .i64 seed] w fun e w' => ∃ (r : Value) (xs : List Int), e = .returned r ∧ xs.length = len.toNat ∧ w'.ownsRow w.heap.size 5 1 r xs.length (xs.map (Value.int .u8)) ∧ Below w.heap.size w w' := by
  obtain ⟨i0, hi, hz0, hz1, hz2⟩ := info_parts info_u8
  have t0 : Int.tmod seed 251 = seed % 251 := Int.tmod_eq_emod_of_nonneg s0
  have r0 := Int.emod_nonneg seed (show (251 : Int) ≠ 0 by decide)
  have r1 := Int.emod_lt_of_pos seed (show (0 : Int) < 251 by decide)
  have w0 : IntKind.i64.wrap (seed % 251) = seed % 251 := IntWalk.i64_in _ (by omega)
  go_enter Try.func10, Try.ntmps10
  go_wp2
  go_loopw [5, 6, 7] (fun v x i wr => ∃ (k : Nat) (X : Int) (xs : List Int), (k : Int) ≤ len.toNat ∧ i = .int .i64 k ∧ x = .int .i64 X ∧ 0 ≤ X ∧ X ≤ 250 ∧ xs.length = k ∧ wr.ownsRow w.heap.size 5 1 v k (xs.map (Value.int .u8)) ∧ Below w.heap.size w wr)
    (fun _ _ i _ => len.toNat - (intOf i).toNat)
  case atStart => exact ⟨0, seed % 251, [], by omega, rfl, rfl, r0, by omega, rfl, World.ownsRow_nil _ _ _ _, Below.refl _ _⟩
  case round =>
    obtain ⟨k, X, xs, hk, rfl, rfl, X0, X1, hxl, hown, hnx⟩ := hrel
    clear r0 r1 t0 w0
    by_cases hkl : (k : Int) < len
    · have hsz := hnx.size
      have q0 : Int.tdiv (k : Int) 256 = (k : Int) / 256 := Int.tdiv_eq_ediv_of_nonneg (by omega)
      have w1 : IntKind.i64.wrap (X * 5) = X * 5 := IntWalk.i64_in _ (by omega)
      have w2 : IntKind.i64.wrap ((k : Int) / 256) = (k : Int) / 256 := IntWalk.i64_in _ (by omega)
      have w3 : IntKind.i64.wrap (X * 5 + (k : Int) / 256) = X * 5 + (k : Int) / 256 := IntWalk.i64_in _ (by omega)
      have w4 : IntKind.i64.wrap (X * 5 + (k : Int) / 256 + 17) = X * 5 + (k : Int) / 256 + 17 := IntWalk.i64_in _ (by omega)
      have y0 : Int.tmod (X * 5 + (k : Int) / 256 + 17) 251 = (X * 5 + (k : Int) / 256 + 17) % 251 := Int.tmod_eq_emod_of_nonneg (by omega)
      obtain ⟨Y, hY⟩ : ∃ Y, Y = (X * 5 + (k : Int) / 256 + 17) % 251 := ⟨_, rfl⟩
      have Y0 : 0 ≤ Y := by omega
      have Y1 : Y ≤ 250 := by omega
      rw [← hY] at y0
      have w5 : IntKind.i64.wrap Y = Y := IntWalk.i64_in _ (by omega)
      have w6 : IntKind.u8.wrap Y = Y := by show Y % 256 = Y; omega
      generalize hQ : (k : Int) / 256 = Q at *
      clear hY hQ
      go_wp2_with (at_builtin; refine wpList_append_lies _ rfl _ _ 28 rfl w.heap.size 5 i0 (.int .u8 0) 1 1 Try.underlying28 hi hz0 hz1 hz2 rfl (by decide) _ _ _ rfl (hown.alloc _) ⟨wr.heap.size, 0, none⟩ 1 1 [.int .u8 Y] rfl rfl (World.news_of_block (heap_alloc_new wr _)) (by simp [Value.oneCell']) (by decide) (by simp only [maxLen]; omega) (by omega) (by simp only [World.size_alloc]; exact Nat.le_succ_of_le hsz) (wr.heap.size + 1) (by simp) ?_)
      intro g' cap'' w1' hown1 hgrow1 hat1 hlt1
      have hb1 := (hnx.alloc hsz (.cells #[.int .u8 Y] 5)).grown hgrow1 (by simp only [World.size_alloc]; exact Nat.le_succ_of_le hsz) (fun k hk => (hown.lt k hk).1)
      clear hgrow1 hown
      go_wp2
      go_roundw
      case rel => exact ⟨k + 1, Y, xs ++ [Y], by omega, by go_num, rfl, Y0, Y1, by simp [hxl], by simpa using hown1, hb1⟩
      case measure => simp [intOf]; omega
    · have hkn : xs.length = len.toNat := by omega
      go_wp2
      go_ret
      exact ⟨_, rfl, xs, hkn, by rw [hxl]; exact hown, hnx⟩
/-- A play's cells. -/
def playL (tag : ByteArray) (len seed : Int) (el : List Value) (ao : Option Addr) (n cap : Nat) : List Value := .string tag :: .int .i64 len :: .int .u8 seed :: (el ++ [.slice ao n cap])
theorem play_size (tag : ByteArray) (len seed : Int) (el : List Value) (ao : Option Addr) (n cap : Nat) (hl : el.length = 128) : (playL tag len seed el ao n cap).length = 132 := by simp [playL, hl]
theorem play_at (tag : ByteArray) (len seed : Int) (el : List Value) (ao : Option Addr) (n cap : Nat) (hl : el.length = 128) : (playL tag len seed el ao n cap)[131]? = some (.slice ao n cap) := by
  rw [show 131 = 128 + 1 + 1 + 1 from rfl]
  simp only [playL, List.getElem?_cons_succ]
  rw [List.getElem?_append_right (by omega)]
  simp [hl]
set_option maxRecDepth 1000000 in
theorem small_any (w : World) (tag : ByteArray) (len seed : Int) (el : List Value) (ao : Option Addr) (n cap : Nat) (hl : el.length = 128) :
    Calls Try.prog 9 #[.agg (playL tag len seed el ao n cap).toArray] w fun e w' => e = .returned (.bool (decide (n ≤ 200) && decide (len ≤ 32768))) ∧ Below w.heap.size w w' := by
  have h131 : (w.alloc (.cells (playL tag len seed el ao n cap).toArray 25)).cell? ⟨w.heap.size, 131, none⟩ = some (.slice ao n cap) :=
    (World.cell?_alloc_at _ _ _ _ rfl).trans (by rw [List.getElem?_toArray]; exact play_at tag len seed el ao n cap hl)
  have h1 : (w.alloc (.cells (playL tag len seed el ao n cap).toArray 25)).cell? ⟨w.heap.size, 1, none⟩ = some (.int .i64 len) :=
    World.cell?_alloc_at _ _ _ _ rfl
  by_cases hn : n ≤ 200
  · have hn' : (n : Int) ≤ 200 := by omega
    rw [decide_eq_true hn, Bool.true_and]
    go_enter Try.func9, Try.ntmps9
    go_wp2_with fail
    go_ret
    exact ⟨rfl, (Below.refl _ _).alloc (Nat.le_refl _) _⟩
  · have hn' : ¬ (n : Int) ≤ 200 := by omega
    rw [decide_eq_false hn, Bool.false_and]
    go_enter Try.func9, Try.ntmps9
    go_wp2_with fail
    go_ret
    exact ⟨rfl, (Below.refl _ _).alloc (Nat.le_refl _) _⟩
end Go.Proofs.Ytfdmbgmhgbhggaa.Ca
