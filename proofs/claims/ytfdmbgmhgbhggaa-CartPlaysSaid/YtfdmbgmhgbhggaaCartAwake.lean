/- Package woodgrainlaw05: awake. -/
import Derived.Test.YtfdmbgmhgbhggaaCartMk
import Derived.Test.YtfdmbgmhgbhggaaCartWatch2
import Derived.Test.YtfdmbgmhgbhggaaCartNil
namespace Go.Proofs.Ytfdmbgmhgbhggaa.Ca
open Go.RowKit Go.Deep Go.Proofs.Ytfdmbgmhgbhggaa Go.Proofs.Ytfdmbgmhgbhggaa.Cl
set_option linter.unusedVariables false
set_option linter.unusedSimpArgs false

/-- What New makes is fine. -/
theorem fine_new (tag : ByteArray) (im ex : List Int) (ok : Img.okK (Img.idx tag) im.length = true) (hex : ex.length = 128) : Fine ⟨tag, im, Img.firstK (Img.idx tag) im.length, ex, false⟩ := by
  refine ⟨ok, rfl, ?_, hex⟩
  show ∀ s ∈ Img.firstK (Img.idx tag) im.length, 0 ≤ s ∧ s < Img.banksK (Img.idx tag) im.length
  have h1 : 0 ≤ Img.idx tag ∧ Img.fitsK (Img.idx tag) im.length = true := by simpa [Img.okK] using ok
  have hk := (Img.idx_in tag).2
  generalize Img.idx tag = k at *
  generalize (im.length : Int) = n at *
  obtain ⟨h0, h4⟩ := h1
  have hc : k = 0 ∨ k = 1 ∨ k = 2 ∨ k = 3 ∨ k = 4 ∨ k = 5 ∨ k = 6 ∨ k = 7 ∨ k = 8 ∨ k = 9 ∨ k = 10 := by omega
  rcases hc with rfl | rfl | rfl | rfl | rfl | rfl | rfl | rfl | rfl | rfl | rfl
  case inr.inl =>
    have hge : 0 < n ∧ n ≤ 524288 ∧ n % 2048 = 0 := by simpa using (show (decide (0 < n) && (decide (n ≤ 524288) && (n % 2048 == 0))) = true from h4)
    simp [Img.banksK, Img.sizeK, Img.firstK, ok]; omega
  all_goals
    have hge := beq_iff_eq.1 (show (n == Img.lenK _) = true from h4)
    simp [Img.lenK] at hge
    simp only [hge] at ok
    simp [Img.sizeK, Img.banksK, Img.firstK, ok, hge]

theorem made_row (z : Value) (n : Nat) : madeCells #[z] n = (List.replicate n z).toArray := by
  apply Array.ext'
  rw [toList_madeCells_one]
def im0 : List Int := ((List.replicate 8192 0).set 0 3).set 4096 4
theorem im0_len : im0.length = 8192 := by unfold im0; rw [List.length_set, List.length_set, List.length_replicate]
theorem im0_a : im0.getD 0 0 = 3 := by decide +kernel
theorem im0_b : im0.getD 4096 0 = 4 := by decide +kernel
def ex0 : List Int := List.replicate 128 0
theorem ex0_len : ex0.length = 128 := by simp [ex0]
def tF8 : ByteArray := ⟨#[70, 56]⟩
def tSC : ByteArray := ⟨#[70, 56, 83, 67]⟩
theorem kF8 : Img.idx tF8 = 8 := by decide +kernel
theorem kSC : Img.idx tSC = 9 := by decide +kernel
theorem ok8 : Img.okK 8 8192 = true := by decide +kernel
theorem ok9 : Img.okK 9 8192 = true := by decide +kernel
theorem first8 : Img.firstK 8 8192 = [1] := by decide +kernel
theorem first9 : Img.firstK 9 8192 = [1] := by decide +kernel
def ctF8 : Ct := ⟨tF8, im0, Img.firstK (Img.idx tF8) im0.length, ex0, false⟩
def ctSC : Ct := ⟨tSC, im0, Img.firstK (Img.idx tSC) im0.length, ex0, false⟩
theorem okF8 : Img.okK (Img.idx tF8) im0.length = true := by rw [kF8, im0_len]; exact ok8
theorem okSC : Img.okK (Img.idx tSC) im0.length = true := by rw [kSC, im0_len]; exact ok9
def c8 (s : Int) : Ct := ⟨tF8, im0, [s], ex0, false⟩
theorem c8_k (s : Int) : (c8 s).k = 8 := kF8
theorem c8_sz (s : Int) : (c8 s).sz = 4096 := by show Img.szK (Img.idx tF8) im0.length = 4096; rw [kF8, im0_len]; decide +kernel
theorem c8_ram (s : Int) : (c8 s).ram = false := by show Img.exK (Img.idx tF8) im0.length = false; rw [kF8, im0_len]; decide +kernel
theorem ctF8_eq : ctF8 = c8 1 := by unfold ctF8 c8; rw [kF8, im0_len]; rw [show Img.firstK 8 ((8192 : Nat) : Int) = [1] from first8]
theorem c8_sh (s : Int) : (c8 s).sh = [s] := rfl
theorem c8_im (s : Int) : (c8 s).im = im0 := rfl
theorem w8 (s : Int) (a v : Int) (hT : turnF (c8 s) a 0 false = some (0, v)) : watchF (c8 s) a 0 false = c8 v := by
  have h2 : exF (c8 s) a 0 = ex0 := by unfold exF; rw [if_neg (by rw [c8_ram]; simp)]; rfl
  have h3 : armF (c8 s) a = false := by unfold armF; rw [if_neg (by rw [c8_k]; decide)]; rfl
  have h1 : shF (c8 s) a 0 false = [v] := by unfold shF; rw [hT, c8_sh]; rfl
  unfold watchF
  rw [h1, h2, h3]; rfl
theorem w8a : watchF (c8 1) 8184 0 false = c8 0 := w8 1 8184 0 (by unfold turnF; rw [c8_k]; decide)
theorem w8b : watchF (c8 0) 8185 0 false = c8 1 := w8 0 8185 1 (by unfold turnF; rw [c8_k]; decide)
theorem p8 (s : Int) (h : s = 0 ∨ s = 1) : peekF (c8 s) 4096 = (im0.getD (s * 4096).toNat 0, true) := by
  have hw : whereF (c8 s) 4096 = s * 4096 := by
    unfold whereF; rw [if_neg (by rw [c8_ram]; simp), c8_sz, c8_sh]; simp
  unfold peekF; rw [hw, if_pos (by omega), c8_im]
theorem p8a : peekF (c8 0) 4096 = (3, true) := by rw [p8 0 (by simp)]; exact congrArg (·, true) im0_a
theorem p8b : peekF (c8 1) 4096 = (4, true) := by rw [p8 1 (by simp)]; exact congrArg (·, true) im0_b
def c9 (ex : List Int) : Ct := ⟨tSC, im0, [1], ex, false⟩
theorem c9_k (ex : List Int) : (c9 ex).k = 9 := kSC
theorem c9_ram (ex : List Int) : (c9 ex).ram = true := by show Img.exK (Img.idx tSC) im0.length = true; rw [kSC, im0_len]; decide +kernel
theorem ctSC_eq : ctSC = c9 ex0 := by unfold ctSC c9; rw [kSC, im0_len]; rw [show Img.firstK 9 ((8192 : Nat) : Int) = [1] from first9]
theorem c9_ex (ex : List Int) : (c9 ex).ex = ex := rfl
theorem w9 : watchF (c9 ex0) 4097 5 true = c9 (ex0.set 1 5) := by
  have hT : turnF (c9 ex0) 4097 5 true = none := by unfold turnF; rw [c9_k]; decide
  have h2 : exF (c9 ex0) 4097 5 = ex0.set 1 5 := by unfold exF; rw [if_pos ⟨c9_ram _, by decide⟩]; rfl
  have h3 : armF (c9 ex0) 4097 = false := by unfold armF; rw [if_neg (by rw [c9_k]; decide)]; rfl
  have h1 : shF (c9 ex0) 4097 5 true = [1] := by unfold shF; rw [hT]; rfl
  unfold watchF
  rw [h1, h2, h3]; rfl
theorem ex_at : (ex0.set 1 5).getD 1 0 = 5 := by decide +kernel
theorem p9 : peekF (c9 (ex0.set 1 5)) 4225 = (5, true) := by
  have hw := where_off (c9 (ex0.set 1 5)) 4225 (.inr ⟨c9_ram _, by decide⟩)
  unfold peekF; rw [hw, if_neg (by decide), if_pos (by decide), c9_ex]; exact congrArg (·, true) ex_at
/-- The image that awake makes, two bytes set. -/
theorem made_im0 : ((madeCells #[Value.int .u8 0] 8192).setIfInBounds 0 (.int .u8 3)).setIfInBounds 4096 (.int .u8 4) = (im0.map (Value.int .u8)).toArray := by
  rw [made_row]
  simp only [List.setIfInBounds_toArray, im0, List.map_set, List.map_replicate]
set_option maxRecDepth 1000000 in
set_option maxHeartbeats 1000000 in
theorem awake_any (W : World) : Calls Try.prog 13 #[] W fun e W' => e = .returned (.bool true) ∧ Below W.heap.size W W' := by
  have hmk : (Instr.makeSlice 28 (.int .i64 8192) (.int .i64 8192)).run Try.prog W = .ok (.slice (some ⟨W.heap.size, 0, none⟩) 8192 8192) (W.alloc (.cells (madeCells #[Value.int .u8 0] 8192) 5)) :=
    run_make_row' (P := Try.prog) 28 5 (.int .u8 0) 1 Try.underlying28 info_u8 rfl .i64 .i64 8192 (by omega) (by omega) W
  have hz := zero_ex
  have hzx : zex = (ex0.map (Value.int .u8)).toArray := by unfold zex ex0; rw [List.map_replicate]
  have hma := made_im0
  have d0 : (W.alloc (.cells (madeCells #[Value.int .u8 0] 8192) 5)).cell? ⟨W.heap.size, 0, none⟩ = some (.int .u8 0) := by
    rw [made_row]; exact World.cell?_alloc_at _ _ _ _ (by simp)
  have d2 : (W.alloc (.cells ((madeCells #[Value.int .u8 0] 8192).setIfInBounds 0 (.int .u8 3)) 5)).cell? ⟨W.heap.size, 4096, none⟩ = some (.int .u8 0) := by
    rw [made_row]; exact (World.cell?_alloc_at _ _ _ _ rfl).trans (by rw [Array.getElem?_setIfInBounds_ne (by decide)]; simp)
  go_enter Try.func13, Try.ntmps13
  go_wp2_with fail
  have hh := heap_alloc_new W (.cells (im0.map (Value.int .u8)).toArray 5)
  have hbw : Below W.heap.size W (W.alloc (.cells (im0.map (Value.int .u8)).toArray 5)) := (Below.refl _ W).alloc (Nat.le_refl _) _
  generalize W.alloc (.cells (im0.map (Value.int .u8)).toArray 5) = w2 at *
  have hg : W.heap.size < w2.heap.size := (Array.getElem?_eq_some_iff.1 hh).1
  have hL : ∀ w, Below w2.heap.size w2 w → Lies w 1 (.slice (some ⟨W.heap.size, 0, none⟩) im0.length im0.length) im0.length (im0.map (Value.int .u8)) := fun w hw =>
    ⟨by simp, _, _, rfl, ⟨Nat.le_refl _, fun h => by cases h⟩, .inr ⟨W.heap.size, 0, rfl, Nat.lt_of_lt_of_le hg hw.size, fun i u hu => by rw [Nat.zero_add, hw.cell (p := ⟨W.heap.size, i, none⟩) hg, cell_of_row w2 _ _ _ _ _ hh]; simpa using hu⟩⟩
  generalize hG : W.heap.size = G at *
  have k1 : ∀ n, n = im0.length → ∀ w, Below w2.heap.size w2 w → Calls Try.prog 11 #[.string tF8, .slice (some ⟨G, 0, none⟩) n n, .agg (ex0.map (Value.int .u8)).toArray] w (NewPost w (c8 1)) := by
    rintro n rfl w hw
    rw [← ctF8_eq]
    exact new_ok w tF8 ⟨G, 0, none⟩ _ im0 ex0 (hL w hw) okF8 ex0_len (by rw [im0_len]; decide)
  have k2 : ∀ n, n = im0.length → ∀ w, Below w2.heap.size w2 w → Calls Try.prog 11 #[.string tSC, .slice (some ⟨G, 0, none⟩) n n, .agg (ex0.map (Value.int .u8)).toArray] w (NewPost w (c9 ex0)) := by
    rintro n rfl w hw
    rw [← ctSC_eq]
    exact new_ok w tSC ⟨G, 0, none⟩ _ im0 ex0 (hL w hw) okSC ex0_len (by rw [im0_len]; decide)
  have f81 : Fine (c8 1) := ctF8_eq ▸ fine_new tF8 im0 ex0 okF8 ex0_len
  have f80 : Fine (c8 0) := w8a ▸ watch_fine _ f81 8184 0 false (by decide)
  have f90 : Fine (c9 ex0) := ctSC_eq ▸ fine_new tSC im0 ex0 okSC ex0_len
  have f91 : Fine (c9 (ex0.set 1 5)) := w9 ▸ watch_fine _ f90 4097 5 true (by decide)
  refine (k1 8192 im0_len.symm w2 (Below.refl _ _)).mono ?_
  clear k1 hmk d0 d2 hL hma
  rintro e w3 ⟨b, ib, icap, sb, rfl, hS3, hb3⟩
  go_wp2_with fail
  refine (watch_any w3 _ b ib icap sb _ _ hS3 f81 8184 0 false (by decide) (by decide) (by decide) (by decide)).mono ?_
  rintro e w4 ⟨rfl, hS4, hb4, hz4⟩
  rw [w8a] at hS4
  have hB4 := hb3.trans hb4
  clear hS3 hb3 hb4 hz4
  go_wp2_with fail
  refine (peek_any w4 _ b ib icap sb _ _ hS4 f80 4096 (by decide) (by decide)).mono ?_
  rintro e w5 ⟨rfl, hb5⟩
  rw [p8a]
  have hS5 := hS4.below hb5
  have hB5 := hB4.trans (hb5.mono hB4.size)
  clear hS4 hB4 hb5
  go_wp2_with fail
  refine (watch_any w5 _ b ib icap sb _ _ hS5 f80 8185 0 false (by decide) (by decide) (by decide) (by decide)).mono ?_
  rintro e w6 ⟨rfl, hS6, hb6, hz6⟩
  rw [w8b] at hS6
  have hB6 := hB5.trans hb6
  clear hS5 hB5 hb6 hz6
  go_wp2_with fail
  refine (peek_any w6 _ b ib icap sb _ _ hS6 f81 4096 (by decide) (by decide)).mono ?_
  rintro e w7 ⟨rfl, hb7⟩
  rw [p8b]
  have hB7 := hB6.trans (hb7.mono hB6.size)
  clear hS6 hB6 hb7
  go_wp2_with fail
  refine (k2 8192 im0_len.symm w7 hB7).mono ?_
  clear k2
  rintro e w8 ⟨b', ib', icap', sb', rfl, hS8, hb8⟩
  have hB8 := hB7.trans (hb8.mono hB7.size)
  go_wp2_with fail
  refine (watch_any w8 _ b' ib' icap' sb' _ _ hS8 f90 4097 5 true (by decide) (by decide) (by decide) (by decide)).mono ?_
  rintro e w9' ⟨rfl, hS9, hb9, hz9⟩
  rw [w9] at hS9
  have hB9 := hB8.trans (hb9.mono hB7.size)
  clear hS8 hb8 hB8 hb9
  go_wp2_with fail
  refine (peek_any w9' _ b' ib' icap' sb' _ _ hS9 f91 4225 (by decide) (by decide)).mono ?_
  rintro e w10 ⟨rfl, hb10⟩
  rw [p9]
  have hB10 := hB9.trans (hb10.mono hB9.size)
  clear hS9 hB9 hb10
  go_wp2_with fail
  go_ret
  rw [hG]
  exact ⟨rfl, hbw.trans (hB10.mono (Nat.le_of_lt hg))⟩
end Go.Proofs.Ytfdmbgmhgbhggaa.Ca
