/- The Go law CartHolds: its walk. -/
import Derived.Test.YtfdmbgmhgbhggaaCartPlay
import Derived.Test.YtfdmbgmhgbhggaaCartAwake
namespace Go.Proofs.Ytfdmbgmhgbhggaa.cartHolds
open Go.RowKit Go.Deep Go.Proofs.Ytfdmbgmhgbhggaa Go.Proofs.Ytfdmbgmhgbhggaa.Cl Go.Proofs.Ytfdmbgmhgbhggaa.Ca
set_option linter.unusedVariables false
set_option linter.unusedSimpArgs false
set_option maxRecDepth 1000000 in
set_option maxHeartbeats 4000000 in
theorem holds_big (W : World) (tag : ByteArray) (len seed : Int) (el : List Value) (ao : Option Addr) (n cap : Nat) (a x : Int) (wr : Bool) (hel : el.length = 128) (h : ¬ (n ≤ 200 ∧ len ≤ 32768)) :
    Calls Try.prog 4 #[.agg (playL tag len seed el ao n cap).toArray, .agg #[.int .u16 a, .int .u8 x, .bool wr]] W fun e W' => e = .returned (.bool true) ∧ Below W.heap.size W W' := by
  have hP : PlayAt ((W.alloc (.cells (playL tag len seed el ao n cap).toArray 25)).alloc (.cells #[.int .u16 a, .int .u8 x, .bool wr] 41)) W.heap.size tag len seed el ao n cap :=
    (heap_alloc_old _ _ (by simp)).trans (heap_alloc_new W _)
  have hr := hP.all
  have hb0 : Below W.heap.size W ((W.alloc (.cells (playL tag len seed el ao n cap).toArray 25)).alloc (.cells #[.int .u16 a, .int .u8 x, .bool wr] 41)) :=
    ((Below.refl _ W).alloc (Nat.le_refl _) _).alloc (by simp) _
  have hsz := hb0.size
  have hu := Try.underlying25
  have hi : (Try.prog.info? 25).map (·.size) = some (playL tag len seed el ao n cap).length := by rw [play_size _ _ _ _ _ _ _ hel]; kernel_rfl
  have ks := fun w => small_any w tag len seed el ao n cap hel
  have hf : (decide (n ≤ 200) && decide (len ≤ 32768)) = false := by
    by_cases h1 : n ≤ 200
    · have h2 : ¬ len ≤ 32768 := fun h2 => h ⟨h1, h2⟩
      simp [h2]
    · simp [h1]
  rw [hf] at ks
  clear hP hel hf h
  generalize playL tag len seed el ao n cap = pl at *
  go_enter Try.func4, Try.ntmps4
  go_wp2_with fail
  refine wp_load_mid _ _ rfl W.heap.size 0 rfl pl _ hr hu rfl hi ?_
  go_wp2_with fail
  refine (ks _).mono ?_
  rintro e w1 ⟨rfl, hb1⟩
  go_wp2_with fail
  go_ret
  exact ⟨rfl, hb0.trans (hb1.mono hsz)⟩
/-- Behind New: its answer. -/
def NewAny (W : World) (tag : ByteArray) (xs ex : List Int) (e : Ending) (W' : World) : Prop :=
  (Img.okK (Img.idx tag) xs.length = true → NewPost W ⟨tag, xs, Img.firstK (Img.idx tag) xs.length, ex, false⟩ e W') ∧
  (Img.okK (Img.idx tag) xs.length = false → e = .returned (.tuple #[.pointer none, .int .i64 (Img.errK (Img.idx tag) xs.length)]) ∧ Below W.heap.size W W')
theorem err_ne (k n : Int) (h : Img.okK k n = false) : Img.errK k n ≠ 0 := by
  unfold Img.errK
  split
  · decide
  · rename_i hk
    split
    · rename_i hf
      have : 0 ≤ k := by omega
      simp [Img.okK, hf, this] at h
    · decide
theorem ok_pos (k n : Int) (hk : k ≤ 10) (h : Img.okK k n = true) : 0 < n := by
  have h1 : 0 ≤ k ∧ Img.fitsK k n = true := by simpa [Img.okK] using h
  obtain ⟨h0, h2⟩ := h1
  have hc : k = 0 ∨ k = 1 ∨ k = 2 ∨ k = 3 ∨ k = 4 ∨ k = 5 ∨ k = 6 ∨ k = 7 ∨ k = 8 ∨ k = 9 ∨ k = 10 := by omega
  rcases hc with rfl | rfl | rfl | rfl | rfl | rfl | rfl | rfl | rfl | rfl | rfl <;> simp [Img.fitsK, Img.lenK] at h2 <;> omega
/-- New of what Image made. -/
theorem new_of (W : World) (tag : ByteArray) (base : Nat) (r : Value) (xs ex : List Int) (h : W.ownsRow base 5 1 r xs.length (xs.map (Value.int .u8))) (hn : xs.length ≤ 1000000) (hex : ex.length = 128) :
    Calls Try.prog 11 #[.string tag, r, .agg (ex.map (Value.int .u8)).toArray] W (NewAny W tag xs ex) := by
  unfold NewAny
  cases hok : Img.okK (Img.idx tag) xs.length
  · obtain ⟨ao, cap, rfl⟩ := shapeOf h
    refine (new_err W tag _ xs.length ao cap rfl _ hn hok).mono fun e w' he => ⟨fun h => (by cases h), fun _ => he⟩
  · have hp := ok_pos _ _ (Img.idx_in tag).2 hok
    obtain ⟨g, cap, rfl, hg, hg'⟩ := h.form (by omega)
    exact (new_ok W tag ⟨g, 0, none⟩ cap xs ex (Lies.of_owns h) hok hex hn).mono fun e w' he => ⟨fun _ => he, fun h => (by cases h)⟩
set_option maxRecDepth 1000000 in
set_option maxHeartbeats 4000000 in
theorem holds_no (W : World) (tag : ByteArray) (len seed : Int) (ex : List Int) (ao : Option Addr) (n cap : Nat) (a x : Int) (wr : Bool) (hex : ex.length = 128) (hn : n ≤ 200) (l0 : -9223372036854775808 ≤ len) (l1 : len ≤ 32768) (s0 : 0 ≤ seed) (s1 : seed ≤ 255)
    (N : Nat) (hN : N = len.toNat) (hok : Img.okK (Img.idx tag) N = false) :
    Calls Try.prog 4 #[.agg (playL tag len seed (ex.map (Value.int .u8)) ao n cap).toArray, .agg #[.int .u16 a, .int .u8 x, .bool wr]] W fun e W' => e = .returned (.bool true) ∧ Below W.heap.size W W' := by
  have hel : (ex.map (Value.int .u8)).length = 128 := by simpa using hex
  have knew := fun W base r xs hown hm => new_of W tag base r xs ex hown hm hex
  generalize hEL : ex.map (Value.int .u8) = el at *
  have hP : PlayAt ((W.alloc (.cells (playL tag len seed el ao n cap).toArray 25)).alloc (.cells #[.int .u16 a, .int .u8 x, .bool wr] 41)) W.heap.size tag len seed el ao n cap :=
    (heap_alloc_old _ _ (by simp)).trans (heap_alloc_new W _)
  have hr := hP.all
  have hb0 : Below W.heap.size W ((W.alloc (.cells (playL tag len seed el ao n cap).toArray 25)).alloc (.cells #[.int .u16 a, .int .u8 x, .bool wr] 41)) :=
    ((Below.refl _ W).alloc (Nat.le_refl _) _).alloc (by simp) _
  have hsz := hb0.size
  have hu := Try.underlying25
  have hi : (Try.prog.info? 25).map (·.size) = some (playL tag len seed el ao n cap).length := by rw [play_size _ _ _ _ _ _ _ hel]; kernel_rfl
  have ks := fun w => small_any w tag len seed el ao n cap hel
  rw [decide_eq_true hn, decide_eq_true l1, Bool.true_and] at ks
  have HP := hideR (fun w (hb : Below _ _ w) => (hP.below hb))
  clear hP
  have hu22 := Try.underlying22
  have hi22 : (Try.prog.info? 22).map (·.size) = some el.length := by rw [hel]; kernel_rfl
  have hw : IntKind.i64.wrap seed = seed := IntWalk.i64_in _ (by omega)
  generalize hpl : playL tag len seed el ao n cap = pl at *
  go_enter Try.func4, Try.ntmps4
  go_wp2_with fail
  refine wp_load_mid _ _ rfl W.heap.size 0 rfl pl _ hr hu rfl hi ?_
  go_wp2_with fail
  refine (ks _).mono ?_
  rintro e w1 ⟨rfl, hb1⟩
  go_wp2_with fail
  have hP1 := HP.out _ hb1
  have hB1 := hb0.trans (hb1.mono hsz)
  have c0 := hP1.c0
  have c1 := hP1.c1
  have c2 := hP1.c2
  have c3 := hP1.range hel
  have hPl := hP1.lt
  have err := err_ne (Img.idx tag) N hok
  have HN := hideR hN
  have HK := hideR hok
  clear hok hr hb1 ks hN
  go_region_held3 (fun w' => w'.cell? ⟨W.heap.size, 0, none⟩ = some (.string tag) ∧ w'.cell? ⟨W.heap.size, 1, none⟩ = some (.int .i64 len) ∧ w'.cell? ⟨W.heap.size, 2, none⟩ = some (.int .u8 seed) ∧ w'.rangeAt W.heap.size 3 el) (go_keep) ((first | (skip; go_at_call 10; refine (image_any len seed _ l0 l1 s0 s1).mono ?_; rintro e w2 ⟨r, xs, rfl, hxl, hown, hb2⟩; rw [← HN.out] at hxl; have hP2 := PlayAt.below (W := w1.drew) hP1 hb2; have d0 := hP2.c0; have d1 := hP2.c1; have d2 := hP2.c2; have d3 := hP2.range hel) | (go_at_call 11; refine (knew w2 _ _ xs hown (by have := HN.out; omega)).mono ?_; rintro e w3 hnew; obtain ⟨rfl, hb3⟩ := hnew.2 (by rw [hxl]; exact HK.out); have hP3 := hP2.below hb3; have e0 := hP3.c0; have e1 := hP3.c1; have e2 := hP3.c2; have e3 := hP3.range hel)))
  clear hP2 hnew d0 d1 d2 d3 c0 c1 c2 c3 hP1
  go_wp2_with fail
  refine (awake_any _).mono ?_
  rintro e w4 ⟨rfl, hb4⟩
  go_wp2_with fail
  go_ret
  have hB3 := (hB1.drew).trans (hb2.mono (Nat.le_of_lt hPl))
  have hs3 := hB3.size
  exact ⟨rfl, (hB3.trans (hb3.mono hs3)).trans (hb4.mono (Nat.le_trans hs3 hb3.size))⟩
end Go.Proofs.Ytfdmbgmhgbhggaa.cartHolds
