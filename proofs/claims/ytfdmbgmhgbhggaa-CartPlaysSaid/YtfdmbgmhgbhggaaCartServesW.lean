/- The Go law CartServes: its walk. -/
import Derived.Test.YtfdmbgmhgbhggaaCartHoldsW
import Derived.Test.YtfdmbgmhgbhggaaCartNil
namespace Go.Proofs.Ytfdmbgmhgbhggaa.cartServes
open Go.RowKit Go.Deep Go.Proofs.Ytfdmbgmhgbhggaa Go.Proofs.Ytfdmbgmhgbhggaa.Cl Go.Proofs.Ytfdmbgmhgbhggaa.Ca Go.Proofs.Ytfdmbgmhgbhggaa.cartHolds
set_option linter.unusedVariables false
set_option linter.unusedSimpArgs false
theorem Oth.trans {b g : Nat} {A B C : World} (h : Oth b g A B) (k : Oth b g B C) : Oth b g A C :=
  ⟨k.os.trans h.os, k.tape.trans h.tape, k.output.trans h.output, k.size.trans h.size, fun i hi hj => (k.block i hi hj).trans (h.block i hi hj)⟩
theorem Oth.below {b g B : Nat} {w A C : World} (h : Oth b g A C) (hw : Below B w A) (hb : B ≤ b) (hg : B ≤ g) : Below B w C :=
  hw.trans ⟨h.os, h.tape, h.output, Nat.le_of_eq h.size.symm, fun k hk => h.block k (by omega) (by omega)⟩
theorem Oth.cell {b g : Nat} {A C : World} (h : Oth b g A C) {p : Addr} (h1 : p.block ≠ b) (h2 : p.block ≠ g) : C.cell? p = A.cell? p := by
  obtain ⟨blk, off, spot⟩ := p
  exact World.cell?_of_block (h.block _ h1 h2)
set_option maxRecDepth 1000000 in
set_option maxHeartbeats 4000000 in
theorem serves_no (W : World) (tag : ByteArray) (len seed : Int) (ex : List Int) (ao : Option Addr) (n cap : Nat) (a : Int) (hex : ex.length = 128) (hn : n ≤ 200) (l0 : -9223372036854775808 ≤ len) (l1 : len ≤ 32768) (s0 : 0 ≤ seed) (s1 : seed ≤ 255)
    (N : Nat) (hN : N = len.toNat) (hok : Img.okK (Img.idx tag) N = false) :
    Calls Try.prog 3 #[.agg (playL tag len seed (ex.map (Value.int .u8)) ao n cap).toArray, .int .u16 a] W fun e W' => e = .returned (.bool true) ∧ Below W.heap.size W W' := by
  have hel : (ex.map (Value.int .u8)).length = 128 := by simpa using hex
  have knew := fun W base r xs hown hm => new_of W tag base r xs ex hown hm hex
  generalize hEL : ex.map (Value.int .u8) = el at *
  have hP : PlayAt (W.alloc (.cells (playL tag len seed el ao n cap).toArray 25)) W.heap.size tag len seed el ao n cap := heap_alloc_new W _
  have HR := hideR hP.all
  have hb0 : Below W.heap.size W (W.alloc (.cells (playL tag len seed el ao n cap).toArray 25)) := (Below.refl _ W).alloc (Nat.le_refl _) _
  have hsz := hb0.size
  have hu := Try.underlying25
  have hi : (Try.prog.info? 25).map (·.size) = some (playL tag len seed el ao n cap).length := by rw [play_size _ _ _ _ _ _ _ hel]; kernel_rfl
  have ks := fun w => small_any w tag len seed el ao n cap hel
  rw [decide_eq_true hn, decide_eq_true l1, Bool.true_and] at ks
  have HP := hideR (fun w (hb : Below _ _ w) => (hP.below hb))
  clear hP
  have hu22 := Try.underlying22
  have hi22 : (Try.prog.info? 22).map (·.size) = some el.length := by rw [hel]; kernel_rfl
  have hw : IntKind.i64.wrap seed = seed := IntWalk.i64_in _ (by omega)
  have kfit := fun w => fit_any tag (N : Int) w (by omega) (by omega)
  have err := err_ne (Img.idx tag) N hok
  have HN := hideR hN
  have HK := hideR hok
  unfold Img.shape at kfit
  generalize hS : Img.szK (Img.idx tag) N = S at *
  generalize hB : Img.banksK (Img.idx tag) N = B at *
  generalize hWi : Img.winsK (Img.idx tag) N = Wi at *
  generalize hX : Img.exK (Img.idx tag) N = X at *
  generalize hpl : playL tag len seed el ao n cap = pl at *
  clear hok hN
  go_enter Try.func3, Try.ntmps3
  go_wp2_with fail
  refine wp_load_mid _ _ rfl W.heap.size 0 rfl pl _ HR.out hu rfl hi ?_
  go_wp2_with fail
  refine (ks _).mono ?_
  rintro e w1 ⟨rfl, hb1⟩
  have hP1 := HP.out _ hb1
  have hB1 := hb0.trans (hb1.mono hsz)
  have c1 := hP1.c1
  have c2 := hP1.c2
  go_wp2_with fail
  refine (image_any len seed _ l0 l1 s0 s1).mono ?_
  rintro e w2 ⟨r, xs, rfl, hxl, hown, hb2⟩
  rw [← HN.out] at hxl
  subst hxl
  have hP2 := hP1.below hb2
  have hB2 := hB1.trans (hb2.mono hB1.size)
  clear c1 c2 hP1 hB1 hb2 hb1 ks
  have d0 := hP2.c0
  have D3 := hideR (hP2.range hel)
  obtain ⟨ai, ci, rfl⟩ := shapeOf hown
  go_wp2_with fail
  refine wp_load_mid _ _ rfl W.heap.size 3 rfl el _ D3.out hu22 rfl hi22 ?_
  go_wp2_with fail
  refine (knew w2 _ _ xs hown (by have := HN.out; omega)).mono ?_
  rintro e w3 hnew
  obtain ⟨rfl, hb3⟩ := hnew.2 HK.out
  have hP3 := hP2.below hb3
  have hB3 := hB2.trans (hb3.mono hB2.size)
  clear d0 D3 hP2 hB2 hb3 hnew hown knew
  have e0 := hP3.c0
  go_wp2_with fail
  refine (kfit _).mono ?_
  rintro e w4 ⟨rfl, hb4⟩
  have hB4 := hB3.trans (hb4.mono hB3.size)
  clear kfit hb4 hB3 hP3 e0
  go_wp2_with fail
  refine (awake_any _).mono ?_
  rintro e w5 ⟨rfl, hb5⟩
  go_wp2_with fail
  go_ret
  have hs4 := hB4.size
  exact ⟨rfl, (hB4.alloc hs4 _).trans (hb5.mono (by simp only [World.size_alloc]; omega))⟩
set_option maxRecDepth 1000000 in
set_option maxHeartbeats 4000000 in
theorem serves_big (W : World) (tag : ByteArray) (len seed : Int) (el : List Value) (ao : Option Addr) (n cap : Nat) (a : Int) (hel : el.length = 128) (h : ¬ (n ≤ 200 ∧ len ≤ 32768)) :
    Calls Try.prog 3 #[.agg (playL tag len seed el ao n cap).toArray, .int .u16 a] W fun e W' => e = .returned (.bool true) ∧ Below W.heap.size W W' := by
  have hP : PlayAt (W.alloc (.cells (playL tag len seed el ao n cap).toArray 25)) W.heap.size tag len seed el ao n cap := heap_alloc_new W _
  have HR := hideR hP.all
  have hb0 : Below W.heap.size W (W.alloc (.cells (playL tag len seed el ao n cap).toArray 25)) := (Below.refl _ W).alloc (Nat.le_refl _) _
  have hsz := hb0.size
  have hu := Try.underlying25
  have hi : (Try.prog.info? 25).map (·.size) = some (playL tag len seed el ao n cap).length := by rw [play_size _ _ _ _ _ _ _ hel]; kernel_rfl
  have ks := fun w => small_any w tag len seed el ao n cap hel
  have hf : (decide (n ≤ 200) && decide (len ≤ 32768)) = false := by
    by_cases h1 : n ≤ 200
    · have h2 : ¬ len ≤ 32768 := fun h2 => h ⟨h1, h2⟩
      simp [h2]
    · simp [h1]
  rw [hf] at ks
  clear hP hel hf h
  generalize playL tag len seed el ao n cap = pl at *
  go_enter Try.func3, Try.ntmps3
  go_wp2_with fail
  refine wp_load_mid _ _ rfl W.heap.size 0 rfl pl _ HR.out hu rfl hi ?_
  go_wp2_with fail
  refine (ks _).mono ?_
  rintro e w1 ⟨rfl, hb1⟩
  go_wp2_with fail
  go_ret
  exact ⟨rfl, hb0.trans (hb1.mono hsz)⟩
end Go.Proofs.Ytfdmbgmhgbhggaa.cartServes
