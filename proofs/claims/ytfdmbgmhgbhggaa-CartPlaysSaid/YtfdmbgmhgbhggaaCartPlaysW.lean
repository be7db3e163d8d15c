/- The Go law CartPlays: its walk, where nothing is played. -/
import Derived.Test.YtfdmbgmhgbhggaaCartServesW
import Derived.Test.YtfdmbgmhgbhggaaCartRN
import Derived.Test.YtfdmbgmhgbhggaaAppendStep
namespace Go.Proofs.Ytfdmbgmhgbhggaa.cartPlays
open Go.RowKit Go.Deep Go.Proofs.Ytfdmbgmhgbhggaa Go.Proofs.Ytfdmbgmhgbhggaa.Cl Go.Proofs.Ytfdmbgmhgbhggaa.Ca Go.Proofs.Ytfdmbgmhgbhggaa.cartHolds Go.Proofs.Ytfdmbgmhgbhggaa.cartServes
set_option linter.unusedVariables false
set_option linter.unusedSimpArgs false
set_option maxRecDepth 1000000 in
set_option maxHeartbeats 4000000 in
theorem plays_big (W : World) (tag : ByteArray) (len seed : Int) (el : List Value) (ao : Option Addr) (n cap : Nat) (hel : el.length = 128) (h : ¬ (n ≤ 200 ∧ len ≤ 32768)) :
    Calls Try.prog 5 #[.agg (playL tag len seed el ao n cap).toArray] W fun e W' => e = .returned (.bool true) ∧ Below W.heap.size W W' := by
  have hP : PlayAt (W.alloc (.cells (playL tag len seed el ao n cap).toArray 25)) W.heap.size tag len seed el ao n cap := heap_alloc_new W _
  have HR := hideR hP.all
  have hb0 : Below W.heap.size W (W.alloc (.cells (playL tag len seed el ao n cap).toArray 25)) := (Below.refl _ W).alloc (Nat.le_refl _) _
  have hsz := hb0.size
  have HU := hideR Try.underlying25
  have HI := hideR (show (Try.prog.info? 25).map (·.size) = some (playL tag len seed el ao n cap).length by rw [play_size _ _ _ _ _ _ _ hel]; kernel_rfl)
  have ks := fun w => small_any w tag len seed el ao n cap hel
  have hf : (decide (n ≤ 200) && decide (len ≤ 32768)) = false := by
    by_cases h1 : n ≤ 200
    · have h2 : ¬ len ≤ 32768 := fun h2 => h ⟨h1, h2⟩
      simp [h2]
    · simp [h1]
  rw [hf] at ks
  clear hP hel hf h
  generalize playL tag len seed el ao n cap = pl at *
  go_enter Try.func5, Try.ntmps5
  go_wp2_with (refine wpList_load_mid rfl 25 _ rfl W.heap.size 0 rfl pl _ HR.out HU.out rfl HI.out ?_)
  refine (ks _).mono ?_
  rintro e w1 ⟨rfl, hb1⟩
  go_wp2_with fail
  go_ret
  exact ⟨rfl, hb0.trans (hb1.mono hsz)⟩
set_option maxRecDepth 1000000 in
set_option maxHeartbeats 4000000 in
theorem plays_no (W : World) (tag : ByteArray) (len seed : Int) (ex : List Int) (ao : Option Addr) (n cap : Nat) (hex : ex.length = 128) (hn : n ≤ 200) (l0 : -9223372036854775808 ≤ len) (l1 : len ≤ 32768) (s0 : 0 ≤ seed) (s1 : seed ≤ 255)
    (N : Nat) (hN : N = len.toNat) (hok : Img.okK (Img.idx tag) N = false) :
    Calls Try.prog 5 #[.agg (playL tag len seed (ex.map (Value.int .u8)) ao n cap).toArray] W fun e W' => e = .returned (.bool true) ∧ Below W.heap.size W W' := by
  have hel : (ex.map (Value.int .u8)).length = 128 := by simpa using hex
  have err := err_ne (Img.idx tag) N hok
  obtain ⟨er, her⟩ : ∃ er, Img.errK (Img.idx tag) N = er := ⟨_, rfl⟩
  rw [her] at err
  have knew := fun W base r (xs : List Int) (hx : xs.length = N) hown hm => new_of W tag base r xs ex hown hm hex
  have krn := fun W ao cap => rnew_err W tag N ao cap (ex.map (Value.int .u8)) (by omega) hok hel er her err
  generalize hEL : ex.map (Value.int .u8) = el at *
  have hP : PlayAt (W.alloc (.cells (playL tag len seed el ao n cap).toArray 25)) W.heap.size tag len seed el ao n cap := heap_alloc_new W _
  have HR := hideR hP.all
  have hb0 : Below W.heap.size W (W.alloc (.cells (playL tag len seed el ao n cap).toArray 25)) := (Below.refl _ W).alloc (Nat.le_refl _) _
  have hsz := hb0.size
  have HU := hideR Try.underlying25
  have HI := hideR (show (Try.prog.info? 25).map (·.size) = some (playL tag len seed el ao n cap).length by rw [play_size _ _ _ _ _ _ _ hel]; kernel_rfl)
  have ks := fun w => small_any w tag len seed el ao n cap hel
  rw [decide_eq_true hn, decide_eq_true l1, Bool.true_and] at ks
  have HP := hideR (fun w (hb : Below _ _ w) => (hP.below hb))
  clear hP
  have hu22 := Try.underlying22
  have hi22 : (Try.prog.info? 22).map (·.size) = some el.length := by rw [hel]; kernel_rfl
  have hw : IntKind.i64.wrap seed = seed := IntWalk.i64_in _ (by omega)
  have HN := hideR hN
  have HK := hideR hok
  have HE := hideR her
  have hz := zero_rl
  have hzs := zrl_size
  have hstz : ∀ w : World, (storeCells ⟨w.heap.size, 0, none⟩ zrl.toList 0).run Try.prog (w.alloc (.cells zrl 52)) = .ok () (w.alloc (.cells zrl 52)) := fun w =>
    run_storeCells_new w 52 zrl zrl (by rw [hzs]; kernel_rfl) rfl (by kernel_rfl)
  generalize hpl : playL tag len seed el ao n cap = pl at *
  clear hok hN her
  go_enter Try.func5, Try.ntmps5
  go_wp2_with (refine wpList_load_mid rfl 25 _ rfl W.heap.size 0 rfl pl _ HR.out HU.out rfl HI.out ?_)
  refine (ks _).mono ?_
  rintro e w1 ⟨rfl, hb1⟩
  have hP1 := HP.out _ hb1
  have hB1 := hb0.trans (hb1.mono hsz)
  have c1 := hP1.c1
  have c2 := hP1.c2
  go_wp2_with fail
  refine (image_any len seed _ l0 l1 s0 s1).mono ?_
  rintro e w2 ⟨r, xs, rfl, hxl, hown, hb2⟩
  rw [← HN.out] at hxl
  subst hxl
  have hP2 := hP1.below hb2
  have hB2 := hB1.trans (hb2.mono hB1.size)
  clear c1 c2 hP1 hB1 hb2 hb1 ks
  have d0 := hP2.c0
  have D3 := hP2.range hel
  have hPl := hP2.lt
  obtain ⟨ai, ci, rfl⟩ := shapeOf hown
  have hown0 := World.ownsRow_lit (base := w2.heap.size) (e := 5) (size := 1) w2 #[] 0 (Nat.le_refl _) (by decide) rfl
  obtain ⟨i0, hi, hz0, hz1, hz2⟩ := info_parts info_u8
  have hb20 : Below w2.heap.size w2 (w2.alloc (.cells #[] 5)).drew := ((Below.refl _ _).alloc (Nat.le_refl _) _).drew
  have hLi : Lies (w2.alloc (.cells #[] 5)).drew 1 (.slice ai xs.length ci) xs.length (xs.map (Value.int .u8)) := (Lies.of_owns hown).below hb20
  have d0a := (hb20.cell (p := ⟨W.heap.size, 0, none⟩) hPl).trans d0
  have D3a : (w2.alloc (.cells #[] 5)).drew.rangeAt W.heap.size 3 el := fun j v hv => (hb20.cell (p := ⟨W.heap.size, 3 + j, none⟩) hPl).trans (D3 j v hv)
  have hxm : 0 + xs.length ≤ maxLen := by have := HN.out; simp only [maxLen]; omega
  have hxm2 : (0 + xs.length) * 1 ≤ 140737488355328 := by have := HN.out; omega
  have hxm3 : xs.length ≤ 1000000 := by have := HN.out; omega
  have hone := ints_one .u8 xs
  clear hown
  go_wp2_with fail
  go_region_held3 (fun w' => w'.cell? ⟨W.heap.size, 0, none⟩ = some (.string tag) ∧ w'.rangeAt W.heap.size 3 el) (go_keep) ((first | (go_at_call 11; refine (knew wa _ _ xs rfl (by simpa using hown1) hxm3).mono ?_; rintro e w3 hnew; obtain ⟨rfl, hb3⟩ := hnew.2 HK.out; have hPa := hP2.below hba; have hP3 := hPa.below hb3; have d0c := hP3.c0; have D3c := hP3.range hel) | (refine step_append_of rfl _ _ 28 (by rfl) w2.heap.size 5 i0 (.int .u8 0) 1 1 Try.underlying28 hi hz0 hz1 hz2 rfl (by decide) _ _ _ (by rfl) hown0 _ _ _ (by rfl) hLi hone hxm hxm2 hb20.size ?_; intro r1 wa hown1 hgrow1; have hba : Below w2.heap.size w2 wa := hb20.grown hgrow1 hb20.size (fun k hk => by cases hk; exact Nat.le_refl _); have d0b := (hba.cell (p := ⟨W.heap.size, 0, none⟩) hPl).trans d0; have D3b : wa.rangeAt W.heap.size 3 el := (fun j v hv => (hba.cell (p := ⟨W.heap.size, 3 + j, none⟩) hPl).trans (D3 j v hv)))))
  have hB3 := ((hB2.trans (hba.mono hB2.size)).trans (hb3.mono (Nat.le_trans hB2.size hba.size)))
  clear hown1 hgrow1 hnew knew d0 D3 d0a D3a d0b D3b hLi hown0 hPa hP2 hba hb20 hone hPl hb3
  rw [HE.out]
  have D3h := hideR D3c
  clear D3c hu22 hi22
  have HU22 := hideR Try.underlying22
  have HI22 := hideR (show (Try.prog.info? 22).map (·.size) = some el.length by rw [hel]; kernel_rfl)
  go_wp2_with (refine wpList_load_mid rfl 22 _ rfl W.heap.size 3 rfl el _ D3h.out HU22.out rfl HI22.out ?_)
  refine (krn _ _ _).mono ?_
  rintro e w4 ⟨rfl, hb4⟩
  have hB4 := hB3.trans (hb4.mono hB3.size)
  go_wp2_with fail
  refine (awake_any _).mono ?_
  rintro e w5 ⟨rfl, hb5⟩
  go_wp2_with fail
  go_ret
  have hs4 := hB4.size
  exact ⟨rfl, (hB4.alloc hs4 _).trans (hb5.mono (by simp only [World.size_alloc]; omega))⟩
end Go.Proofs.Ytfdmbgmhgbhggaa.cartPlays
