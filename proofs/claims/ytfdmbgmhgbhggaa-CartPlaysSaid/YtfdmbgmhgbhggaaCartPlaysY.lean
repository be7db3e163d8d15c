/- The Go law CartPlays: its walk, where there is a cartridge. -/
import Derived.Test.YtfdmbgmhgbhggaaCartPlaysW
import Derived.Test.YtfdmbgmhgbhggaaSame
namespace Go.Proofs.Ytfdmbgmhgbhggaa.cartPlays
open Go.RowKit Go.Deep Go.Proofs.Ytfdmbgmhgbhggaa Go.Proofs.Ytfdmbgmhgbhggaa.Cl Go.Proofs.Ytfdmbgmhgbhggaa.Ca Go.Proofs.Ytfdmbgmhgbhggaa.cartHolds Go.Proofs.Ytfdmbgmhgbhggaa.cartServes
set_option linter.unusedVariables false
set_option linter.unusedSimpArgs false
theorem lies_moved {W W' : World} {g off n cap : Nat} {cs : List Value} (h : Lies W 1 (.slice (some ⟨g, off, none⟩) n cap) n cs) (hk : W'.heap[g]? = W.heap[g]?) (hs : W.heap.size ≤ W'.heap.size) : Lies W' 1 (.slice (some ⟨g, off, none⟩) n cap) n cs := by
  obtain ⟨hl, ao, cap', he, hc, h0 | ⟨b, o, hb, hlt, hcs⟩⟩ := h
  · cases he; exact ⟨hl, _, _, rfl, hc, .inl h0⟩
  · cases he; cases hb
    exact ⟨hl, _, _, rfl, hc, .inr ⟨g, off, rfl, Nat.lt_of_lt_of_le hlt hs, fun i u hu => (World.cell?_of_block hk).trans (hcs i u hu)⟩⟩
theorem run_armed (c : Ct) (hk : ¬ c.k = 10) (h0 : c.armed = false) (L : List Ac) : (runF c L).armed = false := by
  induction L generalizing c with
  | nil => exact h0
  | cons p t ih =>
    refine ih (watchF c p.1 p.2.1 p.2.2) hk ?_
    show armF c p.1 = false
    unfold armF; rw [if_neg hk, h0]
/-- Where the two cartridges lie. -/
structure St (wq : World) (base b ib icap sb scap RB H3 : Nat) (imv shv : Value) (c : Ct) : Prop where
  S : CartS wq base b ib icap sb scap c
  R : wq.heap[RB]? = some (.cells (c.rl imv shv).toArray 52 (0, 0))
  L : Lies wq 1 shv c.sh.length (c.sh.map (Value.int .i64))
  g : ∃ g off n cap, shv = .slice (some ⟨g, off, none⟩) n cap ∧ H3 ≤ g ∧ g ≠ RB
section
variable {wq w' : World} {base b ib icap sb scap RB H3 : Nat} {imv shv : Value} {c : Ct}
theorem St.lt (h : St wq base b ib icap sb scap RB H3 imv shv c) : RB < wq.heap.size := (Array.getElem?_eq_some_iff.1 h.R).1
theorem St.below (h : St wq base b ib icap sb scap RB H3 imv shv c) (hb : Below wq.heap.size wq w') : St w' base b ib icap sb scap RB H3 imv shv c :=
  ⟨h.S.below hb, (hb.block _ h.lt).trans h.R, h.L.below hb, h.g⟩
theorem St.lies (h : St wq base b ib icap sb scap RB H3 imv shv c) : ∃ g off cap, shv = .slice (some ⟨g, off, none⟩) c.sh.length cap ∧ H3 ≤ g ∧ g ≠ RB ∧ Lies wq 1 (.slice (some ⟨g, off, none⟩) c.sh.length cap) c.sh.length (c.sh.map (Value.int .i64)) := by
  obtain ⟨g, off, n, cap, rfl, h1, h2⟩ := h.g
  have hL := h.L
  obtain ⟨_, ao', cap', he, _⟩ := id hL
  cases he
  exact ⟨g, off, cap, rfl, h1, h2, hL⟩
end
theorem rl_sh6 (c : Ct) (imv shv : Value) : (c.rl imv shv)[6]? = some shv := rfl
theorem rl_range7 (c : Ct) (imv shv : Value) (w : World) (RB : Nat) (h : w.heap[RB]? = some (.cells (c.rl imv shv).toArray 52 (0, 0))) : w.rangeAt RB 7 (c.ex.map (Value.int .u8)) := fun j v hv => by
  rw [cell_of_row w _ _ _ _ _ h, List.getElem?_toArray, show 7 + j = j + 1 + 1 + 1 + 1 + 1 + 1 + 1 from by omega]
  simp only [Ct.rl, List.getElem?_cons_succ]
  rw [List.getElem?_append_left (List.getElem?_eq_some_iff.1 hv).1]; exact hv
theorem row_of_lies {W : World} {v : Value} {l : List Int} (h : Lies W 1 v l.length (l.map (Value.int .i64))) (hm : l.length ≤ 1000000) : IsRow W v l := by
  obtain ⟨_, ao, cap, rfl, _, h0 | ⟨b, off, rfl, hb, hc⟩⟩ := h
  · obtain rfl : l = [] := List.eq_nil_of_length_eq_zero h0
    exact ⟨ao, cap, rfl, hm, fun h => absurd rfl h⟩
  · refine ⟨_, cap, rfl, hm, fun _ => ⟨b, off, rfl, fun i hi => hc i _ ?_⟩⟩
    rw [List.getElem?_map, List.getElem?_eq_getElem hi]; simp [List.getD, hi]
theorem St.move {wq w' : World} {base b ib icap sb scap RB H3 : Nat} {imv shv shv' : Value} {c c' : Ct} (hS : CartS w' base b ib icap sb scap c') (hR : w'.heap[RB]? = some (.cells (c'.rl imv shv').toArray 52 (0, 0)))
    (hL : Lies w' 1 shv' c'.sh.length (c'.sh.map (Value.int .i64))) (hg : ∃ g off n cap, shv' = .slice (some ⟨g, off, none⟩) n cap ∧ H3 ≤ g ∧ g ≠ RB) : St w' base b ib icap sb scap RB H3 imv shv' c' := ⟨hS, hR, hL, hg⟩
/-- A block that holds a reference's cartridge, read whole. -/
def rowAt (w : World) (B : Nat) : List Value := match w.heap[B]? with | some (.cells c _ _) => c.toList | _ => []
def rowOK (w : World) (B : Nat) : Bool := match w.heap[B]? with | some (.cells c _ f) => f == (0, 0) && c.size == 136 | _ => false
theorem rowAt_of {w : World} {B : Nat} {l : List Value} {T : TypeId} (h : w.heap[B]? = some (.cells l.toArray T (0, 0))) : rowAt w B = l := by unfold rowAt; rw [h]
theorem rowOK_of {w : World} {B : Nat} {l : List Value} {T : TypeId} (h : w.heap[B]? = some (.cells l.toArray T (0, 0))) (hl : l.length = 136) : rowOK w B = true := by unfold rowOK; rw [h]; simp [hl]
theorem run_load_rl (w : World) (B : Nat) (h : rowOK w B = true) : Sem.run Try.prog (loadVar 52 ⟨B, 0, none⟩) w = .ok (.agg (rowAt w B).toArray) w := by
  unfold rowOK at h
  split at h
  · rename_i c T f hc
    simp only [Bool.and_eq_true, beq_iff_eq] at h
    obtain ⟨rfl, hs⟩ := h
    have hc' : w.heap[B]? = some (.cells c.toList.toArray T (0, 0)) := by simpa using hc
    rw [rowAt_of hc']
    exact run_loadVar_mid w B 0 _ _ _ (rangeL hc') Try.underlying52 rfl (by rw [Array.length_toList, hs]; kernel_rfl)
  · cases h
def loadRowV (v : Value) : Sem Value := Instr.loadAt 52 v
theorem loadAt_row (v : Value) : Instr.loadAt 52 v = loadRowV v := rfl
theorem run_loadRowV (w : World) (B : Nat) (h : rowOK w B = true) : Sem.run Try.prog (loadRowV (.pointer (some ⟨B, 0, none⟩))) w = .ok (.agg (rowAt w B).toArray) w := by
  have := run_load_rl w B h
  simp only [loadRowV, Instr.loadAt, Instr.sureAddr, Sem.run_bind, Sem.run_pure, Result.andThen_ok, this]
attribute [local go_sem ↓] loadAt_row
attribute [local go_sem] run_loadRowV
/-- An access in a box. -/
def AccB (W : World) (Q : Nat) (a x : Int) (wr : Bool) : Prop := W.heap[Q]? = some (.cells #[.int .u16 a, .int .u8 x, .bool wr] 41 (0, 0))
section
variable {W : World} {Q : Nat} {a x : Int} {wr : Bool}
theorem AccB.lt (h : AccB W Q a x wr) : Q < W.heap.size := (Array.getElem?_eq_some_iff.1 h).1
theorem AccB.below {W' : World} (h : AccB W Q a x wr) (hb : Below W.heap.size W W') : AccB W' Q a x wr := (hb.block _ h.lt).trans h
theorem AccB.c0 (h : AccB W Q a x wr) : W.cell? ⟨Q, 0, none⟩ = some (.int .u16 a) := by rw [cell_of_row W Q 0 _ _ _ h]; rfl
theorem AccB.c1 (h : AccB W Q a x wr) : W.cell? ⟨Q, 1, none⟩ = some (.int .u8 x) := by rw [cell_of_row W Q 1 _ _ _ h]; rfl
theorem AccB.c2 (h : AccB W Q a x wr) : W.cell? ⟨Q, 2, none⟩ = some (.bool wr) := by rw [cell_of_row W Q 2 _ _ _ h]; rfl
end
set_option maxRecDepth 1000000 in
set_option maxHeartbeats 4000000 in
theorem plays_yes (W : World) (tag : ByteArray) (len seed : Int) (ex : List Int) (ao : Option Addr) (n cap : Nat) (L : List Ac) (hex : ex.length = 128) (hn : n ≤ 200) (l0 : -9223372036854775808 ≤ len) (l1 : len ≤ 32768) (s0 : 0 ≤ seed) (s1 : seed ≤ 255)
    (N : Nat) (hN : N = len.toNat) (hok : Img.okK (Img.idx tag) N = true) (hL : Lies W 3 (.slice ao n cap) n (acs L)) (hLn : L.length = n) (hLo : AcOk L) :
    Calls Try.prog 5 #[.agg (playL tag len seed (ex.map (Value.int .u8)) ao n cap).toArray] W fun e W' => e = .returned (.bool true) ∧ Below W.heap.size W W' := by
  have hel : (ex.map (Value.int .u8)).length = 128 := by simpa using hex
  have knew := fun W base r (xs : List Int) (hx : xs.length = N) hown hm => new_of W tag base r xs ex hown hm hex
  have krn := fun W imv (xs : List Int) hLi (hx : xs.length = N) hm => rnew_ok W tag imv xs ex hLi (by rw [hx]; exact hok) hex hm
  have hF0 := fun xs : List Int => fun (h : xs.length = N) => fine_new tag xs ex (by rw [h]; exact hok) hex
  generalize hEL : ex.map (Value.int .u8) = el at *
  have hP : PlayAt (W.alloc (.cells (playL tag len seed el ao n cap).toArray 25)) W.heap.size tag len seed el ao n cap := heap_alloc_new W _
  have HR := hideR hP.all
  have hb0 : Below W.heap.size W (W.alloc (.cells (playL tag len seed el ao n cap).toArray 25)) := (Below.refl _ W).alloc (Nat.le_refl _) _
  have hsz := hb0.size
  have HU := hideR Try.underlying25
  have HI := hideR (show (Try.prog.info? 25).map (·.size) = some (playL tag len seed el ao n cap).length by rw [play_size _ _ _ _ _ _ _ hel]; kernel_rfl)
  have ks := fun w => small_any w tag len seed el ao n cap hel
  rw [decide_eq_true hn, decide_eq_true l1, Bool.true_and] at ks
  have HP := hideR (fun w (hb : Below _ _ w) => (hP.below hb))
  have hL2 := hL.below hb0
  have HLi := hideR (fun w (hb : Below _ _ w) => (hL2.below hb))
  clear hP hL hL2
  have hu22 := Try.underlying22
  have hi22 : (Try.prog.info? 22).map (·.size) = some el.length := by rw [hel]; kernel_rfl
  have hw : IntKind.i64.wrap seed = seed := IntWalk.i64_in _ (by omega)
  have HN := hideR hN
  have HK := hideR hok
  have hz := zero_rl
  have hzs := zrl_size
  generalize hpl : playL tag len seed el ao n cap = pl at *
  have HPL := hideR hpl
  clear hok hN hpl
  go_enter Try.func5, Try.ntmps5
  go_wp2_with (refine wpList_load_mid rfl 25 _ rfl W.heap.size 0 rfl pl _ HR.out HU.out rfl HI.out ?_)
  refine (ks _).mono ?_
  rintro e w1 ⟨rfl, hb1⟩
  have hP1 := HP.out _ hb1
  have hB1 := hb0.trans (hb1.mono hsz)
  have c1 := hP1.c1
  have c2 := hP1.c2
  go_wp2_with fail
  refine (image_any len seed _ l0 l1 s0 s1).mono ?_
  rintro e w2 ⟨r, xs, rfl, hxl, hown, hb2⟩
  rw [← HN.out] at hxl
  subst hxl
  have hP2 := hP1.below hb2
  have hB2 := hB1.trans (hb2.mono hB1.size)
  have hD2 := hb1.trans (hb2.mono hb1.size)
  clear c1 c2 hP1 hB1 hb2 hb1 ks
  have d0 := hP2.c0
  have D3 := hP2.range hel
  have hPl := hP2.lt
  obtain ⟨ai, ci, rfl⟩ := shapeOf hown
  have hown0 := World.ownsRow_lit (base := w2.heap.size) (e := 5) (size := 1) w2 #[] 0 (Nat.le_refl _) (by decide) rfl
  obtain ⟨i0, hi, hz0, hz1, hz2⟩ := info_parts info_u8
  have hb20 : Below w2.heap.size w2 (w2.alloc (.cells #[] 5)).drew := ((Below.refl _ _).alloc (Nat.le_refl _) _).drew
  have hLi := (Lies.of_owns hown).below hb20
  have HIm := hideR (Lies.of_owns hown)
  have d0a := (hb20.cell (p := ⟨W.heap.size, 0, none⟩) hPl).trans d0
  have D3a : (w2.alloc (.cells #[] 5)).drew.rangeAt W.heap.size 3 el := fun j v hv => (hb20.cell (p := ⟨W.heap.size, 3 + j, none⟩) hPl).trans (D3 j v hv)
  have hxm : 0 + xs.length ≤ maxLen := by have := HN.out; simp only [maxLen]; omega
  have hxm2 : (0 + xs.length) * 1 ≤ 140737488355328 := by have := HN.out; omega
  have hxm3 : xs.length ≤ 1000000 := by have := HN.out; omega
  have hone := ints_one .u8 xs
  clear hown
  go_wp2_with fail
  go_region_held3 (fun w' => w'.cell? ⟨W.heap.size, 0, none⟩ = some (.string tag) ∧ w'.rangeAt W.heap.size 3 el) (go_keep) ((first | (go_at_call 11; refine (knew wa _ _ xs rfl (by simpa using hown1) hxm3).mono ?_; rintro e w3 hnew; obtain ⟨b, ib, icap, sb, rfl, hCS, hb3⟩ := hnew.1 HK.out; have hPa := hP2.below hba; have hP3 := hPa.below hb3; have d0c := hP3.c0; have D3c := hP3.range hel) | (refine step_append_of rfl _ _ 28 (by rfl) w2.heap.size 5 i0 (.int .u8 0) 1 1 Try.underlying28 hi hz0 hz1 hz2 rfl (by decide) _ _ _ (by rfl) hown0 _ _ _ (by rfl) hLi hone hxm hxm2 hb20.size ?_; intro r1 wa hown1 hgrow1; have hba : Below w2.heap.size w2 wa := hb20.grown hgrow1 hb20.size (fun k hk => by cases hk; exact Nat.le_refl _); have d0b := (hba.cell (p := ⟨W.heap.size, 0, none⟩) hPl).trans d0; have D3b : wa.rangeAt W.heap.size 3 el := (fun j v hv => (hba.cell (p := ⟨W.heap.size, 3 + j, none⟩) hPl).trans (D3 j v hv)))))
  have hF1 := hF0 xs rfl
  have hb23 := hba.trans (hb3.mono hba.size)
  have hsa := hba.size
  have hs3 := hb3.size
  clear hown1 hgrow1 hnew knew d0 D3 d0a D3a d0b D3b hLi hown0 hPa hP2 hba hb20 hone hF0 hxm hxm2 hi hz0 hz1 hz2
  have him0 : (⟨tag, xs, Img.firstK (Img.idx tag) xs.length, ex, false⟩ : Ct).im = xs := rfl
  have ha0 : (⟨tag, xs, Img.firstK (Img.idx tag) xs.length, ex, false⟩ : Ct).armed = false := rfl
  have D3h := hideR D3c
  have HIm3 := HIm.out.below hb23
  have krn3 := krn w3 _ xs HIm3 rfl hxm3
  clear D3c hu22 hi22 krn
  generalize (⟨tag, xs, Img.firstK (Img.idx tag) xs.length, ex, false⟩ : Ct) = ct at *
  generalize (Img.firstK (Img.idx tag) xs.length).length = scap at *
  generalize hbase : wa.heap.size = base at *
  have HU22 := hideR Try.underlying22
  have HI22 := hideR (show (Try.prog.info? 22).map (·.size) = some el.length by rw [hel]; kernel_rfl)
  go_wp2_with (refine wpList_load_mid rfl 22 _ rfl W.heap.size 3 rfl el _ D3h.out HU22.out rfl HI22.out ?_)
  refine krn3.mono ?_
  rintro e w4 ⟨shv, rfl, hRf, hb4, hfr⟩
  have hone4 : shv.oneCell' = true := by obtain ⟨_, _, _, _, e, _⟩ := hfr; rw [e]; rfl
  have hrlen := rl_len ct (.slice ai xs.length ci) shv hF1.ex
  have hst4 : (storeCells ⟨w4.heap.size, 0, none⟩ (ct.rl (.slice ai xs.length ci) shv) 0).run Try.prog (w4.alloc (.cells zrl 52)) = .ok () (w4.alloc (.cells (ct.rl (.slice ai xs.length ci) shv).toArray 52)) := by
    have := run_storeCells_new (P := Try.prog) w4 52 zrl (ct.rl (.slice ai xs.length ci) shv).toArray (by rw [List.size_toArray, hrlen]; kernel_rfl) (hzs.trans (by rw [List.size_toArray, hrlen])) (by simpa using rl_one ct (imv := .slice ai xs.length ci) (shv := shv) rfl hone4)
    simpa using this
  go_wp2_with fail
  have hR5 : (w4.alloc (.cells (ct.rl (.slice ai xs.length ci) shv).toArray 52)).heap[w4.heap.size]? = some (.cells (ct.rl (.slice ai xs.length ci) shv).toArray 52 (0, 0)) := heap_alloc_new w4 _
  have hb45 : Below w4.heap.size w4 (w4.alloc (.cells (ct.rl (.slice ai xs.length ci) shv).toArray 52)) := (Below.refl _ _).alloc (Nat.le_refl _) _
  have hs4 := hb4.size
  have hSt5 : St (w4.alloc (.cells (ct.rl (.slice ai xs.length ci) shv).toArray 52)) base b ib icap sb scap w4.heap.size w3.heap.size (.slice ai xs.length ci) shv ct := by
    obtain ⟨g, off, nn, cap', rfl, hg⟩ := hfr
    obtain ⟨g', off', cap'', e, hlt, _⟩ := lies_row hRf.hs rfl (fine_pos ct hF1).2.1
    cases e
    exact ⟨(hCS.below hb4).below hb45, hR5, hRf.hs.below hb45, g, off, _, _, rfl, hg, by omega⟩
  have hB5 : Below w2.heap.size w2 (w4.alloc (.cells (ct.rl (.slice ai xs.length ci) shv).toArray 52)) := (hb23.trans (hb4.mono (by omega))).trans (hb45.mono (by omega))
  have hbl : b < w3.heap.size := hCS.blt
  have hsl : sb < w3.heap.size := hCS.slt.2
  have hil : ib < w3.heap.size := hCS.il
  have hbb : base ≤ b := hCS.bb
  have hsb : base ≤ sb := hCS.slt.1
  generalize hRB : w4.heap.size = RB at *
  generalize w4.alloc (.cells (ct.rl (.slice ai xs.length ci) shv).toArray 52) = w5 at *
  generalize hH3 : w3.heap.size = H3 at *
  have hPB : W.heap.size < w2.heap.size := hPl
  have hB2s : W.heap.size ≤ w2.heap.size := Nat.le_of_lt hPl
  clear hst4 hR5 hb45 hb4 hb3 hCS hRf hfr hrlen hone4 D3h krn3 hP3 d0c HIm3 hb23 hPl
  go_loopw [8] (fun i wq => ∃ (k : Nat) (shv : Value), k ≤ n ∧ i = .int .i64 k ∧ St wq base b ib icap sb scap RB H3 (.slice ai xs.length ci) shv (runF ct (L.take k)) ∧ Below w2.heap.size w2 wq)
    (fun i _ => n - (intOf i).toNat)
  case atStart => exact ⟨0, shv, Nat.zero_le _, rfl, hSt5, hB5⟩
  case round =>
    clear hSt5 hB5
    obtain ⟨k, shv, hk, rfl, hSt, hBq⟩ := hrel
    have hPq := HP.out wr (hD2.trans (hBq.mono hD2.size))
    have p131 := hPq.c131 hel
    have hLq := HLi.out wr (hD2.trans (hBq.mono hD2.size))
    clear hPq
    by_cases hkl : k < n
    · obtain ⟨lb, loff, rfl⟩ := lies_some hLq (by omega)
      obtain ⟨hlt, l0', l1', l2'⟩ := lies_acs hLq hLn k (by omega)
      have hak := hLo.at k (by omega)
      have hFk := run_fine ct hF1 _ (hLo.take k)
      have hrun := run_take ct L k (by omega)
      have hak' : ¬ (runF ct (L.take k)).k = 10 → (runF ct (L.take k)).armed = false := fun h => run_armed ct (fun h' => h (by unfold Ct.k; rw [(run_tag ct _).1]; exact h')) ha0 _
      have hil' : (runF ct (L.take k)).im = xs := by rw [(run_tag ct _).2]; exact him0
      generalize runF ct (L.take k) = cK at *
      generalize hA : L[k].1 = A at *
      generalize hX : L[k].2.1 = Xb at *
      generalize hWr : L[k].2.2 = Wr at *
      have i0 : (0 : Int) ≤ (k : Int) := by omega
      have i1 : (k : Int) < n := by omega
      obtain ⟨⟨A0, A1⟩, X0, X1⟩ := hak
      have hrs := hSt.lt
      have HST := hideR hSt
      clear hA hX hWr hSt hLq
      go_wp2_with fail
      have hA0 : AccB (wr.alloc (.cells #[.int .u16 A, .int .u8 Xb, .bool Wr] 41)) wr.heap.size A Xb Wr := heap_alloc_new wr _
      have hbA : Below wr.heap.size wr (wr.alloc (.cells #[.int .u16 A, .int .u8 Xb, .bool Wr] 41)) := (Below.refl _ _).alloc (Nat.le_refl _) _
      generalize wr.alloc (.cells #[.int .u16 A, .int .u8 Xb, .bool Wr] 41) = wA at *
      have hStA := HST.out.below hbA
      have hBA := hBq.trans (hbA.mono hBq.size)
      have HIA : Lies wA 1 (.slice ai xs.length ci) cK.im.length (cK.im.map (Value.int .u8)) := by rw [hil']; exact HIm.out.below hBA
      have hQ1 : RB < wr.heap.size := hrs
      have hH3R : H3 ≤ RB := by omega
      generalize hQ : wr.heap.size = Q at *
      refine (peek_any wA base b ib icap sb scap cK hStA.S hFk A A0 A1).mono ?_
      rintro e w10 ⟨rfl, hb10⟩
      have hSt10 := hStA.below hb10
      have hA10 := hA0.below hb10
      have hB10 := hBA.trans (hb10.mono hBA.size)
      have HI10 := HIA.below hb10
      have a0 := hA10.c0
      have HR10 := hideR (rangeL hSt10.R)
      have HU52 := hideR Try.underlying52
      have HI52 := hideR (show (Try.prog.info? 52).map (·.size) = some (cK.rl (.slice ai xs.length ci) shv).length by rw [rl_len cK _ shv hFk.ex]; kernel_rfl)
      have kp := rpeek_any w10 cK (.slice ai xs.length ci) shv ⟨HI10, hSt10.L⟩ hFk A A0 A1
      have w16 : IntKind.i64.wrap A = A := IntWalk.i64_in _ (by omega)
      have w8 : IntKind.i64.wrap Xb = Xb := IntWalk.i64_in _ (by omega)
      clear hBq hbA hrs hBA HIA l0' l1' l2' p131
      go_wp2_with (refine wpList_load_mid rfl 52 _ rfl RB 0 rfl (cK.rl (.slice ai xs.length ci) shv) _ HR10.out HU52.out rfl HI52.out ?_)
      refine kp.mono ?_
      rintro e w12 ⟨rfl, hb12⟩
      have hSt12 := hSt10.below hb12
      have hA12 := hA10.below hb12
      have hB12 := hB10.trans (hb12.mono hB10.size)
      have HI12 := HI10.below hb12
      clear a0 HR10 kp
      generalize (peekF cK A).1 = pb at *
      generalize (peekF cK A).2 = pd at *
      go_wp2_with fail
      have a0 := hA12.c0
      have r12 := rangeL hSt12.R
      have hQl := hA12.lt
      have hRl := hSt12.lt
      have h012 : Below w12.heap.size w12 w12.drew := (Below.refl _ _).drew
      have kW : ∀ w, Below w12.heap.size w12 w → Calls Try.prog 16 #[.pointer (some ⟨b, 0, none⟩), .int .u16 A] w fun e W' => e = .returned (.int .i64 (whereF cK A)) ∧ Below w12.heap.size w12 W' := fun w hb => (where_any w base b ib icap sb scap cK (hSt12.below hb).S hFk A A0 A1).mono fun e w' h => ⟨h.1, hb.trans (h.2.mono hb.size)⟩
      have kR : ∀ w, Below w12.heap.size w12 w → Calls Try.prog 21 #[.agg (cK.rl (.slice ai xs.length ci) shv).toArray, .int .i64 A] w fun e W' => e = .returned (.int .i64 (whereF cK A)) ∧ Below w12.heap.size w12 W' := fun w hb => (rwhere_any w cK (.slice ai xs.length ci) shv ⟨HI12.below hb, (hSt12.below hb).L⟩ hFk A A0 A1).mono fun e w' h => ⟨h.1, hb.trans (h.2.mono hb.size)⟩
      generalize whereF cK A = wf at *
      have hld : ∀ w, Below w12.heap.size w12 w → rowOK w RB = true ∧ rowAt w RB = (cK.rl (.slice ai xs.length ci) shv) := fun w hb => ⟨rowOK_of ((hb.block RB hRl).trans hSt12.R) (rl_len cK _ shv hFk.ex), rowAt_of ((hb.block RB hRl).trans hSt12.R)⟩
      obtain ⟨hl0, hl1⟩ := hld _ h012
      have HLD := hideR hld
      clear r12 hld
      go_region_held3 (fun w' => w'.cell? ⟨Q, 0, none⟩ = some (.int .u16 A) ∧ rowOK w' RB = true ∧ rowAt w' RB = (cK.rl (.slice ai xs.length ci) shv)) (go_keep) ((first | (go_at_call 16; refine (kW _ (by assumption)).mono ?_; rintro e wx ⟨rfl, hbx⟩; have z0 := (hbx.cell (p := ⟨Q, 0, none⟩) hQl).trans a0; obtain ⟨zr, zr'⟩ := HLD.out wx hbx) | (go_at_call 21; refine (kR _ (by assumption)).mono ?_; rintro e wy ⟨rfl, hby⟩; have y0 := (hby.cell (p := ⟨Q, 0, none⟩) hQl).trans a0; obtain ⟨yr, yr'⟩ := HLD.out wy hby)))
      have hSt13 := hSt12.below hby
      have hA13 := hA12.below hby
      have hB13 := hB12.trans (hby.mono hB12.size)
      obtain ⟨g, off, scp, rfl, hg1, hg2, hLz0⟩ := hSt13.lies
      have hg13 : g < wy.heap.size := by
        obtain ⟨_, _, _, e, hlt, _⟩ := lies_row hLz0 rfl (fine_pos cK hFk).2.1
        cases e; exact hlt
      have b0 := hA13.c0
      have b1 := hA13.c1
      have b2 := hA13.c2
      clear a0 h012 kW kR hl0 hl1 HLD z0 zr zr' y0 yr yr' hbx hSt12 hA12 hB12 HI12 hSt10 hA10 hB10 HI10 hA0 hStA HST hb10 hb12
      go_wp2_with fail
      refine (watch_any wy base b ib icap sb scap cK hSt13.S hFk A Xb Wr A0 A1 X0 X1).mono ?_
      rintro e wz ⟨rfl, hSz, hbz, hzz, hoz⟩
      have hRy := hSt13.R
      have hQy := hA13.lt
      have hFz := watch_fine cK hFk A Xb Wr X0
      have hkz : (watchF cK A Xb Wr).k = cK.k := rfl
      have hRz := (hoz.block RB (by omega) (by omega)).trans hRy
      have hLz := lies_moved hLz0 (hoz.block g (by omega) (by omega)) (by rw [hoz.size]; exact Nat.le_refl _)
      have hAz : AccB wz Q A Xb Wr := (hoz.block Q (by omega) (by omega)).trans hA13
      have hBz := hB13.trans (hbz.mono hsa)
      have HIz : Lies wz 1 (.slice ai xs.length ci) cK.im.length (cK.im.map (Value.int .u8)) := by rw [hil']; exact HIm.out.below hBz
      have c0 := hAz.c0
      have c1 := hAz.c1
      have c2 := hAz.c2
      have k0 := rowOK_of hRz (rl_len cK _ _ hFk.ex)
      have k1 := rowAt_of hRz
      have kw := rwatch_any wz cK (.slice ai xs.length ci) _ ⟨HIz, hLz⟩ hFk hak' A Xb Wr A0 A1 X0 X1
      clear b0 b1 b2 hLz0 hoz hbz hA13 hAz hSt13 hB13 HIz hRy
      go_wp2_with fail
      refine kw.mono ?_
      rintro e w14 ⟨shv', rfl, hRf14, hb14, hfr⟩
      have hR14 := (hb14.block RB (by rw [hzz]; omega)).trans hRz
      have hS14 := hSz.below hb14
      have hB14 := hBz.trans (hb14.mono hBz.size)
      have hs14 := hb14.size
      have hg' : ∃ g off n cap, shv' = .slice (some ⟨g, off, none⟩) n cap ∧ H3 ≤ g ∧ g ≠ RB := by
        rcases hfr with rfl | ⟨g', off', n', cap', rfl, h⟩
        · exact ⟨g, off, _, _, rfl, hg1, hg2⟩
        · exact ⟨g', off', _, _, rfl, by omega, by omega⟩
      generalize watchF cK A Xb Wr = cN at *
      have hone' : shv'.oneCell' = true := by obtain ⟨_, _, _, _, e, _⟩ := hg'; rw [e]; rfl
      have hlN := rl_len cN (.slice ai xs.length ci) shv' hFz.ex
      have hlK := rl_len cK (.slice ai xs.length ci) (.slice (some ⟨g, off, none⟩) cK.sh.length scp) hFk.ex
      have HR14 := hideR hR14
      have HIA := hideR (show (Try.prog.info? 52).map (·.size) = some (cN.rl (.slice ai xs.length ci) shv').toArray.size by rw [List.size_toArray, hlN]; kernel_rfl)
      have HZA := hideR (show (cK.rl (.slice ai xs.length ci) (.slice (some ⟨g, off, none⟩) cK.sh.length scp)).toArray.size = (cN.rl (.slice ai xs.length ci) shv').toArray.size by rw [List.size_toArray, List.size_toArray, hlN, hlK])
      have HO := hideR (all_oneCell_toArray (rl_one cN (imv := .slice ai xs.length ci) (shv := shv') rfl hone'))
      clear hR14 hRz hLz k0 k1 c0 c1 c2 kw hSz hBz hlK
      go_wp2_with (refine wpList_store_row rfl 52 _ _ rfl RB (cN.rl (.slice ai xs.length ci) shv').toArray rfl rfl _ _ HR14.out HIA.out HZA.out HO.out ?_)
      go_frame
      have hSt15 : St (w14.setRow RB (cN.rl (.slice ai xs.length ci) shv').toArray) base b ib icap sb scap RB H3 (.slice ai xs.length ci) shv' cN := by
        have hLN := hRf14.hs
        obtain ⟨g', off', n', cap', rfl, h1, h2⟩ := hg'
        have ho := fun k (hk : k ≠ RB) => setRow_other w14 RB k (cN.rl (.slice ai xs.length ci) (.slice (some ⟨g', off', none⟩) n' cap')).toArray hk
        obtain ⟨_, ao2, cap2, he2, _⟩ := id hLN
        cases he2
        exact ⟨hS14.moved (ho b (by omega)) (ho sb (by omega)) (ho ib (by omega)) (by rw [setRow_size]; exact hS14.il), setRow_heap _ _ _ _ _ _ HR14.out, lies_moved hLN (ho g' h2) (by rw [setRow_size]; exact Nat.le_refl _), g', off', _, _, rfl, h1, h2⟩
      have hB15 := below_setRow hB14 (show w2.heap.size ≤ RB by omega) (cN.rl (.slice ai xs.length ci) shv').toArray
      generalize w14.setRow RB (cN.rl (.slice ai xs.length ci) shv').toArray = w15 at *
      clear hS14 hRf14 hB14 hg' hfr hb14 hs14 hlN HR14 HZA HO HIA hzz hone'
      have hexN := hFz.ex
      have e6 := (cellL hSt15.R 6).trans (rl_sh6 cN _ _)
      have r7 := rl_range7 cN _ _ w15 RB hSt15.R
      have hRl := hSt15.lt
      have hlsN := fine_pos cN hFz
      have hm4 : cN.sh.length ≤ 1000000 := by omega
      have h015 : Below w15.heap.size w15 w15.drew := (Below.refl _ _).drew
      have kS := show_any w15.drew base b ib icap sb scap cN hSt15.S.drew hFz
      have kE : ∀ w, Below w15.heap.size w15 w → Calls Try.prog 23 #[.pointer (some ⟨b, 0, none⟩)] w fun e W' => e = .returned (.agg (cN.ex.map (Value.int .u8)).toArray) ∧ Below w15.heap.size w15 W' := fun w hb => (extra_any w base b ib icap sb scap cN (hSt15.below hb).S hFz).mono fun e w' h => ⟨h.1, hb.trans (h.2.mono hb.size)⟩
      have kM : ∀ w r1, Below w15.heap.size w15 w → IsRow w r1 cN.sh → Calls Try.prog 18 #[r1, shv'] w fun e w' => e = .returned (.bool true) ∧ Below w15.heap.size w15 w' := fun w r1 hb h1 => by
        have := same_any r1 shv' cN.sh cN.sh w h1 (row_of_lies (hSt15.below hb).L hm4)
        rw [decide_eq_true rfl] at this
        refine this.mono ?_
        rintro e w' ⟨rfl, m, rfl⟩
        exact ⟨rfl, below_drewN hb m⟩
      have hlE : (cN.ex.map (Value.int .u8)).length = 128 := by simpa using hexN
      have hneN : ∀ w, Sem.run Try.prog (binOp .neq 22 (.agg (cN.ex.map (Value.int .u8)).toArray) (.agg (cN.ex.map (Value.int .u8)).toArray)) w = .ok (.bool false) w := fun w => neq_ex w _ hexN
      generalize cN.ex.map (Value.int .u8) = xl at *
      have hu22 := Try.underlying22
      have hi22 : (Try.prog.info? 22).map (·.size) = some xl.length := by rw [hlE]; kernel_rfl
      go_region_held3 (fun w' => w'.cell? ⟨RB, 6, none⟩ = some shv' ∧ w'.rangeAt RB 7 xl) (go_keep) ((first | (go_at_call 15; refine kS.mono ?_; rintro e w16 ⟨r2, rfl, hown16, hb16⟩; have f6 := (hb16.cell (p := ⟨RB, 6, none⟩) hRl).trans e6; have f7 : w16.rangeAt RB 7 xl := (fun j v hv => (hb16.cell (p := ⟨RB, 7 + j, none⟩) hRl).trans (r7 j v hv)); have hb16' := h015.trans (hb16.mono (Nat.le_refl _))) | (go_at_call 18; refine (kM w16 _ hb16' (row_of_owns hown16 rfl hm4)).mono ?_; rintro e w17 ⟨rfl, hb17⟩; have g6 := (hb17.cell (p := ⟨RB, 6, none⟩) hRl).trans e6; have g7 : w17.rangeAt RB 7 xl := (fun j v hv => (hb17.cell (p := ⟨RB, 7 + j, none⟩) hRl).trans (r7 j v hv))) | (go_at_call 23; refine (kE w17 hb17).mono ?_; rintro e w18 ⟨rfl, hb18⟩; have k6 := (hb18.cell (p := ⟨RB, 6, none⟩) hRl).trans e6; have k7 : w18.rangeAt RB 7 xl := (fun j v hv => (hb18.cell (p := ⟨RB, 7 + j, none⟩) hRl).trans (r7 j v hv)))))
      go_wp2_with fail
      go_roundw
      case rel => exact ⟨k + 1, shv', by omega, by go_num, by rw [hrun]; exact hSt15.below hb18, hB15.trans (hb18.mono hB15.size)⟩
      case measure => simp [intOf]; omega
    · obtain rfl : k = n := by omega
      go_wp2_with fail
      refine (awake_any _).mono ?_
      rintro e w6 ⟨rfl, hb6⟩
      go_wp2_with fail
      go_ret
      have hBw := hB2.trans (hBq.mono hB2s)
      exact ⟨rfl, hBw.trans (hb6.mono hBw.size)⟩
end Go.Proofs.Ytfdmbgmhgbhggaa.cartPlays
