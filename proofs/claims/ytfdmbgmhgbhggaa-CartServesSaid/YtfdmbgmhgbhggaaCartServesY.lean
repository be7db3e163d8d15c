/- The Go law CartServes: its walk, where there is a cartridge. -/
import Derived.Test.YtfdmbgmhgbhggaaCartServesW
namespace Go.Proofs.Ytfdmbgmhgbhggaa.cartServes
open Go.RowKit Go.Deep Go.Proofs.Ytfdmbgmhgbhggaa Go.Proofs.Ytfdmbgmhgbhggaa.Cl Go.Proofs.Ytfdmbgmhgbhggaa.Ca Go.Proofs.Ytfdmbgmhgbhggaa.cartHolds
set_option linter.unusedVariables false
set_option linter.unusedSimpArgs false
theorem win_sz (k n : Int) (hk : k ≤ 10) (h : Img.okK k n = true) : Img.winsK k n * Img.szK k n = 4096 ∧ 1 ≤ Img.szK k n := by
  have h1 : 0 ≤ k ∧ Img.fitsK k n = true := by simpa [Img.okK] using h
  have h0 := h1.1
  have hw : Img.winsK k n = 4096 / Img.sizeK k := by simp [Img.winsK, h]
  have hs : Img.szK k n = Img.sizeK k := by simp [Img.szK, h]
  rw [hw, hs]
  have hc : k = 0 ∨ k = 1 ∨ k = 2 ∨ k = 3 ∨ k = 4 ∨ k = 5 ∨ k = 6 ∨ k = 7 ∨ k = 8 ∨ k = 9 ∨ k = 10 := by omega
  rcases hc with rfl | rfl | rfl | rfl | rfl | rfl | rfl | rfl | rfl | rfl | rfl <;> decide
set_option maxRecDepth 1000000 in
set_option maxHeartbeats 4000000 in
theorem serves_yes (W : World) (tag : ByteArray) (len seed : Int) (ex : List Int) (ao : Option Addr) (n cap : Nat) (L : List Ac) (a : Int) (hex : ex.length = 128) (hn : n ≤ 200) (l0 : -9223372036854775808 ≤ len) (l1 : len ≤ 32768) (s0 : 0 ≤ seed) (s1 : seed ≤ 255)
    (N : Nat) (hN : N = len.toNat) (hok : Img.okK (Img.idx tag) N = true) (hL : Lies W 3 (.slice ao n cap) n (acs L)) (hLn : L.length = n) (hLo : AcOk L) (a0 : 0 ≤ a) (a1 : a ≤ 65535) :
    Calls Try.prog 3 #[.agg (playL tag len seed (ex.map (Value.int .u8)) ao n cap).toArray, .int .u16 a] W fun e W' => e = .returned (.bool true) ∧ Below W.heap.size W W' := by
  have hel : (ex.map (Value.int .u8)).length = 128 := by simpa using hex
  have knew := fun W base r xs hown hm => new_of W tag base r xs ex hown hm hex
  generalize hEL : ex.map (Value.int .u8) = el at *
  have hP : PlayAt (W.alloc (.cells (playL tag len seed el ao n cap).toArray 25)) W.heap.size tag len seed el ao n cap := heap_alloc_new W _
  have HR := hideR hP.all
  have hb0 : Below W.heap.size W (W.alloc (.cells (playL tag len seed el ao n cap).toArray 25)) := (Below.refl _ W).alloc (Nat.le_refl _) _
  have hsz := hb0.size
  have hS2 : (W.alloc (.cells (playL tag len seed el ao n cap).toArray 25)).heap.size = W.heap.size + 1 := by simp
  have hu := Try.underlying25
  have hi : (Try.prog.info? 25).map (·.size) = some (playL tag len seed el ao n cap).length := by rw [play_size _ _ _ _ _ _ _ hel]; kernel_rfl
  have ks := fun w => small_any w tag len seed el ao n cap hel
  rw [decide_eq_true hn, decide_eq_true l1, Bool.true_and] at ks
  have HP := hideR (fun w (hb : Below _ _ w) => (hP.below hb))
  have hL2 := hL.below hb0
  have HLi := hideR (fun w (hb : Below _ _ w) => (hL2.below hb))
  clear hP hL hL2
  have hu22 := Try.underlying22
  have hi22 : (Try.prog.info? 22).map (·.size) = some el.length := by rw [hel]; kernel_rfl
  have hw : IntKind.i64.wrap seed = seed := IntWalk.i64_in _ (by omega)
  have kfit := fun w => fit_any tag (N : Int) w (by omega) (by omega)
  have he0 : Img.errK (Img.idx tag) N = 0 := by
    have h1 : 0 ≤ Img.idx tag ∧ Img.fitsK (Img.idx tag) N = true := by simpa [Img.okK] using hok
    unfold Img.errK; rw [if_neg (by omega), if_pos h1.2]
  rw [he0] at kfit
  have hF0 := fun xs : List Int => fun (h : xs.length = N) => fine_new tag xs ex (by rw [h]; exact hok) hex
  have hwin := win_sz (Img.idx tag) N (Img.idx_in tag).2 hok
  have HN := hideR hN
  have HK := hideR hok
  unfold Img.shape at kfit
  generalize hS : Img.szK (Img.idx tag) N = S at *
  generalize hB : Img.banksK (Img.idx tag) N = B at *
  generalize hWi : Img.winsK (Img.idx tag) N = Wi at *
  generalize hX : Img.exK (Img.idx tag) N = X at *
  generalize hpl : playL tag len seed el ao n cap = pl at *
  clear hok hN
  go_enter Try.func3, Try.ntmps3
  go_wp2_with fail
  refine wp_load_mid _ _ rfl W.heap.size 0 rfl pl _ HR.out hu rfl hi ?_
  go_wp2_with fail
  refine (ks _).mono ?_
  rintro e w1 ⟨rfl, hb1⟩
  have hP1 := HP.out _ hb1
  have hB1 := hb0.trans (hb1.mono hsz)
  have c1 := hP1.c1
  have c2 := hP1.c2
  go_wp2_with fail
  refine (image_any len seed _ l0 l1 s0 s1).mono ?_
  rintro e w2 ⟨r, xs, rfl, hxl, hown, hb2⟩
  rw [← HN.out] at hxl
  subst hxl
  have hP2 := hP1.below hb2
  have hB2 := hB1.trans (hb2.mono hB1.size)
  have hD2 := hb1.trans (hb2.mono hb1.size)
  clear c1 c2 hP1 hB1 hb2 hb1 ks
  have d0 := hP2.c0
  have D3 := hideR (hP2.range hel)
  obtain ⟨ai, ci, rfl⟩ := shapeOf hown
  go_wp2_with fail
  refine wp_load_mid _ _ rfl W.heap.size 3 rfl el _ D3.out hu22 rfl hi22 ?_
  go_wp2_with fail
  refine (knew w2 _ _ xs hown (by have := HN.out; omega)).mono ?_
  rintro e w3 hnew
  obtain ⟨b, ib, icap, sb, rfl, hCS, hb3⟩ := hnew.1 HK.out
  have hF1 := hF0 xs rfl
  have hsz3 : (⟨tag, xs, Img.firstK (Img.idx tag) xs.length, ex, false⟩ : Ct).sz = S := by
    show Img.szK (Img.idx tag) xs.length = S
    exact hS
  have hram3 : (⟨tag, xs, Img.firstK (Img.idx tag) xs.length, ex, false⟩ : Ct).ram = X := by
    show Img.exK (Img.idx tag) xs.length = X
    exact hX
  have him3 : (⟨tag, xs, Img.firstK (Img.idx tag) xs.length, ex, false⟩ : Ct).im = xs := rfl
  have hP3 := hP2.below hb3
  have hB3 := hB2.trans (hb3.mono hB2.size)
  obtain ⟨gi, ci', hgi, hgi1, hgi2⟩ := hown.form (by have := ok_pos _ _ (Img.idx_in tag).2 HK.out; omega)
  cases hgi
  have hIm : ∀ i v, xs[i]? = some v → w2.cell? ⟨gi, i, none⟩ = some (.int .u8 v) := fun i v hv => by
    have hi := (List.getElem?_eq_some_iff.1 hv).1
    rw [hown.cellAt i (by omega), List.getElem?_map, hv]; rfl
  have hD3 := hD2.trans (hb3.mono hD2.size)
  have hB2s := hD2.size
  rw [hS2] at hB2s
  clear d0 D3 hP2 hB2 hnew hown knew hF0
  have e0 := hP3.c0
  generalize (⟨tag, xs, Img.firstK (Img.idx tag) xs.length, ex, false⟩ : Ct) = ct at *
  generalize ct.sh.length = scap at *
  go_wp2_with fail
  refine (kfit _).mono ?_
  rintro e w4 ⟨rfl, hb4⟩
  have hS4 := hCS.below hb4
  have hB4 := hB3.trans (hb4.mono hB3.size)
  have hD4 := hD3.trans (hb4.mono hD3.size)
  go_wp2_with fail
  have t1 : (w4.alloc (.cells #[.int .i64 B, .int .i64 S, .int .i64 Wi, .bool X] 35)).cell? ⟨w4.heap.size, 1, none⟩ = some (.int .i64 S) := World.cell?_alloc_at _ _ _ _ rfl
  have t2 : (w4.alloc (.cells #[.int .i64 B, .int .i64 S, .int .i64 Wi, .bool X] 35)).cell? ⟨w4.heap.size, 2, none⟩ = some (.int .i64 Wi) := World.cell?_alloc_at _ _ _ _ rfl
  have t3 : (w4.alloc (.cells #[.int .i64 B, .int .i64 S, .int .i64 Wi, .bool X] 35)).cell? ⟨w4.heap.size, 3, none⟩ = some (.bool X) := World.cell?_alloc_at _ _ _ _ rfl
  have hbT : Below w4.heap.size w4 (w4.alloc (.cells #[.int .i64 B, .int .i64 S, .int .i64 Wi, .bool X] 35)) := (Below.refl _ _).alloc (Nat.le_refl _) _
  have hzT : (w4.alloc (.cells #[.int .i64 B, .int .i64 S, .int .i64 Wi, .bool X] 35)).heap.size = w4.heap.size + 1 := by simp
  have hS5 := hS4.below hbT
  have hB5 := hB4.trans (hbT.mono hB4.size)
  have hD5 := hD4.trans (hbT.mono hD4.size)
  have hb25 : Below w2.heap.size w2 (w4.alloc (.cells #[.int .i64 B, .int .i64 S, .int .i64 Wi, .bool X] 35)) := (hb3.trans (hb4.mono hb3.size)).trans (hbT.mono (Nat.le_trans hb3.size hb4.size))
  generalize w4.alloc (.cells #[.int .i64 B, .int .i64 S, .int .i64 Wi, .bool X] 35) = w5 at *
  have hIm5 : ∀ i v, xs[i]? = some v → w5.cell? ⟨gi, i, none⟩ = some (.int .u8 v) := fun i v hv => (hb25.cell (p := ⟨gi, i, none⟩) hgi2).trans (hIm i v hv)
  have hPB : W.heap.size + 1 ≤ w2.heap.size := hB2s
  have hbT4 : b < w4.heap.size := hS4.blt
  have hsT4 : sb < w4.heap.size := hS4.slt.2
  generalize hbase : w2.heap.size = base at *
  generalize hTT : w4.heap.size = T at *
  have hbb := hS5.bb
  have hsb := hS5.slt.1
  clear hIm hS4 hB4 hD4 hD3 hD2 hbT hCS hB3 hb3 hb4 e0 hP3 kfit hb25
  have hBW : Below W.heap.size W w5 := hB5
  have hP5 := HP.out w5 hD5
  have p131 := hP5.c131 hel
  have hL5 := HLi.out w5 hD5
  clear hP5
  go_loopw [10] (fun i wq => ∃ k : Nat, k ≤ n ∧ i = .int .i64 k ∧ CartS wq base b ib icap sb scap (runF ct (L.take k)) ∧ Oth b sb w5 wq)
    (fun i _ => n - (intOf i).toNat)
  case atStart => exact ⟨0, Nat.zero_le _, rfl, hS5, Oth.refl _ _ _⟩
  case round =>
    obtain ⟨k, hk, rfl, hSk, hOk⟩ := hrel
    have pq := (Oth.cell hOk (p := ⟨W.heap.size, 131, none⟩) (by show W.heap.size ≠ b; omega) (by show W.heap.size ≠ sb; omega)).trans p131
    by_cases hkl : k < n
    · obtain ⟨lb, loff, rfl⟩ := lies_some hL5 (by omega)
      obtain ⟨hlt, l0', l1', l2'⟩ := lies_acs hL5 hLn k (by omega)
      have hlb : lb < base := by
        have := (lies_acs (HLi.out _ (Below.refl _ _)) hLn k (by omega)).1
        rw [hS2] at this; omega
      have hak := hLo.at k (by omega)
      have hFk := run_fine ct hF1 _ (hLo.take k)
      have hrun := run_take ct L k (by omega)
      generalize L[k].1 = A at *
      generalize L[k].2.1 = Xb at *
      generalize L[k].2.2 = Wr at *
      have m0 := (Oth.cell hOk (p := ⟨lb, loff + k * 3, none⟩) (by show lb ≠ b; omega) (by show lb ≠ sb; omega)).trans l0'
      have m1 := (Oth.cell hOk (p := ⟨lb, loff + k * 3 + 1, none⟩) (by show lb ≠ b; omega) (by show lb ≠ sb; omega)).trans l1'
      have m2 := (Oth.cell hOk (p := ⟨lb, loff + k * 3 + 2, none⟩) (by show lb ≠ b; omega) (by show lb ≠ sb; omega)).trans l2'
      have i0 : (0 : Int) ≤ (k : Int) := by omega
      have i1 : (k : Int) < n := by omega
      clear p131 l0' l1' l2' t1 t2 t3
      go_wp2_with fail
      go_region_held3 (fun w' => w'.cell? ⟨W.heap.size, 131, none⟩ = some (.slice (some ⟨lb, loff, none⟩) n cap) ∧ w'.cell? ⟨lb, loff + k * 3, none⟩ = some (.int .u16 A) ∧ w'.cell? ⟨lb, loff + k * 3 + 1, none⟩ = some (.int .u8 Xb) ∧ w'.cell? ⟨lb, loff + k * 3 + 2, none⟩ = some (.bool Wr)) (go_keep) ((go_at_call 14; refine (watch_any wr.drew base b ib icap sb scap _ hSk.drew hFk A Xb Wr hak.1.1 hak.1.2 hak.2.1 hak.2.2).mono ?_; rintro e wz ⟨rfl, hSz, hbz, hzz, hoz⟩; have pz := (hbz.cell (p := ⟨W.heap.size, 131, none⟩) hPB).trans pq; have z0 := (hbz.cell (p := ⟨lb, loff + k * 3, none⟩) hlb).trans m0; have z1 := (hbz.cell (p := ⟨lb, loff + k * 3 + 1, none⟩) hlb).trans m1; have z2 := (hbz.cell (p := ⟨lb, loff + k * 3 + 2, none⟩) hlb).trans m2))
      go_wp2_with fail
      go_roundw
      case rel => exact ⟨k + 1, by omega, by go_num, by rw [hrun]; exact hSz, Oth.trans hOk.drew hoz⟩
      case measure => simp [intOf]; omega
    · obtain rfl : k = n := by omega
      rw [List.take_of_length_le (Nat.le_of_eq hLn)] at hSk
      have hFL := run_fine ct hF1 L hLo
      have hcz : (runF ct L).sz = S := by
        rw [← hsz3]; unfold Ct.sz Ct.k Ct.n; rw [(run_tag ct L).1, (run_tag ct L).2]
      have hcr : (runF ct L).ram = X := by
        rw [← hram3]; unfold Ct.ram Ct.k Ct.n; rw [(run_tag ct L).1, (run_tag ct L).2]
      have hci : (runF ct L).im = xs := (run_tag ct L).2.trans him3
      obtain ⟨p1, p2, _⟩ := fine_nums _ hFL
      have hlen : (runF ct L).sh.length ≤ 4 ∧ 0 < (runF ct L).sh.length := by rcases p1 with e | e | e <;> rw [e] at p2 <;> omega
      rw [hcz] at p1 p2
      have hwl : ((runF ct L).sh.length : Int) = Wi := by
        obtain ⟨h1, h2⟩ := hwin
        rcases p1 with e | e | e <;> rw [e] at p2 h1 <;> omega
      have T1 := (Oth.cell hOk (p := ⟨T, 1, none⟩) (by show T ≠ b; omega) (by show T ≠ sb; omega)).trans t1
      have T2 := (Oth.cell hOk (p := ⟨T, 2, none⟩) (by show T ≠ b; omega) (by show T ≠ sb; omega)).trans t2
      have T3 := (Oth.cell hOk (p := ⟨T, 3, none⟩) (by show T ≠ b; omega) (by show T ≠ sb; omega)).trans t3
      have hT5 : T < wr.heap.size := by rw [hOk.size, hzT]; exact Nat.lt_succ_self _
      have hIw : ∀ i v, xs[i]? = some v → wr.cell? ⟨gi, i, none⟩ = some (.int .u8 v) := fun i v hv => (Oth.cell hOk (p := ⟨gi, i, none⟩) (by show gi ≠ b; omega) (by show gi ≠ sb; omega)).trans (hIm5 i v hv)
      have hgl : gi < wr.heap.size := by rw [hOk.size, hzT]; omega
      have hBr := Oth.below hOk hBW (by omega) (by omega)
      clear t1 t2 t3 p131 hIm5 hBW hOk hL5 p1 p2
      generalize runF ct L = cL at *
      go_wp2_with fail
      refine (show_any wr base b ib icap sb scap cL hSk hFL).mono ?_
      rintro e w6 ⟨r1, rfl, hown1, hb6⟩
      have hS6 := hSk.below hb6
      have hB6 := hBr.trans (hb6.mono hBr.size)
      obtain ⟨g1, cap1, rfl, hg1, hg1'⟩ := hown1.form hlen.2
      go_wp2_with fail
      refine (where_any w6 base b ib icap sb scap cL hS6 hFL a a0 a1).mono ?_
      rintro e w7 ⟨rfl, hb7⟩
      have hS7 := hS6.below hb7
      have hB7 := hB6.trans (hb7.mono hB6.size)
      go_wp2_with fail
      refine (peek_any w7 base b ib icap sb scap cL hS7 hFL a a0 a1).mono ?_
      rintro e w8 ⟨rfl, hb8⟩
      have hB8 := hB7.trans (hb8.mono hB7.size)
      have hb68 := hb7.trans (hb8.mono hb7.size)
      have hbr8 := hb6.trans (hb68.mono hb6.size)
      have U1 := (hbr8.cell (p := ⟨T, 1, none⟩) hT5).trans T1
      have U2 := (hbr8.cell (p := ⟨T, 2, none⟩) hT5).trans T2
      have U3 := (hbr8.cell (p := ⟨T, 3, none⟩) hT5).trans T3
      have hI8 : ∀ i v, xs[i]? = some v → w8.cell? ⟨gi, i, none⟩ = some (.int .u8 v) := fun i v hv => (hbr8.cell (p := ⟨gi, i, none⟩) hgl).trans (hIw i v hv)
      have hown8 := ownsRow_moved hown1 (hb68.block g1 hg1')
      clear T1 T2 T3 hIw hS6 hS7 hb6 hb7 hb8 hb68 hbr8 hown1 hSk
      have a1' := and4095 a a0 a1
      have a2' := and4096 a a0 a1
      have hS1 : ¬ S < 1 := by omega
      by_cases hw' : a / 4096 % 2 = 0 ∨ cL.ram = true ∧ a % 4096 < 256
      · have hwf := where_off cL a hw'
        have hx : ¬ (xs.length : Int) ≤ -1 := by omega
        by_cases hm : a / 4096 % 2 = 0
        · have hp : peekF cL a = (0, false) := by unfold peekF; rw [hwf, if_neg (by omega), if_neg (by omega)]
          rw [hp, hwf]
          rw [hm] at a2'
          have a4 : bits .and .u16 a 4096 = 0 := a2'.trans rfl
          clear a2' hp hwf hw' hI8 hown8
          go_wp2_with fail
          refine (awake_any _).mono ?_
          rintro e w9 ⟨rfl, hb9⟩
          go_wp2_with fail
          go_ret
          exact ⟨rfl, hB8.trans (hb9.mono hB8.size)⟩
        · obtain ⟨hr, ho⟩ := hw'.resolve_left hm
          rw [show a / 4096 % 2 = 1 by omega] at a2'
          have a4 : bits .and .u16 a 4096 = 4096 := a2'.trans rfl
          rw [hwf]
          rw [← hcr, hr] at U3
          generalize (peekF cL a).1 = pb at *
          generalize (peekF cL a).2 = pd at *
          clear a2' hwf hw' hI8 hown8
          go_wp2_with fail
          refine (awake_any _).mono ?_
          rintro e w9 ⟨rfl, hb9⟩
          go_wp2_with fail
          go_ret
          exact ⟨rfl, hB8.trans (hb9.mono hB8.size)⟩
      · have hm : a / 4096 % 2 = 1 := by omega
        have h2 : cL.ram = true → 256 ≤ a % 4096 := fun hr => Int.not_lt.1 fun h' => hw' (.inr ⟨hr, h'⟩)
        obtain ⟨we, w0, wl⟩ := where_in cL hFL a a0 hm h2
        have hp : peekF cL a = (cL.im.getD (whereF cL a).toNat 0, true) := by unfold peekF; rw [if_pos w0]
        rw [hcz] at we
        have hnn : cL.n = (xs.length : Int) := by unfold Ct.n; rw [hci]
        rw [hnn] at wl
        rw [hci] at hp
        have hSp : 0 < S := by omega
        have hlS : S * cL.sh.length = 4096 := by rw [hwl, Int.mul_comm]; exact hwin.1
        have o0 : 0 ≤ a % 4096 := by omega
        have q0 : 0 ≤ a % 4096 / S := Int.ediv_nonneg o0 (by omega)
        have q1 : a % 4096 / S < cL.sh.length := Int.ediv_lt_of_lt_mul hSp (by rw [Int.mul_comm]; omega)
        obtain ⟨q, hq⟩ := Int.eq_ofNat_of_zero_le q0
        have hql : q < cL.sh.length := by omega
        have cq : w8.cell? ⟨g1, q, none⟩ = some (.int .i64 (cL.sh.getD q 0)) := by
          rw [hown8.cellAt q (by omega), List.getElem?_map, List.getElem?_eq_getElem hql]; simp [List.getD, hql]
        rw [hq, Int.toNat_natCast] at we
        obtain ⟨i, hi'⟩ := Int.eq_ofNat_of_zero_le w0
        have hil : i < xs.length := by omega
        have ci8 := hI8 i (xs.getD i 0) (by rw [List.getElem?_eq_getElem hil]; simp [List.getD, hil])
        rw [hp, hi', Int.toNat_natCast]
        rw [hi'] at we
        generalize xs.getD i 0 = pv at *
        generalize cL.sh.getD q 0 = v at *
        have d1 : Int.tdiv (a % 4096) S = q := by rw [Int.tdiv_eq_ediv_of_nonneg o0, hq]
        have d2 : Int.tmod (a % 4096) S = a % 4096 % S := Int.tmod_eq_emod_of_nonneg o0
        have r0 := Int.emod_nonneg (a % 4096) (show S ≠ 0 by omega)
        have r1' := Int.emod_lt_of_pos (a % 4096) hSp
        generalize hR : a % 4096 % S = R at *
        generalize hM : v * S = M at *
        have hS4 : S ≤ 4096 := by
          have : S * 1 ≤ S * cL.sh.length := Int.mul_le_mul_of_nonneg_left (by omega) (by omega)
          omega
        have v1 : IntKind.i64.wrap M = M := IntWalk.i64_in _ (by omega)
        have v2 : IntKind.i64.wrap (M + R) = (i : Int) := by rw [IntWalk.i64_in _ (by omega)]; exact we.symm
        have v3 : IntKind.i64.wrap (q : Int) = q := IntWalk.i64_in _ (by omega)
        have v4 : IntKind.i64.wrap R = R := IntWalk.i64_in _ (by omega)
        have v5 : IntKind.i64.wrap (a % 4096) = a % 4096 := IntWalk.i64_in _ (by omega)
        have x1 : ¬ (xs.length : Int) ≤ (i : Int) := by omega
        have x2 : ¬ (i : Int) < 0 := by omega
        have x3 : (q : Int) < cL.sh.length := by omega
        have x4 : (0 : Int) ≤ (q : Int) := by omega
        have x5 : (0 : Int) ≤ (i : Int) := by omega
        have x6 : (i : Int) < xs.length := by omega
        have x7 : ¬ S = 0 := by omega
        clear hI8 hown8 hp we w0 wl hw' h2 a2' hq hi' hR
        go_wp2_with fail
        clear hwl hcz hcr hci hnn hlS hwin a1' he0 hB hWi hX hS hF1 hsz3 hram3 him3 hS5 hFL hlen d1 q0 q1 hBr HLi HP hLn hLo hpl HR hEL hex hel hu hu22 hi22 hw hk hn pq
        have y1 : decide ((q : Int) < cL.sh.length) = true := decide_eq_true x3
        go_region_held3 (fun w' => w'.cell? ⟨g1, q, none⟩ = some (.int .i64 v) ∧ w'.cell? ⟨T, 1, none⟩ = some (.int .i64 S) ∧ w'.cell? ⟨gi, i, none⟩ = some (.int .u8 pv)) (go_keep) ((go_at_call 13; refine (awake_any _).mono ?_; rintro e w9 ⟨rfl, hb9⟩; have z1 := (hb9.cell (p := ⟨g1, q, none⟩) (block_lt_of_cell cq)).trans cq; have z2 := (hb9.cell (p := ⟨T, 1, none⟩) (block_lt_of_cell U1)).trans U1; have z3 := (hb9.cell (p := ⟨gi, i, none⟩) (block_lt_of_cell ci8)).trans ci8))
        go_wp2_with fail
        go_ret
        exact ⟨rfl, hB8.drew.trans (hb9.mono hB8.size)⟩
end Go.Proofs.Ytfdmbgmhgbhggaa.cartServes
