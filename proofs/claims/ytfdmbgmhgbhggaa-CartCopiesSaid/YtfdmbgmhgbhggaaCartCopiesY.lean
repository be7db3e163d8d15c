/- The Go law CartCopies: its walk, where there is a cartridge. -/
import Derived.Test.YtfdmbgmhgbhggaaCartCopiesW
import Derived.Test.YtfdmbgmhgbhggaaImgRest
namespace Go.Proofs.Ytfdmbgmhgbhggaa.cartCopies
open Go.RowKit Go.Deep Go.Proofs.Ytfdmbgmhgbhggaa Go.Proofs.Ytfdmbgmhgbhggaa.Cl Go.Proofs.Ytfdmbgmhgbhggaa.Ca Go.Proofs.Ytfdmbgmhgbhggaa.cartHolds Go.Proofs.Ytfdmbgmhgbhggaa.cartServes
set_option linter.unusedVariables false
set_option linter.unusedSimpArgs false
set_option maxRecDepth 1000000 in
set_option maxHeartbeats 4000000 in
theorem copies_yes (W : World) (tag : ByteArray) (len seed : Int) (ex : List Int) (ao : Option Addr) (n cap : Nat) (L : List Ac) (mo : Option Addr) (mn mc : Nat) (M : List Ac) (hex : ex.length = 128) (hn : n ≤ 200) (l0 : -9223372036854775808 ≤ len) (l1 : len ≤ 32768) (s0 : 0 ≤ seed) (s1 : seed ≤ 255)
    (N : Nat) (hN : N = len.toNat) (hok : Img.okK (Img.idx tag) N = true) (hL : Lies W 3 (.slice ao n cap) n (acs L)) (hLn : L.length = n) (hLo : AcOk L) (hM : Lies W 3 (.slice mo mn mc) mn (acs M)) (hMn : M.length = mn) (hMo : AcOk M) (hmn : mn ≤ 100) :
    Calls Try.prog 6 #[.agg (playL tag len seed (ex.map (Value.int .u8)) ao n cap).toArray, .slice mo mn mc] W fun e W' => e = .returned (.bool true) ∧ Below W.heap.size W W' := by
  have hel : (ex.map (Value.int .u8)).length = 128 := by simpa using hex
  have knew := fun W base r xs hown hm => new_of W tag base r xs ex hown hm hex
  generalize hEL : ex.map (Value.int .u8) = el at *
  have hP : PlayAt (W.alloc (.cells (playL tag len seed el ao n cap).toArray 25)) W.heap.size tag len seed el ao n cap :=
    heap_alloc_new W _
  have hS2 : (W.alloc (.cells (playL tag len seed el ao n cap).toArray 25)).heap.size = W.heap.size + 1 := by simp
  have hr := hP.all
  have hb0 : Below W.heap.size W (W.alloc (.cells (playL tag len seed el ao n cap).toArray 25)) :=
    (Below.refl _ W).alloc (Nat.le_refl _) _
  have hsz := hb0.size
  have hu := Try.underlying25
  have hi : (Try.prog.info? 25).map (·.size) = some (playL tag len seed el ao n cap).length := by rw [play_size _ _ _ _ _ _ _ hel]; kernel_rfl
  have ks := fun w => small_any w tag len seed el ao n cap hel
  rw [decide_eq_true hn, decide_eq_true l1, Bool.true_and] at ks
  have HP := hideR (fun w (hb : Below _ _ w) => (hP.below hb))
  have hL2 := hL.below hb0
  have HLi := hideR (fun w (hb : Below _ _ w) => (hL2.below hb))
  have hM2 := hM.below hb0
  have HMi := hideR (fun w (hb : Below _ _ w) => (hM2.below hb))
  clear hL2 hM2
  clear hP
  have hu22 := Try.underlying22
  have hi22 : (Try.prog.info? 22).map (·.size) = some el.length := by rw [hel]; kernel_rfl
  have hw : IntKind.i64.wrap seed = seed := IntWalk.i64_in _ (by omega)
  generalize hpl : playL tag len seed el ao n cap = pl at *
  have hm1 : ¬ (100 : Int) < (mn : Int) := by omega
  go_enter Try.func6, Try.ntmps6
  go_wp2_with fail
  refine wp_load_mid _ _ rfl W.heap.size 0 rfl pl _ hr hu rfl hi ?_
  go_wp2_with fail
  refine (ks _).mono ?_
  rintro e w1 ⟨rfl, hb1⟩
  go_wp2_with fail
  have hP1 := HP.out _ hb1
  have hB1 := hb1
  have hz1 := hb1.size
  rw [hS2] at hz1
  have c0 := hP1.c0
  have c1 := hP1.c1
  have c2 := hP1.c2
  have c3 := hP1.range hel
  have hPl := hP1.lt
  have HN := hideR hN
  have HK := hideR hok
  clear hok hr ks hN hL hM
  go_region_held3 (fun w' => w'.cell? ⟨W.heap.size, 0, none⟩ = some (.string tag) ∧ w'.cell? ⟨W.heap.size, 1, none⟩ = some (.int .i64 len) ∧ w'.cell? ⟨W.heap.size, 2, none⟩ = some (.int .u8 seed) ∧ w'.rangeAt W.heap.size 3 el) (go_keep) ((first | (skip; go_at_call 10; refine (image_any len seed _ l0 l1 s0 s1).mono ?_; rintro e w2 ⟨r, xs, rfl, hxl, hown, hb2⟩; rw [← HN.out] at hxl; have hP2 := PlayAt.below (W := w1.drew) hP1 hb2; have d0 := hP2.c0; have d1 := hP2.c1; have d2 := hP2.c2; have d3 := hP2.range hel) | (go_at_call 11; refine (knew w2 _ _ xs hown (by have := HN.out; omega)).mono ?_; rintro e w3 hnew; obtain ⟨b, ib, icap, sb, rfl, hCS, hb3⟩ := hnew.1 (by rw [hxl]; exact HK.out); have hP3 := hP2.below hb3; have e0 := hP3.c0; have e1 := hP3.c1; have e2 := hP3.c2; have e3 := hP3.range hel)))
  have hF0 : Fine ⟨tag, xs, Img.firstK (Img.idx tag) xs.length, ex, false⟩ := fine_new tag xs ex (by rw [hxl]; exact HK.out) hex
  have hB2 := (hB1.drew).trans (hb2.mono hB1.size)
  have hs2 := hB2.size
  have hB3 := hB2.trans (hb3.mono hs2)
  rw [hS2] at hs2
  clear hP2 hnew d0 d1 d2 d3 e0 e1 e2 e3 c0 c1 c2 c3 hP1 hb1 hB1 hB2 hb2 hP3
  generalize (⟨tag, xs, Img.firstK (Img.idx tag) xs.length, ex, false⟩ : Ct) = ct at *
  generalize (Img.firstK (Img.idx tag) xs.length).length = scap at *
  generalize hbase : w2.heap.size = base at *
  have hs3 := hb3.size
  rw [hbase] at hs3
  clear hown hb3 hPl hz1 hu22 hi22
  go_wp2_with fail
  go_loopw [7] (fun i wq => ∃ k : Nat, k ≤ n ∧ i = .int .i64 k ∧ CartS wq base b ib icap sb scap (runF ct (L.take k)) ∧ Below base w3 wq)
    (fun i _ => n - (intOf i).toNat)
  case atStart => exact ⟨0, Nat.zero_le _, rfl, hCS, Below.refl _ _⟩
  case round =>
    obtain ⟨k, hk, rfl, hSk, hBk⟩ := hrel
    have hBq := hB3.trans (hBk.mono (by rw [hS2]; exact hs2))
    have hPq := HP.out _ hBq
    have p131 := hPq.c131 hel
    by_cases hkl : k < n
    · obtain ⟨lb, loff, rfl⟩ := lies_some (HLi.out _ hBq) (by omega)
      have hlb : lb < base := (lies_acs (HLi.out _ (Below.refl _ _)) hLn k (by omega)).1 |> fun h => Nat.lt_of_lt_of_le (by rw [hS2] at h; exact h) hs2
      obtain ⟨hlt, l0', l1', l2'⟩ := lies_acs (HLi.out _ hBq) hLn k (by omega)
      have hak := hLo.at k (by omega)
      have hFk := run_fine ct hF0 _ (hLo.take k)
      have hrun := run_take ct L k (by omega)
      generalize hA : L[k].1 = A at *
      generalize hX : L[k].2.1 = X at *
      generalize hWr : L[k].2.2 = Wr at *
      have i0 : (0 : Int) ≤ (k : Int) := by omega
      have i1 : (k : Int) < n := by omega
      clear hA hX hWr
      go_wp2_with fail
      go_region_held3 (fun w' => w'.cell? ⟨W.heap.size, 131, none⟩ = some (.slice (some ⟨lb, loff, none⟩) n cap) ∧ w'.cell? ⟨lb, loff + k * 3, none⟩ = some (.int .u16 A) ∧ w'.cell? ⟨lb, loff + k * 3 + 1, none⟩ = some (.int .u8 X) ∧ w'.cell? ⟨lb, loff + k * 3 + 2, none⟩ = some (.bool Wr)) (go_keep) ((go_at_call 14; refine (watch_any wr.drew base b ib icap sb scap _ hSk.drew hFk A X Wr hak.1.1 hak.1.2 hak.2.1 hak.2.2).mono ?_; rintro e wz ⟨rfl, hSz, hbz, hzz, hoz⟩; have hBz := hBk.drew.trans hbz; have p131z := (hbz.cell (p := ⟨W.heap.size, 131, none⟩) (Nat.lt_of_lt_of_le (Nat.lt_add_of_pos_right (by decide)) hs2)).trans p131; have m0 := (hbz.cell (p := ⟨lb, loff + k * 3, none⟩) hlb).trans l0'; have m1 := (hbz.cell (p := ⟨lb, loff + k * 3 + 1, none⟩) hlb).trans l1'; have m2 := (hbz.cell (p := ⟨lb, loff + k * 3 + 2, none⟩) hlb).trans l2'))
      clear p131 l0' l1' l2'
      go_wp2_with fail
      go_roundw
      case rel => exact ⟨k + 1, by omega, by go_num, by rw [hrun]; exact hSz, hBz⟩
      case measure => simp [intOf]; omega
    · obtain rfl : k = n := by omega
      obtain ⟨wo, rfl⟩ : ∃ wo : World, wo = wr := ⟨_, rfl⟩
      rw [List.take_of_length_le (Nat.le_of_eq hLn)] at hSk
      have hFL := run_fine ct hF0 L hLo
      obtain ⟨p1, p2, _⟩ := fine_nums _ hFL
      have hlen : (runF ct L).sh.length ≤ 4 ∧ 0 < (runF ct L).sh.length := by rcases p1 with e | e | e <;> rw [e] at p2 <;> omega
      clear p1 p2 hPq HLi hF0 hCS
      generalize runF ct L = cL at *
      have hwl := hBk.size
      have hex3 := hFL.ex
      go_wp2_with fail
      refine (copy_any wo base b ib icap sb scap cL hSk hFL).mono ?_
      rintro e w5 ⟨b2, sb2, scap2, rfl, hD5, hb5⟩
      have hS5 := hSk.below hb5
      have hB5 := hBk.trans (hb5.mono (by omega))
      have hbd : wo.heap.size ≤ b2 := hD5.bb
      have hsd : wo.heap.size ≤ sb2 := hD5.slt.1
      have hbl : b < wo.heap.size := hSk.blt
      have hil : ib < wo.heap.size := hSk.il
      have hsl : sb < wo.heap.size := hSk.slt.2
      go_wp2_with fail
      refine (show_any w5 base b ib icap sb scap cL hS5 hFL).mono ?_
      rintro e w6 ⟨r1, rfl, hown1, hb6⟩
      have hS6 := hS5.below hb6
      have hD6 := hD5.below hb6
      have hB6 := hB5.trans (hb6.mono (Nat.le_trans hs3 hB5.size))
      obtain ⟨g1, cap1, rfl, hg1, hg1'⟩ := hown1.form hlen.2
      go_wp2_with fail
      refine (extra_any w6 base b ib icap sb scap cL hS6 hFL).mono ?_
      rintro e w7 ⟨rfl, hb7⟩
      have hS7 := hS6.below hb7
      have hD7 := hD6.below hb7
      have hB7 := hB6.trans (hb7.mono (Nat.le_trans hs3 hB6.size))
      have hown7 := ownsRow_moved hown1 (hb7.block g1 hg1')
      have hg17 : g1 < w7.heap.size := Nat.lt_of_lt_of_le hg1' hb7.size
      have hbd7 : b2 < w7.heap.size := hD7.blt
      have hsd7 : sb2 < w7.heap.size := hD7.slt.2
      have hb5s := hb5.size
      have hg15 : b2 < g1 ∧ sb2 < g1 := ⟨Nat.lt_of_lt_of_le hD5.blt hg1, Nat.lt_of_lt_of_le hD5.slt.2 hg1⟩
      have hne : ∀ w, Sem.run Try.prog (binOp .neq 22 (.agg (cL.ex.map (Value.int .u8)).toArray) (.agg (cL.ex.map (Value.int .u8)).toArray)) w = .ok (.bool false) w := fun w => neq_ex w _ hex3
      have hqe : ∀ w, Sem.run Try.prog (binOp .eql 22 (.agg (cL.ex.map (Value.int .u8)).toArray) (.agg (cL.ex.map (Value.int .u8)).toArray)) w = .ok (.bool true) w := fun w => eql_ex w _ hex3
      have hcl : (cL.ex.map (Value.int .u8)).length = 128 := by simpa using hex3
      have h1 := ints_one .u8 cL.ex
      have kx : ∀ w c, Fine c → c.ex = cL.ex → ∀ base b ib icap sb scap, CartS w base b ib icap sb scap c → Calls Try.prog 23 #[.pointer (some ⟨b, 0, none⟩)] w fun e W' => e = .returned (.agg (cL.ex.map (Value.int .u8)).toArray) ∧ Below w.heap.size w W' := fun w c hF he base b ib icap sb scap hS => by
        rw [← he]; exact extra_any w base b ib icap sb scap c hS hF
      generalize hEX : cL.ex.map (Value.int .u8) = xl at *
      have hi22 : (Try.prog.info? 22).map (·.size) = some xl.length := by rw [hcl]; kernel_rfl
      have hu22 := Try.underlying22
      have hz := zero_ex
      have hzs : zex.size = 128 := by kernel_rfl
      have hst : (storeCells ⟨w7.heap.size, 0, none⟩ xl.toArray.toList 0).run Try.prog (w7.alloc (.cells zex 22)) = .ok () (w7.alloc (.cells xl.toArray 22)) :=
        run_storeCells_new w7 22 zex xl.toArray (by rw [hi22]; simp) (hzs.trans (by simp [hcl])) (by simpa using h1)
      simp only at hst
      go_wp2_with fail
      generalize hT7 : w7.heap.size = X at *
      have hb8 : Below X w7 (w7.alloc (.cells xl.toArray 22)) := by rw [← hT7]; exact (Below.refl _ _).alloc (Nat.le_refl _) _
      have hX8 : (w7.alloc (.cells xl.toArray 22)).heap[X]? = some (.cells xl.toArray 22 (0, 0)) := by rw [← hT7]; exact heap_alloc_new w7 _
      have hs8 : (w7.alloc (.cells xl.toArray 22)).heap.size = X + 1 := by simp [hT7]
      generalize w7.alloc (.cells xl.toArray 22) = w8 at *
      have hS8 := hS7.below (by rw [hT7]; exact hb8)
      have hD8 := hD7.below (by rw [hT7]; exact hb8)
      have hB8 := hB7.trans (hb8.mono (by have := hB7.size; omega))
      have hown8 := ownsRow_moved hown7 (hb8.block g1 hg17)
      have hr8 : w8.rangeAt X 0 xl := fun j v hv => by rw [cell_of_row w8 _ _ _ _ _ hX8, List.getElem?_toArray, Nat.zero_add]; exact hv
      clear hst hz hzs hne hqe kx hi22 hu22 hS5 hS6 hS7 hD5 hD6 hD7 hB5 hB6 hB7 hown1 hown7 hb5 hb6 hb7 hb8 hSk hBk hk hkl
      have hne : ∀ w, Sem.run Try.prog (binOp .neq 22 (.agg xl.toArray) (.agg xl.toArray)) w = .ok (.bool false) w := by intro w; rw [← hEX]; exact neq_ex w _ hex3
      have hqe : ∀ w, Sem.run Try.prog (binOp .eql 22 (.agg xl.toArray) (.agg xl.toArray)) w = .ok (.bool true) w := by intro w; rw [← hEX]; exact eql_ex w _ hex3
      have kx : ∀ w c, Fine c → c.ex = cL.ex → ∀ base b ib icap sb scap, CartS w base b ib icap sb scap c → Calls Try.prog 23 #[.pointer (some ⟨b, 0, none⟩)] w fun e W' => e = .returned (.agg xl.toArray) ∧ Below w.heap.size w W' := fun w c hF he base b ib icap sb scap hS => by
        rw [← hEX, ← he]; exact extra_any w base b ib icap sb scap c hS hF
      have hi22 : (Try.prog.info? 22).map (·.size) = some xl.length := by rw [hcl]; kernel_rfl
      have hu22 := Try.underlying22
      have hlT : cL.sh.length ≤ 1000000 := by omega
      have HEX := hideR hEX
      have HE3 := hideR hex3
      have ksame : ∀ w r1 r2, IsRow w r1 cL.sh → IsRow w r2 cL.sh → Calls Try.prog 18 #[r1, r2] w fun e w' => e = .returned (.bool true) ∧ Below w.heap.size w w' := fun w r1 r2 h1 h2 => by
        have := same_any r1 r2 cL.sh cL.sh w h1 h2
        rw [decide_eq_true rfl] at this
        refine this.mono ?_
        rintro e w' ⟨rfl, m, rfl⟩
        exact ⟨rfl, below_drewN (Below.refl _ _) m⟩
      have hXlt : X < w8.heap.size := by omega
      have hg18 : g1 < w8.heap.size := by omega
      clear hEX hex3 hcl h1 hex hel hEL hu hi hpl hw hm1 hxl
      go_region_held3 (fun w' => w'.rangeAt X 0 xl) (go_keep) ((first | (go_at_call 15; refine (show_any w8.drew _ b2 ib icap sb2 scap2 cL hD8.drew hFL).mono ?_; rintro e w9 ⟨r2, rfl, hown9, hb9⟩; have hr9 : w9.rangeAt X 0 xl := (fun j v hv => (hb9.cell (p := ⟨X, 0 + j, none⟩) hXlt).trans (hr8 j v hv)); have hX9 : X < w9.heap.size := Nat.lt_of_lt_of_le hXlt hb9.size; have hg9 := ownsRow_moved hown8 (hb9.block g1 hg18)) | (go_at_call 18; refine (ksame w9 _ _ (row_of_owns hown9 rfl hlT) (row_of_owns hg9 rfl hlT)).mono ?_; rintro e w10 ⟨rfl, hb10⟩; have hr10 : w10.rangeAt X 0 xl := (fun j v hv => (hb10.cell (p := ⟨X, 0 + j, none⟩) hX9).trans (hr9 j v hv)); have hX10 : X < w10.heap.size := Nat.lt_of_lt_of_le hX9 hb10.size) | (go_at_call 23; refine (kx _ cL hFL rfl _ b2 ib icap sb2 scap2 ((hD8.drew.below hb9).below hb10)).mono ?_; rintro e w11 ⟨rfl, hb11⟩; have hr11 : w11.rangeAt X 0 xl := (fun j v hv => (hb11.cell (p := ⟨X, 0 + j, none⟩) hX10).trans (hr10 j v hv)))))
      have hD11 := ((hD8.drew.below hb9).below hb10).below hb11
      have hS11 := ((hS8.drew.below hb9).below hb10).below hb11
      have hb811 : Below w8.heap.size w8 w11 := (((Below.refl w8.heap.size w8).drew.trans hb9).trans (hb10.mono hb9.size)).trans (hb11.mono (Nat.le_trans hb9.size hb10.size))
      have hown11 := ownsRow_moved (W := w8) hown8 (hb811.block g1 hg18)
      have hBo : Below W.heap.size W w11 := (hb0.trans ((hB3.trans (hB8.mono (by rw [hS2]; exact hs2))).mono hsz)).trans (Below.mono (B := w8.heap.size) hb811 (by have := hB8.size; omega))
      have hX11 : X < w11.heap.size := Nat.lt_of_lt_of_le hX10 hb11.size
      have hg11 : g1 < w11.heap.size := Nat.lt_of_lt_of_le hg18 hb811.size
      have hPB : W.heap.size + 1 ≤ wo.heap.size := by omega
      have hB11 : Below (W.alloc (.cells pl.toArray 25)).heap.size (W.alloc (.cells pl.toArray 25)) w11 := (hB3.trans (hB8.mono (by rw [hS2]; exact hs2))).trans (Below.mono (B := w8.heap.size) hb811 (by have := hB8.size; omega))
      clear ksame hr8 hr9 hr10 hown8 hown9 hg9 hS8 hD8 hb9 hb10 hb11 hX8 hne kx hB8 hb811
      go_wp2_with fail
      go_loopw [11] (fun i wq => ∃ k : Nat, k ≤ mn ∧ i = .int .i64 k ∧ CartS wq wo.heap.size b2 ib icap sb2 scap2 (runF cL (M.take k)) ∧ Oth b2 sb2 w11 wq)
        (fun i _ => mn - (intOf i).toNat)
      case atStart => exact ⟨0, Nat.zero_le _, rfl, hD11, Oth.refl _ _ _⟩
      case round =>
        obtain ⟨j, hj, rfl, hSj, hOj⟩ := hrel
        by_cases hjl : j < mn
        · obtain ⟨lb, loff, rfl⟩ := lies_some (HMi.out _ hB11) (by omega)
          have hlb : lb < W.heap.size + 1 := (lies_acs (HMi.out _ (Below.refl _ _)) hMn j (by omega)).1 |> fun h => by rw [hS2] at h; exact h
          obtain ⟨hlt, l0', l1', l2'⟩ := lies_acs (HMi.out _ hB11) hMn j (by omega)
          have hak := hMo.at j (by omega)
          have hFj := run_fine cL hFL _ (hMo.take j)
          have hrun := run_take cL M j (by omega)
          generalize hA : M[j].1 = A at *
          generalize hXx : M[j].2.1 = Xb at *
          generalize hWr : M[j].2.2 = Wr at *
          have m0 := (Oth.cell hOj (p := ⟨lb, loff + j * 3, none⟩) (by show lb ≠ b2; omega) (by show lb ≠ sb2; omega)).trans l0'
          have m1 := (Oth.cell hOj (p := ⟨lb, loff + j * 3 + 1, none⟩) (by show lb ≠ b2; omega) (by show lb ≠ sb2; omega)).trans l1'
          have m2 := (Oth.cell hOj (p := ⟨lb, loff + j * 3 + 2, none⟩) (by show lb ≠ b2; omega) (by show lb ≠ sb2; omega)).trans l2'
          have hlw : lb < wo.heap.size := by omega
          have i0 : (0 : Int) ≤ (j : Int) := by omega
          have i1 : (j : Int) < mn := by omega
          clear hA hXx hWr l0' l1' l2' hr11 hqe hown11 hS11
          go_wp2_with fail
          go_region_held3 (fun w' => w'.cell? ⟨lb, loff + j * 3, none⟩ = some (.int .u16 A) ∧ w'.cell? ⟨lb, loff + j * 3 + 1, none⟩ = some (.int .u8 Xb) ∧ w'.cell? ⟨lb, loff + j * 3 + 2, none⟩ = some (.bool Wr)) (go_keep) ((go_at_call 14; refine (watch_any wr.drew wo.heap.size b2 ib icap sb2 scap2 _ hSj.drew hFj A Xb Wr hak.1.1 hak.1.2 hak.2.1 hak.2.2).mono ?_; rintro e wz ⟨rfl, hSz, hbz, hzz, hoz⟩; have z0 := (hbz.cell (p := ⟨lb, loff + j * 3, none⟩) hlw).trans m0; have z1 := (hbz.cell (p := ⟨lb, loff + j * 3 + 1, none⟩) hlw).trans m1; have z2 := (hbz.cell (p := ⟨lb, loff + j * 3 + 2, none⟩) hlw).trans m2))
          go_wp2_with fail
          go_roundw
          case rel => exact ⟨j + 1, by omega, by go_num, by rw [hrun]; exact hSz, Oth.trans hOj.drew hoz⟩
          case measure => simp [intOf]; omega
        · have hSe := hS11.moved (hOj.block b (by omega) (by omega)) (hOj.block sb (by omega) (by omega)) (hOj.block ib (by omega) (by omega)) (by rw [hOj.size]; exact hS11.il)
          have hre : wr.rangeAt X 0 xl := fun i v hv => (Oth.cell hOj (p := ⟨X, 0 + i, none⟩) (by show X ≠ b2; omega) (by show X ≠ sb2; omega)).trans (hr11 i v hv)
          have howe := ownsRow_moved hown11 (hOj.block g1 (by omega) (by omega))
          have hXe : X < wr.heap.size := by rw [hOj.size]; exact hX11
          have hge : g1 < wr.heap.size := by rw [hOj.size]; exact hg11
          have hBe := Oth.below hOj hBo (by omega) (by omega)
          have hse := hBe.size
          have kx : ∀ w c, Fine c → c.ex = cL.ex → ∀ base b ib icap sb scap, CartS w base b ib icap sb scap c → Calls Try.prog 23 #[.pointer (some ⟨b, 0, none⟩)] w fun e W' => e = .returned (.agg xl.toArray) ∧ Below w.heap.size w W' := fun w c hF he base b ib icap sb scap hS => by
            rw [← HEX.out, ← he]; exact extra_any w base b ib icap sb scap c hS hF
          have ksame : ∀ w r1 r2, IsRow w r1 cL.sh → IsRow w r2 cL.sh → Calls Try.prog 18 #[r1, r2] w fun e w' => e = .returned (.bool true) ∧ Below w.heap.size w w' := fun w r1 r2 h1 h2 => by
            have := same_any r1 r2 cL.sh cL.sh w h1 h2
            rw [decide_eq_true rfl] at this
            refine this.mono ?_
            rintro e w' ⟨rfl, m, rfl⟩
            exact ⟨rfl, below_drewN (Below.refl _ _) m⟩
          clear hOj hr11 hown11 hS11 hD11 hSj hBo
          go_wp2_with fail
          go_region_held3 (fun w' => w'.rangeAt X 0 xl) (go_keep) ((first | (go_at_call 15; refine (show_any wr.drew _ b ib icap sb scap cL hSe.drew hFL).mono ?_; rintro e w21 ⟨r3, rfl, hown21, hb21⟩; have hr21 : w21.rangeAt X 0 xl := (fun j v hv => (hb21.cell (p := ⟨X, 0 + j, none⟩) hXe).trans (hre j v hv)); have hX21 : X < w21.heap.size := Nat.lt_of_lt_of_le hXe hb21.size; have hg21 := ownsRow_moved howe (hb21.block g1 hge)) | (go_at_call 18; refine (ksame w21 _ _ (row_of_owns hown21 rfl hlT) (row_of_owns hg21 rfl hlT)).mono ?_; rintro e w22 ⟨rfl, hb22⟩; have hr22 : w22.rangeAt X 0 xl := (fun j v hv => (hb22.cell (p := ⟨X, 0 + j, none⟩) hX21).trans (hr21 j v hv)); have hX22 : X < w22.heap.size := Nat.lt_of_lt_of_le hX21 hb22.size) | (go_at_call 23; refine (kx _ cL hFL rfl _ b ib icap sb scap ((hSe.drew.below hb21).below hb22)).mono ?_; rintro e w23 ⟨rfl, hb23⟩; have hr23 : w23.rangeAt X 0 xl := (fun j v hv => (hb23.cell (p := ⟨X, 0 + j, none⟩) hX22).trans (hr22 j v hv)); have hX23 : X < w23.heap.size := Nat.lt_of_lt_of_le hX22 hb23.size) | (go_at_call 13; refine (awake_any _).mono ?_; rintro e w24 ⟨rfl, hb24⟩; have hr24 : w24.rangeAt X 0 xl := (fun j v hv => (hb24.cell (p := ⟨X, 0 + j, none⟩) hX23).trans (hr23 j v hv)))))
          go_wp2_with fail
          go_ret
          have hz1 : wr.heap.size ≤ w21.heap.size := hb21.size
          have hz2 := hb22.size
          have hz3 := hb23.size
          have hbe : Below W.heap.size W wr.drew := hBe.drew
          exact ⟨rfl, (((hbe.trans (hb21.mono hse)).trans (hb22.mono (Nat.le_trans hse hz1))).trans (hb23.mono (Nat.le_trans hse (Nat.le_trans hz1 hz2)))).trans (hb24.mono (Nat.le_trans hse (Nat.le_trans hz1 (Nat.le_trans hz2 hz3))))⟩
end Go.Proofs.Ytfdmbgmhgbhggaa.cartCopies
