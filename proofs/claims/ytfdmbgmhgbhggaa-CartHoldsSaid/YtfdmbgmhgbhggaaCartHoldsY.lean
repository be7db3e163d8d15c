/- The Go law CartHolds: its walk, where there is a cartridge. -/
import Derived.Test.YtfdmbgmhgbhggaaCartHoldsW
import Derived.Test.YtfdmbgmhgbhggaaCartNil
import Derived.Test.YtfdmbgmhgbhggaaImgRest
namespace Go.Proofs.Ytfdmbgmhgbhggaa.cartHolds
open Go.RowKit Go.Deep Go.Proofs.Ytfdmbgmhgbhggaa Go.Proofs.Ytfdmbgmhgbhggaa.Cl Go.Proofs.Ytfdmbgmhgbhggaa.Ca
set_option linter.unusedVariables false
set_option linter.unusedSimpArgs false
theorem last_in (L : List Ac) (h : AcOk L) : 0 ≤ lastF L ∧ lastF L ≤ 65535 := by
  unfold lastF
  cases e : L.getLast? with
  | none => simp
  | some p =>
    have := (h p (List.mem_of_getLast? e)).1
    simpa using this
/-- An access at block Q. -/
def AccAt (W : World) (Q : Nat) (a x : Int) (wr : Bool) : Prop := W.heap[Q]? = some (.cells #[.int .u16 a, .int .u8 x, .bool wr] 41 (0, 0))
section
variable {W : World} {Q : Nat} {a x : Int} {wr : Bool}
theorem AccAt.lt (h : AccAt W Q a x wr) : Q < W.heap.size := (Array.getElem?_eq_some_iff.1 h).1
theorem AccAt.below {W' : World} (h : AccAt W Q a x wr) (hb : Below W.heap.size W W') : AccAt W' Q a x wr := (hb.block _ h.lt).trans h
theorem AccAt.c0 (h : AccAt W Q a x wr) : W.cell? ⟨Q, 0, none⟩ = some (.int .u16 a) := by rw [cell_of_row W Q 0 _ _ _ h]; rfl
theorem AccAt.c1 (h : AccAt W Q a x wr) : W.cell? ⟨Q, 1, none⟩ = some (.int .u8 x) := by rw [cell_of_row W Q 1 _ _ _ h]; rfl
theorem AccAt.c2 (h : AccAt W Q a x wr) : W.cell? ⟨Q, 2, none⟩ = some (.bool wr) := by rw [cell_of_row W Q 2 _ _ _ h]; rfl
end
set_option maxRecDepth 1000000 in
set_option maxHeartbeats 4000000 in
theorem holds_yes (W : World) (tag : ByteArray) (len seed : Int) (ex : List Int) (ao : Option Addr) (n cap : Nat) (L : List Ac) (a x : Int) (wf : Bool) (hex : ex.length = 128) (hn : n ≤ 200) (l0 : -9223372036854775808 ≤ len) (l1 : len ≤ 32768) (s0 : 0 ≤ seed) (s1 : seed ≤ 255)
    (N : Nat) (hN : N = len.toNat) (hok : Img.okK (Img.idx tag) N = true) (hL : Lies W 3 (.slice ao n cap) n (acs L)) (hLn : L.length = n) (hLo : AcOk L) (a0 : 0 ≤ a) (a1 : a ≤ 65535) (x0 : 0 ≤ x) (x1 : x ≤ 255) :
    Calls Try.prog 4 #[.agg (playL tag len seed (ex.map (Value.int .u8)) ao n cap).toArray, .agg #[.int .u16 a, .int .u8 x, .bool wf]] W fun e W' => e = .returned (.bool true) ∧ Below W.heap.size W W' := by
  have hel : (ex.map (Value.int .u8)).length = 128 := by simpa using hex
  have knew := fun W base r xs hown hm => new_of W tag base r xs ex hown hm hex
  generalize hEL : ex.map (Value.int .u8) = el at *
  have hP : PlayAt ((W.alloc (.cells (playL tag len seed el ao n cap).toArray 25)).alloc (.cells #[.int .u16 a, .int .u8 x, .bool wf] 41)) W.heap.size tag len seed el ao n cap :=
    (heap_alloc_old _ _ (by simp)).trans (heap_alloc_new W _)
  have hQ : AccAt ((W.alloc (.cells (playL tag len seed el ao n cap).toArray 25)).alloc (.cells #[.int .u16 a, .int .u8 x, .bool wf] 41)) (W.heap.size + 1) a x wf := by
    have := heap_alloc_new (W.alloc (.cells (playL tag len seed el ao n cap).toArray 25)) (.cells #[.int .u16 a, .int .u8 x, .bool wf] 41)
    unfold AccAt; simpa using this
  have hS2 : ((W.alloc (.cells (playL tag len seed el ao n cap).toArray 25)).alloc (.cells #[.int .u16 a, .int .u8 x, .bool wf] 41)).heap.size = W.heap.size + 2 := by simp
  have hr := hP.all
  have hb0 : Below W.heap.size W ((W.alloc (.cells (playL tag len seed el ao n cap).toArray 25)).alloc (.cells #[.int .u16 a, .int .u8 x, .bool wf] 41)) :=
    ((Below.refl _ W).alloc (Nat.le_refl _) _).alloc (by simp) _
  have hsz := hb0.size
  have hu := Try.underlying25
  have hi : (Try.prog.info? 25).map (·.size) = some (playL tag len seed el ao n cap).length := by rw [play_size _ _ _ _ _ _ _ hel]; kernel_rfl
  have ks := fun w => small_any w tag len seed el ao n cap hel
  rw [decide_eq_true hn, decide_eq_true l1, Bool.true_and] at ks
  have HP := hideR (fun w (hb : Below _ _ w) => (hP.below hb))
  have hL2 := hL.below hb0
  have HQ := hideR (fun w (hb : Below _ _ w) => (hQ.below hb))
  have HLi := hideR (fun w (hb : Below _ _ w) => (hL2.below hb))
  clear hL2
  clear hQ
  clear hP
  have hu22 := Try.underlying22
  have hi22 : (Try.prog.info? 22).map (·.size) = some el.length := by rw [hel]; kernel_rfl
  have hw : IntKind.i64.wrap seed = seed := IntWalk.i64_in _ (by omega)
  generalize hpl : playL tag len seed el ao n cap = pl at *
  go_enter Try.func4, Try.ntmps4
  go_wp2_with fail
  refine wp_load_mid _ _ rfl W.heap.size 0 rfl pl _ hr hu rfl hi ?_
  go_wp2_with fail
  refine (ks _).mono ?_
  rintro e w1 ⟨rfl, hb1⟩
  go_wp2_with fail
  have hP1 := HP.out _ hb1
  have hB1 := hb1
  have hz1 := hb1.size
  rw [hS2] at hz1
  have c0 := hP1.c0
  have c1 := hP1.c1
  have c2 := hP1.c2
  have c3 := hP1.range hel
  have hPl := hP1.lt
  have HN := hideR hN
  have HK := hideR hok
  clear hok hr ks hN hL
  go_region_held3 (fun w' => w'.cell? ⟨W.heap.size, 0, none⟩ = some (.string tag) ∧ w'.cell? ⟨W.heap.size, 1, none⟩ = some (.int .i64 len) ∧ w'.cell? ⟨W.heap.size, 2, none⟩ = some (.int .u8 seed) ∧ w'.rangeAt W.heap.size 3 el) (go_keep) ((first | (skip; go_at_call 10; refine (image_any len seed _ l0 l1 s0 s1).mono ?_; rintro e w2 ⟨r, xs, rfl, hxl, hown, hb2⟩; rw [← HN.out] at hxl; have hP2 := PlayAt.below (W := w1.drew) hP1 hb2; have d0 := hP2.c0; have d1 := hP2.c1; have d2 := hP2.c2; have d3 := hP2.range hel) | (go_at_call 11; refine (knew w2 _ _ xs hown (by have := HN.out; omega)).mono ?_; rintro e w3 hnew; obtain ⟨b, ib, icap, sb, rfl, hCS, hb3⟩ := hnew.1 (by rw [hxl]; exact HK.out); have hP3 := hP2.below hb3; have e0 := hP3.c0; have e1 := hP3.c1; have e2 := hP3.c2; have e3 := hP3.range hel)))
  have hF0 : Fine ⟨tag, xs, Img.firstK (Img.idx tag) xs.length, ex, false⟩ := fine_new tag xs ex (by rw [hxl]; exact HK.out) hex
  have hk0 : (⟨tag, xs, Img.firstK (Img.idx tag) xs.length, ex, false⟩ : Ct).k = Img.idx tag := rfl
  have ha0 : (⟨tag, xs, Img.firstK (Img.idx tag) xs.length, ex, false⟩ : Ct).armed = false := rfl
  have ht0 : (⟨tag, xs, Img.firstK (Img.idx tag) xs.length, ex, false⟩ : Ct).tag = tag := rfl
  have hB2 := (hB1.drew).trans (hb2.mono hB1.size)
  have hs2 := hB2.size
  have hB3 := hB2.trans (hb3.mono hs2)
  rw [hS2] at hs2
  clear hP2 hnew d0 d1 d2 d3 e0 e1 e2 e3 c0 c1 c2 c3 hP1 hb1 hB1 hB2 hb2 hP3
  generalize (⟨tag, xs, Img.firstK (Img.idx tag) xs.length, ex, false⟩ : Ct) = ct at *
  generalize (Img.firstK (Img.idx tag) xs.length).length = scap at *
  generalize hbase : w2.heap.size = base at *
  have hs3 := hb3.size
  rw [hbase] at hs3
  clear hown hb3 hPl hz1
  go_wp2_with fail
  go_loopw [7, 8] (fun lst i wq => ∃ k : Nat, k ≤ n ∧ i = .int .i64 k ∧ lst = .int .u16 (lastF (L.take k)) ∧ CartS wq base b ib icap sb scap (runF ct (L.take k)) ∧ Below base w3 wq)
    (fun _ i _ => n - (intOf i).toNat)
  case atStart => exact ⟨0, Nat.zero_le _, rfl, rfl, hCS, Below.refl _ _⟩
  case round =>
    obtain ⟨k, hk, rfl, rfl, hSk, hBk⟩ := hrel
    have hBq := hB3.trans (hBk.mono (by rw [hS2]; exact hs2))
    have hPq := HP.out _ hBq
    have p131 := hPq.c131 hel
    have hQq := HQ.out _ hBq
    by_cases hkl : k < n
    · obtain ⟨lb, loff, rfl⟩ := lies_some (HLi.out _ hBq) (by omega)
      have hlb : lb < base := (lies_acs (HLi.out _ (Below.refl _ _)) hLn k (by omega)).1 |> fun h => Nat.lt_of_lt_of_le (by rw [hS2] at h; exact h) hs2
      obtain ⟨hlt, l0', l1', l2'⟩ := lies_acs (HLi.out _ hBq) hLn k (by omega)
      have hak := hLo.at k (by omega)
      have hFk := run_fine ct hF0 _ (hLo.take k)
      have hrun := run_take ct L k (by omega)
      have hlast := last_take L k (by omega)
      generalize hA : L[k].1 = A at *
      generalize hX : L[k].2.1 = X at *
      generalize hWr : L[k].2.2 = Wr at *
      have i0 : (0 : Int) ≤ (k : Int) := by omega
      have i1 : (k : Int) < n := by omega
      clear hA hX hWr
      go_wp2_with fail
      go_region_held3 (fun w' => w'.cell? ⟨W.heap.size, 131, none⟩ = some (.slice (some ⟨lb, loff, none⟩) n cap) ∧ w'.cell? ⟨lb, loff + k * 3, none⟩ = some (.int .u16 A) ∧ w'.cell? ⟨lb, loff + k * 3 + 1, none⟩ = some (.int .u8 X) ∧ w'.cell? ⟨lb, loff + k * 3 + 2, none⟩ = some (.bool Wr)) (go_keep) ((go_at_call 14; refine (watch_any wr.drew base b ib icap sb scap _ hSk.drew hFk A X Wr hak.1.1 hak.1.2 hak.2.1 hak.2.2).mono ?_; rintro e wz ⟨rfl, hSz, hbz, hzz, hoz⟩; have hBz := hBk.drew.trans hbz; have p131z := (hbz.cell (p := ⟨W.heap.size, 131, none⟩) (Nat.lt_of_lt_of_le (Nat.lt_add_of_pos_right (by decide)) hs2)).trans p131; have m0 := (hbz.cell (p := ⟨lb, loff + k * 3, none⟩) hlb).trans l0'; have m1 := (hbz.cell (p := ⟨lb, loff + k * 3 + 1, none⟩) hlb).trans l1'; have m2 := (hbz.cell (p := ⟨lb, loff + k * 3 + 2, none⟩) hlb).trans l2'))
      clear p131 l0' l1' l2'
      go_wp2_with fail
      go_roundw
      case rel => exact ⟨k + 1, by omega, by go_num, by rw [hlast], by rw [hrun]; exact hSz, hBz⟩
      case measure => simp [intOf]; omega
    · obtain rfl : k = n := by omega
      rw [List.take_of_length_le (Nat.le_of_eq hLn)] at hSk ⊢
      have hFL := run_fine ct hF0 L hLo
      have hkc : (runF ct L).k = Img.idx tag := by unfold Ct.k; rw [(run_tag ct L).1, ht0]
      have harm : Img.idx tag = 10 → (runF ct L).armed = decide (lastF L % 8192 = 510) := fun h => armed_run ct (hk0.trans h) L ha0
      have hlin := last_in L hLo
      obtain ⟨p1, p2, _⟩ := fine_nums _ hFL
      have hlen : (runF ct L).sh.length ≤ 4 ∧ 0 < (runF ct L).sh.length := by rcases p1 with e | e | e <;> rw [e] at p2 <;> omega
      clear p1 p2 hPq hQq
      generalize runF ct L = cL at *
      have hwl := hBk.size
      go_wp2_with fail
      refine (show_any wr base b ib icap sb scap cL hSk hFL).mono ?_
      rintro e w5 ⟨r1, rfl, hown1, hb5⟩
      have hS5 := hSk.below hb5
      have hB5 := hBk.trans (hb5.mono (by omega))
      have hQ5 := HQ.out _ (hB3.trans (hB5.mono (by rw [hS2]; exact hs2)))
      have q0 := hQ5.c0
      have q1 := hQ5.c1
      have q2 := hQ5.c2
      obtain ⟨g1, cap1, rfl, hg1, hg1'⟩ := hown1.form hlen.2
      go_wp2_with fail
      refine (watch_any w5 base b ib icap sb scap cL hS5 hFL a x wf a0 a1 x0 x1).mono ?_
      rintro e w6 ⟨rfl, hS6, hb6, hz6, ho6⟩
      have hB6 := hB5.trans hb6
      have hown6 := ownsRow_moved hown1 (ho6.block g1 (by have := hSk.blt; omega) (by have := hSk.slt.2; omega))
      have hF6 := watch_fine cL hFL a x wf x0
      have hl6 : (watchF cL a x wf).sh.length = cL.sh.length := by
        show (shF cL a x wf).length = _
        unfold shF
        split
        · simp
        · rfl
      clear q0 q1 q2 hQ5
      go_wp2_with fail
      refine (show_any w6 base b ib icap sb scap _ hS6 hF6).mono ?_
      rintro e w7 ⟨r2, rfl, hown2, hb7⟩
      have hB7 := hB6.trans (hb7.mono (Nat.le_trans hs3 hB6.size))
      have hown7 := ownsRow_moved hown6 (hb7.block g1 (by rw [hz6]; exact hg1'))
      have hBW := hb0.trans ((hB3.trans (hB7.mono (by rw [hS2]; exact hs2))).mono hsz)
      have hQ7 := HQ.out _ (hB3.trans (hB7.mono (by rw [hS2]; exact hs2)))
      have hP7 := HP.out _ (hB3.trans (hB7.mono (by rw [hS2]; exact hs2)))
      have ksame := same_any _ r2 cL.sh (watchF cL a x wf).sh w7 (row_of_owns hown7 rfl (by omega)) (row_of_owns hown2 rfl (by omega))
      have hsh : (watchF cL a x wf).sh = shF cL a x wf := rfl
      rw [hsh] at ksame
      clear hown1 hown6 hown7 hown2 hS6 hF6 hl6 hsh hS5 hSk
      by_cases hsame : cL.sh = shF cL a x wf
      · rw [decide_eq_true hsame] at ksame
        clear hsame
        go_wp2_with fail
        refine ksame.mono ?_
        rintro e w8 ⟨rfl, m, rfl⟩
        have hBW8 := below_drewN hBW m
        go_wp2_with fail
        refine (awake_any _).mono ?_
        rintro e w9 ⟨rfl, hb9⟩
        go_wp2_with fail
        go_ret
        exact ⟨rfl, hBW8.trans (hb9.mono hBW8.size)⟩
      · rw [decide_eq_false hsame] at ksame
        have hne : turnF cL a x wf ≠ none := fun h => hsame (by unfold shF; rw [h])
        clear hsame
        have n1 := and8191 a a0 a1
        have hidx := Img.idx_in tag
        have q0 := hQ7.c0
        have q2 := hQ7.c2
        have p0 := hP7.c0
        by_cases hk4 : Img.idx tag = 4
        · have ht : tag.toList = [70, 52] := Img.toList_of tag 4 (by omega) hk4
          have hm : 8180 ≤ a % 8192 ∧ a % 8192 ≤ 8187 := by
            have hq : 8180 ≤ a % 8192 ∧ a % 8192 ≤ 8187 := Classical.byContradiction fun h => hne (by unfold turnF; simp [hkc, hk4]; omega)
            omega
          obtain ⟨hm1, hm2⟩ := hm
          clear hne hk4 hidx harm hkc hk0 HK
          go_wp2_with fail
          refine ksame.mono ?_
          rintro e w8 ⟨rfl, m, rfl⟩
          have hBW8 := below_drewN hBW m
          have q0' : (w7.drewN m).cell? ⟨W.heap.size + 1, 0, none⟩ = some (.int .u16 a) := q0
          have q2' : (w7.drewN m).cell? ⟨W.heap.size + 1, 2, none⟩ = some (.bool wf) := q2
          have p0' : (w7.drewN m).cell? ⟨W.heap.size, 0, none⟩ = some (.string tag) := p0
          go_wp2_with fail
          refine (awake_any _).mono ?_
          rintro e w9 ⟨rfl, hb9⟩
          go_wp2_with fail
          go_ret
          exact ⟨rfl, hBW8.trans (hb9.mono hBW8.size)⟩
        by_cases hk5 : Img.idx tag = 5
        · have ht : tag.toList = [70, 52, 83, 67] := Img.toList_of tag 5 (by omega) hk5
          have hm : 8180 ≤ a % 8192 ∧ a % 8192 ≤ 8187 := by
            have hq : 8180 ≤ a % 8192 ∧ a % 8192 ≤ 8187 := Classical.byContradiction fun h => hne (by unfold turnF; simp [hkc, hk5]; omega)
            omega
          obtain ⟨hm1, hm2⟩ := hm
          clear hne hk5 hidx harm hkc hk0 HK
          go_wp2_with fail
          refine ksame.mono ?_
          rintro e w8 ⟨rfl, m, rfl⟩
          have hBW8 := below_drewN hBW m
          have q0' : (w7.drewN m).cell? ⟨W.heap.size + 1, 0, none⟩ = some (.int .u16 a) := q0
          have q2' : (w7.drewN m).cell? ⟨W.heap.size + 1, 2, none⟩ = some (.bool wf) := q2
          have p0' : (w7.drewN m).cell? ⟨W.heap.size, 0, none⟩ = some (.string tag) := p0
          go_wp2_with fail
          refine (awake_any _).mono ?_
          rintro e w9 ⟨rfl, hb9⟩
          go_wp2_with fail
          go_ret
          exact ⟨rfl, hBW8.trans (hb9.mono hBW8.size)⟩
        by_cases hk6 : Img.idx tag = 6
        · have ht : tag.toList = [70, 54] := Img.toList_of tag 6 (by omega) hk6
          have hm : 8180 ≤ a % 8192 ∧ a % 8192 ≤ 8187 := by
            have hq : 8182 ≤ a % 8192 ∧ a % 8192 ≤ 8185 := Classical.byContradiction fun h => hne (by unfold turnF; simp [hkc, hk6]; omega)
            omega
          obtain ⟨hm1, hm2⟩ := hm
          clear hne hk6 hidx harm hkc hk0 HK
          go_wp2_with fail
          refine ksame.mono ?_
          rintro e w8 ⟨rfl, m, rfl⟩
          have hBW8 := below_drewN hBW m
          have q0' : (w7.drewN m).cell? ⟨W.heap.size + 1, 0, none⟩ = some (.int .u16 a) := q0
          have q2' : (w7.drewN m).cell? ⟨W.heap.size + 1, 2, none⟩ = some (.bool wf) := q2
          have p0' : (w7.drewN m).cell? ⟨W.heap.size, 0, none⟩ = some (.string tag) := p0
          go_wp2_with fail
          refine (awake_any _).mono ?_
          rintro e w9 ⟨rfl, hb9⟩
          go_wp2_with fail
          go_ret
          exact ⟨rfl, hBW8.trans (hb9.mono hBW8.size)⟩
        by_cases hk7 : Img.idx tag = 7
        · have ht : tag.toList = [70, 54, 83, 67] := Img.toList_of tag 7 (by omega) hk7
          have hm : 8180 ≤ a % 8192 ∧ a % 8192 ≤ 8187 := by
            have hq : 8182 ≤ a % 8192 ∧ a % 8192 ≤ 8185 := Classical.byContradiction fun h => hne (by unfold turnF; simp [hkc, hk7]; omega)
            omega
          obtain ⟨hm1, hm2⟩ := hm
          clear hne hk7 hidx harm hkc hk0 HK
          go_wp2_with fail
          refine ksame.mono ?_
          rintro e w8 ⟨rfl, m, rfl⟩
          have hBW8 := below_drewN hBW m
          have q0' : (w7.drewN m).cell? ⟨W.heap.size + 1, 0, none⟩ = some (.int .u16 a) := q0
          have q2' : (w7.drewN m).cell? ⟨W.heap.size + 1, 2, none⟩ = some (.bool wf) := q2
          have p0' : (w7.drewN m).cell? ⟨W.heap.size, 0, none⟩ = some (.string tag) := p0
          go_wp2_with fail
          refine (awake_any _).mono ?_
          rintro e w9 ⟨rfl, hb9⟩
          go_wp2_with fail
          go_ret
          exact ⟨rfl, hBW8.trans (hb9.mono hBW8.size)⟩
        by_cases hk8 : Img.idx tag = 8
        · have ht : tag.toList = [70, 56] := Img.toList_of tag 8 (by omega) hk8
          have hm : 8180 ≤ a % 8192 ∧ a % 8192 ≤ 8187 := by
            have hq : 8184 ≤ a % 8192 ∧ a % 8192 ≤ 8185 := Classical.byContradiction fun h => hne (by unfold turnF; simp [hkc, hk8]; omega)
            omega
          obtain ⟨hm1, hm2⟩ := hm
          clear hne hk8 hidx harm hkc hk0 HK
          go_wp2_with fail
          refine ksame.mono ?_
          rintro e w8 ⟨rfl, m, rfl⟩
          have hBW8 := below_drewN hBW m
          have q0' : (w7.drewN m).cell? ⟨W.heap.size + 1, 0, none⟩ = some (.int .u16 a) := q0
          have q2' : (w7.drewN m).cell? ⟨W.heap.size + 1, 2, none⟩ = some (.bool wf) := q2
          have p0' : (w7.drewN m).cell? ⟨W.heap.size, 0, none⟩ = some (.string tag) := p0
          go_wp2_with fail
          refine (awake_any _).mono ?_
          rintro e w9 ⟨rfl, hb9⟩
          go_wp2_with fail
          go_ret
          exact ⟨rfl, hBW8.trans (hb9.mono hBW8.size)⟩
        by_cases hk9 : Img.idx tag = 9
        · have ht : tag.toList = [70, 56, 83, 67] := Img.toList_of tag 9 (by omega) hk9
          have hm : 8180 ≤ a % 8192 ∧ a % 8192 ≤ 8187 := by
            have hq : 8184 ≤ a % 8192 ∧ a % 8192 ≤ 8185 := Classical.byContradiction fun h => hne (by unfold turnF; simp [hkc, hk9]; omega)
            omega
          obtain ⟨hm1, hm2⟩ := hm
          clear hne hk9 hidx harm hkc hk0 HK
          go_wp2_with fail
          refine ksame.mono ?_
          rintro e w8 ⟨rfl, m, rfl⟩
          have hBW8 := below_drewN hBW m
          have q0' : (w7.drewN m).cell? ⟨W.heap.size + 1, 0, none⟩ = some (.int .u16 a) := q0
          have q2' : (w7.drewN m).cell? ⟨W.heap.size + 1, 2, none⟩ = some (.bool wf) := q2
          have p0' : (w7.drewN m).cell? ⟨W.heap.size, 0, none⟩ = some (.string tag) := p0
          go_wp2_with fail
          refine (awake_any _).mono ?_
          rintro e w9 ⟨rfl, hb9⟩
          go_wp2_with fail
          go_ret
          exact ⟨rfl, hBW8.trans (hb9.mono hBW8.size)⟩
        by_cases hk3 : Img.idx tag = 3
        · have ht : tag.toList = [69, 48] := Img.toList_of tag 3 (by omega) hk3
          have hm : 8160 ≤ a % 8192 ∧ a % 8192 ≤ 8183 := Classical.byContradiction fun h => hne (by unfold turnF; simp [hkc, hk3]; omega)
          obtain ⟨hm1, hm2⟩ := hm
          clear hne hk3 hidx harm hkc hk0 HK
          go_wp2_with fail
          refine ksame.mono ?_
          rintro e w8 ⟨rfl, m, rfl⟩
          have hBW8 := below_drewN hBW m
          have q0' : (w7.drewN m).cell? ⟨W.heap.size + 1, 0, none⟩ = some (.int .u16 a) := q0
          have q2' : (w7.drewN m).cell? ⟨W.heap.size + 1, 2, none⟩ = some (.bool wf) := q2
          have p0' : (w7.drewN m).cell? ⟨W.heap.size, 0, none⟩ = some (.string tag) := p0
          go_wp2_with fail
          refine (awake_any _).mono ?_
          rintro e w9 ⟨rfl, hb9⟩
          go_wp2_with fail
          go_ret
          exact ⟨rfl, hBW8.trans (hb9.mono hBW8.size)⟩
        by_cases hk1 : Img.idx tag = 1
        · have ht : tag.toList = [51, 70] := Img.toList_of tag 1 (by omega) hk1
          have hm : wf = true ∧ a % 8192 ≤ 63 := Classical.byContradiction fun h => hne (by unfold turnF; simp only [hkc, hk1]; rw [if_neg (by decide), if_neg (by decide), if_neg (by decide), if_neg (by decide), if_pos trivial, if_neg h])
          obtain ⟨hm1, hm2⟩ := hm
          clear hne hk1 hidx harm hkc hk0 HK
          go_wp2_with fail
          refine ksame.mono ?_
          rintro e w8 ⟨rfl, m, rfl⟩
          have hBW8 := below_drewN hBW m
          have q0' : (w7.drewN m).cell? ⟨W.heap.size + 1, 0, none⟩ = some (.int .u16 a) := q0
          have q2' : (w7.drewN m).cell? ⟨W.heap.size + 1, 2, none⟩ = some (.bool wf) := q2
          have p0' : (w7.drewN m).cell? ⟨W.heap.size, 0, none⟩ = some (.string tag) := p0
          go_wp2_with fail
          refine (awake_any _).mono ?_
          rintro e w9 ⟨rfl, hb9⟩
          go_wp2_with fail
          go_ret
          exact ⟨rfl, hBW8.trans (hb9.mono hBW8.size)⟩
        by_cases hk10 : Img.idx tag = 10
        · have ht : tag.toList = [70, 69] := Img.toList_of tag 10 (by omega) hk10
          have hm : lastF L % 8192 = 510 := by
            have har := harm hk10
            have : cL.armed = true := Classical.byContradiction fun h => hne (by unfold turnF; simp only [hkc, hk10]; rw [if_neg (by decide), if_neg (by decide), if_neg (by decide), if_neg (by decide), if_neg (by decide), if_pos trivial, if_neg h])
            rw [har] at this; simpa using this
          have n2 := and8191 (lastF L) hlin.1 hlin.2
          rw [hm] at n2
          clear hm
          clear hne hk10 hidx harm hkc hk0 HK
          go_wp2_with fail
          refine ksame.mono ?_
          rintro e w8 ⟨rfl, m, rfl⟩
          have hBW8 := below_drewN hBW m
          have q0' : (w7.drewN m).cell? ⟨W.heap.size + 1, 0, none⟩ = some (.int .u16 a) := q0
          have q2' : (w7.drewN m).cell? ⟨W.heap.size + 1, 2, none⟩ = some (.bool wf) := q2
          have p0' : (w7.drewN m).cell? ⟨W.heap.size, 0, none⟩ = some (.string tag) := p0
          go_wp2_with fail
          refine (awake_any _).mono ?_
          rintro e w9 ⟨rfl, hb9⟩
          go_wp2_with fail
          go_ret
          exact ⟨rfl, hBW8.trans (hb9.mono hBW8.size)⟩
        exact absurd (show turnF cL a x wf = none by
          have : Img.idx tag = -1 ∨ Img.idx tag = 0 ∨ Img.idx tag = 2 := by omega
          unfold turnF; rw [hkc]
          rcases this with e | e | e <;> rw [e] <;> rfl) hne
end Go.Proofs.Ytfdmbgmhgbhggaa.cartHolds
