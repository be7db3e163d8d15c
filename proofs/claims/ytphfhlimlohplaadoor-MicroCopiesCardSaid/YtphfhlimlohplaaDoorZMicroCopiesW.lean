/- Package micro: MicroCopies, walked. -/
import Derived.Test.YtphfhlimlohplaaDoorZMicroBeg
import Derived.Test.YtphfhlimlohplaaDoorZMicroCycW
import Derived.Test.YtphfhlimlohplaaDoorZMicroAwake
namespace Go.Proofs.YtphfhlimlohplaaDoor.Mi
open Go Go.RowKit Go.Deep Go.Proofs.YtphfhlimlohplaaDoor Go.Proofs.YtphfhlimlohplaaDoor.Ex Go.Proofs.YtphfhlimlohplaaDoor.Cl
set_option linter.unusedVariables false
set_option linter.unusedSimpArgs false
/-- A processor behind some of the bytes that it is clocked with. -/
def clkL (c : Cp) (xs : List Int) : Nat → Cp
  | 0 => c
  | k + 1 => clockF (clkL c xs k) (xs.getD k 0)
theorem clkL_ok {c : Cp} (ok : c.ok) {xs : List Int} (h : Bytes xs) (k : Nat) : (clkL c xs k).ok := by
  induction k with
  | zero => exact ok
  | succ k ih => exact clockF_ok ih (h.get k).1 (h.get k).2
set_option maxRecDepth 100000 in
set_option maxHeartbeats 8000000 in
theorem copies_yes {a x y s p pc sd at' cy : Int} {ao : Option Addr} {n cap : Nat} {bg : Bool} (ok : Rg.ok ⟨a, x, y, s, p, pc⟩) (s0 : 0 ≤ sd) (s1 : sd ≤ 65535) (t0 : 0 ≤ at') (t1 : at' ≤ 65535) (c0 : 0 ≤ cy) (c1 : cy ≤ 65535) (cs : List Int) (hl : cs.length = n) (hn : n ≤ 400) (hB : Bytes cs) (lo : Option Addr) (ln lc : Nat) (xs : List Int) (hxl : xs.length = ln) (hxn : ln ≤ 100) (hxB : Bytes xs) (V : World) (hX : Lies V 1 (.slice lo ln lc) ln (xs.map (Value.int .u8))) (hG : Co.Gl V)
    (hL : Lies V 1 (.slice ao n cap) n (cs.map (Value.int .u8))) : Calls Tryd.prog 5 #[.agg #[.int .u8 a, .int .u8 x, .int .u8 y, .int .u8 s, .int .u8 p, .int .u16 pc, .int .u16 sd, .int .u16 at', .slice ao n cap, .int .u16 cy, .bool bg], .slice lo ln lc] V fun e W' => e = .returned (.bool true) ∧ Below V.heap.size V W' := by
  have kb := fun w' h => begin_any (sd := sd) (at' := at') (cy := cy) (bg := bg) (ao := ao) (cap := cap) ok s0 s1 t0 t1 cs hl hn hB w' h
  have km := fun w' => many_any (a := a) (x := x) (y := y) (s := s) (p := p) (pc := pc) (sd := sd) (at' := at') (ao := ao) (n := n) (cap := cap) (bg := bg) c0 c1 w'
  have hq0 : Both (newC ⟨a, x, y, s, p, pc⟩ (if bg then 0 else 2), memF sd at' cs) := ⟨newC_ok _ ok _ (by split <;> decide) (by split <;> decide), (memF_ok sd at' cs s0 s1 hB).1, (memF_ok sd at' cs s0 s1 hB).2⟩
  generalize newC ⟨a, x, y, s, p, pc⟩ (if bg then 0 else 2) = C0 at *
  generalize memF sd at' cs = L0 at *
  have hm0 : 0 ≤ cy % 600 ∧ cy % 600 < 600 := by omega
  obtain ⟨m, hm⟩ : ∃ m : Nat, cy % 600 = (m : Int) := ⟨(cy % 600).toNat, by omega⟩
  have hmB : m < 600 := by omega
  rw [hm] at km
  clear hm hm0
  have hn4 : ¬ (400 : Int) < (n : Int) := by omega
  have hx4 : ¬ (100 : Int) < (ln : Int) := by omega
  have hb0 := (Below.refl V.heap.size V).alloc (Nat.le_refl _) (.cells #[.int .u8 a, .int .u8 x, .int .u8 y, .int .u8 s, .int .u8 p, .int .u16 pc, .int .u16 sd, .int .u16 at', .slice ao n cap, .int .u16 cy, .bool bg] 27)
  have g0 := RowT.new V #[.int .u8 a, .int .u8 x, .int .u8 y, .int .u8 s, .int .u8 p, .int .u16 pc, .int .u16 sd, .int .u16 at', .slice ao n cap, .int .u16 cy, .bool bg] 27
  clear ok hl hn hB s0 s1 t0 t1 c0 c1
  go_enter Tryd.func5, Tryd.ntmps5
  repeat (first | (with_reducible refine wp_keep (fun U => U = V.alloc (.cells #[.int .u8 a, .int .u8 x, .int .u8 y, .int .u8 s, .int .u8 p, .int .u16 pc, .int .u16 sd, .int .u16 at', .slice ao n cap, .int .u16 cy, .bool bg] 27)) rfl ?_) | go_step)
  rintro W0 rfl
  generalize V.alloc (.cells #[.int .u8 a, .int .u8 x, .int .u8 y, .int .u8 s, .int .u8 p, .int .u16 pc, .int .u16 sd, .int .u16 at', .slice ao n cap, .int .u16 cy, .bool bg] 27) = W0 at *
  have hG0 := hG.below hb0
  have hL0 := hL.below hb0
  have hb0D := hb0.size
  generalize hVD : V.heap.size = D at *
  have HVD := Lib.hid hVD
  clear hVD
  obtain ⟨r0, r1, r2, r3, r4, r5, r6, r7, r8, r9, r10, rf⟩ := row11 g0
  go_wp2_with fail
  refine (kb _ hL0).mono ?_
  rintro e W1 ⟨B, M, rfl, hB1, hM1, hBM, hS, hM, hw⟩
  have hW0 : D < W0.heap.size := g0.lt
  have hDB : ¬ D = B := by omega
  have hDM : ¬ D = M := by omega
  clear r0 r1 r2 r3 r4 r5 r6 r7 r8 r9 r10 rf kb hL hL0 hG
  go_wp2_with fail
  go_loopw [7] (fun i wr => ∃ k : Nat, k ≤ m ∧ i = .int .i64 k ∧ CpuS wr B (runF (C0, L0) k).1 ∧ MemS wr M (runF (C0, L0) k).2 ∧ Below W0.heap.size W0 wr)
    (fun i _ => m - (intOf i).toNat)
  case atStart => exact ⟨0, Nat.zero_le _, rfl, hS, hM, hw⟩
  case round =>
    obtain ⟨k, hk, rfl, hSk, hMk, hbk⟩ := hrel
    have hqk := runF_ok hq0 k
    have hsucc : runF (C0, L0) (k + 1) = cycF (runF (C0, L0) k) := rfl
    generalize hqq : runF (C0, L0) k = q at *
    have gk := RowT.below g0 hbk
    obtain ⟨r0, r1, r2, r3, r4, r5, r6, r7, r8, r9, r10, rf⟩ := row11 gk
    by_cases hkm : k < m
    · have kc := fun w' h1 h2 h3 => cycle_any q hqk W0 w' B M h1 h2 hBM hG0 h3 hB1 hM1
      have i1 : (k : Int) < m := by omega
      have HS := Lib.hid hsucc
      clear hsucc hqk hqq
      go_wp2_with fail
      refine (km _).mono ?_
      rintro e w1 ⟨rfl, hw1⟩
      have hS1 := CpuR.below hSk hw1
      have hM1' : MemS w1 M q.2 := RowT.below hMk hw1
      have hb1 := hbk.trans (hw1.mono hbk.size)
      clear r0 r1 r2 r3 r4 r5 r6 r7 r8 r9 r10 rf gk hSk hMk hbk
      go_wp2_with fail
      refine (kc _ hS1 hM1' hb1).mono ?_
      rintro e w2 ⟨rfl, hS2, hM2, hb2⟩
      go_wp2_with fail
      go_roundw
      case rel => exact ⟨k + 1, by omega, by go_num, by rw [HS.out]; exact hS2, by rw [HS.out]; exact hM2, hb2⟩
      case measure => simp [intOf]; omega
    · obtain rfl : k = m := by omega
      clear hsucc hqq
      obtain ⟨okq, -, -⟩ := hqk
      have hqM := hMk
      generalize q.1 = c at *
      have i1 : ¬ (k : Int) < k := by omega
      go_wp2_with fail
      refine (km _).mono ?_
      rintro e w1 ⟨rfl, hw1⟩
      have hS1 := CpuR.below hSk hw1
      have hb1 := hbk.trans (hw1.mono hbk.size)
      clear r0 r1 r2 r3 r4 r5 r6 r7 r8 r9 r10 rf gk hMk hbk hSk hw1 hqM hM hS hw
      have kp := fun w' h => pins_any c okq w' B h
      have ky := fun w' h => copy_any c w' B h
      have hpo := pinsF_ok okq
      generalize pinsF c = P at *
      obtain ⟨pa, pw, pd⟩ := P
      simp only [pinV] at kp
      have ka := fun w' h => awake_any w' h
      have hV1 : Below V.heap.size V w1 := by rw [HVD.out]; exact hb0.trans (hb1.mono hb0D)
      go_wp2_with fail
      refine (ky _ hS1).mono ?_
      rintro e w2 ⟨B1, rfl, hB1w, hd2, hw2⟩
      have hS2 := CpuR.below hS1 hw2
      go_wp2_with fail
      refine (ky _ hS2).mono ?_
      rintro e w3 ⟨B2, rfl, hB2w, he3, hw3⟩
      have hd3 := CpuR.below hd2 hw3
      have hS3 := CpuR.below hS2 hw3
      have hl1 := CpuR.lt hd2
      have n12 : ¬ B2 = B1 := by omega
      have hz3 : Below w1.heap.size w1 w3 := hw2.trans (hw3.mono hw2.size)
      have hwB2 : w1.heap.size ≤ B2 := by have := hw2.size; omega
      clear hd2 hS2 hw2 hw3
      go_wp2_with fail
      refine (kp _ hS3).mono ?_
      rintro e w4 ⟨rfl, hw4⟩
      have hS4 := CpuR.below hS3 hw4
      have hd4 := CpuR.below hd3 hw4
      have he4 := CpuR.below he3 hw4
      have hz4 := hz3.trans (hw4.mono hz3.size)
      clear hS3 hd3 he3 hz3 hw4
      dsimp only
      repeat (first | (with_reducible refine wp_keep (fun U => U = w4.alloc (.cells #[.int .u16 pa, .bool pw, .int .u8 pd] 33)) rfl ?_) | go_step)
      rintro w5 rfl
      have f5 := RowT.new w4 #[.int .u16 pa, .bool pw, .int .u8 pd] 33
      have hS5 := CpuR.alloc hS4 (.cells #[.int .u16 pa, .bool pw, .int .u8 pd] 33)
      have hd5 := CpuR.alloc hd4 (.cells #[.int .u16 pa, .bool pw, .int .u8 pd] 33)
      have he5 := CpuR.alloc he4 (.cells #[.int .u16 pa, .bool pw, .int .u8 pd] 33)
      have hz5 := hz4.alloc hz4.size (.cells #[.int .u16 pa, .bool pw, .int .u8 pd] 33)
      have hl4 := CpuR.lt hd4
      have hl5 := CpuR.lt he4
      generalize w4.alloc (.cells #[.int .u16 pa, .bool pw, .int .u8 pd] 33) = w5 at *
      generalize w4.heap.size = E at *
      have nE1 : ¬ E = B1 := by omega
      have nE2 : ¬ E = B2 := by omega
      clear hS4 hd4 he4 hz4
      go_wp2_with fail
      go_loopw [11] (fun i wv => ∃ u : Nat, u ≤ ln ∧ i = .int .i64 u ∧ CpuS wv B1 (clkL c xs u) ∧ CpuS wv B2 (clkL c xs u) ∧ RowT 33 wv E #[.int .u16 pa, .bool pw, .int .u8 pd] ∧ Below w1.heap.size w1 wv)
        (fun i _ => ln - (intOf i).toNat)
      case atStart => exact ⟨0, Nat.zero_le _, rfl, hd5, he5, f5, hz5⟩
      case round =>
        obtain ⟨u, hu, rfl, hdu, heu, fu, hzu⟩ := hrel
        have hok := clkL_ok okq hxB u
        have hsucc : clkL c xs (u + 1) = clockF (clkL c xs u) (xs.getD u 0) := rfl
        have hVu := hV1.trans (hzu.mono hV1.size)
        by_cases hut : u < ln
        · have i2 : (u : Int) < ln := by omega
          have i3 : (0 : Int) ≤ (u : Int) := by omega
          obtain ⟨_, ao', cap', heq, _, hcs⟩ := hX
          obtain ⟨rfl, rfl⟩ : lo = ao' ∧ lc = cap' := by simpa using heq
          rcases hcs with h0 | ⟨lb, lf, rfl, hlt, hcell⟩
          · omega
          have hv := hcell u (.int .u8 (xs.getD u 0)) (by simp [List.getD, hxl, hut])
          have hvB := hxB.get u
          generalize clkL c xs u = q at *
          generalize xs.getD u 0 = z at *
          have kq1 := fun w' h => pins_any q hok w' B1 h
          have kq2 := fun w' h => pins_any q hok w' B2 h
          have kc1 := fun w' h g => clock_any q hok w' B1 h g z hvB.1 hvB.2
          have kc2 := fun w' h g => clock_any q hok w' B2 h g z hvB.1 hvB.2
          have hpq := pinsF_ok hok
          generalize pinsF q = Q at *
          obtain ⟨ga, gw, gd⟩ := Q
          simp only [pinV] at kq1 kq2
          have HS := Lib.hid hsucc
          clear hsucc heq hcell
          go_wp2_with fail
          refine (kq1 _ hdu).mono ?_
          rintro e w6 ⟨rfl, hw6⟩
          have hd6 := CpuR.below hdu hw6
          have he6 := CpuR.below heu hw6
          have f6 := RowT.below fu hw6
          have hz6 := hzu.trans (hw6.mono hzu.size)
          clear hw6 hdu heu fu hzu
          go_wp2_with fail
          refine (kq2 _ he6).mono ?_
          rintro e w7 ⟨rfl, hw7⟩
          have hd7 := CpuR.below hd6 hw7
          have he7 := CpuR.below he6 hw7
          have f7 := RowT.below f6 hw7
          have hz7 := hz6.trans (hw7.mono hz6.size)
          have hV7 := hV1.trans (hz7.mono hV1.size)
          have lk := (hV7.cell (p := ⟨lb, lf + u, none⟩) hlt).trans hv
          clear hw7 hd6 he6 f6 hz6
          go_wp2_with fail
          refine (kc1 _ hd7 (hG0.below (hb1.trans (hz7.mono hb1.size)))).mono ?_
          rintro e w8 ⟨rfl, hd8, hB8⟩
          have he8 := CpuR.moved he7 (hB8.block _ (CpuR.lt he7) n12)
          have f8 := RowT.moved f7 (hB8.block _ (RowT.lt f7) nE1)
          have hz8 := hz7.trans (hB8.to hB1w hz7.size)
          have hV8 := hV1.trans (hz8.mono hV1.size)
          have lk8 := (hV8.cell (p := ⟨lb, lf + u, none⟩) hlt).trans hv
          clear hd7 he7 f7 hz7 hB8 lk hV7
          go_wp2_with fail
          refine (kc2 _ he8 (hG0.below (hb1.trans (hz8.mono hb1.size)))).mono ?_
          rintro e w9 ⟨rfl, he9, hB9⟩
          have hd9 := CpuR.moved hd8 (hB9.block _ (CpuR.lt hd8) (fun h => n12 h.symm))
          have f9 := RowT.moved f8 (hB9.block _ (RowT.lt f8) nE2)
          have hz9 := hz8.trans (hB9.to hwB2 hz8.size)
          go_wp2_with fail
          go_roundw
          case rel => exact ⟨u + 1, by omega, by go_num, by rw [HS.out]; exact hd9, by rw [HS.out]; exact he9, f9, hz9⟩
          case measure => simp [intOf]; omega
        · obtain rfl : u = ln := by omega
          have i2 : ¬ (u : Int) < u := by omega
          clear hsucc
          have kr1 := fun w' h => regs_any (clkL c xs u) w' B1 h
          have kr2 := fun w' h => regs_any (clkL c xs u) w' B2 h
          generalize clkL c xs u = q at *
          have hSu := CpuR.below hS1 hzu
          generalize q.r = R at *
          obtain ⟨qa, qx, qy, qs, qp, qpc⟩ := R
          simp only [rgU] at kr1 kr2
          have hGu := fun w' (h : Below wr.heap.size wr w') => hG0.below (hb1.trans ((hzu.trans (h.mono hzu.size)).mono hb1.size))
          have hz := (Below.refl wr.heap.size wr).drew
          obtain ⟨d0, d1, d2, df⟩ := box3 fu
          clear hS1 hS5 hd5 he5 f5 hz5
          go_wp2_with fail
          go_region_with ((first | (go_at_call 11; refine (kp _ (CpuR.below hSu hz)).mono ?_; rintro e w6 ⟨rfl, hw⟩; have hz := hz.trans (hw.mono hz.size); clear d0 d1 d2 df hw; obtain ⟨d0, d1, d2, df⟩ := box3 (RowT.below fu hz)) | (go_at_call_of 12 (Value.pointer (some ⟨B1, 0, none⟩)); refine (kr1 _ (CpuR.below hdu hz)).mono ?_; rintro e w7 ⟨rfl, hw⟩; have hz := hz.trans (hw.mono hz.size); clear d0 d1 d2 df hw; obtain ⟨d0, d1, d2, df⟩ := box3 (RowT.below fu hz)) | (go_at_call_of 12 (Value.pointer (some ⟨B2, 0, none⟩)); refine (kr2 _ (CpuR.below heu hz)).mono ?_; rintro e w7 ⟨rfl, hw⟩; have hz := hz.trans (hw.mono hz.size); clear d0 d1 d2 df hw; obtain ⟨d0, d1, d2, df⟩ := box3 (RowT.below fu hz)) | (go_at_call 13; refine (ka _ (hGu _ hz)).mono ?_; rintro e w8 ⟨rfl, hw⟩; have hz := hz.trans (hw.mono hz.size); clear d0 d1 d2 df hw; obtain ⟨d0, d1, d2, df⟩ := box3 (RowT.below fu hz)) | fail))
          all_goals go_wp2_with fail
          all_goals go_ret
          all_goals exact ⟨rfl, by rw [HVD.out]; exact (hb0.mono (Nat.le_refl _)).trans ((hb1.trans ((hzu.trans (hz.mono hzu.size)).mono hb1.size)).mono hb0D)⟩
set_option maxRecDepth 100000 in
theorem copies_big {a x y s p pc sd at' cy : Int} {ao : Option Addr} {n cap : Nat} {bg : Bool} (lo : Option Addr) (ln lc : Nat) (hn : ¬ (n ≤ 400 ∧ ln ≤ 100)) (V : World) : Calls Tryd.prog 5 #[.agg #[.int .u8 a, .int .u8 x, .int .u8 y, .int .u8 s, .int .u8 p, .int .u16 pc, .int .u16 sd, .int .u16 at', .slice ao n cap, .int .u16 cy, .bool bg], .slice lo ln lc] V fun e W' => e = .returned (.bool true) ∧ Below V.heap.size V W' := by
  have hb0 := (Below.refl V.heap.size V).alloc (Nat.le_refl _) (.cells #[.int .u8 a, .int .u8 x, .int .u8 y, .int .u8 s, .int .u8 p, .int .u16 pc, .int .u16 sd, .int .u16 at', .slice ao n cap, .int .u16 cy, .bool bg] 27)
  obtain ⟨r0, r1, r2, r3, r4, r5, r6, r7, r8, r9, r10, rf⟩ := row11 (RowT.new V #[.int .u8 a, .int .u8 x, .int .u8 y, .int .u8 s, .int .u8 p, .int .u16 pc, .int .u16 sd, .int .u16 at', .slice ao n cap, .int .u16 cy, .bool bg] 27)
  by_cases h : n ≤ 400
  · have hn4 : ¬ (400 : Int) < (n : Int) := by omega
    have hx4 : (100 : Int) < (ln : Int) := by omega
    go_enter Tryd.func5, Tryd.ntmps5
    go_wp2_with fail
    go_ret
    exact ⟨rfl, hb0⟩
  · have hn4 : (400 : Int) < (n : Int) := by omega
    go_enter Tryd.func5, Tryd.ntmps5
    go_wp2_with fail
    go_ret
    exact ⟨rfl, hb0⟩
theorem microCopies_walk {a x y s p pc sd at' cy : Int} {ao : Option Addr} {n cap : Nat} {bg : Bool} {cs : List Int} (V : World) (hG : Co.Gl V) (ok : Rg.ok ⟨a, x, y, s, p, pc⟩) (bs : 0 ≤ sd ∧ sd ≤ 65535) (bt : 0 ≤ at' ∧ at' ≤ 65535) (bc : 0 ≤ cy ∧ cy ≤ 65535) (hl : cs.length = n)
    (hx : Lies V 1 (.slice ao n cap) n (cs.map (Value.int .u8))) (hB : Bytes cs) (lo : Option Addr) (lc : Nat) (xs : List Int) (hX : Lies V 1 (.slice lo xs.length lc) xs.length (xs.map (Value.int .u8))) (hxB : Bytes xs) :
    Calls Tryd.prog 5 #[.agg #[.int .u8 a, .int .u8 x, .int .u8 y, .int .u8 s, .int .u8 p, .int .u16 pc, .int .u16 sd, .int .u16 at', .slice ao n cap, .int .u16 cy, .bool bg], .slice lo xs.length lc] V fun e W' => e = .returned (.bool true) ∧ Below V.heap.size V W' := by
  by_cases hn : n ≤ 400 ∧ xs.length ≤ 100
  · exact copies_yes ok bs.1 bs.2 bt.1 bt.2 bc.1 bc.2 cs hl hn.1 hB lo xs.length lc xs rfl hn.2 hxB V hX hG hx
  · exact copies_big lo xs.length lc hn V
end Go.Proofs.YtphfhlimlohplaaDoor.Mi
