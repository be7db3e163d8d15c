/- Package micro: MicroHalts, walked. -/
import Derived.Test.YtphfhlimlohplaaDoorZMicroBeg
import Derived.Test.YtphfhlimlohplaaDoorZMicroCycW
import Derived.Test.YtphfhlimlohplaaDoorZMicroAwake
namespace Go.Proofs.YtphfhlimlohplaaDoor.Mi
open Go Go.RowKit Go.Deep Go.Proofs.YtphfhlimlohplaaDoor Go.Proofs.YtphfhlimlohplaaDoor.Ex Go.Proofs.YtphfhlimlohplaaDoor.Cl
set_option linter.unusedVariables false
set_option linter.unusedSimpArgs false
set_option maxRecDepth 100000 in
set_option maxHeartbeats 8000000 in
theorem halts_yes {a x y s p pc sd at' cy : Int} {ao : Option Addr} {n cap : Nat} {bg : Bool} (ok : Rg.ok ⟨a, x, y, s, p, pc⟩) (s0 : 0 ≤ sd) (s1 : sd ≤ 65535) (t0 : 0 ≤ at') (t1 : at' ≤ 65535) (c0 : 0 ≤ cy) (c1 : cy ≤ 65535) (cs : List Int) (hl : cs.length = n) (hn : n ≤ 400) (hB : Bytes cs) (tm : Nat) (ht : tm < 256) (V : World) (hG : Co.Gl V)
    (hL : Lies V 1 (.slice ao n cap) n (cs.map (Value.int .u8))) : Calls Tryd.prog 3 #[.agg #[.int .u8 a, .int .u8 x, .int .u8 y, .int .u8 s, .int .u8 p, .int .u16 pc, .int .u16 sd, .int .u16 at', .slice ao n cap, .int .u16 cy, .bool bg], .int .u8 (tm : Int)] V fun e W' => e = .returned (.bool true) ∧ Below V.heap.size V W' := by
  have kb := fun w' h => begin_any (sd := sd) (at' := at') (cy := cy) (bg := bg) (ao := ao) (cap := cap) ok s0 s1 t0 t1 cs hl hn hB w' h
  have km := fun w' => many_any (a := a) (x := x) (y := y) (s := s) (p := p) (pc := pc) (sd := sd) (at' := at') (ao := ao) (n := n) (cap := cap) (bg := bg) c0 c1 w'
  have hq0 : Both (newC ⟨a, x, y, s, p, pc⟩ (if bg then 0 else 2), memF sd at' cs) := ⟨newC_ok _ ok _ (by split <;> decide) (by split <;> decide), (memF_ok sd at' cs s0 s1 hB).1, (memF_ok sd at' cs s0 s1 hB).2⟩
  generalize newC ⟨a, x, y, s, p, pc⟩ (if bg then 0 else 2) = C0 at *
  generalize memF sd at' cs = L0 at *
  have hm0 : 0 ≤ cy % 600 ∧ cy % 600 < 600 := by omega
  obtain ⟨m, hm⟩ : ∃ m : Nat, cy % 600 = (m : Int) := ⟨(cy % 600).toNat, by omega⟩
  have hmB : m < 600 := by omega
  rw [hm] at km
  clear hm hm0
  have hn4 : ¬ (400 : Int) < (n : Int) := by omega
  have hb0 := (Below.refl V.heap.size V).alloc (Nat.le_refl _) (.cells #[.int .u8 a, .int .u8 x, .int .u8 y, .int .u8 s, .int .u8 p, .int .u16 pc, .int .u16 sd, .int .u16 at', .slice ao n cap, .int .u16 cy, .bool bg] 27)
  have g0 := RowT.new V #[.int .u8 a, .int .u8 x, .int .u8 y, .int .u8 s, .int .u8 p, .int .u16 pc, .int .u16 sd, .int .u16 at', .slice ao n cap, .int .u16 cy, .bool bg] 27
  clear ok hl hn hB s0 s1 t0 t1 c0 c1
  go_enter Tryd.func3, Tryd.ntmps3
  repeat (first | (with_reducible refine wp_keep (fun U => U = V.alloc (.cells #[.int .u8 a, .int .u8 x, .int .u8 y, .int .u8 s, .int .u8 p, .int .u16 pc, .int .u16 sd, .int .u16 at', .slice ao n cap, .int .u16 cy, .bool bg] 27)) rfl ?_) | go_step)
  rintro W0 rfl
  generalize V.alloc (.cells #[.int .u8 a, .int .u8 x, .int .u8 y, .int .u8 s, .int .u8 p, .int .u16 pc, .int .u16 sd, .int .u16 at', .slice ao n cap, .int .u16 cy, .bool bg] 27) = W0 at *
  have hG0 := hG.below hb0
  have hL0 := hL.below hb0
  have hb0D := hb0.size
  generalize hVD : V.heap.size = D at *
  have HVD := Lib.hid hVD
  clear hVD
  obtain ⟨r0, r1, r2, r3, r4, r5, r6, r7, r8, r9, r10, rf⟩ := row11 g0
  go_wp2_with fail
  refine (kb _ hL0).mono ?_
  rintro e W1 ⟨B, M, rfl, hB1, hM1, hBM, hS, hM, hw⟩
  have hW0 : D < W0.heap.size := g0.lt
  have hDB : ¬ D = B := by omega
  have hDM : ¬ D = M := by omega
  clear r0 r1 r2 r3 r4 r5 r6 r7 r8 r9 r10 rf kb hL hL0 hG
  go_wp2_with fail
  go_loopw [7] (fun i wr => ∃ k : Nat, k ≤ m ∧ i = .int .i64 k ∧ CpuS wr B (runF (C0, L0) k).1 ∧ MemS wr M (runF (C0, L0) k).2 ∧ Below W0.heap.size W0 wr)
    (fun i _ => m - (intOf i).toNat)
  case atStart => exact ⟨0, Nat.zero_le _, rfl, hS, hM, hw⟩
  case round =>
    obtain ⟨k, hk, rfl, hSk, hMk, hbk⟩ := hrel
    have hqk := runF_ok hq0 k
    have hsucc : runF (C0, L0) (k + 1) = cycF (runF (C0, L0) k) := rfl
    generalize hqq : runF (C0, L0) k = q at *
    have gk := RowT.below g0 hbk
    obtain ⟨r0, r1, r2, r3, r4, r5, r6, r7, r8, r9, r10, rf⟩ := row11 gk
    by_cases hkm : k < m
    · have kc := fun w' h1 h2 h3 => cycle_any q hqk W0 w' B M h1 h2 hBM hG0 h3 hB1 hM1
      have i1 : (k : Int) < m := by omega
      have HS := Lib.hid hsucc
      clear hsucc hqk hqq
      go_wp2_with fail
      refine (km _).mono ?_
      rintro e w1 ⟨rfl, hw1⟩
      have hS1 := CpuR.below hSk hw1
      have hM1' : MemS w1 M q.2 := RowT.below hMk hw1
      have hb1 := hbk.trans (hw1.mono hbk.size)
      clear r0 r1 r2 r3 r4 r5 r6 r7 r8 r9 r10 rf gk hSk hMk hbk
      go_wp2_with fail
      refine (kc _ hS1 hM1' hb1).mono ?_
      rintro e w2 ⟨rfl, hS2, hM2, hb2⟩
      go_wp2_with fail
      go_roundw
      case rel => exact ⟨k + 1, by omega, by go_num, by rw [HS.out]; exact hS2, by rw [HS.out]; exact hM2, hb2⟩
      case measure => simp [intOf]; omega
    · obtain rfl : k = m := by omega
      clear hsucc hqq
      obtain ⟨okq, -, -⟩ := hqk
      have hqM := hMk
      generalize q.1 = c at *
      have i1 : ¬ (k : Int) < k := by omega
      go_wp2_with fail
      refine (km _).mono ?_
      rintro e w1 ⟨rfl, hw1⟩
      have hS1 := CpuR.below hSk hw1
      have hb1 := hbk.trans (hw1.mono hbk.size)
      clear r0 r1 r2 r3 r4 r5 r6 r7 r8 r9 r10 rf gk hMk hbk hSk hw1 hqM hM hS hw
      have kp := fun w' h => pins_any c okq w' B h
      have kr := fun w' h => regs_any c w' B h
      have hpo := pinsF_ok okq
      generalize pinsF c = P at *
      obtain ⟨pa, pw, pd⟩ := P
      obtain ⟨a0, a1, -, -⟩ := hpo
      simp only [pinV] at a0 a1 kp
      generalize c.r = R at *
      obtain ⟨qa, qx, qy, qs, qp, qpc⟩ := R
      simp only [rgU] at kr
      have p1 : pa < 8192 := by omega
      go_wp2_with fail
      refine (kp _ hS1).mono ?_
      rintro e w2 ⟨rfl, hw2⟩
      have hS2 := CpuR.below hS1 hw2
      have hb2 := hb1.trans (hw2.mono hb1.size)
      clear hS1 hb1 hw2
      go_wp2_with fail
      refine (kr _ hS2).mono ?_
      rintro e w3 ⟨rfl, hw3⟩
      have hS3 := CpuR.below hS2 hw3
      have hb3 := hb2.trans (hw3.mono hb2.size)
      clear hS2 hb2 hw3
      dsimp only
      repeat (first | (with_reducible refine wp_keep (fun U => U = (w3.alloc (.cells #[.int .u16 pa, .bool pw, .int .u8 pd] 33)).alloc (.cells #[.int .u8 qa, .int .u8 qx, .int .u8 qy, .int .u8 qs, .int .u8 qp, .int .u16 qpc] 24)) rfl ?_) | go_step)
      rintro w4 rfl
      have f1 := RowT.alloc (RowT.new w3 #[.int .u16 pa, .bool pw, .int .u8 pd] 33) (.cells #[.int .u8 qa, .int .u8 qx, .int .u8 qy, .int .u8 qs, .int .u8 qp, .int .u16 qpc] 24)
      have f2 := RowT.new1 w3 (.cells #[.int .u16 pa, .bool pw, .int .u8 pd] 33) #[.int .u8 qa, .int .u8 qx, .int .u8 qy, .int .u8 qs, .int .u8 qp, .int .u16 qpc] 24
      have hS4 := CpuR.alloc (CpuR.alloc hS3 (.cells #[.int .u16 pa, .bool pw, .int .u8 pd] 33)) (.cells #[.int .u8 qa, .int .u8 qx, .int .u8 qy, .int .u8 qs, .int .u8 qp, .int .u16 qpc] 24)
      have hb4 := (hb3.alloc hb3.size (.cells #[.int .u16 pa, .bool pw, .int .u8 pd] 33)).alloc (by simp only [World.size_alloc]; exact Nat.le_succ_of_le hb3.size) (.cells #[.int .u8 qa, .int .u8 qx, .int .u8 qy, .int .u8 qs, .int .u8 qp, .int .u16 qpc] 24)
      generalize (w3.alloc (.cells #[.int .u16 pa, .bool pw, .int .u8 pd] 33)).alloc (.cells #[.int .u8 qa, .int .u8 qx, .int .u8 qy, .int .u8 qs, .int .u8 qp, .int .u16 qpc] 24) = w4 at *
      generalize w3.heap.size + 1 = E2 at *
      generalize w3.heap.size = E1 at *
      clear hS3 hb3
      have ka := fun w' h => awake_any w' h
      go_wp2_with fail
      go_loopw [10] (fun i wv => ∃ u : Nat, u ≤ tm ∧ i = .int .i64 u ∧ CpuS wv B c ∧ Below w4.heap.size w4 wv)
        (fun i _ => tm - (intOf i).toNat)
      case atStart => exact ⟨0, Nat.zero_le _, rfl, hS4, Below.refl _ _⟩
      case round =>
        obtain ⟨u, hu, rfl, hSu, hbu⟩ := hrel
        obtain ⟨d0, d1, d2, df⟩ := box3 (RowT.below f1 hbu)
        obtain ⟨e0, e1, e2, e3, e4, e5, ef⟩ := box6 (RowT.below f2 hbu)
        by_cases hut : u < tm
        · have i2 : (u : Int) < tm := by omega
          clear hS4
          go_wp2_with fail
          go_region_with ((first | (go_at_call 11; refine (kp _ (CpuR.drew hSu)).mono ?_; rintro e w5 ⟨rfl, hw5⟩; have hS5 := CpuR.below (CpuR.drew hSu) hw5; have hb5 := (hbu.drew).trans (hw5.mono hbu.size); clear d0 d1 d2 df e0 e1 e2 e3 e4 e5 ef; obtain ⟨d0, d1, d2, df⟩ := box3 (RowT.below f1 hb5); obtain ⟨e0, e1, e2, e3, e4, e5, ef⟩ := box6 (RowT.below f2 hb5)) | (go_at_call 12; refine (kr _ hS5).mono ?_; rintro e w6 ⟨rfl, hw6⟩; have hS6 := CpuR.below hS5 hw6; have hb6 := hb5.trans (hw6.mono hb5.size); clear d0 d1 d2 df e0 e1 e2 e3 e4 e5 ef; obtain ⟨d0, d1, d2, df⟩ := box3 (RowT.below f1 hb6); obtain ⟨e0, e1, e2, e3, e4, e5, ef⟩ := box6 (RowT.below f2 hb6)) | fail))
          all_goals go_wp2_with fail
          all_goals go_roundw
          all_goals first
            | exact ⟨u + 1, by omega, by go_num, hS6, hb6⟩
            | (simp [intOf]; omega)
        · obtain rfl : u = tm := by omega
          have i2 : ¬ (u : Int) < u := by omega
          have hbt := hb4.trans (hbu.mono hb4.size)
          go_wp2_with fail
          refine (ka _ (hG0.below hbt)).mono ?_
          rintro e w7 ⟨rfl, hw7⟩
          go_wp2_with fail
          go_ret
          exact ⟨rfl, by rw [HVD.out]; exact hb0.trans ((hbt.trans (hw7.mono hbt.size)).mono hb0D)⟩
set_option maxRecDepth 100000 in
theorem halts_big {a x y s p pc sd at' cy : Int} {ao : Option Addr} {n cap : Nat} {bg : Bool} (hn : ¬ n ≤ 400) (tm : Int) (V : World) : Calls Tryd.prog 3 #[.agg #[.int .u8 a, .int .u8 x, .int .u8 y, .int .u8 s, .int .u8 p, .int .u16 pc, .int .u16 sd, .int .u16 at', .slice ao n cap, .int .u16 cy, .bool bg], .int .u8 tm] V fun e W' => e = .returned (.bool true) ∧ Below V.heap.size V W' := by
  have hn4 : (400 : Int) < (n : Int) := by omega
  have hb0 := (Below.refl V.heap.size V).alloc (Nat.le_refl _) (.cells #[.int .u8 a, .int .u8 x, .int .u8 y, .int .u8 s, .int .u8 p, .int .u16 pc, .int .u16 sd, .int .u16 at', .slice ao n cap, .int .u16 cy, .bool bg] 27)
  obtain ⟨r0, r1, r2, r3, r4, r5, r6, r7, r8, r9, r10, rf⟩ := row11 (RowT.new V #[.int .u8 a, .int .u8 x, .int .u8 y, .int .u8 s, .int .u8 p, .int .u16 pc, .int .u16 sd, .int .u16 at', .slice ao n cap, .int .u16 cy, .bool bg] 27)
  go_enter Tryd.func3, Tryd.ntmps3
  go_wp2_with fail
  go_ret
  exact ⟨rfl, hb0⟩
theorem microHalts_walk {a x y s p pc sd at' cy : Int} {ao : Option Addr} {n cap : Nat} {bg : Bool} {cs : List Int} (V : World) (hG : Co.Gl V) (ok : Rg.ok ⟨a, x, y, s, p, pc⟩) (bs : 0 ≤ sd ∧ sd ≤ 65535) (bt : 0 ≤ at' ∧ at' ≤ 65535) (bc : 0 ≤ cy ∧ cy ≤ 65535) (hl : cs.length = n)
    (hx : Lies V 1 (.slice ao n cap) n (cs.map (Value.int .u8))) (hB : Bytes cs) (tm : Nat) (ht : tm < 256) : Calls Tryd.prog 3 #[.agg #[.int .u8 a, .int .u8 x, .int .u8 y, .int .u8 s, .int .u8 p, .int .u16 pc, .int .u16 sd, .int .u16 at', .slice ao n cap, .int .u16 cy, .bool bg], .int .u8 (tm : Int)] V fun e W' => e = .returned (.bool true) ∧ Below V.heap.size V W' := by
  by_cases hn : n ≤ 400
  · exact halts_yes ok bs.1 bs.2 bt.1 bt.2 bc.1 bc.2 cs hl hn hB tm ht V hG hx
  · exact halts_big hn tm V
end Go.Proofs.YtphfhlimlohplaaDoor.Mi
