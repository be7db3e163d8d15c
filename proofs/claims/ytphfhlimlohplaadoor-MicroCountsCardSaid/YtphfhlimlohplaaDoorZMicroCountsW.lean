/- Package micro: MicroCounts, walked. -/
import Derived.Test.YtphfhlimlohplaaDoorZMicroBeg
import Derived.Test.YtphfhlimlohplaaDoorZMicroCycW
import Derived.Test.YtphfhlimlohplaaDoorZMicroTook
import Derived.Test.YtphfhlimlohplaaDoorZMicroAwake
namespace Go.Proofs.YtphfhlimlohplaaDoor.Mi
open Go Go.RowKit Go.Deep Go.Proofs.YtphfhlimlohplaaDoor Go.Proofs.YtphfhlimlohplaaDoor.Ex Go.Proofs.YtphfhlimlohplaaDoor.Cl
set_option linter.unusedVariables false
set_option linter.unusedSimpArgs false
set_option maxRecDepth 100000 in
set_option maxHeartbeats 8000000 in
theorem counts_yes {a x y s p pc sd at' cy : Int} {ao : Option Addr} {n cap : Nat} {bg : Bool} (ok : Rg.ok ⟨a, x, y, s, p, pc⟩) (s0 : 0 ≤ sd) (s1 : sd ≤ 65535) (t0 : 0 ≤ at') (t1 : at' ≤ 65535) (c0 : 0 ≤ cy) (c1 : cy ≤ 65535) (cs : List Int) (hl : cs.length = n) (hn : n ≤ 400) (hB : Bytes cs) (V : World) (hG : Co.Gl V)
    (hL : Lies V 1 (.slice ao n cap) n (cs.map (Value.int .u8))) : Calls Tryd.prog 7 #[.agg #[.int .u8 a, .int .u8 x, .int .u8 y, .int .u8 s, .int .u8 p, .int .u16 pc, .int .u16 sd, .int .u16 at', .slice ao n cap, .int .u16 cy, .bool bg]] V fun e W' => e = .returned (.bool true) ∧ Below V.heap.size V W' := by
  have kb := fun w' h => begin_any (sd := sd) (at' := at') (cy := cy) (bg := bg) (ao := ao) (cap := cap) ok s0 s1 t0 t1 cs hl hn hB w' h
  have km := fun w' => many_any (a := a) (x := x) (y := y) (s := s) (p := p) (pc := pc) (sd := sd) (at' := at') (ao := ao) (n := n) (cap := cap) (bg := bg) c0 c1 w'
  have hq0 : Both (newC ⟨a, x, y, s, p, pc⟩ (if bg then 0 else 2), memF sd at' cs) := ⟨newC_ok _ ok _ (by split <;> decide) (by split <;> decide), (memF_ok sd at' cs s0 s1 hB).1, (memF_ok sd at' cs s0 s1 hB).2⟩
  have hi0 := inv_start ⟨a, x, y, s, p, pc⟩ bg
  generalize newC ⟨a, x, y, s, p, pc⟩ (if bg then 0 else 2) = C0 at *
  generalize memF sd at' cs = L0 at *
  have hm0 : 0 ≤ cy % 600 ∧ cy % 600 < 600 := by omega
  obtain ⟨m, hm⟩ : ∃ m : Nat, cy % 600 = (m : Int) := ⟨(cy % 600).toNat, by omega⟩
  have hmB : m < 600 := by omega
  rw [hm] at km
  clear hm hm0
  have hn4 : ¬ (400 : Int) < (n : Int) := by omega
  have hb0 := (Below.refl V.heap.size V).alloc (Nat.le_refl _) (.cells #[.int .u8 a, .int .u8 x, .int .u8 y, .int .u8 s, .int .u8 p, .int .u16 pc, .int .u16 sd, .int .u16 at', .slice ao n cap, .int .u16 cy, .bool bg] 27)
  have g0 := RowT.new V #[.int .u8 a, .int .u8 x, .int .u8 y, .int .u8 s, .int .u8 p, .int .u16 pc, .int .u16 sd, .int .u16 at', .slice ao n cap, .int .u16 cy, .bool bg] 27
  clear ok hl hn hB s0 s1 t0 t1 c0 c1
  go_enter Tryd.func7, Tryd.ntmps7
  repeat (first | (with_reducible refine wp_keep (fun U => U = V.alloc (.cells #[.int .u8 a, .int .u8 x, .int .u8 y, .int .u8 s, .int .u8 p, .int .u16 pc, .int .u16 sd, .int .u16 at', .slice ao n cap, .int .u16 cy, .bool bg] 27)) rfl ?_) | go_step)
  rintro W0 rfl
  generalize V.alloc (.cells #[.int .u8 a, .int .u8 x, .int .u8 y, .int .u8 s, .int .u8 p, .int .u16 pc, .int .u16 sd, .int .u16 at', .slice ao n cap, .int .u16 cy, .bool bg] 27) = W0 at *
  have hG0 := hG.below hb0
  have hL0 := hL.below hb0
  have hb0D := hb0.size
  generalize hVD : V.heap.size = D at *
  have HVD := Lib.hid hVD
  clear hVD
  obtain ⟨r0, r1, r2, r3, r4, r5, r6, r7, r8, r9, r10, rf⟩ := row11 g0
  go_wp2_with fail
  refine (kb _ hL0).mono ?_
  rintro e W1 ⟨B, M, rfl, hB1, hM1, hBM, hS, hM, hw⟩
  have hW0 : D < W0.heap.size := g0.lt
  have hDB : ¬ D = B := by omega
  have hDM : ¬ D = M := by omega
  clear r0 r1 r2 r3 r4 r5 r6 r7 r8 r9 r10 rf kb hL hL0 hG
  go_wp2_with fail
  go_loopw [5, 6] (fun la i wr => ∃ (k : Nat) (last : Int), k ≤ m ∧ la = .int .i64 last ∧ i = .int .i64 k ∧ Inv (runF (C0, L0) k).1 k last ∧ CpuS wr B (runF (C0, L0) k).1 ∧ MemS wr M (runF (C0, L0) k).2 ∧ Below W0.heap.size W0 wr)
    (fun _ i _ => m - (intOf i).toNat)
  case atStart => exact ⟨0, -1, Nat.zero_le _, rfl, rfl, hi0, hS, hM, hw⟩
  case round =>
    obtain ⟨k, la, hk, rfl, rfl, hik, hSk, hMk, hbk⟩ := hrel
    have hqk := runF_ok hq0 k
    have hsucc : runF (C0, L0) (k + 1) = cycF (runF (C0, L0) k) := rfl
    generalize hqq : runF (C0, L0) k = q at *
    have gk := RowT.below g0 hbk
    obtain ⟨r0, r1, r2, r3, r4, r5, r6, r7, r8, r9, r10, rf⟩ := row11 gk
    by_cases hkm : k < m
    · have kc := fun w' h1 h2 h3 => cycle_any q hqk W0 w' B M h1 h2 hBM hG0 h3 hB1 hM1
      have i1 : (k : Int) < m := by omega
      have HS := Lib.hid hsucc
      have hin := inv_last hik
      have hcyc := inv_cyc hqk hik
      have htk := fun h1 h2 => inv_took hik h1 h2
      have kf := fun w' h => fresh_any q.1 w' B h
      have ko := fun w' h => code_any q.1 w' B h
      clear hsucc hqk hqq hik
      go_wp2_with fail
      refine (km _).mono ?_
      rintro e w1 ⟨rfl, hw1⟩
      have hS2 := CpuR.below hSk hw1
      have hM2 : MemS w1 M q.2 := RowT.below hMk hw1
      have hb2 := hbk.trans (hw1.mono hbk.size)
      clear r0 r1 r2 r3 r4 r5 r6 r7 r8 r9 r10 rf gk hSk hMk hbk hw1
      by_cases ht : q.1.t = 0
      · have hi9 := Lib.hid (hcyc.1 ht)
        rw [show (q.1.t == 0) = true from by simp [ht]] at kf
        by_cases h0 : 0 ≤ la
        · obtain ⟨o, ho, hop, htook⟩ := htk h0 ht
          rw [hop] at ko
          have kt := fun w' h => took_yes o ho _ htook w' h
          have wl : IntKind.i64.wrap ((k : Int) - la) = (k : Int) - la := IntWalk.i64_in _ (by omega)
          clear htk hcyc ht htook
          go_wp2_with fail
          refine (kf _ hS2).mono ?_
          rintro e w3 ⟨rfl, rfl⟩
          go_wp2_with fail
          refine (ko _ hS2).mono ?_
          rintro e w3 ⟨rfl, rfl⟩
          go_wp2_with fail
          refine (kt _ (hG0.below hb2)).mono ?_
          rintro e w3 ⟨rfl, hw3⟩
          have hS2 := CpuR.below hS2 hw3
          have hM2 : MemS w3 M q.2 := RowT.below hM2 hw3
          have hb2 := hb2.trans (hw3.mono hb2.size)
          go_wp2_with fail
          refine (kc _ hS2 hM2 hb2).mono ?_
          rintro e w9 ⟨rfl, hS9, hM9, hb9⟩
          go_wp2_with fail
          go_roundw
          case rel => exact ⟨k + 1, (k : Int), by omega, rfl, by go_num, (by rw [HS.out]; exact hi9.out), by rw [HS.out]; exact hS9, by rw [HS.out]; exact hM9, hb9⟩
          case measure => simp [intOf]; omega
        · clear htk hcyc ht
          go_wp2_with fail
          refine (kf _ hS2).mono ?_
          rintro e w3 ⟨rfl, rfl⟩
          go_wp2_with fail
          refine (kc _ hS2 hM2 hb2).mono ?_
          rintro e w9 ⟨rfl, hS9, hM9, hb9⟩
          go_wp2_with fail
          go_roundw
          case rel => exact ⟨k + 1, (k : Int), by omega, rfl, by go_num, (by rw [HS.out]; exact hi9.out), by rw [HS.out]; exact hS9, by rw [HS.out]; exact hM9, hb9⟩
          case measure => simp [intOf]; omega
      · have hi9 := Lib.hid (hcyc.2 ht)
        rw [show (q.1.t == 0) = false from beq_false_of_ne ht] at kf
        clear htk hcyc ht
        go_wp2_with fail
        refine (kf _ hS2).mono ?_
        rintro e w3 ⟨rfl, rfl⟩
        go_wp2_with fail
        refine (kc _ hS2 hM2 hb2).mono ?_
        rintro e w9 ⟨rfl, hS9, hM9, hb9⟩
        go_wp2_with fail
        go_roundw
        case rel => exact ⟨k + 1, la, by omega, rfl, by go_num, (by rw [HS.out]; exact hi9.out), by rw [HS.out]; exact hS9, by rw [HS.out]; exact hM9, hb9⟩
        case measure => simp [intOf]; omega
    · obtain rfl : k = m := by omega
      have i1 : ¬ (k : Int) < k := by omega
      have ka := fun w' h => awake_any w' h
      clear hsucc hqq hik
      go_wp2_with fail
      refine (km _).mono ?_
      rintro e w1 ⟨rfl, hw1⟩
      have hb1 := hbk.trans (hw1.mono hbk.size)
      go_wp2_with fail
      refine (ka _ (hG0.below hb1)).mono ?_
      rintro e w7 ⟨rfl, hw7⟩
      go_wp2_with fail
      go_ret
      exact ⟨rfl, by rw [HVD.out]; exact hb0.trans ((hb1.trans (hw7.mono hb1.size)).mono hb0D)⟩
set_option maxRecDepth 100000 in
theorem counts_big {a x y s p pc sd at' cy : Int} {ao : Option Addr} {n cap : Nat} {bg : Bool} (hn : ¬ n ≤ 400)  (V : World) : Calls Tryd.prog 7 #[.agg #[.int .u8 a, .int .u8 x, .int .u8 y, .int .u8 s, .int .u8 p, .int .u16 pc, .int .u16 sd, .int .u16 at', .slice ao n cap, .int .u16 cy, .bool bg]] V fun e W' => e = .returned (.bool true) ∧ Below V.heap.size V W' := by
  have hn4 : (400 : Int) < (n : Int) := by omega
  have hb0 := (Below.refl V.heap.size V).alloc (Nat.le_refl _) (.cells #[.int .u8 a, .int .u8 x, .int .u8 y, .int .u8 s, .int .u8 p, .int .u16 pc, .int .u16 sd, .int .u16 at', .slice ao n cap, .int .u16 cy, .bool bg] 27)
  obtain ⟨r0, r1, r2, r3, r4, r5, r6, r7, r8, r9, r10, rf⟩ := row11 (RowT.new V #[.int .u8 a, .int .u8 x, .int .u8 y, .int .u8 s, .int .u8 p, .int .u16 pc, .int .u16 sd, .int .u16 at', .slice ao n cap, .int .u16 cy, .bool bg] 27)
  go_enter Tryd.func7, Tryd.ntmps7
  go_wp2_with fail
  go_ret
  exact ⟨rfl, hb0⟩
theorem microCounts_walk {a x y s p pc sd at' cy : Int} {ao : Option Addr} {n cap : Nat} {bg : Bool} {cs : List Int} (V : World) (hG : Co.Gl V) (ok : Rg.ok ⟨a, x, y, s, p, pc⟩) (bs : 0 ≤ sd ∧ sd ≤ 65535) (bt : 0 ≤ at' ∧ at' ≤ 65535) (bc : 0 ≤ cy ∧ cy ≤ 65535) (hl : cs.length = n)
    (hx : Lies V 1 (.slice ao n cap) n (cs.map (Value.int .u8))) (hB : Bytes cs) : Calls Tryd.prog 7 #[.agg #[.int .u8 a, .int .u8 x, .int .u8 y, .int .u8 s, .int .u8 p, .int .u16 pc, .int .u16 sd, .int .u16 at', .slice ao n cap, .int .u16 cy, .bool bg]] V fun e W' => e = .returned (.bool true) ∧ Below V.heap.size V W' := by
  by_cases hn : n ≤ 400
  · exact counts_yes ok bs.1 bs.2 bt.1 bt.2 bc.1 bc.2 cs hl hn hB V hG hx
  · exact counts_big hn V
end Go.Proofs.YtphfhlimlohplaaDoor.Mi
