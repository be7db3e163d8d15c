/- Package micro: what a cycle leaves at each step. -/
import Derived.Test.YthepcjecmlkaiaaDoorZMicroQ
import Derived.Test.YthepcjecmlkaiaaDoorZAluWalks
import Derived.Test.YthepcjecmlkaiaaDoorZKeep
import Derived.Deep.RegionHeld3
import Derived.RegionTactic
import Derived.Deep.RegionWith
import Derived.BigQuiet
import Derived.IntWalk
namespace Go.Proofs.YthepcjecmlkaiaaDoor.Mi
open Go Go.RowKit Go.Deep Go.Proofs.YthepcjecmlkaiaaDoor Go.Proofs.YthepcjecmlkaiaaDoor.Ex
set_option linter.unusedVariables false
set_option linter.unusedSimpArgs false
set_option maxRecDepth 100000 in
set_option maxHeartbeats 8000000 in
theorem clock_0 (c : Cp) (ok : c.ok) (w : World) (B : Nat) (hS : CpuS w B c) (hG : Co.Gl w) (ht : c.t = 0) (v : Int) (v0 : 0 ≤ v) (v1 : v ≤ 255) : Calls Tryd.prog 10 #[.pointer (some ⟨B, 0, none⟩), .int .u8 v] w (MPost w B (clockN 0 c v)) := by
  obtain ⟨⟨a, x, y, s, p, pc⟩, t, op, nm, md, kd, kn, pl, wr, b⟩ := c
  simp only [] at ht
  subst ht
  obtain ⟨c0, c1, c2, c3, c4, c5, c6, c7, c8, c9, c10, c11, c12, c13, c14⟩ := hS.all
  obtain ⟨⟨a0, a1, x0, x1, y0, y1, s0, s1, p0, p1, pc0, pc1⟩, t0, t1, op0, op1, md0, md1, kd0, kd1, pl0, pl1, wr0, wr1, b0, b1⟩ := ok
  simp only [] at a0 a1 x0 x1 y0 y1 s0 s1 p0 p1 pc0 pc1 t0 t1 op0 op1 md0 md1 kd0 kd1 pl0 pl1 wr0 wr1 b0 b1
  have ff := hS.thaw
  have hlt := hS.lt
  have hR : CpuR w B _ := hS
  have hne : ¬ w.heap.size = B := by omega
  have hne' : ¬ B = w.heap.size := by omega
  have hpc0 : 0 ≤ (pc + 1) % 65536 := by omega
  have hpc1 : (pc + 1) % 65536 ≤ 65535 := by omega
  have hv2 : v ≤ 65535 := by omega
  obtain ⟨o, rfl⟩ : ∃ o : Nat, v = (o : Int) := ⟨v.toNat, by omega⟩
  have ho : o < 256 := by omega
  have ko := fun w' (h : Co.Gl w') => Co.of_any o ho w' h
  have hk := kind_in o ho
  have hm := mode_in o ho
  show Calls _ _ _ _ (MPost w B (nextF ⟨⟨a, x, y, s, p, pc⟩, 0, (o : Int), Co.nameO o, Co.modeO o, Co.kindC o, Co.knownC o, pl, wr, b⟩ (decF (Co.kindC o) (Co.modeO o))))
  unfold Co.codeV at ko
  generalize Co.nameO o = n1 at *
  generalize Co.modeO o = m1 at *
  generalize Co.kindC o = k1 at *
  generalize Co.knownC o = q1 at *
  have hd := decF_in k1 m1
  obtain ⟨D, hD⟩ : ∃ D, D = decF k1 m1 := ⟨_, rfl⟩
  have hDd := hD
  rw [← hD] at hd ⊢
  go_enter Tryd.func10, Tryd.ntmps10
  (repeat (first | (with_reducible refine inBlock_far (by decide) ?_) | (with_reducible refine then_exit ?_) | (with_reducible refine inBlock_here ?_) | ((fail_if_success (with_reducible refine calls_id ?_)); go_step)))
  refine (ko _ hG).mono ?_
  rintro e u1 ⟨rfl, hw⟩
  have hB1 : Besd B w.heap.size w u1 := Besd.below (by repeat (first | with_reducible exact Besd.refl _ _ _ | refine Besd.own ?_ _ _)) hw (Nat.le_refl _)
  have hR1 : CpuR u1 B (Cp.row ⟨⟨a, x, y, s, p, pc⟩, 0, op, nm, md, kd, kn, pl, wr, b⟩) := CpuR.below (CpuS.mk2 (c := ⟨⟨a, x, y, s, p, pc⟩, 0, op, nm, md, kd, kn, pl, wr, b⟩) (by repeat (first | with_reducible exact hR | apply CpuR.set)) rfl) hw
  clear c0 c1 c2 c3 c4 c5 c6 c7 c8 c9 c10 c11 c12 c13 c14 ff
  obtain ⟨c0, c1, c2, c3, c4, c5, c6, c7, c8, c9, c10, c11, c12, c13, c14⟩ := CpuS.all (show CpuS u1 B ⟨⟨a, x, y, s, p, pc⟩, 0, op, nm, md, kd, kn, pl, wr, b⟩ from hR1)
  have ff := CpuR.thaw hR1
  clear hw
  (try dsimp only)
  (repeat (first | (with_reducible refine inBlock_far (by decide) ?_) | (with_reducible refine then_exit ?_) | (with_reducible refine inBlock_here ?_) | ((fail_if_success (with_reducible refine calls_id ?_)); go_step)))
  refine (decode_any ⟨⟨a, x, y, s, p, pc⟩, 0, (o : Int), n1, m1, k1, q1, pl, wr, b⟩ (by exact ⟨⟨a0, a1, x0, x1, y0, y1, s0, s1, p0, p1, pc0, pc1⟩, t0, t1, v0, v1, hm.1, hm.2, hk.1, hk.2, pl0, pl1, wr0, wr1, b0, b1⟩) _ B (by apply CpuS.mk2; (repeat (first | with_reducible exact hR1 | apply CpuR.set)); rfl)).mono ?_
  rintro e w_ ⟨rfl, rfl⟩
  dsimp only
  (repeat (first | (with_reducible refine inBlock_far (by decide) ?_) | (with_reducible refine then_exit ?_) | (with_reducible refine inBlock_here ?_) | ((fail_if_success (with_reducible refine calls_id ?_)); go_step)))
  rw [← hDd]
  refine (next_any ⟨⟨a, x, y, s, p, pc⟩, 0, (o : Int), n1, m1, k1, q1, pl, wr, b⟩ (by exact ⟨⟨a0, a1, x0, x1, y0, y1, s0, s1, p0, p1, pc0, pc1⟩, t0, t1, v0, v1, hm.1, hm.2, hk.1, hk.2, pl0, pl1, wr0, wr1, b0, b1⟩) _ B (by apply CpuS.mk2; (repeat (first | with_reducible exact hR1 | apply CpuR.set)); rfl) D).mono ?_
  rintro e u2 ⟨rfl, hS2, hB2p⟩
  have hB2 : Besd B w.heap.size w u2 := Besd.trans (by repeat (first | with_reducible exact hB1 | refine Besd.own ?_ _ _)) hB2p (by first | (simp only [World.size_setCell]; exact Besd.size hB1) | exact Besd.size hB1)
  have hR2 : CpuR u2 B (Cp.row ⟨⟨a, x, y, s, p, (pc + 1) % 65536⟩, D, (o : Int), n1, m1, k1, q1, pl, wr, b⟩) := hS2
  clear c0 c1 c2 c3 c4 c5 c6 c7 c8 c9 c10 c11 c12 c13 c14 ff
  obtain ⟨c0, c1, c2, c3, c4, c5, c6, c7, c8, c9, c10, c11, c12, c13, c14⟩ := CpuS.all (show CpuS u2 B ⟨⟨a, x, y, s, p, (pc + 1) % 65536⟩, D, (o : Int), n1, m1, k1, q1, pl, wr, b⟩ from hR2)
  have ff := CpuR.thaw hR2
  (try dsimp only)
  (repeat (first | (with_reducible refine inBlock_far (by decide) ?_) | (with_reducible refine then_exit ?_) | (with_reducible refine inBlock_here ?_) | ((fail_if_success (with_reducible refine calls_id ?_)); go_step)))
  all_goals first | refine bodyPost_end (results_none rfl _ _ _) rfl ⟨rfl, ?_, ?_⟩ | refine bodyPost_ret (results_none rfl _ _ _) rfl ⟨rfl, ?_, ?_⟩
  all_goals first
    | (apply CpuS.mk2; (repeat (first | with_reducible exact hR2 | apply CpuR.set | apply CpuR.drew)); rfl)
    | (repeat (first | with_reducible exact hB2 | with_reducible exact Besd.refl _ _ _ | refine Besd.own ?_ _ _ | refine Besd.drew ?_))
set_option maxRecDepth 100000 in
set_option maxHeartbeats 8000000 in
theorem clock_1 (c : Cp) (ok : c.ok) (w : World) (B : Nat) (hS : CpuS w B c) (ht : c.t = 1) (v : Int) (v0 : 0 ≤ v) (v1 : v ≤ 255) : Calls Tryd.prog 10 #[.pointer (some ⟨B, 0, none⟩), .int .u8 v] w (MPost w B (clockN 1 c v)) := by
  obtain ⟨⟨a, x, y, s, p, pc⟩, t, op, nm, md, kd, kn, pl, wr, b⟩ := c
  simp only [] at ht
  subst ht
  obtain ⟨c0, c1, c2, c3, c4, c5, c6, c7, c8, c9, c10, c11, c12, c13, c14⟩ := hS.all
  obtain ⟨⟨a0, a1, x0, x1, y0, y1, s0, s1, p0, p1, pc0, pc1⟩, t0, t1, op0, op1, md0, md1, kd0, kd1, pl0, pl1, wr0, wr1, b0, b1⟩ := ok
  simp only [] at a0 a1 x0 x1 y0 y1 s0 s1 p0 p1 pc0 pc1 t0 t1 op0 op1 md0 md1 kd0 kd1 pl0 pl1 wr0 wr1 b0 b1
  have ff := hS.thaw
  have hlt := hS.lt
  have hR : CpuR w B _ := hS
  have hne : ¬ w.heap.size = B := by omega
  have hne' : ¬ B = w.heap.size := by omega
  have hpc0 : 0 ≤ (pc + 1) % 65536 := by omega
  have hpc1 : (pc + 1) % 65536 ≤ 65535 := by omega
  have hv2 : v ≤ 65535 := by omega
  go_enter Tryd.func10, Tryd.ntmps10
  (repeat (first | (with_reducible refine inBlock_far (by decide) ?_) | (with_reducible refine then_exit ?_) | (with_reducible refine inBlock_here ?_) | ((fail_if_success (with_reducible refine calls_id ?_)); go_step)))
  all_goals first | refine bodyPost_end (results_none rfl _ _ _) rfl ⟨rfl, ?_, ?_⟩ | refine bodyPost_ret (results_none rfl _ _ _) rfl ⟨rfl, ?_, ?_⟩
  all_goals first
    | (apply CpuS.mk2; (repeat (first | with_reducible exact hR | apply CpuR.set | apply CpuR.drew)); rfl)
    | (repeat (first | with_reducible exact Besd.refl _ _ _ | with_reducible exact Besd.refl _ _ _ | refine Besd.own ?_ _ _ | refine Besd.drew ?_))
set_option maxRecDepth 100000 in
set_option maxHeartbeats 8000000 in
theorem clock_4 (c : Cp) (ok : c.ok) (w : World) (B : Nat) (hS : CpuS w B c) (ht : c.t = 4) (v : Int) (v0 : 0 ≤ v) (v1 : v ≤ 255) : Calls Tryd.prog 10 #[.pointer (some ⟨B, 0, none⟩), .int .u8 v] w (MPost w B (clockN 4 c v)) := by
  obtain ⟨⟨a, x, y, s, p, pc⟩, t, op, nm, md, kd, kn, pl, wr, b⟩ := c
  simp only [] at ht
  subst ht
  obtain ⟨c0, c1, c2, c3, c4, c5, c6, c7, c8, c9, c10, c11, c12, c13, c14⟩ := hS.all
  obtain ⟨⟨a0, a1, x0, x1, y0, y1, s0, s1, p0, p1, pc0, pc1⟩, t0, t1, op0, op1, md0, md1, kd0, kd1, pl0, pl1, wr0, wr1, b0, b1⟩ := ok
  simp only [] at a0 a1 x0 x1 y0 y1 s0 s1 p0 p1 pc0 pc1 t0 t1 op0 op1 md0 md1 kd0 kd1 pl0 pl1 wr0 wr1 b0 b1
  have ff := hS.thaw
  have hlt := hS.lt
  have hR : CpuR w B _ := hS
  have hne : ¬ w.heap.size = B := by omega
  have hne' : ¬ B = w.heap.size := by omega
  have hpc0 : 0 ≤ (pc + 1) % 65536 := by omega
  have hpc1 : (pc + 1) % 65536 ≤ 65535 := by omega
  have hv2 : v ≤ 65535 := by omega
  go_enter Tryd.func10, Tryd.ntmps10
  (repeat (first | (with_reducible refine inBlock_far (by decide) ?_) | (with_reducible refine then_exit ?_) | (with_reducible refine inBlock_here ?_) | ((fail_if_success (with_reducible refine calls_id ?_)); go_step)))
  all_goals first | refine bodyPost_end (results_none rfl _ _ _) rfl ⟨rfl, ?_, ?_⟩ | refine bodyPost_ret (results_none rfl _ _ _) rfl ⟨rfl, ?_, ?_⟩
  all_goals first
    | (apply CpuS.mk2; (repeat (first | with_reducible exact hR | apply CpuR.set | apply CpuR.drew)); rfl)
    | (repeat (first | with_reducible exact Besd.refl _ _ _ | with_reducible exact Besd.refl _ _ _ | refine Besd.own ?_ _ _ | refine Besd.drew ?_))
set_option maxRecDepth 100000 in
set_option maxHeartbeats 8000000 in
theorem clock_5 (c : Cp) (ok : c.ok) (w : World) (B : Nat) (hS : CpuS w B c) (ht : c.t = 5) (v : Int) (v0 : 0 ≤ v) (v1 : v ≤ 255) : Calls Tryd.prog 10 #[.pointer (some ⟨B, 0, none⟩), .int .u8 v] w (MPost w B (clockN 5 c v)) := by
  obtain ⟨⟨a, x, y, s, p, pc⟩, t, op, nm, md, kd, kn, pl, wr, b⟩ := c
  simp only [] at ht
  subst ht
  obtain ⟨c0, c1, c2, c3, c4, c5, c6, c7, c8, c9, c10, c11, c12, c13, c14⟩ := hS.all
  obtain ⟨⟨a0, a1, x0, x1, y0, y1, s0, s1, p0, p1, pc0, pc1⟩, t0, t1, op0, op1, md0, md1, kd0, kd1, pl0, pl1, wr0, wr1, b0, b1⟩ := ok
  simp only [] at a0 a1 x0 x1 y0 y1 s0 s1 p0 p1 pc0 pc1 t0 t1 op0 op1 md0 md1 kd0 kd1 pl0 pl1 wr0 wr1 b0 b1
  have ff := hS.thaw
  have hlt := hS.lt
  have hR : CpuR w B _ := hS
  have hne : ¬ w.heap.size = B := by omega
  have hne' : ¬ B = w.heap.size := by omega
  have hpc0 : 0 ≤ (pc + 1) % 65536 := by omega
  have hpc1 : (pc + 1) % 65536 ≤ 65535 := by omega
  have hv2 : v ≤ 65535 := by omega
  go_enter Tryd.func10, Tryd.ntmps10
  (repeat (first | (with_reducible refine inBlock_far (by decide) ?_) | (with_reducible refine then_exit ?_) | (with_reducible refine inBlock_here ?_) | ((fail_if_success (with_reducible refine calls_id ?_)); go_step)))
  all_goals first | refine bodyPost_end (results_none rfl _ _ _) rfl ⟨rfl, ?_, ?_⟩ | refine bodyPost_ret (results_none rfl _ _ _) rfl ⟨rfl, ?_, ?_⟩
  all_goals first
    | (apply CpuS.mk2; (repeat (first | with_reducible exact hR | apply CpuR.set | apply CpuR.drew)); rfl)
    | (repeat (first | with_reducible exact Besd.refl _ _ _ | with_reducible exact Besd.refl _ _ _ | refine Besd.own ?_ _ _ | refine Besd.drew ?_))
set_option maxRecDepth 100000 in
set_option maxHeartbeats 8000000 in
theorem clock_6 (c : Cp) (ok : c.ok) (w : World) (B : Nat) (hS : CpuS w B c) (ht : c.t = 6) (v : Int) (v0 : 0 ≤ v) (v1 : v ≤ 255) : Calls Tryd.prog 10 #[.pointer (some ⟨B, 0, none⟩), .int .u8 v] w (MPost w B (clockN 6 c v)) := by
  obtain ⟨⟨a, x, y, s, p, pc⟩, t, op, nm, md, kd, kn, pl, wr, b⟩ := c
  simp only [] at ht
  subst ht
  obtain ⟨c0, c1, c2, c3, c4, c5, c6, c7, c8, c9, c10, c11, c12, c13, c14⟩ := hS.all
  obtain ⟨⟨a0, a1, x0, x1, y0, y1, s0, s1, p0, p1, pc0, pc1⟩, t0, t1, op0, op1, md0, md1, kd0, kd1, pl0, pl1, wr0, wr1, b0, b1⟩ := ok
  simp only [] at a0 a1 x0 x1 y0 y1 s0 s1 p0 p1 pc0 pc1 t0 t1 op0 op1 md0 md1 kd0 kd1 pl0 pl1 wr0 wr1 b0 b1
  have ff := hS.thaw
  have hlt := hS.lt
  have hR : CpuR w B _ := hS
  have hne : ¬ w.heap.size = B := by omega
  have hne' : ¬ B = w.heap.size := by omega
  have hpc0 : 0 ≤ (pc + 1) % 65536 := by omega
  have hpc1 : (pc + 1) % 65536 ≤ 65535 := by omega
  have hv2 : v ≤ 65535 := by omega
  go_enter Tryd.func10, Tryd.ntmps10
  (repeat (first | (with_reducible refine inBlock_far (by decide) ?_) | (with_reducible refine then_exit ?_) | (with_reducible refine inBlock_here ?_) | ((fail_if_success (with_reducible refine calls_id ?_)); go_step)))
  all_goals first | refine bodyPost_end (results_none rfl _ _ _) rfl ⟨rfl, ?_, ?_⟩ | refine bodyPost_ret (results_none rfl _ _ _) rfl ⟨rfl, ?_, ?_⟩
  all_goals first
    | (apply CpuS.mk2; (repeat (first | with_reducible exact hR | apply CpuR.set | apply CpuR.drew)); rfl)
    | (repeat (first | with_reducible exact Besd.refl _ _ _ | with_reducible exact Besd.refl _ _ _ | refine Besd.own ?_ _ _ | refine Besd.drew ?_))
set_option maxRecDepth 100000 in
set_option maxHeartbeats 8000000 in
theorem clock_22 (c : Cp) (ok : c.ok) (w : World) (B : Nat) (hS : CpuS w B c) (ht : c.t = 22) (v : Int) (v0 : 0 ≤ v) (v1 : v ≤ 255) : Calls Tryd.prog 10 #[.pointer (some ⟨B, 0, none⟩), .int .u8 v] w (MPost w B (clockN 22 c v)) := by
  obtain ⟨⟨a, x, y, s, p, pc⟩, t, op, nm, md, kd, kn, pl, wr, b⟩ := c
  simp only [] at ht
  subst ht
  obtain ⟨c0, c1, c2, c3, c4, c5, c6, c7, c8, c9, c10, c11, c12, c13, c14⟩ := hS.all
  obtain ⟨⟨a0, a1, x0, x1, y0, y1, s0, s1, p0, p1, pc0, pc1⟩, t0, t1, op0, op1, md0, md1, kd0, kd1, pl0, pl1, wr0, wr1, b0, b1⟩ := ok
  simp only [] at a0 a1 x0 x1 y0 y1 s0 s1 p0 p1 pc0 pc1 t0 t1 op0 op1 md0 md1 kd0 kd1 pl0 pl1 wr0 wr1 b0 b1
  have ff := hS.thaw
  have hlt := hS.lt
  have hR : CpuR w B _ := hS
  have hne : ¬ w.heap.size = B := by omega
  have hne' : ¬ B = w.heap.size := by omega
  have hpc0 : 0 ≤ (pc + 1) % 65536 := by omega
  have hpc1 : (pc + 1) % 65536 ≤ 65535 := by omega
  have hv2 : v ≤ 65535 := by omega
  go_enter Tryd.func10, Tryd.ntmps10
  (repeat (first | (with_reducible refine inBlock_far (by decide) ?_) | (with_reducible refine then_exit ?_) | (with_reducible refine inBlock_here ?_) | ((fail_if_success (with_reducible refine calls_id ?_)); go_step)))
  all_goals first | refine bodyPost_end (results_none rfl _ _ _) rfl ⟨rfl, ?_, ?_⟩ | refine bodyPost_ret (results_none rfl _ _ _) rfl ⟨rfl, ?_, ?_⟩
  all_goals first
    | (apply CpuS.mk2; (repeat (first | with_reducible exact hR | apply CpuR.set | apply CpuR.drew)); rfl)
    | (repeat (first | with_reducible exact Besd.refl _ _ _ | with_reducible exact Besd.refl _ _ _ | refine Besd.own ?_ _ _ | refine Besd.drew ?_))
set_option maxRecDepth 100000 in
set_option maxHeartbeats 8000000 in
theorem clock_9 (c : Cp) (ok : c.ok) (w : World) (B : Nat) (hS : CpuS w B c) (ht : c.t = 9) (v : Int) (v0 : 0 ≤ v) (v1 : v ≤ 255) : Calls Tryd.prog 10 #[.pointer (some ⟨B, 0, none⟩), .int .u8 v] w (MPost w B (clockN 9 c v)) := by
  obtain ⟨⟨a, x, y, s, p, pc⟩, t, op, nm, md, kd, kn, pl, wr, b⟩ := c
  simp only [] at ht
  subst ht
  obtain ⟨c0, c1, c2, c3, c4, c5, c6, c7, c8, c9, c10, c11, c12, c13, c14⟩ := hS.all
  obtain ⟨⟨a0, a1, x0, x1, y0, y1, s0, s1, p0, p1, pc0, pc1⟩, t0, t1, op0, op1, md0, md1, kd0, kd1, pl0, pl1, wr0, wr1, b0, b1⟩ := ok
  simp only [] at a0 a1 x0 x1 y0 y1 s0 s1 p0 p1 pc0 pc1 t0 t1 op0 op1 md0 md1 kd0 kd1 pl0 pl1 wr0 wr1 b0 b1
  have ff := hS.thaw
  have hlt := hS.lt
  have hR : CpuR w B _ := hS
  have hne : ¬ w.heap.size = B := by omega
  have hne' : ¬ B = w.heap.size := by omega
  have hpc0 : 0 ≤ (pc + 1) % 65536 := by omega
  have hpc1 : (pc + 1) % 65536 ≤ 65535 := by omega
  have hv2 : v ≤ 65535 := by omega
  have kd9 := fun w' h => done_any ⟨⟨a, x, y, s, p, pc⟩, 9, op, nm, md, kd, kn, pl, wr, b⟩ (by exact ⟨⟨a0, a1, x0, x1, y0, y1, s0, s1, p0, p1, pc0, pc1⟩, t0, t1, op0, op1, md0, md1, kd0, kd1, pl0, pl1, wr0, wr1, b0, b1⟩) w' B h
  have hdf : doneF ⟨⟨a, x, y, s, p, pc⟩, 9, op, nm, md, kd, kn, pl, wr, b⟩ = ⟨(if kd = 3 then turnAF nm ⟨a, x, y, s, p, pc⟩ else selfF (seK nm) ⟨a, x, y, s, p, pc⟩), 9, op, nm, md, kd, kn, pl, wr, b⟩ := rfl
  show Calls _ _ _ _ (MPost w B ⟨(if kd = 3 then turnAF nm ⟨a, x, y, s, p, pc⟩ else selfF (seK nm) ⟨a, x, y, s, p, pc⟩), 0, op, nm, md, kd, kn, pl, wr, b⟩)
  rw [hdf] at kd9
  clear hdf
  generalize (if kd = 3 then turnAF nm ⟨a, x, y, s, p, pc⟩ else selfF (seK nm) ⟨a, x, y, s, p, pc⟩) = R at *
  obtain ⟨ra, rx, ry, rs, rp, rpc⟩ := R
  go_enter Tryd.func10, Tryd.ntmps10
  (repeat (first | (with_reducible refine inBlock_far (by decide) ?_) | (with_reducible refine then_exit ?_) | (with_reducible refine inBlock_here ?_) | ((fail_if_success (with_reducible refine calls_id ?_)); go_step)))
  refine (kd9 _ hS).mono ?_
  rintro e u1 ⟨rfl, hS1, hB1p⟩
  have hB1 : Besd B w.heap.size w u1 := Besd.trans (by repeat (first | with_reducible exact Besd.refl _ _ _ | refine Besd.own ?_ _ _)) hB1p (by first | exact Nat.le_refl _ | (simp only [World.size_setCell]; exact Nat.le_refl _))
  have hR1 : CpuR u1 B (Cp.row ⟨⟨ra, rx, ry, rs, rp, rpc⟩, 9, op, nm, md, kd, kn, pl, wr, b⟩) := hS1
  clear c0 c1 c2 c3 c4 c5 c6 c7 c8 c9 c10 c11 c12 c13 c14 ff
  obtain ⟨c0, c1, c2, c3, c4, c5, c6, c7, c8, c9, c10, c11, c12, c13, c14⟩ := CpuS.all (show CpuS u1 B ⟨⟨ra, rx, ry, rs, rp, rpc⟩, 9, op, nm, md, kd, kn, pl, wr, b⟩ from hR1)
  have ff := CpuR.thaw hR1
  (try dsimp only)
  (repeat (first | (with_reducible refine inBlock_far (by decide) ?_) | (with_reducible refine then_exit ?_) | (with_reducible refine inBlock_here ?_) | ((fail_if_success (with_reducible refine calls_id ?_)); go_step)))
  all_goals first | refine bodyPost_end (results_none rfl _ _ _) rfl ⟨rfl, ?_, ?_⟩ | refine bodyPost_ret (results_none rfl _ _ _) rfl ⟨rfl, ?_, ?_⟩
  all_goals first
    | (apply CpuS.mk2; (repeat (first | with_reducible exact hR1 | apply CpuR.set | apply CpuR.drew)); rfl)
    | (repeat (first | with_reducible exact hB1 | with_reducible exact Besd.refl _ _ _ | refine Besd.own ?_ _ _ | refine Besd.drew ?_))
set_option maxRecDepth 100000 in
set_option maxHeartbeats 8000000 in
theorem clock_10 (c : Cp) (ok : c.ok) (w : World) (B : Nat) (hS : CpuS w B c) (ht : c.t = 10) (v : Int) (v0 : 0 ≤ v) (v1 : v ≤ 255) : Calls Tryd.prog 10 #[.pointer (some ⟨B, 0, none⟩), .int .u8 v] w (MPost w B (clockN 10 c v)) := by
  obtain ⟨⟨a, x, y, s, p, pc⟩, t, op, nm, md, kd, kn, pl, wr, b⟩ := c
  simp only [] at ht
  subst ht
  obtain ⟨c0, c1, c2, c3, c4, c5, c6, c7, c8, c9, c10, c11, c12, c13, c14⟩ := hS.all
  obtain ⟨⟨a0, a1, x0, x1, y0, y1, s0, s1, p0, p1, pc0, pc1⟩, t0, t1, op0, op1, md0, md1, kd0, kd1, pl0, pl1, wr0, wr1, b0, b1⟩ := ok
  simp only [] at a0 a1 x0 x1 y0 y1 s0 s1 p0 p1 pc0 pc1 t0 t1 op0 op1 md0 md1 kd0 kd1 pl0 pl1 wr0 wr1 b0 b1
  have ff := hS.thaw
  have hlt := hS.lt
  have hR : CpuR w B _ := hS
  have hne : ¬ w.heap.size = B := by omega
  have hne' : ¬ B = w.heap.size := by omega
  have hpc0 : 0 ≤ (pc + 1) % 65536 := by omega
  have hpc1 : (pc + 1) % 65536 ≤ 65535 := by omega
  have hv2 : v ≤ 65535 := by omega
  have kr := fun w' => read_any ⟨a, x, y, s, p, pc⟩ ⟨a0, a1, x0, x1, y0, y1, s0, s1, p0, p1, pc0, pc1⟩ v v0 v1 nm w'
  have hRo := readF_ok (rdK nm) ⟨a, x, y, s, p, pc⟩ v ⟨a0, a1, x0, x1, y0, y1, s0, s1, p0, p1, pc0, pc1⟩ v0 v1
  show Calls _ _ _ _ (MPost w B (nextF ⟨readF (rdK nm) ⟨a, x, y, s, p, pc⟩ v, 10, op, nm, md, kd, kn, pl, wr, b⟩ 0))
  generalize readF (rdK nm) ⟨a, x, y, s, p, pc⟩ v = R at *
  obtain ⟨ra, rx, ry, rs, rp, rpc⟩ := R
  obtain ⟨ra0, ra1, rx0, rx1, ry0, ry1, rs0, rs1, rp0, rp1, rpc0, rpc1⟩ := hRo
  simp only [] at ra0 ra1 rx0 rx1 ry0 ry1 rs0 rs1 rp0 rp1 rpc0 rpc1
  simp only [rgU] at kr
  go_enter Tryd.func10, Tryd.ntmps10
  (repeat (first | (with_reducible refine inBlock_far (by decide) ?_) | (with_reducible refine then_exit ?_) | (with_reducible refine inBlock_here ?_) | ((fail_if_success (with_reducible refine calls_id ?_)); go_step)))
  go_region_with ((first | (go_at_call 8; refine (kr _).mono ?_; rintro e u1 ⟨rfl, hw⟩; have hR1 : CpuR u1 B (Cp.row ⟨⟨a, x, y, s, p, pc⟩, 10, op, nm, md, kd, kn, pl, wr, b⟩) := CpuR.below (W := _) (CpuR.drew hR) hw; clear c0 c1 c2 c3 c4 c5 c6 c7 c8 c9 c10 c11 c12 c13 c14 ff; obtain ⟨c0, c1, c2, c3, c4, c5, c6, c7, c8, c9, c10, c11, c12, c13, c14⟩ := CpuS.all (show CpuS u1 B ⟨⟨a, x, y, s, p, pc⟩, 10, op, nm, md, kd, kn, pl, wr, b⟩ from hR1); have ff := CpuR.thaw hR1; have hB1 : Besd B w.heap.size w u1 := Besd.below (Besd.refl B w.heap.size w).drew hw (Nat.le_refl _)) | fail))
  all_goals (
    (repeat (first | (with_reducible refine inBlock_far (by decide) ?_) | (with_reducible refine then_exit ?_) | (with_reducible refine inBlock_here ?_) | ((fail_if_success (with_reducible refine calls_id ?_)); go_step)))
    refine (next_any ⟨⟨ra, rx, ry, rs, rp, rpc⟩, 10, op, nm, md, kd, kn, pl, wr, b⟩ (by exact ⟨⟨ra0, ra1, rx0, rx1, ry0, ry1, rs0, rs1, rp0, rp1, rpc0, rpc1⟩, t0, t1, op0, op1, md0, md1, kd0, kd1, pl0, pl1, wr0, wr1, b0, b1⟩) _ B (by apply CpuS.mk2; (repeat (first | with_reducible exact hR1 | apply CpuR.set)); rfl) 0).mono ?_
    rintro e u2 ⟨rfl, hS2, hB2p⟩
    have hB2 : Besd B w.heap.size w u2 := Besd.trans (by repeat (first | with_reducible exact hB1 | refine Besd.own ?_ _ _)) hB2p (by first | (simp only [World.size_setCell]; exact Besd.size hB1) | exact Besd.size hB1)
    have hR2 : CpuR u2 B (Cp.row ⟨⟨ra, rx, ry, rs, rp, (rpc + 1) % 65536⟩, 0, op, nm, md, kd, kn, pl, wr, b⟩) := hS2
    clear c0 c1 c2 c3 c4 c5 c6 c7 c8 c9 c10 c11 c12 c13 c14 ff
    obtain ⟨c0, c1, c2, c3, c4, c5, c6, c7, c8, c9, c10, c11, c12, c13, c14⟩ := CpuS.all (show CpuS u2 B ⟨⟨ra, rx, ry, rs, rp, (rpc + 1) % 65536⟩, 0, op, nm, md, kd, kn, pl, wr, b⟩ from hR2)
    have ff := CpuR.thaw hR2
    (try dsimp only)
    (repeat (first | (with_reducible refine inBlock_far (by decide) ?_) | (with_reducible refine then_exit ?_) | (with_reducible refine inBlock_here ?_) | ((fail_if_success (with_reducible refine calls_id ?_)); go_step))))
  all_goals first | refine bodyPost_end (results_none rfl _ _ _) rfl ⟨rfl, ?_, ?_⟩ | refine bodyPost_ret (results_none rfl _ _ _) rfl ⟨rfl, ?_, ?_⟩
  all_goals first
    | (apply CpuS.mk2; (repeat (first | with_reducible exact hR2 | apply CpuR.set | apply CpuR.drew)); rfl)
    | (repeat (first | with_reducible exact hB2 | with_reducible exact Besd.refl _ _ _ | refine Besd.own ?_ _ _ | refine Besd.drew ?_))
set_option maxRecDepth 100000 in
set_option maxHeartbeats 8000000 in
theorem clock_11 (c : Cp) (ok : c.ok) (w : World) (B : Nat) (hS : CpuS w B c) (ht : c.t = 11) (v : Int) (v0 : 0 ≤ v) (v1 : v ≤ 255) : Calls Tryd.prog 10 #[.pointer (some ⟨B, 0, none⟩), .int .u8 v] w (MPost w B (clockN 11 c v)) := by
  obtain ⟨⟨a, x, y, s, p, pc⟩, t, op, nm, md, kd, kn, pl, wr, b⟩ := c
  simp only [] at ht
  subst ht
  obtain ⟨c0, c1, c2, c3, c4, c5, c6, c7, c8, c9, c10, c11, c12, c13, c14⟩ := hS.all
  obtain ⟨⟨a0, a1, x0, x1, y0, y1, s0, s1, p0, p1, pc0, pc1⟩, t0, t1, op0, op1, md0, md1, kd0, kd1, pl0, pl1, wr0, wr1, b0, b1⟩ := ok
  simp only [] at a0 a1 x0 x1 y0 y1 s0 s1 p0 p1 pc0 pc1 t0 t1 op0 op1 md0 md1 kd0 kd1 pl0 pl1 wr0 wr1 b0 b1
  have ff := hS.thaw
  have hlt := hS.lt
  have hR : CpuR w B _ := hS
  have hne : ¬ w.heap.size = B := by omega
  have hne' : ¬ B = w.heap.size := by omega
  have hpc0 : 0 ≤ (pc + 1) % 65536 := by omega
  have hpc1 : (pc + 1) % 65536 ≤ 65535 := by omega
  have hv2 : v ≤ 65535 := by omega
  obtain ⟨AC, hAC⟩ : ∃ AC, AC = accF ⟨⟨a, x, y, s, p, pc⟩, 11, op, nm, md, kd, kn, pl, wr, b⟩ := ⟨_, rfl⟩
  have hac := accF_in ⟨⟨a, x, y, s, p, pc⟩, 11, op, nm, md, kd, kn, pl, wr, b⟩
  rw [← hAC] at hac
  have hACd : AC = accF ⟨⟨a, x, y, s, p, pc⟩, 11, op, nm, md, kd, kn, v, v, v⟩ := hAC
  show Calls _ _ _ _ (MPost w B (Cp.mk _ (if md = 3 then accF ⟨⟨a, x, y, s, p, pc⟩, 11, op, nm, md, kd, kn, pl, wr, b⟩ else _) _ _ _ _ _ _ _ _))
  rw [← hAC]
  clear hAC
  by_cases hmd : md = 3
  · have hq : (md != 3) = false := by simp [hmd]
    rw [if_pos hmd]
    clear hmd
    go_enter Tryd.func10, Tryd.ntmps10
    (repeat (first | (with_reducible refine inBlock_far (by decide) ?_) | (with_reducible refine then_exit ?_) | (with_reducible refine inBlock_here ?_) | ((fail_if_success (with_reducible refine calls_id ?_)); go_step)))
    refine (access_any ⟨⟨a, x, y, s, p, pc⟩, 11, op, nm, md, kd, kn, v, v, v⟩ (by exact ⟨⟨a0, a1, x0, x1, y0, y1, s0, s1, p0, p1, pc0, pc1⟩, t0, t1, op0, op1, md0, md1, kd0, kd1, v0, hv2, v0, hv2, v0, v1⟩) _ B (by apply CpuS.mk2; (repeat (first | with_reducible exact hR | apply CpuR.set)); rfl)).mono ?_
    rintro e w_ ⟨rfl, rfl⟩
    dsimp only
    (repeat (first | (with_reducible refine inBlock_far (by decide) ?_) | (with_reducible refine then_exit ?_) | (with_reducible refine inBlock_here ?_) | ((fail_if_success (with_reducible refine calls_id ?_)); go_step)))
    (try rw [← hACd])
    refine (next_any ⟨⟨a, x, y, s, p, pc⟩, 11, op, nm, md, kd, kn, v, v, v⟩ (by exact ⟨⟨a0, a1, x0, x1, y0, y1, s0, s1, p0, p1, pc0, pc1⟩, t0, t1, op0, op1, md0, md1, kd0, kd1, v0, hv2, v0, hv2, v0, v1⟩) _ B (by apply CpuS.mk2; (repeat (first | with_reducible exact hR | apply CpuR.set)); rfl) AC).mono ?_
    rintro e u1 ⟨rfl, hS1, hB1p⟩
    have hB1 : Besd B w.heap.size w u1 := Besd.trans (by repeat (first | with_reducible exact Besd.refl _ _ _ | refine Besd.own ?_ _ _)) hB1p (by first | exact Nat.le_refl _ | (simp only [World.size_setCell]; exact Nat.le_refl _))
    have hR1 : CpuR u1 B (Cp.row ⟨⟨a, x, y, s, p, (pc + 1) % 65536⟩, AC, op, nm, md, kd, kn, v, v, v⟩) := hS1
    clear c0 c1 c2 c3 c4 c5 c6 c7 c8 c9 c10 c11 c12 c13 c14 ff
    obtain ⟨c0, c1, c2, c3, c4, c5, c6, c7, c8, c9, c10, c11, c12, c13, c14⟩ := CpuS.all (show CpuS u1 B ⟨⟨a, x, y, s, p, (pc + 1) % 65536⟩, AC, op, nm, md, kd, kn, v, v, v⟩ from hR1)
    have ff := CpuR.thaw hR1
    (try dsimp only)
    (repeat (first | (with_reducible refine inBlock_far (by decide) ?_) | (with_reducible refine then_exit ?_) | (with_reducible refine inBlock_here ?_) | ((fail_if_success (with_reducible refine calls_id ?_)); go_step)))
    all_goals first | refine bodyPost_end (results_none rfl _ _ _) rfl ⟨rfl, ?_, ?_⟩ | refine bodyPost_ret (results_none rfl _ _ _) rfl ⟨rfl, ?_, ?_⟩
    all_goals first
      | (apply CpuS.mk2; (repeat (first | with_reducible exact hR1 | apply CpuR.set | apply CpuR.drew)); rfl)
      | (repeat (first | with_reducible exact hB1 | with_reducible exact Besd.refl _ _ _ | refine Besd.own ?_ _ _ | refine Besd.drew ?_))
  · have hq : (md != 3) = true := by simp [hmd]
    rw [if_neg hmd]
    clear hmd
    go_enter Tryd.func10, Tryd.ntmps10
    (repeat (first | (with_reducible refine inBlock_far (by decide) ?_) | (with_reducible refine then_exit ?_) | (with_reducible refine inBlock_here ?_) | ((fail_if_success (with_reducible refine calls_id ?_)); go_step)))
    refine (access_any ⟨⟨a, x, y, s, p, pc⟩, 11, op, nm, md, kd, kn, v, v, v⟩ (by exact ⟨⟨a0, a1, x0, x1, y0, y1, s0, s1, p0, p1, pc0, pc1⟩, t0, t1, op0, op1, md0, md1, kd0, kd1, v0, hv2, v0, hv2, v0, v1⟩) _ B (by apply CpuS.mk2; (repeat (first | with_reducible exact hR | apply CpuR.set)); rfl)).mono ?_
    rintro e w_ ⟨rfl, rfl⟩
    dsimp only
    (repeat (first | (with_reducible refine inBlock_far (by decide) ?_) | (with_reducible refine then_exit ?_) | (with_reducible refine inBlock_here ?_) | ((fail_if_success (with_reducible refine calls_id ?_)); go_step)))
    (try rw [← hACd])
    refine (next_any ⟨⟨a, x, y, s, p, pc⟩, 11, op, nm, md, kd, kn, v, v, v⟩ (by exact ⟨⟨a0, a1, x0, x1, y0, y1, s0, s1, p0, p1, pc0, pc1⟩, t0, t1, op0, op1, md0, md1, kd0, kd1, v0, hv2, v0, hv2, v0, v1⟩) _ B (by apply CpuS.mk2; (repeat (first | with_reducible exact hR | apply CpuR.set)); rfl) AC).mono ?_
    rintro e u1 ⟨rfl, hS1, hB1p⟩
    have hB1 : Besd B w.heap.size w u1 := Besd.trans (by repeat (first | with_reducible exact Besd.refl _ _ _ | refine Besd.own ?_ _ _)) hB1p (by first | exact Nat.le_refl _ | (simp only [World.size_setCell]; exact Nat.le_refl _))
    have hR1 : CpuR u1 B (Cp.row ⟨⟨a, x, y, s, p, (pc + 1) % 65536⟩, AC, op, nm, md, kd, kn, v, v, v⟩) := hS1
    clear c0 c1 c2 c3 c4 c5 c6 c7 c8 c9 c10 c11 c12 c13 c14 ff
    obtain ⟨c0, c1, c2, c3, c4, c5, c6, c7, c8, c9, c10, c11, c12, c13, c14⟩ := CpuS.all (show CpuS u1 B ⟨⟨a, x, y, s, p, (pc + 1) % 65536⟩, AC, op, nm, md, kd, kn, v, v, v⟩ from hR1)
    have ff := CpuR.thaw hR1
    (try dsimp only)
    (repeat (first | (with_reducible refine inBlock_far (by decide) ?_) | (with_reducible refine then_exit ?_) | (with_reducible refine inBlock_here ?_) | ((fail_if_success (with_reducible refine calls_id ?_)); go_step)))
    all_goals first | refine bodyPost_end (results_none rfl _ _ _) rfl ⟨rfl, ?_, ?_⟩ | refine bodyPost_ret (results_none rfl _ _ _) rfl ⟨rfl, ?_, ?_⟩
    all_goals first
      | (apply CpuS.mk2; (repeat (first | with_reducible exact hR1 | apply CpuR.set | apply CpuR.drew)); rfl)
      | (repeat (first | with_reducible exact hB1 | with_reducible exact Besd.refl _ _ _ | refine Besd.own ?_ _ _ | refine Besd.drew ?_))
set_option maxRecDepth 100000 in
set_option maxHeartbeats 8000000 in
theorem clock_12 (c : Cp) (ok : c.ok) (w : World) (B : Nat) (hS : CpuS w B c) (ht : c.t = 12) (v : Int) (v0 : 0 ≤ v) (v1 : v ≤ 255) : Calls Tryd.prog 10 #[.pointer (some ⟨B, 0, none⟩), .int .u8 v] w (MPost w B (clockN 12 c v)) := by
  obtain ⟨⟨a, x, y, s, p, pc⟩, t, op, nm, md, kd, kn, pl, wr, b⟩ := c
  simp only [] at ht
  subst ht
  obtain ⟨c0, c1, c2, c3, c4, c5, c6, c7, c8, c9, c10, c11, c12, c13, c14⟩ := hS.all
  obtain ⟨⟨a0, a1, x0, x1, y0, y1, s0, s1, p0, p1, pc0, pc1⟩, t0, t1, op0, op1, md0, md1, kd0, kd1, pl0, pl1, wr0, wr1, b0, b1⟩ := ok
  simp only [] at a0 a1 x0 x1 y0 y1 s0 s1 p0 p1 pc0 pc1 t0 t1 op0 op1 md0 md1 kd0 kd1 pl0 pl1 wr0 wr1 b0 b1
  have ff := hS.thaw
  have hlt := hS.lt
  have hR : CpuR w B _ := hS
  have hne : ¬ w.heap.size = B := by omega
  have hne' : ¬ B = w.heap.size := by omega
  have hpc0 : 0 ≤ (pc + 1) % 65536 := by omega
  have hpc1 : (pc + 1) % 65536 ≤ 65535 := by omega
  have hv2 : v ≤ 65535 := by omega
  have ki := fun w' h => index_any ⟨⟨a, x, y, s, p, pc⟩, 12, op, nm, md, kd, kn, pl, wr, b⟩ (by exact ⟨⟨a0, a1, x0, x1, y0, y1, s0, s1, p0, p1, pc0, pc1⟩, t0, t1, op0, op1, md0, md1, kd0, kd1, pl0, pl1, wr0, wr1, b0, b1⟩) w' B h
  have hi : 0 ≤ idxF ⟨⟨a, x, y, s, p, pc⟩, 12, op, nm, md, kd, kn, pl, wr, b⟩ ∧ idxF ⟨⟨a, x, y, s, p, pc⟩, 12, op, nm, md, kd, kn, pl, wr, b⟩ ≤ 255 := by unfold idxF; simp only []; (repeat' split) <;> omega
  show Calls _ _ _ _ (MPost w B ⟨⟨a, x, y, s, p, pc⟩, accF ⟨⟨a, x, y, s, p, pc⟩, 12, op, nm, md, kd, kn, pl, wr, b⟩, op, nm, md, kd, kn, (b + idxF ⟨⟨a, x, y, s, p, pc⟩, 12, op, nm, md, kd, kn, pl, wr, b⟩) % 256, (b + idxF ⟨⟨a, x, y, s, p, pc⟩, 12, op, nm, md, kd, kn, pl, wr, b⟩) % 256, b⟩)
  obtain ⟨AC, hAC⟩ : ∃ AC, AC = accF ⟨⟨a, x, y, s, p, pc⟩, 12, op, nm, md, kd, kn, pl, wr, b⟩ := ⟨_, rfl⟩
  rw [← hAC]
  generalize idxF ⟨⟨a, x, y, s, p, pc⟩, 12, op, nm, md, kd, kn, pl, wr, b⟩ = ix at *
  have hx : IntKind.u8.wrap (b + ix) = (b + ix) % 256 := by rw [IntKind.wrap_u8]
  have hQ : 0 ≤ (b + ix) % 256 ∧ (b + ix) % 256 ≤ 65535 := by omega
  generalize (b + ix) % 256 = Q at *
  have hACd : AC = accF ⟨⟨a, x, y, s, p, pc⟩, 12, op, nm, md, kd, kn, Q, Q, b⟩ := hAC
  go_enter Tryd.func10, Tryd.ntmps10
  (repeat (first | (with_reducible refine inBlock_far (by decide) ?_) | (with_reducible refine then_exit ?_) | (with_reducible refine inBlock_here ?_) | ((fail_if_success (with_reducible refine calls_id ?_)); go_step)))
  go_region_with ((first | (go_at_call 34; refine (ki _ hR.drew).mono ?_; rintro e w_ ⟨rfl, rfl⟩) | fail))
  all_goals (
    (repeat (first | (with_reducible refine inBlock_far (by decide) ?_) | (with_reducible refine then_exit ?_) | (with_reducible refine inBlock_here ?_) | ((fail_if_success (with_reducible refine calls_id ?_)); go_step)))
    refine (access_any ⟨⟨a, x, y, s, p, pc⟩, 12, op, nm, md, kd, kn, Q, Q, b⟩ (by exact ⟨⟨a0, a1, x0, x1, y0, y1, s0, s1, p0, p1, pc0, pc1⟩, t0, t1, op0, op1, md0, md1, kd0, kd1, hQ.1, hQ.2, hQ.1, hQ.2, b0, b1⟩) _ B (by apply CpuS.mk2; (repeat (first | with_reducible exact hR | apply CpuR.set | apply CpuR.drew)); rfl)).mono ?_
    rintro e w_ ⟨rfl, rfl⟩
    dsimp only
    (repeat (first | (with_reducible refine inBlock_far (by decide) ?_) | (with_reducible refine then_exit ?_) | (with_reducible refine inBlock_here ?_) | ((fail_if_success (with_reducible refine calls_id ?_)); go_step)))
    (try rw [← hACd]))
  all_goals first | refine bodyPost_end (results_none rfl _ _ _) rfl ⟨rfl, ?_, ?_⟩ | refine bodyPost_ret (results_none rfl _ _ _) rfl ⟨rfl, ?_, ?_⟩
  all_goals first
    | (apply CpuS.mk2; (repeat (first | with_reducible exact hR | apply CpuR.set | apply CpuR.drew)); rfl)
    | (repeat (first | with_reducible exact Besd.refl _ _ _ | with_reducible exact Besd.refl _ _ _ | refine Besd.own ?_ _ _ | refine Besd.drew ?_))
set_option maxRecDepth 100000 in
set_option maxHeartbeats 8000000 in
theorem clock_13 (c : Cp) (ok : c.ok) (w : World) (B : Nat) (hS : CpuS w B c) (ht : c.t = 13) (v : Int) (v0 : 0 ≤ v) (v1 : v ≤ 255) : Calls Tryd.prog 10 #[.pointer (some ⟨B, 0, none⟩), .int .u8 v] w (MPost w B (clockN 13 c v)) := by
  obtain ⟨⟨a, x, y, s, p, pc⟩, t, op, nm, md, kd, kn, pl, wr, b⟩ := c
  simp only [] at ht
  subst ht
  obtain ⟨c0, c1, c2, c3, c4, c5, c6, c7, c8, c9, c10, c11, c12, c13, c14⟩ := hS.all
  obtain ⟨⟨a0, a1, x0, x1, y0, y1, s0, s1, p0, p1, pc0, pc1⟩, t0, t1, op0, op1, md0, md1, kd0, kd1, pl0, pl1, wr0, wr1, b0, b1⟩ := ok
  simp only [] at a0 a1 x0 x1 y0 y1 s0 s1 p0 p1 pc0 pc1 t0 t1 op0 op1 md0 md1 kd0 kd1 pl0 pl1 wr0 wr1 b0 b1
  have ff := hS.thaw
  have hlt := hS.lt
  have hR : CpuR w B _ := hS
  have hne : ¬ w.heap.size = B := by omega
  have hne' : ¬ B = w.heap.size := by omega
  have hpc0 : 0 ≤ (pc + 1) % 65536 := by omega
  have hpc1 : (pc + 1) % 65536 ≤ 65535 := by omega
  have hv2 : v ≤ 65535 := by omega
  go_enter Tryd.func10, Tryd.ntmps10
  (repeat (first | (with_reducible refine inBlock_far (by decide) ?_) | (with_reducible refine then_exit ?_) | (with_reducible refine inBlock_here ?_) | ((fail_if_success (with_reducible refine calls_id ?_)); go_step)))
  refine (next_any ⟨⟨a, x, y, s, p, pc⟩, 13, op, nm, md, kd, kn, pl, wr, v⟩ (by exact ⟨⟨a0, a1, x0, x1, y0, y1, s0, s1, p0, p1, pc0, pc1⟩, t0, t1, op0, op1, md0, md1, kd0, kd1, pl0, pl1, wr0, wr1, v0, v1⟩) _ B (by apply CpuS.mk2; (repeat (first | with_reducible exact hR | apply CpuR.set)); rfl) 14).mono ?_
  rintro e u1 ⟨rfl, hS1, hB1p⟩
  have hB1 : Besd B w.heap.size w u1 := Besd.trans (by repeat (first | with_reducible exact Besd.refl _ _ _ | refine Besd.own ?_ _ _)) hB1p (by first | exact Nat.le_refl _ | (simp only [World.size_setCell]; exact Nat.le_refl _))
  have hR1 : CpuR u1 B (Cp.row ⟨⟨a, x, y, s, p, (pc + 1) % 65536⟩, 14, op, nm, md, kd, kn, pl, wr, v⟩) := hS1
  clear c0 c1 c2 c3 c4 c5 c6 c7 c8 c9 c10 c11 c12 c13 c14 ff
  obtain ⟨c0, c1, c2, c3, c4, c5, c6, c7, c8, c9, c10, c11, c12, c13, c14⟩ := CpuS.all (show CpuS u1 B ⟨⟨a, x, y, s, p, (pc + 1) % 65536⟩, 14, op, nm, md, kd, kn, pl, wr, v⟩ from hR1)
  have ff := CpuR.thaw hR1
  (try dsimp only)
  (repeat (first | (with_reducible refine inBlock_far (by decide) ?_) | (with_reducible refine then_exit ?_) | (with_reducible refine inBlock_here ?_) | ((fail_if_success (with_reducible refine calls_id ?_)); go_step)))
  all_goals first | refine bodyPost_end (results_none rfl _ _ _) rfl ⟨rfl, ?_, ?_⟩ | refine bodyPost_ret (results_none rfl _ _ _) rfl ⟨rfl, ?_, ?_⟩
  all_goals first
    | (apply CpuS.mk2; (repeat (first | with_reducible exact hR1 | apply CpuR.set | apply CpuR.drew)); rfl)
    | (repeat (first | with_reducible exact hB1 | with_reducible exact Besd.refl _ _ _ | refine Besd.own ?_ _ _ | refine Besd.drew ?_))
set_option maxRecDepth 100000 in
set_option maxHeartbeats 8000000 in
theorem clock_14 (c : Cp) (ok : c.ok) (w : World) (B : Nat) (hS : CpuS w B c) (ht : c.t = 14) (v : Int) (v0 : 0 ≤ v) (v1 : v ≤ 255) : Calls Tryd.prog 10 #[.pointer (some ⟨B, 0, none⟩), .int .u8 v] w (MPost w B (clockN 14 c v)) := by
  obtain ⟨⟨a, x, y, s, p, pc⟩, t, op, nm, md, kd, kn, pl, wr, b⟩ := c
  simp only [] at ht
  subst ht
  obtain ⟨c0, c1, c2, c3, c4, c5, c6, c7, c8, c9, c10, c11, c12, c13, c14⟩ := hS.all
  obtain ⟨⟨a0, a1, x0, x1, y0, y1, s0, s1, p0, p1, pc0, pc1⟩, t0, t1, op0, op1, md0, md1, kd0, kd1, pl0, pl1, wr0, wr1, b0, b1⟩ := ok
  simp only [] at a0 a1 x0 x1 y0 y1 s0 s1 p0 p1 pc0 pc1 t0 t1 op0 op1 md0 md1 kd0 kd1 pl0 pl1 wr0 wr1 b0 b1
  have ff := hS.thaw
  have hlt := hS.lt
  have hR : CpuR w B _ := hS
  have hne : ¬ w.heap.size = B := by omega
  have hne' : ¬ B = w.heap.size := by omega
  have hpc0 : 0 ≤ (pc + 1) % 65536 := by omega
  have hpc1 : (pc + 1) % 65536 ≤ 65535 := by omega
  have hv2 : v ≤ 65535 := by omega
  go_enter Tryd.func10, Tryd.ntmps10
  (repeat (first | (with_reducible refine inBlock_far (by decide) ?_) | (with_reducible refine then_exit ?_) | (with_reducible refine inBlock_here ?_) | ((fail_if_success (with_reducible refine calls_id ?_)); go_step)))
  refine (far_any ⟨⟨a, x, y, s, p, (pc + 1) % 65536⟩, 14, op, nm, md, kd, kn, pl, wr, b⟩ (by exact ⟨⟨a0, a1, x0, x1, y0, y1, s0, s1, p0, p1, hpc0, hpc1⟩, t0, t1, op0, op1, md0, md1, kd0, kd1, pl0, pl1, wr0, wr1, b0, b1⟩) _ B (by apply CpuS.mk2; (repeat (first | with_reducible exact hR | apply CpuR.set)); rfl) b v b0 b1 v0 v1).mono ?_
  rintro e u9 ⟨rfl, hS9, hB9p⟩
  have hB9 : Besd B w.heap.size w u9 := Besd.trans (by repeat (first | with_reducible exact Besd.refl _ _ _ | refine Besd.own ?_ _ _)) hB9p (by first | exact Nat.le_refl _ | (simp only [World.size_setCell]; exact Nat.le_refl _))
  (try dsimp only)
  (repeat (first | (with_reducible refine inBlock_far (by decide) ?_) | (with_reducible refine then_exit ?_) | (with_reducible refine inBlock_here ?_) | ((fail_if_success (with_reducible refine calls_id ?_)); go_step)))
  first | exact bodyPost_end (results_none rfl _ _ _) rfl ⟨rfl, hS9, hB9⟩ | exact bodyPost_ret (results_none rfl _ _ _) rfl ⟨rfl, hS9, hB9⟩
end Go.Proofs.YthepcjecmlkaiaaDoor.Mi
