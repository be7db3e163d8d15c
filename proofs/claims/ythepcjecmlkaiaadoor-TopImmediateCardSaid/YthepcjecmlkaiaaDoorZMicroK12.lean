/- Package micro: what a cycle leaves at each step. -/
import Derived.Test.YthepcjecmlkaiaaDoorZMicroQ
import Derived.Test.YthepcjecmlkaiaaDoorZAluWalks
import Derived.Test.YthepcjecmlkaiaaDoorZKeep
import Derived.Deep.RegionHeld3
import Derived.RegionTactic
import Derived.Deep.RegionWith
import Derived.BigQuiet
import Derived.IntWalk
namespace Go.Proofs.YthepcjecmlkaiaaDoor.Mi
open Go Go.RowKit Go.Deep Go.Proofs.YthepcjecmlkaiaaDoor Go.Proofs.YthepcjecmlkaiaaDoor.Ex
set_option linter.unusedVariables false
set_option linter.unusedSimpArgs false
set_option maxRecDepth 100000 in
set_option maxHeartbeats 8000000 in
theorem plain_2 (c : Cp) (ok : c.ok) (w : World) (B : Nat) (hS : CpuS w B c) (ht : c.t = 2) (v : Int) (v0 : 0 ≤ v) (v1 : v ≤ 255) : Calls Tryd.prog 31 #[.pointer (some ⟨B, 0, none⟩), .int .u8 v] w (MPost w B (clockN 2 c v)) := by
  obtain ⟨⟨a, x, y, s, p, pc⟩, t, op, nm, md, kd, kn, pl, wr, b⟩ := c
  simp only [] at ht
  subst ht
  obtain ⟨c0, c1, c2, c3, c4, c5, c6, c7, c8, c9, c10, c11, c12, c13, c14⟩ := hS.all
  obtain ⟨⟨a0, a1, x0, x1, y0, y1, s0, s1, p0, p1, pc0, pc1⟩, t0, t1, op0, op1, md0, md1, kd0, kd1, pl0, pl1, wr0, wr1, b0, b1⟩ := ok
  simp only [] at a0 a1 x0 x1 y0 y1 s0 s1 p0 p1 pc0 pc1 t0 t1 op0 op1 md0 md1 kd0 kd1 pl0 pl1 wr0 wr1 b0 b1
  have ff := hS.thaw
  have hlt := hS.lt
  have hR : CpuR w B _ := hS
  have hne : ¬ w.heap.size = B := by omega
  have hne' : ¬ B = w.heap.size := by omega
  have hpc0 : 0 ≤ (pc + 1) % 65536 := by omega
  have hpc1 : (pc + 1) % 65536 ≤ 65535 := by omega
  have hv2 : v ≤ 65535 := by omega
  go_enter Tryd.func31, Tryd.ntmps31
  (repeat (first | (with_reducible refine inBlock_far (by decide) ?_) | (with_reducible refine then_exit ?_) | (with_reducible refine inBlock_here ?_) | ((fail_if_success (with_reducible refine calls_id ?_)); go_step)))
  all_goals first | refine bodyPost_end (results_none rfl _ _ _) rfl ⟨rfl, ?_, ?_⟩ | refine bodyPost_ret (results_none rfl _ _ _) rfl ⟨rfl, ?_, ?_⟩
  all_goals first
    | (apply CpuS.mk2; (repeat (first | with_reducible exact hR | apply CpuR.set | apply CpuR.drew)); rfl)
    | (repeat (first | with_reducible exact Besd.refl _ _ _ | with_reducible exact Besd.refl _ _ _ | refine Besd.own ?_ _ _ | refine Besd.drew ?_))
set_option maxRecDepth 100000 in
set_option maxHeartbeats 8000000 in
theorem plain_3 (c : Cp) (ok : c.ok) (w : World) (B : Nat) (hS : CpuS w B c) (ht : c.t = 3) (v : Int) (v0 : 0 ≤ v) (v1 : v ≤ 255) : Calls Tryd.prog 31 #[.pointer (some ⟨B, 0, none⟩), .int .u8 v] w (MPost w B (clockN 3 c v)) := by
  obtain ⟨⟨a, x, y, s, p, pc⟩, t, op, nm, md, kd, kn, pl, wr, b⟩ := c
  simp only [] at ht
  subst ht
  obtain ⟨c0, c1, c2, c3, c4, c5, c6, c7, c8, c9, c10, c11, c12, c13, c14⟩ := hS.all
  obtain ⟨⟨a0, a1, x0, x1, y0, y1, s0, s1, p0, p1, pc0, pc1⟩, t0, t1, op0, op1, md0, md1, kd0, kd1, pl0, pl1, wr0, wr1, b0, b1⟩ := ok
  simp only [] at a0 a1 x0 x1 y0 y1 s0 s1 p0 p1 pc0 pc1 t0 t1 op0 op1 md0 md1 kd0 kd1 pl0 pl1 wr0 wr1 b0 b1
  have ff := hS.thaw
  have hlt := hS.lt
  have hR : CpuR w B _ := hS
  have hne : ¬ w.heap.size = B := by omega
  have hne' : ¬ B = w.heap.size := by omega
  have hpc0 : 0 ≤ (pc + 1) % 65536 := by omega
  have hpc1 : (pc + 1) % 65536 ≤ 65535 := by omega
  have hv2 : v ≤ 65535 := by omega
  go_enter Tryd.func31, Tryd.ntmps31
  (repeat (first | (with_reducible refine inBlock_far (by decide) ?_) | (with_reducible refine then_exit ?_) | (with_reducible refine inBlock_here ?_) | ((fail_if_success (with_reducible refine calls_id ?_)); go_step)))
  all_goals first | refine bodyPost_end (results_none rfl _ _ _) rfl ⟨rfl, ?_, ?_⟩ | refine bodyPost_ret (results_none rfl _ _ _) rfl ⟨rfl, ?_, ?_⟩
  all_goals first
    | (apply CpuS.mk2; (repeat (first | with_reducible exact hR | apply CpuR.set | apply CpuR.drew)); rfl)
    | (repeat (first | with_reducible exact Besd.refl _ _ _ | with_reducible exact Besd.refl _ _ _ | refine Besd.own ?_ _ _ | refine Besd.drew ?_))
set_option maxRecDepth 100000 in
set_option maxHeartbeats 8000000 in
theorem plain_7 (c : Cp) (ok : c.ok) (w : World) (B : Nat) (hS : CpuS w B c) (ht : c.t = 7) (v : Int) (v0 : 0 ≤ v) (v1 : v ≤ 255) : Calls Tryd.prog 31 #[.pointer (some ⟨B, 0, none⟩), .int .u8 v] w (MPost w B (clockN 7 c v)) := by
  obtain ⟨⟨a, x, y, s, p, pc⟩, t, op, nm, md, kd, kn, pl, wr, b⟩ := c
  simp only [] at ht
  subst ht
  obtain ⟨c0, c1, c2, c3, c4, c5, c6, c7, c8, c9, c10, c11, c12, c13, c14⟩ := hS.all
  obtain ⟨⟨a0, a1, x0, x1, y0, y1, s0, s1, p0, p1, pc0, pc1⟩, t0, t1, op0, op1, md0, md1, kd0, kd1, pl0, pl1, wr0, wr1, b0, b1⟩ := ok
  simp only [] at a0 a1 x0 x1 y0 y1 s0 s1 p0 p1 pc0 pc1 t0 t1 op0 op1 md0 md1 kd0 kd1 pl0 pl1 wr0 wr1 b0 b1
  have ff := hS.thaw
  have hlt := hS.lt
  have hR : CpuR w B _ := hS
  have hne : ¬ w.heap.size = B := by omega
  have hne' : ¬ B = w.heap.size := by omega
  have hpc0 : 0 ≤ (pc + 1) % 65536 := by omega
  have hpc1 : (pc + 1) % 65536 ≤ 65535 := by omega
  have hv2 : v ≤ 65535 := by omega
  go_enter Tryd.func31, Tryd.ntmps31
  (repeat (first | (with_reducible refine inBlock_far (by decide) ?_) | (with_reducible refine then_exit ?_) | (with_reducible refine inBlock_here ?_) | ((fail_if_success (with_reducible refine calls_id ?_)); go_step)))
  all_goals first | refine bodyPost_end (results_none rfl _ _ _) rfl ⟨rfl, ?_, ?_⟩ | refine bodyPost_ret (results_none rfl _ _ _) rfl ⟨rfl, ?_, ?_⟩
  all_goals first
    | (apply CpuS.mk2; (repeat (first | with_reducible exact hR | apply CpuR.set | apply CpuR.drew)); rfl)
    | (repeat (first | with_reducible exact Besd.refl _ _ _ | with_reducible exact Besd.refl _ _ _ | refine Besd.own ?_ _ _ | refine Besd.drew ?_))
set_option maxRecDepth 100000 in
set_option maxHeartbeats 8000000 in
theorem plain_8 (c : Cp) (ok : c.ok) (w : World) (B : Nat) (hS : CpuS w B c) (ht : c.t = 8) (v : Int) (v0 : 0 ≤ v) (v1 : v ≤ 255) : Calls Tryd.prog 31 #[.pointer (some ⟨B, 0, none⟩), .int .u8 v] w (MPost w B (clockN 8 c v)) := by
  obtain ⟨⟨a, x, y, s, p, pc⟩, t, op, nm, md, kd, kn, pl, wr, b⟩ := c
  simp only [] at ht
  subst ht
  obtain ⟨c0, c1, c2, c3, c4, c5, c6, c7, c8, c9, c10, c11, c12, c13, c14⟩ := hS.all
  obtain ⟨⟨a0, a1, x0, x1, y0, y1, s0, s1, p0, p1, pc0, pc1⟩, t0, t1, op0, op1, md0, md1, kd0, kd1, pl0, pl1, wr0, wr1, b0, b1⟩ := ok
  simp only [] at a0 a1 x0 x1 y0 y1 s0 s1 p0 p1 pc0 pc1 t0 t1 op0 op1 md0 md1 kd0 kd1 pl0 pl1 wr0 wr1 b0 b1
  have ff := hS.thaw
  have hlt := hS.lt
  have hR : CpuR w B _ := hS
  have hne : ¬ w.heap.size = B := by omega
  have hne' : ¬ B = w.heap.size := by omega
  have hpc0 : 0 ≤ (pc + 1) % 65536 := by omega
  have hpc1 : (pc + 1) % 65536 ≤ 65535 := by omega
  have hv2 : v ≤ 65535 := by omega
  go_enter Tryd.func31, Tryd.ntmps31
  (repeat (first | (with_reducible refine inBlock_far (by decide) ?_) | (with_reducible refine then_exit ?_) | (with_reducible refine inBlock_here ?_) | ((fail_if_success (with_reducible refine calls_id ?_)); go_step)))
  refine (word_any b v b0 b1 v0 v1 _).mono ?_
  rintro e w_ ⟨rfl, rfl⟩
  dsimp only
  (repeat (first | (with_reducible refine inBlock_far (by decide) ?_) | (with_reducible refine then_exit ?_) | (with_reducible refine inBlock_here ?_) | ((fail_if_success (with_reducible refine calls_id ?_)); go_step)))
  all_goals first | refine bodyPost_end (results_none rfl _ _ _) rfl ⟨rfl, ?_, ?_⟩ | refine bodyPost_ret (results_none rfl _ _ _) rfl ⟨rfl, ?_, ?_⟩
  all_goals first
    | (apply CpuS.mk2; (repeat (first | with_reducible exact hR | apply CpuR.set | apply CpuR.drew)); rfl)
    | (repeat (first | with_reducible exact Besd.refl _ _ _ | with_reducible exact Besd.refl _ _ _ | refine Besd.own ?_ _ _ | refine Besd.drew ?_))
set_option maxRecDepth 100000 in
set_option maxHeartbeats 8000000 in
theorem plain_37 (c : Cp) (ok : c.ok) (w : World) (B : Nat) (hS : CpuS w B c) (ht : c.t = 37) (v : Int) (v0 : 0 ≤ v) (v1 : v ≤ 255) : Calls Tryd.prog 31 #[.pointer (some ⟨B, 0, none⟩), .int .u8 v] w (MPost w B (clockN 37 c v)) := by
  obtain ⟨⟨a, x, y, s, p, pc⟩, t, op, nm, md, kd, kn, pl, wr, b⟩ := c
  simp only [] at ht
  subst ht
  obtain ⟨c0, c1, c2, c3, c4, c5, c6, c7, c8, c9, c10, c11, c12, c13, c14⟩ := hS.all
  obtain ⟨⟨a0, a1, x0, x1, y0, y1, s0, s1, p0, p1, pc0, pc1⟩, t0, t1, op0, op1, md0, md1, kd0, kd1, pl0, pl1, wr0, wr1, b0, b1⟩ := ok
  simp only [] at a0 a1 x0 x1 y0 y1 s0 s1 p0 p1 pc0 pc1 t0 t1 op0 op1 md0 md1 kd0 kd1 pl0 pl1 wr0 wr1 b0 b1
  have ff := hS.thaw
  have hlt := hS.lt
  have hR : CpuR w B _ := hS
  have hne : ¬ w.heap.size = B := by omega
  have hne' : ¬ B = w.heap.size := by omega
  have hpc0 : 0 ≤ (pc + 1) % 65536 := by omega
  have hpc1 : (pc + 1) % 65536 ≤ 65535 := by omega
  have hv2 : v ≤ 65535 := by omega
  go_enter Tryd.func31, Tryd.ntmps31
  (repeat (first | (with_reducible refine inBlock_far (by decide) ?_) | (with_reducible refine then_exit ?_) | (with_reducible refine inBlock_here ?_) | ((fail_if_success (with_reducible refine calls_id ?_)); go_step)))
  all_goals first | refine bodyPost_end (results_none rfl _ _ _) rfl ⟨rfl, ?_, ?_⟩ | refine bodyPost_ret (results_none rfl _ _ _) rfl ⟨rfl, ?_, ?_⟩
  all_goals first
    | (apply CpuS.mk2; (repeat (first | with_reducible exact hR | apply CpuR.set | apply CpuR.drew)); rfl)
    | (repeat (first | with_reducible exact Besd.refl _ _ _ | with_reducible exact Besd.refl _ _ _ | refine Besd.own ?_ _ _ | refine Besd.drew ?_))
set_option maxRecDepth 100000 in
set_option maxHeartbeats 8000000 in
theorem plain_42 (c : Cp) (ok : c.ok) (w : World) (B : Nat) (hS : CpuS w B c) (ht : c.t = 42) (v : Int) (v0 : 0 ≤ v) (v1 : v ≤ 255) : Calls Tryd.prog 31 #[.pointer (some ⟨B, 0, none⟩), .int .u8 v] w (MPost w B (clockN 42 c v)) := by
  obtain ⟨⟨a, x, y, s, p, pc⟩, t, op, nm, md, kd, kn, pl, wr, b⟩ := c
  simp only [] at ht
  subst ht
  obtain ⟨c0, c1, c2, c3, c4, c5, c6, c7, c8, c9, c10, c11, c12, c13, c14⟩ := hS.all
  obtain ⟨⟨a0, a1, x0, x1, y0, y1, s0, s1, p0, p1, pc0, pc1⟩, t0, t1, op0, op1, md0, md1, kd0, kd1, pl0, pl1, wr0, wr1, b0, b1⟩ := ok
  simp only [] at a0 a1 x0 x1 y0 y1 s0 s1 p0 p1 pc0 pc1 t0 t1 op0 op1 md0 md1 kd0 kd1 pl0 pl1 wr0 wr1 b0 b1
  have ff := hS.thaw
  have hlt := hS.lt
  have hR : CpuR w B _ := hS
  have hne : ¬ w.heap.size = B := by omega
  have hne' : ¬ B = w.heap.size := by omega
  have hpc0 : 0 ≤ (pc + 1) % 65536 := by omega
  have hpc1 : (pc + 1) % 65536 ≤ 65535 := by omega
  have hv2 : v ≤ 65535 := by omega
  go_enter Tryd.func31, Tryd.ntmps31
  (repeat (first | (with_reducible refine inBlock_far (by decide) ?_) | (with_reducible refine then_exit ?_) | (with_reducible refine inBlock_here ?_) | ((fail_if_success (with_reducible refine calls_id ?_)); go_step)))
  all_goals first | refine bodyPost_end (results_none rfl _ _ _) rfl ⟨rfl, ?_, ?_⟩ | refine bodyPost_ret (results_none rfl _ _ _) rfl ⟨rfl, ?_, ?_⟩
  all_goals first
    | (apply CpuS.mk2; (repeat (first | with_reducible exact hR | apply CpuR.set | apply CpuR.drew)); rfl)
    | (repeat (first | with_reducible exact Besd.refl _ _ _ | with_reducible exact Besd.refl _ _ _ | refine Besd.own ?_ _ _ | refine Besd.drew ?_))
set_option maxRecDepth 100000 in
set_option maxHeartbeats 8000000 in
theorem plain_47 (c : Cp) (ok : c.ok) (w : World) (B : Nat) (hS : CpuS w B c) (ht : c.t = 47) (v : Int) (v0 : 0 ≤ v) (v1 : v ≤ 255) : Calls Tryd.prog 31 #[.pointer (some ⟨B, 0, none⟩), .int .u8 v] w (MPost w B (clockN 47 c v)) := by
  obtain ⟨⟨a, x, y, s, p, pc⟩, t, op, nm, md, kd, kn, pl, wr, b⟩ := c
  simp only [] at ht
  subst ht
  obtain ⟨c0, c1, c2, c3, c4, c5, c6, c7, c8, c9, c10, c11, c12, c13, c14⟩ := hS.all
  obtain ⟨⟨a0, a1, x0, x1, y0, y1, s0, s1, p0, p1, pc0, pc1⟩, t0, t1, op0, op1, md0, md1, kd0, kd1, pl0, pl1, wr0, wr1, b0, b1⟩ := ok
  simp only [] at a0 a1 x0 x1 y0 y1 s0 s1 p0 p1 pc0 pc1 t0 t1 op0 op1 md0 md1 kd0 kd1 pl0 pl1 wr0 wr1 b0 b1
  have ff := hS.thaw
  have hlt := hS.lt
  have hR : CpuR w B _ := hS
  have hne : ¬ w.heap.size = B := by omega
  have hne' : ¬ B = w.heap.size := by omega
  have hpc0 : 0 ≤ (pc + 1) % 65536 := by omega
  have hpc1 : (pc + 1) % 65536 ≤ 65535 := by omega
  have hv2 : v ≤ 65535 := by omega
  go_enter Tryd.func31, Tryd.ntmps31
  (repeat (first | (with_reducible refine inBlock_far (by decide) ?_) | (with_reducible refine then_exit ?_) | (with_reducible refine inBlock_here ?_) | ((fail_if_success (with_reducible refine calls_id ?_)); go_step)))
  all_goals first | refine bodyPost_end (results_none rfl _ _ _) rfl ⟨rfl, ?_, ?_⟩ | refine bodyPost_ret (results_none rfl _ _ _) rfl ⟨rfl, ?_, ?_⟩
  all_goals first
    | (apply CpuS.mk2; (repeat (first | with_reducible exact hR | apply CpuR.set | apply CpuR.drew)); rfl)
    | (repeat (first | with_reducible exact Besd.refl _ _ _ | with_reducible exact Besd.refl _ _ _ | refine Besd.own ?_ _ _ | refine Besd.drew ?_))
set_option maxRecDepth 100000 in
set_option maxHeartbeats 8000000 in
theorem plain_55 (c : Cp) (ok : c.ok) (w : World) (B : Nat) (hS : CpuS w B c) (ht : c.t = 55) (v : Int) (v0 : 0 ≤ v) (v1 : v ≤ 255) : Calls Tryd.prog 31 #[.pointer (some ⟨B, 0, none⟩), .int .u8 v] w (MPost w B (clockN 55 c v)) := by
  obtain ⟨⟨a, x, y, s, p, pc⟩, t, op, nm, md, kd, kn, pl, wr, b⟩ := c
  simp only [] at ht
  subst ht
  obtain ⟨c0, c1, c2, c3, c4, c5, c6, c7, c8, c9, c10, c11, c12, c13, c14⟩ := hS.all
  obtain ⟨⟨a0, a1, x0, x1, y0, y1, s0, s1, p0, p1, pc0, pc1⟩, t0, t1, op0, op1, md0, md1, kd0, kd1, pl0, pl1, wr0, wr1, b0, b1⟩ := ok
  simp only [] at a0 a1 x0 x1 y0 y1 s0 s1 p0 p1 pc0 pc1 t0 t1 op0 op1 md0 md1 kd0 kd1 pl0 pl1 wr0 wr1 b0 b1
  have ff := hS.thaw
  have hlt := hS.lt
  have hR : CpuR w B _ := hS
  have hne : ¬ w.heap.size = B := by omega
  have hne' : ¬ B = w.heap.size := by omega
  have hpc0 : 0 ≤ (pc + 1) % 65536 := by omega
  have hpc1 : (pc + 1) % 65536 ≤ 65535 := by omega
  have hv2 : v ≤ 65535 := by omega
  go_enter Tryd.func31, Tryd.ntmps31
  (repeat (first | (with_reducible refine inBlock_far (by decide) ?_) | (with_reducible refine then_exit ?_) | (with_reducible refine inBlock_here ?_) | ((fail_if_success (with_reducible refine calls_id ?_)); go_step)))
  all_goals first | refine bodyPost_end (results_none rfl _ _ _) rfl ⟨rfl, ?_, ?_⟩ | refine bodyPost_ret (results_none rfl _ _ _) rfl ⟨rfl, ?_, ?_⟩
  all_goals first
    | (apply CpuS.mk2; (repeat (first | with_reducible exact hR | apply CpuR.set | apply CpuR.drew)); rfl)
    | (repeat (first | with_reducible exact Besd.refl _ _ _ | with_reducible exact Besd.refl _ _ _ | refine Besd.own ?_ _ _ | refine Besd.drew ?_))
set_option maxRecDepth 100000 in
set_option maxHeartbeats 8000000 in
theorem plain_56 (c : Cp) (ok : c.ok) (w : World) (B : Nat) (hS : CpuS w B c) (ht : c.t = 56) (v : Int) (v0 : 0 ≤ v) (v1 : v ≤ 255) : Calls Tryd.prog 31 #[.pointer (some ⟨B, 0, none⟩), .int .u8 v] w (MPost w B (clockN 56 c v)) := by
  obtain ⟨⟨a, x, y, s, p, pc⟩, t, op, nm, md, kd, kn, pl, wr, b⟩ := c
  simp only [] at ht
  subst ht
  obtain ⟨c0, c1, c2, c3, c4, c5, c6, c7, c8, c9, c10, c11, c12, c13, c14⟩ := hS.all
  obtain ⟨⟨a0, a1, x0, x1, y0, y1, s0, s1, p0, p1, pc0, pc1⟩, t0, t1, op0, op1, md0, md1, kd0, kd1, pl0, pl1, wr0, wr1, b0, b1⟩ := ok
  simp only [] at a0 a1 x0 x1 y0 y1 s0 s1 p0 p1 pc0 pc1 t0 t1 op0 op1 md0 md1 kd0 kd1 pl0 pl1 wr0 wr1 b0 b1
  have ff := hS.thaw
  have hlt := hS.lt
  have hR : CpuR w B _ := hS
  have hne : ¬ w.heap.size = B := by omega
  have hne' : ¬ B = w.heap.size := by omega
  have hpc0 : 0 ≤ (pc + 1) % 65536 := by omega
  have hpc1 : (pc + 1) % 65536 ≤ 65535 := by omega
  have hv2 : v ≤ 65535 := by omega
  go_enter Tryd.func31, Tryd.ntmps31
  (repeat (first | (with_reducible refine inBlock_far (by decide) ?_) | (with_reducible refine then_exit ?_) | (with_reducible refine inBlock_here ?_) | ((fail_if_success (with_reducible refine calls_id ?_)); go_step)))
  refine (word_any b v b0 b1 v0 v1 _).mono ?_
  rintro e w_ ⟨rfl, rfl⟩
  dsimp only
  (repeat (first | (with_reducible refine inBlock_far (by decide) ?_) | (with_reducible refine then_exit ?_) | (with_reducible refine inBlock_here ?_) | ((fail_if_success (with_reducible refine calls_id ?_)); go_step)))
  all_goals first | refine bodyPost_end (results_none rfl _ _ _) rfl ⟨rfl, ?_, ?_⟩ | refine bodyPost_ret (results_none rfl _ _ _) rfl ⟨rfl, ?_, ?_⟩
  all_goals first
    | (apply CpuS.mk2; (repeat (first | with_reducible exact hR | apply CpuR.set | apply CpuR.drew)); rfl)
    | (repeat (first | with_reducible exact Besd.refl _ _ _ | with_reducible exact Besd.refl _ _ _ | refine Besd.own ?_ _ _ | refine Besd.drew ?_))
set_option maxRecDepth 100000 in
set_option maxHeartbeats 8000000 in
theorem flow_24 (c : Cp) (ok : c.ok) (w : World) (B : Nat) (hS : CpuS w B c) (ht : c.t = 24) (v : Int) (v0 : 0 ≤ v) (v1 : v ≤ 255) : Calls Tryd.prog 39 #[.pointer (some ⟨B, 0, none⟩), .int .u8 v] w (MPost w B (clockN 24 c v)) := by
  obtain ⟨⟨a, x, y, s, p, pc⟩, t, op, nm, md, kd, kn, pl, wr, b⟩ := c
  simp only [] at ht
  subst ht
  obtain ⟨c0, c1, c2, c3, c4, c5, c6, c7, c8, c9, c10, c11, c12, c13, c14⟩ := hS.all
  obtain ⟨⟨a0, a1, x0, x1, y0, y1, s0, s1, p0, p1, pc0, pc1⟩, t0, t1, op0, op1, md0, md1, kd0, kd1, pl0, pl1, wr0, wr1, b0, b1⟩ := ok
  simp only [] at a0 a1 x0 x1 y0 y1 s0 s1 p0 p1 pc0 pc1 t0 t1 op0 op1 md0 md1 kd0 kd1 pl0 pl1 wr0 wr1 b0 b1
  have ff := hS.thaw
  have hlt := hS.lt
  have hR : CpuR w B _ := hS
  have hne : ¬ w.heap.size = B := by omega
  have hne' : ¬ B = w.heap.size := by omega
  have hpc0 : 0 ≤ (pc + 1) % 65536 := by omega
  have hpc1 : (pc + 1) % 65536 ≤ 65535 := by omega
  have hv2 : v ≤ 65535 := by omega
  have kg := fun w' => goes_any p p0 p1 nm w'
  by_cases hg : goesF (goK nm) p = true
  · rw [hg] at kg
    show Calls _ _ _ _ (MPost w B (Cp.mk _ (if goesF (goK nm) p = true then _ else _) _ _ _ _ _ _ _ _))
    rw [if_pos hg]
    go_enter Tryd.func39, Tryd.ntmps39
    (repeat (first | (with_reducible refine inBlock_far (by decide) ?_) | (with_reducible refine then_exit ?_) | (with_reducible refine inBlock_here ?_) | ((fail_if_success (with_reducible refine calls_id ?_)); go_step)))
    refine (next_any ⟨⟨a, x, y, s, p, pc⟩, 24, op, nm, md, kd, kn, pl, wr, v⟩ (by exact ⟨⟨a0, a1, x0, x1, y0, y1, s0, s1, p0, p1, pc0, pc1⟩, t0, t1, op0, op1, md0, md1, kd0, kd1, pl0, pl1, wr0, wr1, v0, v1⟩) _ B (by apply CpuS.mk2; (repeat (first | with_reducible exact hR | apply CpuR.set)); rfl) 0).mono ?_
    rintro e u1 ⟨rfl, hS1, hB1p⟩
    have hB1 : Besd B w.heap.size w u1 := Besd.trans (by repeat (first | with_reducible exact Besd.refl _ _ _ | refine Besd.own ?_ _ _)) hB1p (by first | exact Nat.le_refl _ | (simp only [World.size_setCell]; exact Nat.le_refl _))
    have hR1 : CpuR u1 B (Cp.row ⟨⟨a, x, y, s, p, (pc + 1) % 65536⟩, 0, op, nm, md, kd, kn, pl, wr, v⟩) := hS1
    clear c0 c1 c2 c3 c4 c5 c6 c7 c8 c9 c10 c11 c12 c13 c14 ff
    obtain ⟨c0, c1, c2, c3, c4, c5, c6, c7, c8, c9, c10, c11, c12, c13, c14⟩ := CpuS.all (show CpuS u1 B ⟨⟨a, x, y, s, p, (pc + 1) % 65536⟩, 0, op, nm, md, kd, kn, pl, wr, v⟩ from hR1)
    have ff := CpuR.thaw hR1
    (try dsimp only)
    (repeat (first | (with_reducible refine inBlock_far (by decide) ?_) | (with_reducible refine then_exit ?_) | (with_reducible refine inBlock_here ?_) | ((fail_if_success (with_reducible refine calls_id ?_)); go_step)))
    go_region_with ((first | (go_at_call 61; refine (kg _).mono ?_; rintro e w_ ⟨rfl, rfl⟩) | fail))
    all_goals (repeat (first | (with_reducible refine inBlock_far (by decide) ?_) | (with_reducible refine then_exit ?_) | (with_reducible refine inBlock_here ?_) | ((fail_if_success (with_reducible refine calls_id ?_)); go_step)))
    all_goals first | refine bodyPost_end (results_none rfl _ _ _) rfl ⟨rfl, ?_, ?_⟩ | refine bodyPost_ret (results_none rfl _ _ _) rfl ⟨rfl, ?_, ?_⟩
    all_goals first
      | (apply CpuS.mk2; (repeat (first | with_reducible exact hR1 | apply CpuR.set | apply CpuR.drew)); rfl)
      | (repeat (first | with_reducible exact hB1 | with_reducible exact Besd.refl _ _ _ | refine Besd.own ?_ _ _ | refine Besd.drew ?_))
  · have hg' := Bool.eq_false_iff.2 hg
    rw [hg'] at kg
    show Calls _ _ _ _ (MPost w B (Cp.mk _ (if goesF (goK nm) p = true then _ else _) _ _ _ _ _ _ _ _))
    rw [if_neg hg]
    go_enter Tryd.func39, Tryd.ntmps39
    (repeat (first | (with_reducible refine inBlock_far (by decide) ?_) | (with_reducible refine then_exit ?_) | (with_reducible refine inBlock_here ?_) | ((fail_if_success (with_reducible refine calls_id ?_)); go_step)))
    refine (next_any ⟨⟨a, x, y, s, p, pc⟩, 24, op, nm, md, kd, kn, pl, wr, v⟩ (by exact ⟨⟨a0, a1, x0, x1, y0, y1, s0, s1, p0, p1, pc0, pc1⟩, t0, t1, op0, op1, md0, md1, kd0, kd1, pl0, pl1, wr0, wr1, v0, v1⟩) _ B (by apply CpuS.mk2; (repeat (first | with_reducible exact hR | apply CpuR.set)); rfl) 0).mono ?_
    rintro e u1 ⟨rfl, hS1, hB1p⟩
    have hB1 : Besd B w.heap.size w u1 := Besd.trans (by repeat (first | with_reducible exact Besd.refl _ _ _ | refine Besd.own ?_ _ _)) hB1p (by first | exact Nat.le_refl _ | (simp only [World.size_setCell]; exact Nat.le_refl _))
    have hR1 : CpuR u1 B (Cp.row ⟨⟨a, x, y, s, p, (pc + 1) % 65536⟩, 0, op, nm, md, kd, kn, pl, wr, v⟩) := hS1
    clear c0 c1 c2 c3 c4 c5 c6 c7 c8 c9 c10 c11 c12 c13 c14 ff
    obtain ⟨c0, c1, c2, c3, c4, c5, c6, c7, c8, c9, c10, c11, c12, c13, c14⟩ := CpuS.all (show CpuS u1 B ⟨⟨a, x, y, s, p, (pc + 1) % 65536⟩, 0, op, nm, md, kd, kn, pl, wr, v⟩ from hR1)
    have ff := CpuR.thaw hR1
    (try dsimp only)
    (repeat (first | (with_reducible refine inBlock_far (by decide) ?_) | (with_reducible refine then_exit ?_) | (with_reducible refine inBlock_here ?_) | ((fail_if_success (with_reducible refine calls_id ?_)); go_step)))
    go_region_with ((first | (go_at_call 61; refine (kg _).mono ?_; rintro e w_ ⟨rfl, rfl⟩) | fail))
    all_goals (repeat (first | (with_reducible refine inBlock_far (by decide) ?_) | (with_reducible refine then_exit ?_) | (with_reducible refine inBlock_here ?_) | ((fail_if_success (with_reducible refine calls_id ?_)); go_step)))
    all_goals first | refine bodyPost_end (results_none rfl _ _ _) rfl ⟨rfl, ?_, ?_⟩ | refine bodyPost_ret (results_none rfl _ _ _) rfl ⟨rfl, ?_, ?_⟩
    all_goals first
      | (apply CpuS.mk2; (repeat (first | with_reducible exact hR1 | apply CpuR.set | apply CpuR.drew)); rfl)
      | (repeat (first | with_reducible exact hB1 | with_reducible exact Besd.refl _ _ _ | refine Besd.own ?_ _ _ | refine Besd.drew ?_))
set_option maxRecDepth 100000 in
set_option maxHeartbeats 8000000 in
theorem flow_25 (c : Cp) (ok : c.ok) (w : World) (B : Nat) (hS : CpuS w B c) (ht : c.t = 25) (v : Int) (v0 : 0 ≤ v) (v1 : v ≤ 255) : Calls Tryd.prog 39 #[.pointer (some ⟨B, 0, none⟩), .int .u8 v] w (MPost w B (clockN 25 c v)) := by
  obtain ⟨⟨a, x, y, s, p, pc⟩, t, op, nm, md, kd, kn, pl, wr, b⟩ := c
  simp only [] at ht
  subst ht
  obtain ⟨c0, c1, c2, c3, c4, c5, c6, c7, c8, c9, c10, c11, c12, c13, c14⟩ := hS.all
  obtain ⟨⟨a0, a1, x0, x1, y0, y1, s0, s1, p0, p1, pc0, pc1⟩, t0, t1, op0, op1, md0, md1, kd0, kd1, pl0, pl1, wr0, wr1, b0, b1⟩ := ok
  simp only [] at a0 a1 x0 x1 y0 y1 s0 s1 p0 p1 pc0 pc1 t0 t1 op0 op1 md0 md1 kd0 kd1 pl0 pl1 wr0 wr1 b0 b1
  have ff := hS.thaw
  have hlt := hS.lt
  have hR : CpuR w B _ := hS
  have hne : ¬ w.heap.size = B := by omega
  have hne' : ¬ B = w.heap.size := by omega
  have hpc0 : 0 ≤ (pc + 1) % 65536 := by omega
  have hpc1 : (pc + 1) % 65536 ≤ 65535 := by omega
  have hv2 : v ≤ 65535 := by omega
  go_enter Tryd.func39, Tryd.ntmps39
  (repeat (first | (with_reducible refine inBlock_far (by decide) ?_) | (with_reducible refine then_exit ?_) | (with_reducible refine inBlock_here ?_) | ((fail_if_success (with_reducible refine calls_id ?_)); go_step)))
  refine (branch_any ⟨⟨a, x, y, s, p, pc⟩, 25, op, nm, md, kd, kn, pl, wr, b⟩ (by exact ⟨⟨a0, a1, x0, x1, y0, y1, s0, s1, p0, p1, pc0, pc1⟩, t0, t1, op0, op1, md0, md1, kd0, kd1, pl0, pl1, wr0, wr1, b0, b1⟩) _ B hS).mono ?_
  rintro e u1 ⟨rfl, hS1, hB1⟩
  (try dsimp only)
  (repeat (first | (with_reducible refine inBlock_far (by decide) ?_) | (with_reducible refine then_exit ?_) | (with_reducible refine inBlock_here ?_) | ((fail_if_success (with_reducible refine calls_id ?_)); go_step)))
  first | exact bodyPost_end (results_none rfl _ _ _) rfl ⟨rfl, hS1, hB1⟩ | exact bodyPost_ret (results_none rfl _ _ _) rfl ⟨rfl, hS1, hB1⟩
set_option maxRecDepth 100000 in
set_option maxHeartbeats 8000000 in
theorem flow_26 (c : Cp) (ok : c.ok) (w : World) (B : Nat) (hS : CpuS w B c) (ht : c.t = 26) (v : Int) (v0 : 0 ≤ v) (v1 : v ≤ 255) : Calls Tryd.prog 39 #[.pointer (some ⟨B, 0, none⟩), .int .u8 v] w (MPost w B (clockN 26 c v)) := by
  obtain ⟨⟨a, x, y, s, p, pc⟩, t, op, nm, md, kd, kn, pl, wr, b⟩ := c
  simp only [] at ht
  subst ht
  obtain ⟨c0, c1, c2, c3, c4, c5, c6, c7, c8, c9, c10, c11, c12, c13, c14⟩ := hS.all
  obtain ⟨⟨a0, a1, x0, x1, y0, y1, s0, s1, p0, p1, pc0, pc1⟩, t0, t1, op0, op1, md0, md1, kd0, kd1, pl0, pl1, wr0, wr1, b0, b1⟩ := ok
  simp only [] at a0 a1 x0 x1 y0 y1 s0 s1 p0 p1 pc0 pc1 t0 t1 op0 op1 md0 md1 kd0 kd1 pl0 pl1 wr0 wr1 b0 b1
  have ff := hS.thaw
  have hlt := hS.lt
  have hR : CpuR w B _ := hS
  have hne : ¬ w.heap.size = B := by omega
  have hne' : ¬ B = w.heap.size := by omega
  have hpc0 : 0 ≤ (pc + 1) % 65536 := by omega
  have hpc1 : (pc + 1) % 65536 ≤ 65535 := by omega
  have hv2 : v ≤ 65535 := by omega
  go_enter Tryd.func39, Tryd.ntmps39
  (repeat (first | (with_reducible refine inBlock_far (by decide) ?_) | (with_reducible refine then_exit ?_) | (with_reducible refine inBlock_here ?_) | ((fail_if_success (with_reducible refine calls_id ?_)); go_step)))
  all_goals first | refine bodyPost_end (results_none rfl _ _ _) rfl ⟨rfl, ?_, ?_⟩ | refine bodyPost_ret (results_none rfl _ _ _) rfl ⟨rfl, ?_, ?_⟩
  all_goals first
    | (apply CpuS.mk2; (repeat (first | with_reducible exact hR | apply CpuR.set | apply CpuR.drew)); rfl)
    | (repeat (first | with_reducible exact Besd.refl _ _ _ | with_reducible exact Besd.refl _ _ _ | refine Besd.own ?_ _ _ | refine Besd.drew ?_))
set_option maxRecDepth 100000 in
set_option maxHeartbeats 8000000 in
theorem flow_27 (c : Cp) (ok : c.ok) (w : World) (B : Nat) (hS : CpuS w B c) (ht : c.t = 27) (v : Int) (v0 : 0 ≤ v) (v1 : v ≤ 255) : Calls Tryd.prog 39 #[.pointer (some ⟨B, 0, none⟩), .int .u8 v] w (MPost w B (clockN 27 c v)) := by
  obtain ⟨⟨a, x, y, s, p, pc⟩, t, op, nm, md, kd, kn, pl, wr, b⟩ := c
  simp only [] at ht
  subst ht
  obtain ⟨c0, c1, c2, c3, c4, c5, c6, c7, c8, c9, c10, c11, c12, c13, c14⟩ := hS.all
  obtain ⟨⟨a0, a1, x0, x1, y0, y1, s0, s1, p0, p1, pc0, pc1⟩, t0, t1, op0, op1, md0, md1, kd0, kd1, pl0, pl1, wr0, wr1, b0, b1⟩ := ok
  simp only [] at a0 a1 x0 x1 y0 y1 s0 s1 p0 p1 pc0 pc1 t0 t1 op0 op1 md0 md1 kd0 kd1 pl0 pl1 wr0 wr1 b0 b1
  have ff := hS.thaw
  have hlt := hS.lt
  have hR : CpuR w B _ := hS
  have hne : ¬ w.heap.size = B := by omega
  have hne' : ¬ B = w.heap.size := by omega
  have hpc0 : 0 ≤ (pc + 1) % 65536 := by omega
  have hpc1 : (pc + 1) % 65536 ≤ 65535 := by omega
  have hv2 : v ≤ 65535 := by omega
  go_enter Tryd.func39, Tryd.ntmps39
  (repeat (first | (with_reducible refine inBlock_far (by decide) ?_) | (with_reducible refine then_exit ?_) | (with_reducible refine inBlock_here ?_) | ((fail_if_success (with_reducible refine calls_id ?_)); go_step)))
  all_goals first | refine bodyPost_end (results_none rfl _ _ _) rfl ⟨rfl, ?_, ?_⟩ | refine bodyPost_ret (results_none rfl _ _ _) rfl ⟨rfl, ?_, ?_⟩
  all_goals first
    | (apply CpuS.mk2; (repeat (first | with_reducible exact hR | apply CpuR.set | apply CpuR.drew)); rfl)
    | (repeat (first | with_reducible exact Besd.refl _ _ _ | with_reducible exact Besd.refl _ _ _ | refine Besd.own ?_ _ _ | refine Besd.drew ?_))
set_option maxRecDepth 100000 in
set_option maxHeartbeats 8000000 in
theorem flow_28 (c : Cp) (ok : c.ok) (w : World) (B : Nat) (hS : CpuS w B c) (ht : c.t = 28) (v : Int) (v0 : 0 ≤ v) (v1 : v ≤ 255) : Calls Tryd.prog 39 #[.pointer (some ⟨B, 0, none⟩), .int .u8 v] w (MPost w B (clockN 28 c v)) := by
  obtain ⟨⟨a, x, y, s, p, pc⟩, t, op, nm, md, kd, kn, pl, wr, b⟩ := c
  simp only [] at ht
  subst ht
  obtain ⟨c0, c1, c2, c3, c4, c5, c6, c7, c8, c9, c10, c11, c12, c13, c14⟩ := hS.all
  obtain ⟨⟨a0, a1, x0, x1, y0, y1, s0, s1, p0, p1, pc0, pc1⟩, t0, t1, op0, op1, md0, md1, kd0, kd1, pl0, pl1, wr0, wr1, b0, b1⟩ := ok
  simp only [] at a0 a1 x0 x1 y0 y1 s0 s1 p0 p1 pc0 pc1 t0 t1 op0 op1 md0 md1 kd0 kd1 pl0 pl1 wr0 wr1 b0 b1
  have ff := hS.thaw
  have hlt := hS.lt
  have hR : CpuR w B _ := hS
  have hne : ¬ w.heap.size = B := by omega
  have hne' : ¬ B = w.heap.size := by omega
  have hpc0 : 0 ≤ (pc + 1) % 65536 := by omega
  have hpc1 : (pc + 1) % 65536 ≤ 65535 := by omega
  have hv2 : v ≤ 65535 := by omega
  go_enter Tryd.func39, Tryd.ntmps39
  (repeat (first | (with_reducible refine inBlock_far (by decide) ?_) | (with_reducible refine then_exit ?_) | (with_reducible refine inBlock_here ?_) | ((fail_if_success (with_reducible refine calls_id ?_)); go_step)))
  all_goals first | refine bodyPost_end (results_none rfl _ _ _) rfl ⟨rfl, ?_, ?_⟩ | refine bodyPost_ret (results_none rfl _ _ _) rfl ⟨rfl, ?_, ?_⟩
  all_goals first
    | (apply CpuS.mk2; (repeat (first | with_reducible exact hR | apply CpuR.set | apply CpuR.drew)); rfl)
    | (repeat (first | with_reducible exact Besd.refl _ _ _ | with_reducible exact Besd.refl _ _ _ | refine Besd.own ?_ _ _ | refine Besd.drew ?_))
set_option maxRecDepth 100000 in
set_option maxHeartbeats 8000000 in
theorem flow_29 (c : Cp) (ok : c.ok) (w : World) (B : Nat) (hS : CpuS w B c) (ht : c.t = 29) (v : Int) (v0 : 0 ≤ v) (v1 : v ≤ 255) : Calls Tryd.prog 39 #[.pointer (some ⟨B, 0, none⟩), .int .u8 v] w (MPost w B (clockN 29 c v)) := by
  obtain ⟨⟨a, x, y, s, p, pc⟩, t, op, nm, md, kd, kn, pl, wr, b⟩ := c
  simp only [] at ht
  subst ht
  obtain ⟨c0, c1, c2, c3, c4, c5, c6, c7, c8, c9, c10, c11, c12, c13, c14⟩ := hS.all
  obtain ⟨⟨a0, a1, x0, x1, y0, y1, s0, s1, p0, p1, pc0, pc1⟩, t0, t1, op0, op1, md0, md1, kd0, kd1, pl0, pl1, wr0, wr1, b0, b1⟩ := ok
  simp only [] at a0 a1 x0 x1 y0 y1 s0 s1 p0 p1 pc0 pc1 t0 t1 op0 op1 md0 md1 kd0 kd1 pl0 pl1 wr0 wr1 b0 b1
  have ff := hS.thaw
  have hlt := hS.lt
  have hR : CpuR w B _ := hS
  have hne : ¬ w.heap.size = B := by omega
  have hne' : ¬ B = w.heap.size := by omega
  have hpc0 : 0 ≤ (pc + 1) % 65536 := by omega
  have hpc1 : (pc + 1) % 65536 ≤ 65535 := by omega
  have hv2 : v ≤ 65535 := by omega
  go_enter Tryd.func39, Tryd.ntmps39
  (repeat (first | (with_reducible refine inBlock_far (by decide) ?_) | (with_reducible refine then_exit ?_) | (with_reducible refine inBlock_here ?_) | ((fail_if_success (with_reducible refine calls_id ?_)); go_step)))
  all_goals first | refine bodyPost_end (results_none rfl _ _ _) rfl ⟨rfl, ?_, ?_⟩ | refine bodyPost_ret (results_none rfl _ _ _) rfl ⟨rfl, ?_, ?_⟩
  all_goals first
    | (apply CpuS.mk2; (repeat (first | with_reducible exact hR | apply CpuR.set | apply CpuR.drew)); rfl)
    | (repeat (first | with_reducible exact Besd.refl _ _ _ | with_reducible exact Besd.refl _ _ _ | refine Besd.own ?_ _ _ | refine Besd.drew ?_))
set_option maxRecDepth 100000 in
set_option maxHeartbeats 8000000 in
theorem flow_30 (c : Cp) (ok : c.ok) (w : World) (B : Nat) (hS : CpuS w B c) (ht : c.t = 30) (v : Int) (v0 : 0 ≤ v) (v1 : v ≤ 255) : Calls Tryd.prog 39 #[.pointer (some ⟨B, 0, none⟩), .int .u8 v] w (MPost w B (clockN 30 c v)) := by
  obtain ⟨⟨a, x, y, s, p, pc⟩, t, op, nm, md, kd, kn, pl, wr, b⟩ := c
  simp only [] at ht
  subst ht
  obtain ⟨c0, c1, c2, c3, c4, c5, c6, c7, c8, c9, c10, c11, c12, c13, c14⟩ := hS.all
  obtain ⟨⟨a0, a1, x0, x1, y0, y1, s0, s1, p0, p1, pc0, pc1⟩, t0, t1, op0, op1, md0, md1, kd0, kd1, pl0, pl1, wr0, wr1, b0, b1⟩ := ok
  simp only [] at a0 a1 x0 x1 y0 y1 s0 s1 p0 p1 pc0 pc1 t0 t1 op0 op1 md0 md1 kd0 kd1 pl0 pl1 wr0 wr1 b0 b1
  have ff := hS.thaw
  have hlt := hS.lt
  have hR : CpuR w B _ := hS
  have hne : ¬ w.heap.size = B := by omega
  have hne' : ¬ B = w.heap.size := by omega
  have hpc0 : 0 ≤ (pc + 1) % 65536 := by omega
  have hpc1 : (pc + 1) % 65536 ≤ 65535 := by omega
  have hv2 : v ≤ 65535 := by omega
  go_enter Tryd.func39, Tryd.ntmps39
  (repeat (first | (with_reducible refine inBlock_far (by decide) ?_) | (with_reducible refine then_exit ?_) | (with_reducible refine inBlock_here ?_) | ((fail_if_success (with_reducible refine calls_id ?_)); go_step)))
  all_goals first | refine bodyPost_end (results_none rfl _ _ _) rfl ⟨rfl, ?_, ?_⟩ | refine bodyPost_ret (results_none rfl _ _ _) rfl ⟨rfl, ?_, ?_⟩
  all_goals first
    | (apply CpuS.mk2; (repeat (first | with_reducible exact hR | apply CpuR.set | apply CpuR.drew)); rfl)
    | (repeat (first | with_reducible exact Besd.refl _ _ _ | with_reducible exact Besd.refl _ _ _ | refine Besd.own ?_ _ _ | refine Besd.drew ?_))
set_option maxRecDepth 100000 in
set_option maxHeartbeats 8000000 in
theorem flow_31 (c : Cp) (ok : c.ok) (w : World) (B : Nat) (hS : CpuS w B c) (ht : c.t = 31) (v : Int) (v0 : 0 ≤ v) (v1 : v ≤ 255) : Calls Tryd.prog 39 #[.pointer (some ⟨B, 0, none⟩), .int .u8 v] w (MPost w B (clockN 31 c v)) := by
  obtain ⟨⟨a, x, y, s, p, pc⟩, t, op, nm, md, kd, kn, pl, wr, b⟩ := c
  simp only [] at ht
  subst ht
  obtain ⟨c0, c1, c2, c3, c4, c5, c6, c7, c8, c9, c10, c11, c12, c13, c14⟩ := hS.all
  obtain ⟨⟨a0, a1, x0, x1, y0, y1, s0, s1, p0, p1, pc0, pc1⟩, t0, t1, op0, op1, md0, md1, kd0, kd1, pl0, pl1, wr0, wr1, b0, b1⟩ := ok
  simp only [] at a0 a1 x0 x1 y0 y1 s0 s1 p0 p1 pc0 pc1 t0 t1 op0 op1 md0 md1 kd0 kd1 pl0 pl1 wr0 wr1 b0 b1
  have ff := hS.thaw
  have hlt := hS.lt
  have hR : CpuR w B _ := hS
  have hne : ¬ w.heap.size = B := by omega
  have hne' : ¬ B = w.heap.size := by omega
  have hpc0 : 0 ≤ (pc + 1) % 65536 := by omega
  have hpc1 : (pc + 1) % 65536 ≤ 65535 := by omega
  have hv2 : v ≤ 65535 := by omega
  by_cases hn : nm.toList = [80, 76, 80]
  · have hq : (nm.toList == [80, 76, 80]) = true := by rw [hn]; rfl
    show Calls _ _ _ _ (MPost w B (if nm.toList = [80, 76, 80] then _ else _))
    rw [if_pos hn]
    go_enter Tryd.func39, Tryd.ntmps39
    (repeat (first | (with_reducible refine inBlock_far (by decide) ?_) | (with_reducible refine then_exit ?_) | (with_reducible refine inBlock_here ?_) | ((fail_if_success (with_reducible refine calls_id ?_)); go_step)))
    refine (clean_any v _).mono ?_
    rintro e w_ ⟨rfl, rfl⟩
    dsimp only
    (repeat (first | (with_reducible refine inBlock_far (by decide) ?_) | (with_reducible refine then_exit ?_) | (with_reducible refine inBlock_here ?_) | ((fail_if_success (with_reducible refine calls_id ?_)); go_step)))
    all_goals first | refine bodyPost_end (results_none rfl _ _ _) rfl ⟨rfl, ?_, ?_⟩ | refine bodyPost_ret (results_none rfl _ _ _) rfl ⟨rfl, ?_, ?_⟩
    all_goals first
      | (apply CpuS.mk2; (repeat (first | with_reducible exact hR | apply CpuR.set | apply CpuR.drew)); rfl)
      | (repeat (first | with_reducible exact Besd.refl _ _ _ | with_reducible exact Besd.refl _ _ _ | refine Besd.own ?_ _ _ | refine Besd.drew ?_))
  · have hq : (nm.toList == [80, 76, 80]) = false := beq_false_of_ne hn
    show Calls _ _ _ _ (MPost w B (if nm.toList = [80, 76, 80] then _ else _))
    rw [if_neg hn]
    have kl := fun w' => read_LDA ⟨a, x, y, s, p, pc⟩ ⟨a0, a1, x0, x1, y0, y1, s0, s1, p0, p1, pc0, pc1⟩ v v0 v1 ⟨#[76, 68, 65]⟩ (by decide +kernel) w'
    show Calls _ _ _ _ (MPost w B ⟨readF .LDA ⟨a, x, y, s, p, pc⟩ v, 0, op, nm, md, kd, kn, pl, wr, b⟩)
    generalize readF .LDA ⟨a, x, y, s, p, pc⟩ v = R at *
    obtain ⟨ra, rx, ry, rs, rp, rpc⟩ := R
    simp only [rgU] at kl
    go_enter Tryd.func39, Tryd.ntmps39
    (repeat (first | (with_reducible refine inBlock_far (by decide) ?_) | (with_reducible refine then_exit ?_) | (with_reducible refine inBlock_here ?_) | ((fail_if_success (with_reducible refine calls_id ?_)); go_step)))
    refine (kl _).mono ?_
    rintro e u1 ⟨rfl, hw⟩
    have hB1 : Besd B w.heap.size w u1 := Besd.below (by repeat (first | with_reducible exact Besd.refl _ _ _ | refine Besd.own ?_ _ _)) hw (Nat.le_refl _)
    have hR1 : CpuR u1 B (Cp.row ⟨⟨a, x, y, s, p, pc⟩, 31, op, nm, md, kd, kn, pl, wr, b⟩) := CpuR.below (CpuS.mk2 (c := ⟨⟨a, x, y, s, p, pc⟩, 31, op, nm, md, kd, kn, pl, wr, b⟩) (by repeat (first | with_reducible exact hR | apply CpuR.set)) rfl) hw
    clear c0 c1 c2 c3 c4 c5 c6 c7 c8 c9 c10 c11 c12 c13 c14 ff
    obtain ⟨c0, c1, c2, c3, c4, c5, c6, c7, c8, c9, c10, c11, c12, c13, c14⟩ := CpuS.all (show CpuS u1 B ⟨⟨a, x, y, s, p, pc⟩, 31, op, nm, md, kd, kn, pl, wr, b⟩ from hR1)
    have ff := CpuR.thaw hR1
    clear hw
    (try dsimp only)
    (repeat (first | (with_reducible refine inBlock_far (by decide) ?_) | (with_reducible refine then_exit ?_) | (with_reducible refine inBlock_here ?_) | ((fail_if_success (with_reducible refine calls_id ?_)); go_step)))
    all_goals first | refine bodyPost_end (results_none rfl _ _ _) rfl ⟨rfl, ?_, ?_⟩ | refine bodyPost_ret (results_none rfl _ _ _) rfl ⟨rfl, ?_, ?_⟩
    all_goals first
      | (apply CpuS.mk2; (repeat (first | with_reducible exact hR1 | apply CpuR.set | apply CpuR.drew)); rfl)
      | (repeat (first | with_reducible exact hB1 | with_reducible exact Besd.refl _ _ _ | refine Besd.own ?_ _ _ | refine Besd.drew ?_))
set_option maxRecDepth 100000 in
set_option maxHeartbeats 8000000 in
theorem flow_32 (c : Cp) (ok : c.ok) (w : World) (B : Nat) (hS : CpuS w B c) (ht : c.t = 32) (v : Int) (v0 : 0 ≤ v) (v1 : v ≤ 255) : Calls Tryd.prog 39 #[.pointer (some ⟨B, 0, none⟩), .int .u8 v] w (MPost w B (clockN 32 c v)) := by
  obtain ⟨⟨a, x, y, s, p, pc⟩, t, op, nm, md, kd, kn, pl, wr, b⟩ := c
  simp only [] at ht
  subst ht
  obtain ⟨c0, c1, c2, c3, c4, c5, c6, c7, c8, c9, c10, c11, c12, c13, c14⟩ := hS.all
  obtain ⟨⟨a0, a1, x0, x1, y0, y1, s0, s1, p0, p1, pc0, pc1⟩, t0, t1, op0, op1, md0, md1, kd0, kd1, pl0, pl1, wr0, wr1, b0, b1⟩ := ok
  simp only [] at a0 a1 x0 x1 y0 y1 s0 s1 p0 p1 pc0 pc1 t0 t1 op0 op1 md0 md1 kd0 kd1 pl0 pl1 wr0 wr1 b0 b1
  have ff := hS.thaw
  have hlt := hS.lt
  have hR : CpuR w B _ := hS
  have hne : ¬ w.heap.size = B := by omega
  have hne' : ¬ B = w.heap.size := by omega
  have hpc0 : 0 ≤ (pc + 1) % 65536 := by omega
  have hpc1 : (pc + 1) % 65536 ≤ 65535 := by omega
  have hv2 : v ≤ 65535 := by omega
  go_enter Tryd.func39, Tryd.ntmps39
  (repeat (first | (with_reducible refine inBlock_far (by decide) ?_) | (with_reducible refine then_exit ?_) | (with_reducible refine inBlock_here ?_) | ((fail_if_success (with_reducible refine calls_id ?_)); go_step)))
  refine (next_any ⟨⟨a, x, y, s, p, pc⟩, 32, op, nm, md, kd, kn, pl, wr, v⟩ (by exact ⟨⟨a0, a1, x0, x1, y0, y1, s0, s1, p0, p1, pc0, pc1⟩, t0, t1, op0, op1, md0, md1, kd0, kd1, pl0, pl1, wr0, wr1, v0, v1⟩) _ B (by apply CpuS.mk2; (repeat (first | with_reducible exact hR | apply CpuR.set)); rfl) 33).mono ?_
  rintro e u1 ⟨rfl, hS1, hB1p⟩
  have hB1 : Besd B w.heap.size w u1 := Besd.trans (by repeat (first | with_reducible exact Besd.refl _ _ _ | refine Besd.own ?_ _ _)) hB1p (by first | exact Nat.le_refl _ | (simp only [World.size_setCell]; exact Nat.le_refl _))
  have hR1 : CpuR u1 B (Cp.row ⟨⟨a, x, y, s, p, (pc + 1) % 65536⟩, 33, op, nm, md, kd, kn, pl, wr, v⟩) := hS1
  clear c0 c1 c2 c3 c4 c5 c6 c7 c8 c9 c10 c11 c12 c13 c14 ff
  obtain ⟨c0, c1, c2, c3, c4, c5, c6, c7, c8, c9, c10, c11, c12, c13, c14⟩ := CpuS.all (show CpuS u1 B ⟨⟨a, x, y, s, p, (pc + 1) % 65536⟩, 33, op, nm, md, kd, kn, pl, wr, v⟩ from hR1)
  have ff := CpuR.thaw hR1
  (try dsimp only)
  (repeat (first | (with_reducible refine inBlock_far (by decide) ?_) | (with_reducible refine then_exit ?_) | (with_reducible refine inBlock_here ?_) | ((fail_if_success (with_reducible refine calls_id ?_)); go_step)))
  all_goals first | refine bodyPost_end (results_none rfl _ _ _) rfl ⟨rfl, ?_, ?_⟩ | refine bodyPost_ret (results_none rfl _ _ _) rfl ⟨rfl, ?_, ?_⟩
  all_goals first
    | (apply CpuS.mk2; (repeat (first | with_reducible exact hR1 | apply CpuR.set | apply CpuR.drew)); rfl)
    | (repeat (first | with_reducible exact hB1 | with_reducible exact Besd.refl _ _ _ | refine Besd.own ?_ _ _ | refine Besd.drew ?_))
end Go.Proofs.YthepcjecmlkaiaaDoor.Mi
/- Package micro: what a cycle leaves at each step. -/
namespace Go.Proofs.YthepcjecmlkaiaaDoor.Mi
open Go Go.RowKit Go.Deep Go.Proofs.YthepcjecmlkaiaaDoor Go.Proofs.YthepcjecmlkaiaaDoor.Ex
set_option linter.unusedVariables false
set_option linter.unusedSimpArgs false
set_option maxRecDepth 100000 in
set_option maxHeartbeats 8000000 in
theorem flow_33 (c : Cp) (ok : c.ok) (w : World) (B : Nat) (hS : CpuS w B c) (ht : c.t = 33) (v : Int) (v0 : 0 ≤ v) (v1 : v ≤ 255) : Calls Tryd.prog 39 #[.pointer (some ⟨B, 0, none⟩), .int .u8 v] w (MPost w B (clockN 33 c v)) := by
  obtain ⟨⟨a, x, y, s, p, pc⟩, t, op, nm, md, kd, kn, pl, wr, b⟩ := c
  simp only [] at ht
  subst ht
  obtain ⟨c0, c1, c2, c3, c4, c5, c6, c7, c8, c9, c10, c11, c12, c13, c14⟩ := hS.all
  obtain ⟨⟨a0, a1, x0, x1, y0, y1, s0, s1, p0, p1, pc0, pc1⟩, t0, t1, op0, op1, md0, md1, kd0, kd1, pl0, pl1, wr0, wr1, b0, b1⟩ := ok
  simp only [] at a0 a1 x0 x1 y0 y1 s0 s1 p0 p1 pc0 pc1 t0 t1 op0 op1 md0 md1 kd0 kd1 pl0 pl1 wr0 wr1 b0 b1
  have ff := hS.thaw
  have hlt := hS.lt
  have hR : CpuR w B _ := hS
  have hne : ¬ w.heap.size = B := by omega
  have hne' : ¬ B = w.heap.size := by omega
  have hpc0 : 0 ≤ (pc + 1) % 65536 := by omega
  have hpc1 : (pc + 1) % 65536 ≤ 65535 := by omega
  have hv2 : v ≤ 65535 := by omega
  by_cases hmd : md = 12
  · have hq : (md != 12) = false := by simp [hmd]
    show Calls _ _ _ _ (MPost w B (if md = 12 then _ else _))
    rw [if_pos hmd]
    clear hmd
    go_enter Tryd.func39, Tryd.ntmps39
    (repeat (first | (with_reducible refine inBlock_far (by decide) ?_) | (with_reducible refine then_exit ?_) | (with_reducible refine inBlock_here ?_) | ((fail_if_success (with_reducible refine calls_id ?_)); go_step)))
    refine (word_any b v b0 b1 v0 v1 _).mono ?_
    rintro e w_ ⟨rfl, rfl⟩
    dsimp only
    (repeat (first | (with_reducible refine inBlock_far (by decide) ?_) | (with_reducible refine then_exit ?_) | (with_reducible refine inBlock_here ?_) | ((fail_if_success (with_reducible refine calls_id ?_)); go_step)))
    all_goals first | refine bodyPost_end (results_none rfl _ _ _) rfl ⟨rfl, ?_, ?_⟩ | refine bodyPost_ret (results_none rfl _ _ _) rfl ⟨rfl, ?_, ?_⟩
    all_goals first
      | (apply CpuS.mk2; (repeat (first | with_reducible exact hR | apply CpuR.set | apply CpuR.drew)); rfl)
      | (repeat (first | with_reducible exact Besd.refl _ _ _ | with_reducible exact Besd.refl _ _ _ | refine Besd.own ?_ _ _ | refine Besd.drew ?_))
  · have hq : (md != 12) = true := by simp [hmd]
    show Calls _ _ _ _ (MPost w B (if md = 12 then _ else _))
    rw [if_neg hmd]
    clear hmd
    go_enter Tryd.func39, Tryd.ntmps39
    (repeat (first | (with_reducible refine inBlock_far (by decide) ?_) | (with_reducible refine then_exit ?_) | (with_reducible refine inBlock_here ?_) | ((fail_if_success (with_reducible refine calls_id ?_)); go_step)))
    refine (word_any b v b0 b1 v0 v1 _).mono ?_
    rintro e w_ ⟨rfl, rfl⟩
    dsimp only
    (repeat (first | (with_reducible refine inBlock_far (by decide) ?_) | (with_reducible refine then_exit ?_) | (with_reducible refine inBlock_here ?_) | ((fail_if_success (with_reducible refine calls_id ?_)); go_step)))
    all_goals first | refine bodyPost_end (results_none rfl _ _ _) rfl ⟨rfl, ?_, ?_⟩ | refine bodyPost_ret (results_none rfl _ _ _) rfl ⟨rfl, ?_, ?_⟩
    all_goals first
      | (apply CpuS.mk2; (repeat (first | with_reducible exact hR | apply CpuR.set | apply CpuR.drew)); rfl)
      | (repeat (first | with_reducible exact Besd.refl _ _ _ | with_reducible exact Besd.refl _ _ _ | refine Besd.own ?_ _ _ | refine Besd.drew ?_))
set_option maxRecDepth 100000 in
set_option maxHeartbeats 8000000 in
theorem flow_34 (c : Cp) (ok : c.ok) (w : World) (B : Nat) (hS : CpuS w B c) (ht : c.t = 34) (v : Int) (v0 : 0 ≤ v) (v1 : v ≤ 255) : Calls Tryd.prog 39 #[.pointer (some ⟨B, 0, none⟩), .int .u8 v] w (MPost w B (clockN 34 c v)) := by
  obtain ⟨⟨a, x, y, s, p, pc⟩, t, op, nm, md, kd, kn, pl, wr, b⟩ := c
  simp only [] at ht
  subst ht
  obtain ⟨c0, c1, c2, c3, c4, c5, c6, c7, c8, c9, c10, c11, c12, c13, c14⟩ := hS.all
  obtain ⟨⟨a0, a1, x0, x1, y0, y1, s0, s1, p0, p1, pc0, pc1⟩, t0, t1, op0, op1, md0, md1, kd0, kd1, pl0, pl1, wr0, wr1, b0, b1⟩ := ok
  simp only [] at a0 a1 x0 x1 y0 y1 s0 s1 p0 p1 pc0 pc1 t0 t1 op0 op1 md0 md1 kd0 kd1 pl0 pl1 wr0 wr1 b0 b1
  have ff := hS.thaw
  have hlt := hS.lt
  have hR : CpuR w B _ := hS
  have hne : ¬ w.heap.size = B := by omega
  have hne' : ¬ B = w.heap.size := by omega
  have hpc0 : 0 ≤ (pc + 1) % 65536 := by omega
  have hpc1 : (pc + 1) % 65536 ≤ 65535 := by omega
  have hv2 : v ≤ 65535 := by omega
  go_enter Tryd.func39, Tryd.ntmps39
  (repeat (first | (with_reducible refine inBlock_far (by decide) ?_) | (with_reducible refine then_exit ?_) | (with_reducible refine inBlock_here ?_) | ((fail_if_success (with_reducible refine calls_id ?_)); go_step)))
  go_region_with fail
  all_goals (repeat (first | (with_reducible refine inBlock_far (by decide) ?_) | (with_reducible refine then_exit ?_) | (with_reducible refine inBlock_here ?_) | ((fail_if_success (with_reducible refine calls_id ?_)); go_step)))
  all_goals first | refine bodyPost_end (results_none rfl _ _ _) rfl ⟨rfl, ?_, ?_⟩ | refine bodyPost_ret (results_none rfl _ _ _) rfl ⟨rfl, ?_, ?_⟩
  all_goals first
    | (apply CpuS.mk2; (repeat (first | with_reducible exact hR | apply CpuR.set | apply CpuR.drew)); rfl)
    | (repeat (first | with_reducible exact Besd.refl _ _ _ | with_reducible exact Besd.refl _ _ _ | refine Besd.own ?_ _ _ | refine Besd.drew ?_))
set_option maxRecDepth 100000 in
set_option maxHeartbeats 8000000 in
theorem flow_35 (c : Cp) (ok : c.ok) (w : World) (B : Nat) (hS : CpuS w B c) (ht : c.t = 35) (v : Int) (v0 : 0 ≤ v) (v1 : v ≤ 255) : Calls Tryd.prog 39 #[.pointer (some ⟨B, 0, none⟩), .int .u8 v] w (MPost w B (clockN 35 c v)) := by
  obtain ⟨⟨a, x, y, s, p, pc⟩, t, op, nm, md, kd, kn, pl, wr, b⟩ := c
  simp only [] at ht
  subst ht
  obtain ⟨c0, c1, c2, c3, c4, c5, c6, c7, c8, c9, c10, c11, c12, c13, c14⟩ := hS.all
  obtain ⟨⟨a0, a1, x0, x1, y0, y1, s0, s1, p0, p1, pc0, pc1⟩, t0, t1, op0, op1, md0, md1, kd0, kd1, pl0, pl1, wr0, wr1, b0, b1⟩ := ok
  simp only [] at a0 a1 x0 x1 y0 y1 s0 s1 p0 p1 pc0 pc1 t0 t1 op0 op1 md0 md1 kd0 kd1 pl0 pl1 wr0 wr1 b0 b1
  have ff := hS.thaw
  have hlt := hS.lt
  have hR : CpuR w B _ := hS
  have hne : ¬ w.heap.size = B := by omega
  have hne' : ¬ B = w.heap.size := by omega
  have hpc0 : 0 ≤ (pc + 1) % 65536 := by omega
  have hpc1 : (pc + 1) % 65536 ≤ 65535 := by omega
  have hv2 : v ≤ 65535 := by omega
  go_enter Tryd.func39, Tryd.ntmps39
  (repeat (first | (with_reducible refine inBlock_far (by decide) ?_) | (with_reducible refine then_exit ?_) | (with_reducible refine inBlock_here ?_) | ((fail_if_success (with_reducible refine calls_id ?_)); go_step)))
  refine (word_any b v b0 b1 v0 v1 _).mono ?_
  rintro e w_ ⟨rfl, rfl⟩
  dsimp only
  (repeat (first | (with_reducible refine inBlock_far (by decide) ?_) | (with_reducible refine then_exit ?_) | (with_reducible refine inBlock_here ?_) | ((fail_if_success (with_reducible refine calls_id ?_)); go_step)))
  all_goals first | refine bodyPost_end (results_none rfl _ _ _) rfl ⟨rfl, ?_, ?_⟩ | refine bodyPost_ret (results_none rfl _ _ _) rfl ⟨rfl, ?_, ?_⟩
  all_goals first
    | (apply CpuS.mk2; (repeat (first | with_reducible exact hR | apply CpuR.set | apply CpuR.drew)); rfl)
    | (repeat (first | with_reducible exact Besd.refl _ _ _ | with_reducible exact Besd.refl _ _ _ | refine Besd.own ?_ _ _ | refine Besd.drew ?_))
set_option maxRecDepth 100000 in
set_option maxHeartbeats 8000000 in
theorem flow_36 (c : Cp) (ok : c.ok) (w : World) (B : Nat) (hS : CpuS w B c) (ht : c.t = 36) (v : Int) (v0 : 0 ≤ v) (v1 : v ≤ 255) : Calls Tryd.prog 39 #[.pointer (some ⟨B, 0, none⟩), .int .u8 v] w (MPost w B (clockN 36 c v)) := by
  obtain ⟨⟨a, x, y, s, p, pc⟩, t, op, nm, md, kd, kn, pl, wr, b⟩ := c
  simp only [] at ht
  subst ht
  obtain ⟨c0, c1, c2, c3, c4, c5, c6, c7, c8, c9, c10, c11, c12, c13, c14⟩ := hS.all
  obtain ⟨⟨a0, a1, x0, x1, y0, y1, s0, s1, p0, p1, pc0, pc1⟩, t0, t1, op0, op1, md0, md1, kd0, kd1, pl0, pl1, wr0, wr1, b0, b1⟩ := ok
  simp only [] at a0 a1 x0 x1 y0 y1 s0 s1 p0 p1 pc0 pc1 t0 t1 op0 op1 md0 md1 kd0 kd1 pl0 pl1 wr0 wr1 b0 b1
  have ff := hS.thaw
  have hlt := hS.lt
  have hR : CpuR w B _ := hS
  have hne : ¬ w.heap.size = B := by omega
  have hne' : ¬ B = w.heap.size := by omega
  have hpc0 : 0 ≤ (pc + 1) % 65536 := by omega
  have hpc1 : (pc + 1) % 65536 ≤ 65535 := by omega
  have hv2 : v ≤ 65535 := by omega
  go_enter Tryd.func39, Tryd.ntmps39
  (repeat (first | (with_reducible refine inBlock_far (by decide) ?_) | (with_reducible refine then_exit ?_) | (with_reducible refine inBlock_here ?_) | ((fail_if_success (with_reducible refine calls_id ?_)); go_step)))
  refine (next_any ⟨⟨a, x, y, s, p, pc⟩, 36, op, nm, md, kd, kn, pl, wr, v⟩ (by exact ⟨⟨a0, a1, x0, x1, y0, y1, s0, s1, p0, p1, pc0, pc1⟩, t0, t1, op0, op1, md0, md1, kd0, kd1, pl0, pl1, wr0, wr1, v0, v1⟩) _ B (by apply CpuS.mk2; (repeat (first | with_reducible exact hR | apply CpuR.set)); rfl) 37).mono ?_
  rintro e u1 ⟨rfl, hS1, hB1p⟩
  have hB1 : Besd B w.heap.size w u1 := Besd.trans (by repeat (first | with_reducible exact Besd.refl _ _ _ | refine Besd.own ?_ _ _)) hB1p (by first | exact Nat.le_refl _ | (simp only [World.size_setCell]; exact Nat.le_refl _))
  have hR1 : CpuR u1 B (Cp.row ⟨⟨a, x, y, s, p, (pc + 1) % 65536⟩, 37, op, nm, md, kd, kn, pl, wr, v⟩) := hS1
  clear c0 c1 c2 c3 c4 c5 c6 c7 c8 c9 c10 c11 c12 c13 c14 ff
  obtain ⟨c0, c1, c2, c3, c4, c5, c6, c7, c8, c9, c10, c11, c12, c13, c14⟩ := CpuS.all (show CpuS u1 B ⟨⟨a, x, y, s, p, (pc + 1) % 65536⟩, 37, op, nm, md, kd, kn, pl, wr, v⟩ from hR1)
  have ff := CpuR.thaw hR1
  (try dsimp only)
  (repeat (first | (with_reducible refine inBlock_far (by decide) ?_) | (with_reducible refine then_exit ?_) | (with_reducible refine inBlock_here ?_) | ((fail_if_success (with_reducible refine calls_id ?_)); go_step)))
  all_goals first | refine bodyPost_end (results_none rfl _ _ _) rfl ⟨rfl, ?_, ?_⟩ | refine bodyPost_ret (results_none rfl _ _ _) rfl ⟨rfl, ?_, ?_⟩
  all_goals first
    | (apply CpuS.mk2; (repeat (first | with_reducible exact hR1 | apply CpuR.set | apply CpuR.drew)); rfl)
    | (repeat (first | with_reducible exact hB1 | with_reducible exact Besd.refl _ _ _ | refine Besd.own ?_ _ _ | refine Besd.drew ?_))
set_option maxRecDepth 100000 in
set_option maxHeartbeats 8000000 in
theorem flow_38 (c : Cp) (ok : c.ok) (w : World) (B : Nat) (hS : CpuS w B c) (ht : c.t = 38) (v : Int) (v0 : 0 ≤ v) (v1 : v ≤ 255) : Calls Tryd.prog 39 #[.pointer (some ⟨B, 0, none⟩), .int .u8 v] w (MPost w B (clockN 38 c v)) := by
  obtain ⟨⟨a, x, y, s, p, pc⟩, t, op, nm, md, kd, kn, pl, wr, b⟩ := c
  simp only [] at ht
  subst ht
  obtain ⟨c0, c1, c2, c3, c4, c5, c6, c7, c8, c9, c10, c11, c12, c13, c14⟩ := hS.all
  obtain ⟨⟨a0, a1, x0, x1, y0, y1, s0, s1, p0, p1, pc0, pc1⟩, t0, t1, op0, op1, md0, md1, kd0, kd1, pl0, pl1, wr0, wr1, b0, b1⟩ := ok
  simp only [] at a0 a1 x0 x1 y0 y1 s0 s1 p0 p1 pc0 pc1 t0 t1 op0 op1 md0 md1 kd0 kd1 pl0 pl1 wr0 wr1 b0 b1
  have ff := hS.thaw
  have hlt := hS.lt
  have hR : CpuR w B _ := hS
  have hne : ¬ w.heap.size = B := by omega
  have hne' : ¬ B = w.heap.size := by omega
  have hpc0 : 0 ≤ (pc + 1) % 65536 := by omega
  have hpc1 : (pc + 1) % 65536 ≤ 65535 := by omega
  have hv2 : v ≤ 65535 := by omega
  go_enter Tryd.func39, Tryd.ntmps39
  (repeat (first | (with_reducible refine inBlock_far (by decide) ?_) | (with_reducible refine then_exit ?_) | (with_reducible refine inBlock_here ?_) | ((fail_if_success (with_reducible refine calls_id ?_)); go_step)))
  all_goals first | refine bodyPost_end (results_none rfl _ _ _) rfl ⟨rfl, ?_, ?_⟩ | refine bodyPost_ret (results_none rfl _ _ _) rfl ⟨rfl, ?_, ?_⟩
  all_goals first
    | (apply CpuS.mk2; (repeat (first | with_reducible exact hR | apply CpuR.set | apply CpuR.drew)); rfl)
    | (repeat (first | with_reducible exact Besd.refl _ _ _ | with_reducible exact Besd.refl _ _ _ | refine Besd.own ?_ _ _ | refine Besd.drew ?_))
set_option maxRecDepth 100000 in
set_option maxHeartbeats 8000000 in
theorem flow_39 (c : Cp) (ok : c.ok) (w : World) (B : Nat) (hS : CpuS w B c) (ht : c.t = 39) (v : Int) (v0 : 0 ≤ v) (v1 : v ≤ 255) : Calls Tryd.prog 39 #[.pointer (some ⟨B, 0, none⟩), .int .u8 v] w (MPost w B (clockN 39 c v)) := by
  obtain ⟨⟨a, x, y, s, p, pc⟩, t, op, nm, md, kd, kn, pl, wr, b⟩ := c
  simp only [] at ht
  subst ht
  obtain ⟨c0, c1, c2, c3, c4, c5, c6, c7, c8, c9, c10, c11, c12, c13, c14⟩ := hS.all
  obtain ⟨⟨a0, a1, x0, x1, y0, y1, s0, s1, p0, p1, pc0, pc1⟩, t0, t1, op0, op1, md0, md1, kd0, kd1, pl0, pl1, wr0, wr1, b0, b1⟩ := ok
  simp only [] at a0 a1 x0 x1 y0 y1 s0 s1 p0 p1 pc0 pc1 t0 t1 op0 op1 md0 md1 kd0 kd1 pl0 pl1 wr0 wr1 b0 b1
  have ff := hS.thaw
  have hlt := hS.lt
  have hR : CpuR w B _ := hS
  have hne : ¬ w.heap.size = B := by omega
  have hne' : ¬ B = w.heap.size := by omega
  have hpc0 : 0 ≤ (pc + 1) % 65536 := by omega
  have hpc1 : (pc + 1) % 65536 ≤ 65535 := by omega
  have hv2 : v ≤ 65535 := by omega
  go_enter Tryd.func39, Tryd.ntmps39
  (repeat (first | (with_reducible refine inBlock_far (by decide) ?_) | (with_reducible refine then_exit ?_) | (with_reducible refine inBlock_here ?_) | ((fail_if_success (with_reducible refine calls_id ?_)); go_step)))
  all_goals first | refine bodyPost_end (results_none rfl _ _ _) rfl ⟨rfl, ?_, ?_⟩ | refine bodyPost_ret (results_none rfl _ _ _) rfl ⟨rfl, ?_, ?_⟩
  all_goals first
    | (apply CpuS.mk2; (repeat (first | with_reducible exact hR | apply CpuR.set | apply CpuR.drew)); rfl)
    | (repeat (first | with_reducible exact Besd.refl _ _ _ | with_reducible exact Besd.refl _ _ _ | refine Besd.own ?_ _ _ | refine Besd.drew ?_))
set_option maxRecDepth 100000 in
set_option maxHeartbeats 8000000 in
theorem flow_40 (c : Cp) (ok : c.ok) (w : World) (B : Nat) (hS : CpuS w B c) (ht : c.t = 40) (v : Int) (v0 : 0 ≤ v) (v1 : v ≤ 255) : Calls Tryd.prog 39 #[.pointer (some ⟨B, 0, none⟩), .int .u8 v] w (MPost w B (clockN 40 c v)) := by
  obtain ⟨⟨a, x, y, s, p, pc⟩, t, op, nm, md, kd, kn, pl, wr, b⟩ := c
  simp only [] at ht
  subst ht
  obtain ⟨c0, c1, c2, c3, c4, c5, c6, c7, c8, c9, c10, c11, c12, c13, c14⟩ := hS.all
  obtain ⟨⟨a0, a1, x0, x1, y0, y1, s0, s1, p0, p1, pc0, pc1⟩, t0, t1, op0, op1, md0, md1, kd0, kd1, pl0, pl1, wr0, wr1, b0, b1⟩ := ok
  simp only [] at a0 a1 x0 x1 y0 y1 s0 s1 p0 p1 pc0 pc1 t0 t1 op0 op1 md0 md1 kd0 kd1 pl0 pl1 wr0 wr1 b0 b1
  have ff := hS.thaw
  have hlt := hS.lt
  have hR : CpuR w B _ := hS
  have hne : ¬ w.heap.size = B := by omega
  have hne' : ¬ B = w.heap.size := by omega
  have hpc0 : 0 ≤ (pc + 1) % 65536 := by omega
  have hpc1 : (pc + 1) % 65536 ≤ 65535 := by omega
  have hv2 : v ≤ 65535 := by omega
  go_enter Tryd.func39, Tryd.ntmps39
  (repeat (first | (with_reducible refine inBlock_far (by decide) ?_) | (with_reducible refine then_exit ?_) | (with_reducible refine inBlock_here ?_) | ((fail_if_success (with_reducible refine calls_id ?_)); go_step)))
  refine (word_any b v b0 b1 v0 v1 _).mono ?_
  rintro e w_ ⟨rfl, rfl⟩
  dsimp only
  (repeat (first | (with_reducible refine inBlock_far (by decide) ?_) | (with_reducible refine then_exit ?_) | (with_reducible refine inBlock_here ?_) | ((fail_if_success (with_reducible refine calls_id ?_)); go_step)))
  all_goals first | refine bodyPost_end (results_none rfl _ _ _) rfl ⟨rfl, ?_, ?_⟩ | refine bodyPost_ret (results_none rfl _ _ _) rfl ⟨rfl, ?_, ?_⟩
  all_goals first
    | (apply CpuS.mk2; (repeat (first | with_reducible exact hR | apply CpuR.set | apply CpuR.drew)); rfl)
    | (repeat (first | with_reducible exact Besd.refl _ _ _ | with_reducible exact Besd.refl _ _ _ | refine Besd.own ?_ _ _ | refine Besd.drew ?_))
set_option maxRecDepth 100000 in
set_option maxHeartbeats 8000000 in
theorem flow_41 (c : Cp) (ok : c.ok) (w : World) (B : Nat) (hS : CpuS w B c) (ht : c.t = 41) (v : Int) (v0 : 0 ≤ v) (v1 : v ≤ 255) : Calls Tryd.prog 39 #[.pointer (some ⟨B, 0, none⟩), .int .u8 v] w (MPost w B (clockN 41 c v)) := by
  obtain ⟨⟨a, x, y, s, p, pc⟩, t, op, nm, md, kd, kn, pl, wr, b⟩ := c
  simp only [] at ht
  subst ht
  obtain ⟨c0, c1, c2, c3, c4, c5, c6, c7, c8, c9, c10, c11, c12, c13, c14⟩ := hS.all
  obtain ⟨⟨a0, a1, x0, x1, y0, y1, s0, s1, p0, p1, pc0, pc1⟩, t0, t1, op0, op1, md0, md1, kd0, kd1, pl0, pl1, wr0, wr1, b0, b1⟩ := ok
  simp only [] at a0 a1 x0 x1 y0 y1 s0 s1 p0 p1 pc0 pc1 t0 t1 op0 op1 md0 md1 kd0 kd1 pl0 pl1 wr0 wr1 b0 b1
  have ff := hS.thaw
  have hlt := hS.lt
  have hR : CpuR w B _ := hS
  have hne : ¬ w.heap.size = B := by omega
  have hne' : ¬ B = w.heap.size := by omega
  have hpc0 : 0 ≤ (pc + 1) % 65536 := by omega
  have hpc1 : (pc + 1) % 65536 ≤ 65535 := by omega
  have hv2 : v ≤ 65535 := by omega
  go_enter Tryd.func39, Tryd.ntmps39
  (repeat (first | (with_reducible refine inBlock_far (by decide) ?_) | (with_reducible refine then_exit ?_) | (with_reducible refine inBlock_here ?_) | ((fail_if_success (with_reducible refine calls_id ?_)); go_step)))
  all_goals first | refine bodyPost_end (results_none rfl _ _ _) rfl ⟨rfl, ?_, ?_⟩ | refine bodyPost_ret (results_none rfl _ _ _) rfl ⟨rfl, ?_, ?_⟩
  all_goals first
    | (apply CpuS.mk2; (repeat (first | with_reducible exact hR | apply CpuR.set | apply CpuR.drew)); rfl)
    | (repeat (first | with_reducible exact Besd.refl _ _ _ | with_reducible exact Besd.refl _ _ _ | refine Besd.own ?_ _ _ | refine Besd.drew ?_))
set_option maxRecDepth 100000 in
set_option maxHeartbeats 8000000 in
theorem flow_43 (c : Cp) (ok : c.ok) (w : World) (B : Nat) (hS : CpuS w B c) (ht : c.t = 43) (v : Int) (v0 : 0 ≤ v) (v1 : v ≤ 255) : Calls Tryd.prog 39 #[.pointer (some ⟨B, 0, none⟩), .int .u8 v] w (MPost w B (clockN 43 c v)) := by
  obtain ⟨⟨a, x, y, s, p, pc⟩, t, op, nm, md, kd, kn, pl, wr, b⟩ := c
  simp only [] at ht
  subst ht
  obtain ⟨c0, c1, c2, c3, c4, c5, c6, c7, c8, c9, c10, c11, c12, c13, c14⟩ := hS.all
  obtain ⟨⟨a0, a1, x0, x1, y0, y1, s0, s1, p0, p1, pc0, pc1⟩, t0, t1, op0, op1, md0, md1, kd0, kd1, pl0, pl1, wr0, wr1, b0, b1⟩ := ok
  simp only [] at a0 a1 x0 x1 y0 y1 s0 s1 p0 p1 pc0 pc1 t0 t1 op0 op1 md0 md1 kd0 kd1 pl0 pl1 wr0 wr1 b0 b1
  have ff := hS.thaw
  have hlt := hS.lt
  have hR : CpuR w B _ := hS
  have hne : ¬ w.heap.size = B := by omega
  have hne' : ¬ B = w.heap.size := by omega
  have hpc0 : 0 ≤ (pc + 1) % 65536 := by omega
  have hpc1 : (pc + 1) % 65536 ≤ 65535 := by omega
  have hv2 : v ≤ 65535 := by omega
  go_enter Tryd.func39, Tryd.ntmps39
  (repeat (first | (with_reducible refine inBlock_far (by decide) ?_) | (with_reducible refine then_exit ?_) | (with_reducible refine inBlock_here ?_) | ((fail_if_success (with_reducible refine calls_id ?_)); go_step)))
  all_goals first | refine bodyPost_end (results_none rfl _ _ _) rfl ⟨rfl, ?_, ?_⟩ | refine bodyPost_ret (results_none rfl _ _ _) rfl ⟨rfl, ?_, ?_⟩
  all_goals first
    | (apply CpuS.mk2; (repeat (first | with_reducible exact hR | apply CpuR.set | apply CpuR.drew)); rfl)
    | (repeat (first | with_reducible exact Besd.refl _ _ _ | with_reducible exact Besd.refl _ _ _ | refine Besd.own ?_ _ _ | refine Besd.drew ?_))
set_option maxRecDepth 100000 in
set_option maxHeartbeats 8000000 in
theorem flow_44 (c : Cp) (ok : c.ok) (w : World) (B : Nat) (hS : CpuS w B c) (ht : c.t = 44) (v : Int) (v0 : 0 ≤ v) (v1 : v ≤ 255) : Calls Tryd.prog 39 #[.pointer (some ⟨B, 0, none⟩), .int .u8 v] w (MPost w B (clockN 44 c v)) := by
  obtain ⟨⟨a, x, y, s, p, pc⟩, t, op, nm, md, kd, kn, pl, wr, b⟩ := c
  simp only [] at ht
  subst ht
  obtain ⟨c0, c1, c2, c3, c4, c5, c6, c7, c8, c9, c10, c11, c12, c13, c14⟩ := hS.all
  obtain ⟨⟨a0, a1, x0, x1, y0, y1, s0, s1, p0, p1, pc0, pc1⟩, t0, t1, op0, op1, md0, md1, kd0, kd1, pl0, pl1, wr0, wr1, b0, b1⟩ := ok
  simp only [] at a0 a1 x0 x1 y0 y1 s0 s1 p0 p1 pc0 pc1 t0 t1 op0 op1 md0 md1 kd0 kd1 pl0 pl1 wr0 wr1 b0 b1
  have ff := hS.thaw
  have hlt := hS.lt
  have hR : CpuR w B _ := hS
  have hne : ¬ w.heap.size = B := by omega
  have hne' : ¬ B = w.heap.size := by omega
  have hpc0 : 0 ≤ (pc + 1) % 65536 := by omega
  have hpc1 : (pc + 1) % 65536 ≤ 65535 := by omega
  have hv2 : v ≤ 65535 := by omega
  go_enter Tryd.func39, Tryd.ntmps39
  (repeat (first | (with_reducible refine inBlock_far (by decide) ?_) | (with_reducible refine then_exit ?_) | (with_reducible refine inBlock_here ?_) | ((fail_if_success (with_reducible refine calls_id ?_)); go_step)))
  refine (word_any b v b0 b1 v0 v1 _).mono ?_
  rintro e w_ ⟨rfl, rfl⟩
  dsimp only
  (repeat (first | (with_reducible refine inBlock_far (by decide) ?_) | (with_reducible refine then_exit ?_) | (with_reducible refine inBlock_here ?_) | ((fail_if_success (with_reducible refine calls_id ?_)); go_step)))
  all_goals first | refine bodyPost_end (results_none rfl _ _ _) rfl ⟨rfl, ?_, ?_⟩ | refine bodyPost_ret (results_none rfl _ _ _) rfl ⟨rfl, ?_, ?_⟩
  all_goals first
    | (apply CpuS.mk2; (repeat (first | with_reducible exact hR | apply CpuR.set | apply CpuR.drew)); rfl)
    | (repeat (first | with_reducible exact Besd.refl _ _ _ | with_reducible exact Besd.refl _ _ _ | refine Besd.own ?_ _ _ | refine Besd.drew ?_))
set_option maxRecDepth 100000 in
set_option maxHeartbeats 8000000 in
theorem flow_45 (c : Cp) (ok : c.ok) (w : World) (B : Nat) (hS : CpuS w B c) (ht : c.t = 45) (v : Int) (v0 : 0 ≤ v) (v1 : v ≤ 255) : Calls Tryd.prog 39 #[.pointer (some ⟨B, 0, none⟩), .int .u8 v] w (MPost w B (clockN 45 c v)) := by
  obtain ⟨⟨a, x, y, s, p, pc⟩, t, op, nm, md, kd, kn, pl, wr, b⟩ := c
  simp only [] at ht
  subst ht
  obtain ⟨c0, c1, c2, c3, c4, c5, c6, c7, c8, c9, c10, c11, c12, c13, c14⟩ := hS.all
  obtain ⟨⟨a0, a1, x0, x1, y0, y1, s0, s1, p0, p1, pc0, pc1⟩, t0, t1, op0, op1, md0, md1, kd0, kd1, pl0, pl1, wr0, wr1, b0, b1⟩ := ok
  simp only [] at a0 a1 x0 x1 y0 y1 s0 s1 p0 p1 pc0 pc1 t0 t1 op0 op1 md0 md1 kd0 kd1 pl0 pl1 wr0 wr1 b0 b1
  have ff := hS.thaw
  have hlt := hS.lt
  have hR : CpuR w B _ := hS
  have hne : ¬ w.heap.size = B := by omega
  have hne' : ¬ B = w.heap.size := by omega
  have hpc0 : 0 ≤ (pc + 1) % 65536 := by omega
  have hpc1 : (pc + 1) % 65536 ≤ 65535 := by omega
  have hv2 : v ≤ 65535 := by omega
  go_enter Tryd.func39, Tryd.ntmps39
  (repeat (first | (with_reducible refine inBlock_far (by decide) ?_) | (with_reducible refine then_exit ?_) | (with_reducible refine inBlock_here ?_) | ((fail_if_success (with_reducible refine calls_id ?_)); go_step)))
  refine (next_any ⟨⟨a, x, y, s, p, pc⟩, 45, op, nm, md, kd, kn, pl, wr, b⟩ (by exact ⟨⟨a0, a1, x0, x1, y0, y1, s0, s1, p0, p1, pc0, pc1⟩, t0, t1, op0, op1, md0, md1, kd0, kd1, pl0, pl1, wr0, wr1, b0, b1⟩) _ B (by apply CpuS.mk2; (repeat (first | with_reducible exact hR | apply CpuR.set)); rfl) 0).mono ?_
  rintro e u1 ⟨rfl, hS1, hB1p⟩
  have hB1 : Besd B w.heap.size w u1 := Besd.trans (by repeat (first | with_reducible exact Besd.refl _ _ _ | refine Besd.own ?_ _ _)) hB1p (by first | exact Nat.le_refl _ | (simp only [World.size_setCell]; exact Nat.le_refl _))
  have hR1 : CpuR u1 B (Cp.row ⟨⟨a, x, y, s, p, (pc + 1) % 65536⟩, 0, op, nm, md, kd, kn, pl, wr, b⟩) := hS1
  clear c0 c1 c2 c3 c4 c5 c6 c7 c8 c9 c10 c11 c12 c13 c14 ff
  obtain ⟨c0, c1, c2, c3, c4, c5, c6, c7, c8, c9, c10, c11, c12, c13, c14⟩ := CpuS.all (show CpuS u1 B ⟨⟨a, x, y, s, p, (pc + 1) % 65536⟩, 0, op, nm, md, kd, kn, pl, wr, b⟩ from hR1)
  have ff := CpuR.thaw hR1
  (try dsimp only)
  (repeat (first | (with_reducible refine inBlock_far (by decide) ?_) | (with_reducible refine then_exit ?_) | (with_reducible refine inBlock_here ?_) | ((fail_if_success (with_reducible refine calls_id ?_)); go_step)))
  all_goals first | refine bodyPost_end (results_none rfl _ _ _) rfl ⟨rfl, ?_, ?_⟩ | refine bodyPost_ret (results_none rfl _ _ _) rfl ⟨rfl, ?_, ?_⟩
  all_goals first
    | (apply CpuS.mk2; (repeat (first | with_reducible exact hR1 | apply CpuR.set | apply CpuR.drew)); rfl)
    | (repeat (first | with_reducible exact hB1 | with_reducible exact Besd.refl _ _ _ | refine Besd.own ?_ _ _ | refine Besd.drew ?_))
set_option maxRecDepth 100000 in
set_option maxHeartbeats 8000000 in
theorem flow_46 (c : Cp) (ok : c.ok) (w : World) (B : Nat) (hS : CpuS w B c) (ht : c.t = 46) (v : Int) (v0 : 0 ≤ v) (v1 : v ≤ 255) : Calls Tryd.prog 39 #[.pointer (some ⟨B, 0, none⟩), .int .u8 v] w (MPost w B (clockN 46 c v)) := by
  obtain ⟨⟨a, x, y, s, p, pc⟩, t, op, nm, md, kd, kn, pl, wr, b⟩ := c
  simp only [] at ht
  subst ht
  obtain ⟨c0, c1, c2, c3, c4, c5, c6, c7, c8, c9, c10, c11, c12, c13, c14⟩ := hS.all
  obtain ⟨⟨a0, a1, x0, x1, y0, y1, s0, s1, p0, p1, pc0, pc1⟩, t0, t1, op0, op1, md0, md1, kd0, kd1, pl0, pl1, wr0, wr1, b0, b1⟩ := ok
  simp only [] at a0 a1 x0 x1 y0 y1 s0 s1 p0 p1 pc0 pc1 t0 t1 op0 op1 md0 md1 kd0 kd1 pl0 pl1 wr0 wr1 b0 b1
  have ff := hS.thaw
  have hlt := hS.lt
  have hR : CpuR w B _ := hS
  have hne : ¬ w.heap.size = B := by omega
  have hne' : ¬ B = w.heap.size := by omega
  have hpc0 : 0 ≤ (pc + 1) % 65536 := by omega
  have hpc1 : (pc + 1) % 65536 ≤ 65535 := by omega
  have hv2 : v ≤ 65535 := by omega
  go_enter Tryd.func39, Tryd.ntmps39
  (repeat (first | (with_reducible refine inBlock_far (by decide) ?_) | (with_reducible refine then_exit ?_) | (with_reducible refine inBlock_here ?_) | ((fail_if_success (with_reducible refine calls_id ?_)); go_step)))
  all_goals first | refine bodyPost_end (results_none rfl _ _ _) rfl ⟨rfl, ?_, ?_⟩ | refine bodyPost_ret (results_none rfl _ _ _) rfl ⟨rfl, ?_, ?_⟩
  all_goals first
    | (apply CpuS.mk2; (repeat (first | with_reducible exact hR | apply CpuR.set | apply CpuR.drew)); rfl)
    | (repeat (first | with_reducible exact Besd.refl _ _ _ | with_reducible exact Besd.refl _ _ _ | refine Besd.own ?_ _ _ | refine Besd.drew ?_))
set_option maxRecDepth 100000 in
set_option maxHeartbeats 8000000 in
theorem flow_48 (c : Cp) (ok : c.ok) (w : World) (B : Nat) (hS : CpuS w B c) (ht : c.t = 48) (v : Int) (v0 : 0 ≤ v) (v1 : v ≤ 255) : Calls Tryd.prog 39 #[.pointer (some ⟨B, 0, none⟩), .int .u8 v] w (MPost w B (clockN 48 c v)) := by
  obtain ⟨⟨a, x, y, s, p, pc⟩, t, op, nm, md, kd, kn, pl, wr, b⟩ := c
  simp only [] at ht
  subst ht
  obtain ⟨c0, c1, c2, c3, c4, c5, c6, c7, c8, c9, c10, c11, c12, c13, c14⟩ := hS.all
  obtain ⟨⟨a0, a1, x0, x1, y0, y1, s0, s1, p0, p1, pc0, pc1⟩, t0, t1, op0, op1, md0, md1, kd0, kd1, pl0, pl1, wr0, wr1, b0, b1⟩ := ok
  simp only [] at a0 a1 x0 x1 y0 y1 s0 s1 p0 p1 pc0 pc1 t0 t1 op0 op1 md0 md1 kd0 kd1 pl0 pl1 wr0 wr1 b0 b1
  have ff := hS.thaw
  have hlt := hS.lt
  have hR : CpuR w B _ := hS
  have hne : ¬ w.heap.size = B := by omega
  have hne' : ¬ B = w.heap.size := by omega
  have hpc0 : 0 ≤ (pc + 1) % 65536 := by omega
  have hpc1 : (pc + 1) % 65536 ≤ 65535 := by omega
  have hv2 : v ≤ 65535 := by omega
  go_enter Tryd.func39, Tryd.ntmps39
  (repeat (first | (with_reducible refine inBlock_far (by decide) ?_) | (with_reducible refine then_exit ?_) | (with_reducible refine inBlock_here ?_) | ((fail_if_success (with_reducible refine calls_id ?_)); go_step)))
  refine (clean_any v _).mono ?_
  rintro e w_ ⟨rfl, rfl⟩
  dsimp only
  (repeat (first | (with_reducible refine inBlock_far (by decide) ?_) | (with_reducible refine then_exit ?_) | (with_reducible refine inBlock_here ?_) | ((fail_if_success (with_reducible refine calls_id ?_)); go_step)))
  all_goals first | refine bodyPost_end (results_none rfl _ _ _) rfl ⟨rfl, ?_, ?_⟩ | refine bodyPost_ret (results_none rfl _ _ _) rfl ⟨rfl, ?_, ?_⟩
  all_goals first
    | (apply CpuS.mk2; (repeat (first | with_reducible exact hR | apply CpuR.set | apply CpuR.drew)); rfl)
    | (repeat (first | with_reducible exact Besd.refl _ _ _ | with_reducible exact Besd.refl _ _ _ | refine Besd.own ?_ _ _ | refine Besd.drew ?_))
set_option maxRecDepth 100000 in
set_option maxHeartbeats 8000000 in
theorem flow_49 (c : Cp) (ok : c.ok) (w : World) (B : Nat) (hS : CpuS w B c) (ht : c.t = 49) (v : Int) (v0 : 0 ≤ v) (v1 : v ≤ 255) : Calls Tryd.prog 39 #[.pointer (some ⟨B, 0, none⟩), .int .u8 v] w (MPost w B (clockN 49 c v)) := by
  obtain ⟨⟨a, x, y, s, p, pc⟩, t, op, nm, md, kd, kn, pl, wr, b⟩ := c
  simp only [] at ht
  subst ht
  obtain ⟨c0, c1, c2, c3, c4, c5, c6, c7, c8, c9, c10, c11, c12, c13, c14⟩ := hS.all
  obtain ⟨⟨a0, a1, x0, x1, y0, y1, s0, s1, p0, p1, pc0, pc1⟩, t0, t1, op0, op1, md0, md1, kd0, kd1, pl0, pl1, wr0, wr1, b0, b1⟩ := ok
  simp only [] at a0 a1 x0 x1 y0 y1 s0 s1 p0 p1 pc0 pc1 t0 t1 op0 op1 md0 md1 kd0 kd1 pl0 pl1 wr0 wr1 b0 b1
  have ff := hS.thaw
  have hlt := hS.lt
  have hR : CpuR w B _ := hS
  have hne : ¬ w.heap.size = B := by omega
  have hne' : ¬ B = w.heap.size := by omega
  have hpc0 : 0 ≤ (pc + 1) % 65536 := by omega
  have hpc1 : (pc + 1) % 65536 ≤ 65535 := by omega
  have hv2 : v ≤ 65535 := by omega
  go_enter Tryd.func39, Tryd.ntmps39
  (repeat (first | (with_reducible refine inBlock_far (by decide) ?_) | (with_reducible refine then_exit ?_) | (with_reducible refine inBlock_here ?_) | ((fail_if_success (with_reducible refine calls_id ?_)); go_step)))
  all_goals first | refine bodyPost_end (results_none rfl _ _ _) rfl ⟨rfl, ?_, ?_⟩ | refine bodyPost_ret (results_none rfl _ _ _) rfl ⟨rfl, ?_, ?_⟩
  all_goals first
    | (apply CpuS.mk2; (repeat (first | with_reducible exact hR | apply CpuR.set | apply CpuR.drew)); rfl)
    | (repeat (first | with_reducible exact Besd.refl _ _ _ | with_reducible exact Besd.refl _ _ _ | refine Besd.own ?_ _ _ | refine Besd.drew ?_))
set_option maxRecDepth 100000 in
set_option maxHeartbeats 8000000 in
theorem flow_50 (c : Cp) (ok : c.ok) (w : World) (B : Nat) (hS : CpuS w B c) (ht : c.t = 50) (v : Int) (v0 : 0 ≤ v) (v1 : v ≤ 255) : Calls Tryd.prog 39 #[.pointer (some ⟨B, 0, none⟩), .int .u8 v] w (MPost w B (clockN 50 c v)) := by
  obtain ⟨⟨a, x, y, s, p, pc⟩, t, op, nm, md, kd, kn, pl, wr, b⟩ := c
  simp only [] at ht
  subst ht
  obtain ⟨c0, c1, c2, c3, c4, c5, c6, c7, c8, c9, c10, c11, c12, c13, c14⟩ := hS.all
  obtain ⟨⟨a0, a1, x0, x1, y0, y1, s0, s1, p0, p1, pc0, pc1⟩, t0, t1, op0, op1, md0, md1, kd0, kd1, pl0, pl1, wr0, wr1, b0, b1⟩ := ok
  simp only [] at a0 a1 x0 x1 y0 y1 s0 s1 p0 p1 pc0 pc1 t0 t1 op0 op1 md0 md1 kd0 kd1 pl0 pl1 wr0 wr1 b0 b1
  have ff := hS.thaw
  have hlt := hS.lt
  have hR : CpuR w B _ := hS
  have hne : ¬ w.heap.size = B := by omega
  have hne' : ¬ B = w.heap.size := by omega
  have hpc0 : 0 ≤ (pc + 1) % 65536 := by omega
  have hpc1 : (pc + 1) % 65536 ≤ 65535 := by omega
  have hv2 : v ≤ 65535 := by omega
  go_enter Tryd.func39, Tryd.ntmps39
  (repeat (first | (with_reducible refine inBlock_far (by decide) ?_) | (with_reducible refine then_exit ?_) | (with_reducible refine inBlock_here ?_) | ((fail_if_success (with_reducible refine calls_id ?_)); go_step)))
  refine (word_any b v b0 b1 v0 v1 _).mono ?_
  rintro e w_ ⟨rfl, rfl⟩
  dsimp only
  (repeat (first | (with_reducible refine inBlock_far (by decide) ?_) | (with_reducible refine then_exit ?_) | (with_reducible refine inBlock_here ?_) | ((fail_if_success (with_reducible refine calls_id ?_)); go_step)))
  all_goals first | refine bodyPost_end (results_none rfl _ _ _) rfl ⟨rfl, ?_, ?_⟩ | refine bodyPost_ret (results_none rfl _ _ _) rfl ⟨rfl, ?_, ?_⟩
  all_goals first
    | (apply CpuS.mk2; (repeat (first | with_reducible exact hR | apply CpuR.set | apply CpuR.drew)); rfl)
    | (repeat (first | with_reducible exact Besd.refl _ _ _ | with_reducible exact Besd.refl _ _ _ | refine Besd.own ?_ _ _ | refine Besd.drew ?_))
set_option maxRecDepth 100000 in
set_option maxHeartbeats 8000000 in
theorem flow_51 (c : Cp) (ok : c.ok) (w : World) (B : Nat) (hS : CpuS w B c) (ht : c.t = 51) (v : Int) (v0 : 0 ≤ v) (v1 : v ≤ 255) : Calls Tryd.prog 39 #[.pointer (some ⟨B, 0, none⟩), .int .u8 v] w (MPost w B (clockN 51 c v)) := by
  obtain ⟨⟨a, x, y, s, p, pc⟩, t, op, nm, md, kd, kn, pl, wr, b⟩ := c
  simp only [] at ht
  subst ht
  obtain ⟨c0, c1, c2, c3, c4, c5, c6, c7, c8, c9, c10, c11, c12, c13, c14⟩ := hS.all
  obtain ⟨⟨a0, a1, x0, x1, y0, y1, s0, s1, p0, p1, pc0, pc1⟩, t0, t1, op0, op1, md0, md1, kd0, kd1, pl0, pl1, wr0, wr1, b0, b1⟩ := ok
  simp only [] at a0 a1 x0 x1 y0 y1 s0 s1 p0 p1 pc0 pc1 t0 t1 op0 op1 md0 md1 kd0 kd1 pl0 pl1 wr0 wr1 b0 b1
  have ff := hS.thaw
  have hlt := hS.lt
  have hR : CpuR w B _ := hS
  have hne : ¬ w.heap.size = B := by omega
  have hne' : ¬ B = w.heap.size := by omega
  have hpc0 : 0 ≤ (pc + 1) % 65536 := by omega
  have hpc1 : (pc + 1) % 65536 ≤ 65535 := by omega
  have hv2 : v ≤ 65535 := by omega
  go_enter Tryd.func39, Tryd.ntmps39
  (repeat (first | (with_reducible refine inBlock_far (by decide) ?_) | (with_reducible refine then_exit ?_) | (with_reducible refine inBlock_here ?_) | ((fail_if_success (with_reducible refine calls_id ?_)); go_step)))
  refine (next_any ⟨⟨a, x, y, s, p, pc⟩, 51, op, nm, md, kd, kn, pl, wr, v⟩ (by exact ⟨⟨a0, a1, x0, x1, y0, y1, s0, s1, p0, p1, pc0, pc1⟩, t0, t1, op0, op1, md0, md1, kd0, kd1, pl0, pl1, wr0, wr1, v0, v1⟩) _ B (by apply CpuS.mk2; (repeat (first | with_reducible exact hR | apply CpuR.set)); rfl) 52).mono ?_
  rintro e u1 ⟨rfl, hS1, hB1p⟩
  have hB1 : Besd B w.heap.size w u1 := Besd.trans (by repeat (first | with_reducible exact Besd.refl _ _ _ | refine Besd.own ?_ _ _)) hB1p (by first | exact Nat.le_refl _ | (simp only [World.size_setCell]; exact Nat.le_refl _))
  have hR1 : CpuR u1 B (Cp.row ⟨⟨a, x, y, s, p, (pc + 1) % 65536⟩, 52, op, nm, md, kd, kn, pl, wr, v⟩) := hS1
  clear c0 c1 c2 c3 c4 c5 c6 c7 c8 c9 c10 c11 c12 c13 c14 ff
  obtain ⟨c0, c1, c2, c3, c4, c5, c6, c7, c8, c9, c10, c11, c12, c13, c14⟩ := CpuS.all (show CpuS u1 B ⟨⟨a, x, y, s, p, (pc + 1) % 65536⟩, 52, op, nm, md, kd, kn, pl, wr, v⟩ from hR1)
  have ff := CpuR.thaw hR1
  (try dsimp only)
  (repeat (first | (with_reducible refine inBlock_far (by decide) ?_) | (with_reducible refine then_exit ?_) | (with_reducible refine inBlock_here ?_) | ((fail_if_success (with_reducible refine calls_id ?_)); go_step)))
  all_goals first | refine bodyPost_end (results_none rfl _ _ _) rfl ⟨rfl, ?_, ?_⟩ | refine bodyPost_ret (results_none rfl _ _ _) rfl ⟨rfl, ?_, ?_⟩
  all_goals first
    | (apply CpuS.mk2; (repeat (first | with_reducible exact hR1 | apply CpuR.set | apply CpuR.drew)); rfl)
    | (repeat (first | with_reducible exact hB1 | with_reducible exact Besd.refl _ _ _ | refine Besd.own ?_ _ _ | refine Besd.drew ?_))
set_option maxRecDepth 100000 in
set_option maxHeartbeats 8000000 in
theorem flow_52 (c : Cp) (ok : c.ok) (w : World) (B : Nat) (hS : CpuS w B c) (ht : c.t = 52) (v : Int) (v0 : 0 ≤ v) (v1 : v ≤ 255) : Calls Tryd.prog 39 #[.pointer (some ⟨B, 0, none⟩), .int .u8 v] w (MPost w B (clockN 52 c v)) := by
  obtain ⟨⟨a, x, y, s, p, pc⟩, t, op, nm, md, kd, kn, pl, wr, b⟩ := c
  simp only [] at ht
  subst ht
  obtain ⟨c0, c1, c2, c3, c4, c5, c6, c7, c8, c9, c10, c11, c12, c13, c14⟩ := hS.all
  obtain ⟨⟨a0, a1, x0, x1, y0, y1, s0, s1, p0, p1, pc0, pc1⟩, t0, t1, op0, op1, md0, md1, kd0, kd1, pl0, pl1, wr0, wr1, b0, b1⟩ := ok
  simp only [] at a0 a1 x0 x1 y0 y1 s0 s1 p0 p1 pc0 pc1 t0 t1 op0 op1 md0 md1 kd0 kd1 pl0 pl1 wr0 wr1 b0 b1
  have ff := hS.thaw
  have hlt := hS.lt
  have hR : CpuR w B _ := hS
  have hne : ¬ w.heap.size = B := by omega
  have hne' : ¬ B = w.heap.size := by omega
  have hpc0 : 0 ≤ (pc + 1) % 65536 := by omega
  have hpc1 : (pc + 1) % 65536 ≤ 65535 := by omega
  have hv2 : v ≤ 65535 := by omega
  go_enter Tryd.func39, Tryd.ntmps39
  (repeat (first | (with_reducible refine inBlock_far (by decide) ?_) | (with_reducible refine then_exit ?_) | (with_reducible refine inBlock_here ?_) | ((fail_if_success (with_reducible refine calls_id ?_)); go_step)))
  all_goals first | refine bodyPost_end (results_none rfl _ _ _) rfl ⟨rfl, ?_, ?_⟩ | refine bodyPost_ret (results_none rfl _ _ _) rfl ⟨rfl, ?_, ?_⟩
  all_goals first
    | (apply CpuS.mk2; (repeat (first | with_reducible exact hR | apply CpuR.set | apply CpuR.drew)); rfl)
    | (repeat (first | with_reducible exact Besd.refl _ _ _ | with_reducible exact Besd.refl _ _ _ | refine Besd.own ?_ _ _ | refine Besd.drew ?_))
set_option maxRecDepth 100000 in
set_option maxHeartbeats 8000000 in
theorem flow_53 (c : Cp) (ok : c.ok) (w : World) (B : Nat) (hS : CpuS w B c) (ht : c.t = 53) (v : Int) (v0 : 0 ≤ v) (v1 : v ≤ 255) : Calls Tryd.prog 39 #[.pointer (some ⟨B, 0, none⟩), .int .u8 v] w (MPost w B (clockN 53 c v)) := by
  obtain ⟨⟨a, x, y, s, p, pc⟩, t, op, nm, md, kd, kn, pl, wr, b⟩ := c
  simp only [] at ht
  subst ht
  obtain ⟨c0, c1, c2, c3, c4, c5, c6, c7, c8, c9, c10, c11, c12, c13, c14⟩ := hS.all
  obtain ⟨⟨a0, a1, x0, x1, y0, y1, s0, s1, p0, p1, pc0, pc1⟩, t0, t1, op0, op1, md0, md1, kd0, kd1, pl0, pl1, wr0, wr1, b0, b1⟩ := ok
  simp only [] at a0 a1 x0 x1 y0 y1 s0 s1 p0 p1 pc0 pc1 t0 t1 op0 op1 md0 md1 kd0 kd1 pl0 pl1 wr0 wr1 b0 b1
  have ff := hS.thaw
  have hlt := hS.lt
  have hR : CpuR w B _ := hS
  have hne : ¬ w.heap.size = B := by omega
  have hne' : ¬ B = w.heap.size := by omega
  have hpc0 : 0 ≤ (pc + 1) % 65536 := by omega
  have hpc1 : (pc + 1) % 65536 ≤ 65535 := by omega
  have hv2 : v ≤ 65535 := by omega
  go_enter Tryd.func39, Tryd.ntmps39
  (repeat (first | (with_reducible refine inBlock_far (by decide) ?_) | (with_reducible refine then_exit ?_) | (with_reducible refine inBlock_here ?_) | ((fail_if_success (with_reducible refine calls_id ?_)); go_step)))
  all_goals first | refine bodyPost_end (results_none rfl _ _ _) rfl ⟨rfl, ?_, ?_⟩ | refine bodyPost_ret (results_none rfl _ _ _) rfl ⟨rfl, ?_, ?_⟩
  all_goals first
    | (apply CpuS.mk2; (repeat (first | with_reducible exact hR | apply CpuR.set | apply CpuR.drew)); rfl)
    | (repeat (first | with_reducible exact Besd.refl _ _ _ | with_reducible exact Besd.refl _ _ _ | refine Besd.own ?_ _ _ | refine Besd.drew ?_))
set_option maxRecDepth 100000 in
set_option maxHeartbeats 8000000 in
theorem flow_54 (c : Cp) (ok : c.ok) (w : World) (B : Nat) (hS : CpuS w B c) (ht : c.t = 54) (v : Int) (v0 : 0 ≤ v) (v1 : v ≤ 255) : Calls Tryd.prog 39 #[.pointer (some ⟨B, 0, none⟩), .int .u8 v] w (MPost w B (clockN 54 c v)) := by
  obtain ⟨⟨a, x, y, s, p, pc⟩, t, op, nm, md, kd, kn, pl, wr, b⟩ := c
  simp only [] at ht
  subst ht
  obtain ⟨c0, c1, c2, c3, c4, c5, c6, c7, c8, c9, c10, c11, c12, c13, c14⟩ := hS.all
  obtain ⟨⟨a0, a1, x0, x1, y0, y1, s0, s1, p0, p1, pc0, pc1⟩, t0, t1, op0, op1, md0, md1, kd0, kd1, pl0, pl1, wr0, wr1, b0, b1⟩ := ok
  simp only [] at a0 a1 x0 x1 y0 y1 s0 s1 p0 p1 pc0 pc1 t0 t1 op0 op1 md0 md1 kd0 kd1 pl0 pl1 wr0 wr1 b0 b1
  have ff := hS.thaw
  have hlt := hS.lt
  have hR : CpuR w B _ := hS
  have hne : ¬ w.heap.size = B := by omega
  have hne' : ¬ B = w.heap.size := by omega
  have hpc0 : 0 ≤ (pc + 1) % 65536 := by omega
  have hpc1 : (pc + 1) % 65536 ≤ 65535 := by omega
  have hv2 : v ≤ 65535 := by omega
  go_enter Tryd.func39, Tryd.ntmps39
  (repeat (first | (with_reducible refine inBlock_far (by decide) ?_) | (with_reducible refine then_exit ?_) | (with_reducible refine inBlock_here ?_) | ((fail_if_success (with_reducible refine calls_id ?_)); go_step)))
  all_goals first | refine bodyPost_end (results_none rfl _ _ _) rfl ⟨rfl, ?_, ?_⟩ | refine bodyPost_ret (results_none rfl _ _ _) rfl ⟨rfl, ?_, ?_⟩
  all_goals first
    | (apply CpuS.mk2; (repeat (first | with_reducible exact hR | apply CpuR.set | apply CpuR.drew)); rfl)
    | (repeat (first | with_reducible exact Besd.refl _ _ _ | with_reducible exact Besd.refl _ _ _ | refine Besd.own ?_ _ _ | refine Besd.drew ?_))
end Go.Proofs.YthepcjecmlkaiaaDoor.Mi
