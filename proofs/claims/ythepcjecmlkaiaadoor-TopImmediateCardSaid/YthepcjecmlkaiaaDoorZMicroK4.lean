/- Package micro: what a cycle leaves at each step. -/
import Derived.Test.YthepcjecmlkaiaaDoorZMicroQ
import Derived.Test.YthepcjecmlkaiaaDoorZAluWalks
import Derived.Test.YthepcjecmlkaiaaDoorZKeep
import Derived.Deep.RegionHeld3
import Derived.RegionTactic
import Derived.Deep.RegionWith
import Derived.BigQuiet
import Derived.IntWalk
namespace Go.Proofs.YthepcjecmlkaiaaDoor.Mi
open Go Go.RowKit Go.Deep Go.Proofs.YthepcjecmlkaiaaDoor Go.Proofs.YthepcjecmlkaiaaDoor.Ex
set_option linter.unusedVariables false
set_option linter.unusedSimpArgs false
set_option maxRecDepth 100000 in
set_option maxHeartbeats 8000000 in
theorem clock_15 (c : Cp) (ok : c.ok) (w : World) (B : Nat) (hS : CpuS w B c) (ht : c.t = 15) (v : Int) (v0 : 0 ≤ v) (v1 : v ≤ 255) : Calls Tryd.prog 10 #[.pointer (some ⟨B, 0, none⟩), .int .u8 v] w (MPost w B (clockN 15 c v)) := by
  obtain ⟨⟨a, x, y, s, p, pc⟩, t, op, nm, md, kd, kn, pl, wr, b⟩ := c
  simp only [] at ht
  subst ht
  obtain ⟨c0, c1, c2, c3, c4, c5, c6, c7, c8, c9, c10, c11, c12, c13, c14⟩ := hS.all
  obtain ⟨⟨a0, a1, x0, x1, y0, y1, s0, s1, p0, p1, pc0, pc1⟩, t0, t1, op0, op1, md0, md1, kd0, kd1, pl0, pl1, wr0, wr1, b0, b1⟩ := ok
  simp only [] at a0 a1 x0 x1 y0 y1 s0 s1 p0 p1 pc0 pc1 t0 t1 op0 op1 md0 md1 kd0 kd1 pl0 pl1 wr0 wr1 b0 b1
  have ff := hS.thaw
  have hlt := hS.lt
  have hR : CpuR w B _ := hS
  have hne : ¬ w.heap.size = B := by omega
  have hne' : ¬ B = w.heap.size := by omega
  have hpc0 : 0 ≤ (pc + 1) % 65536 := by omega
  have hpc1 : (pc + 1) % 65536 ≤ 65535 := by omega
  have hv2 : v ≤ 65535 := by omega
  go_enter Tryd.func10, Tryd.ntmps10
  (repeat (first | (with_reducible refine inBlock_far (by decide) ?_) | (with_reducible refine then_exit ?_) | (with_reducible refine inBlock_here ?_) | ((fail_if_success (with_reducible refine calls_id ?_)); go_step)))
  refine (access_any ⟨⟨a, x, y, s, p, pc⟩, 15, op, nm, md, kd, kn, pl, wr, b⟩ (by exact ⟨⟨a0, a1, x0, x1, y0, y1, s0, s1, p0, p1, pc0, pc1⟩, t0, t1, op0, op1, md0, md1, kd0, kd1, pl0, pl1, wr0, wr1, b0, b1⟩) _ B (by apply CpuS.mk2; (repeat (first | with_reducible exact hR | apply CpuR.set)); rfl)).mono ?_
  rintro e w_ ⟨rfl, rfl⟩
  dsimp only
  (repeat (first | (with_reducible refine inBlock_far (by decide) ?_) | (with_reducible refine then_exit ?_) | (with_reducible refine inBlock_here ?_) | ((fail_if_success (with_reducible refine calls_id ?_)); go_step)))
  all_goals first | refine bodyPost_end (results_none rfl _ _ _) rfl ⟨rfl, ?_, ?_⟩ | refine bodyPost_ret (results_none rfl _ _ _) rfl ⟨rfl, ?_, ?_⟩
  all_goals first
    | (apply CpuS.mk2; (repeat (first | with_reducible exact hR | apply CpuR.set | apply CpuR.drew)); rfl)
    | (repeat (first | with_reducible exact Besd.refl _ _ _ | with_reducible exact Besd.refl _ _ _ | refine Besd.own ?_ _ _ | refine Besd.drew ?_))
set_option maxRecDepth 100000 in
set_option maxHeartbeats 8000000 in
theorem clock_16 (c : Cp) (ok : c.ok) (w : World) (B : Nat) (hS : CpuS w B c) (ht : c.t = 16) (v : Int) (v0 : 0 ≤ v) (v1 : v ≤ 255) : Calls Tryd.prog 10 #[.pointer (some ⟨B, 0, none⟩), .int .u8 v] w (MPost w B (clockN 16 c v)) := by
  obtain ⟨⟨a, x, y, s, p, pc⟩, t, op, nm, md, kd, kn, pl, wr, b⟩ := c
  simp only [] at ht
  subst ht
  obtain ⟨c0, c1, c2, c3, c4, c5, c6, c7, c8, c9, c10, c11, c12, c13, c14⟩ := hS.all
  obtain ⟨⟨a0, a1, x0, x1, y0, y1, s0, s1, p0, p1, pc0, pc1⟩, t0, t1, op0, op1, md0, md1, kd0, kd1, pl0, pl1, wr0, wr1, b0, b1⟩ := ok
  simp only [] at a0 a1 x0 x1 y0 y1 s0 s1 p0 p1 pc0 pc1 t0 t1 op0 op1 md0 md1 kd0 kd1 pl0 pl1 wr0 wr1 b0 b1
  have ff := hS.thaw
  have hlt := hS.lt
  have hR : CpuR w B _ := hS
  have hne : ¬ w.heap.size = B := by omega
  have hne' : ¬ B = w.heap.size := by omega
  have hpc0 : 0 ≤ (pc + 1) % 65536 := by omega
  have hpc1 : (pc + 1) % 65536 ≤ 65535 := by omega
  have hv2 : v ≤ 65535 := by omega
  by_cases hmd : md = 9
  · have hq : (md == 9) = true := by simp [hmd]
    show Calls _ _ _ _ (MPost w B (Cp.mk _ (if md = 9 then _ else _) _ _ _ _ _ _ _ _))
    rw [if_pos hmd]
    clear hmd
    go_enter Tryd.func10, Tryd.ntmps10
    (repeat (first | (with_reducible refine inBlock_far (by decide) ?_) | (with_reducible refine then_exit ?_) | (with_reducible refine inBlock_here ?_) | ((fail_if_success (with_reducible refine calls_id ?_)); go_step)))
    refine (next_any ⟨⟨a, x, y, s, p, pc⟩, 16, op, nm, md, kd, kn, v, wr, v⟩ (by exact ⟨⟨a0, a1, x0, x1, y0, y1, s0, s1, p0, p1, pc0, pc1⟩, t0, t1, op0, op1, md0, md1, kd0, kd1, v0, hv2, wr0, wr1, v0, v1⟩) _ B (by apply CpuS.mk2; (repeat (first | with_reducible exact hR | apply CpuR.set)); rfl) 18).mono ?_
    rintro e u1 ⟨rfl, hS1, hB1p⟩
    have hB1 : Besd B w.heap.size w u1 := Besd.trans (by repeat (first | with_reducible exact Besd.refl _ _ _ | refine Besd.own ?_ _ _)) hB1p (by first | exact Nat.le_refl _ | (simp only [World.size_setCell]; exact Nat.le_refl _))
    have hR1 : CpuR u1 B (Cp.row ⟨⟨a, x, y, s, p, (pc + 1) % 65536⟩, 18, op, nm, md, kd, kn, v, wr, v⟩) := hS1
    clear c0 c1 c2 c3 c4 c5 c6 c7 c8 c9 c10 c11 c12 c13 c14 ff
    obtain ⟨c0, c1, c2, c3, c4, c5, c6, c7, c8, c9, c10, c11, c12, c13, c14⟩ := CpuS.all (show CpuS u1 B ⟨⟨a, x, y, s, p, (pc + 1) % 65536⟩, 18, op, nm, md, kd, kn, v, wr, v⟩ from hR1)
    have ff := CpuR.thaw hR1
    (try dsimp only)
    (repeat (first | (with_reducible refine inBlock_far (by decide) ?_) | (with_reducible refine then_exit ?_) | (with_reducible refine inBlock_here ?_) | ((fail_if_success (with_reducible refine calls_id ?_)); go_step)))
    all_goals first | refine bodyPost_end (results_none rfl _ _ _) rfl ⟨rfl, ?_, ?_⟩ | refine bodyPost_ret (results_none rfl _ _ _) rfl ⟨rfl, ?_, ?_⟩
    all_goals first
      | (apply CpuS.mk2; (repeat (first | with_reducible exact hR1 | apply CpuR.set | apply CpuR.drew)); rfl)
      | (repeat (first | with_reducible exact hB1 | with_reducible exact Besd.refl _ _ _ | refine Besd.own ?_ _ _ | refine Besd.drew ?_))
  · have hq : (md == 9) = false := by simp [hmd]
    show Calls _ _ _ _ (MPost w B (Cp.mk _ (if md = 9 then _ else _) _ _ _ _ _ _ _ _))
    rw [if_neg hmd]
    clear hmd
    go_enter Tryd.func10, Tryd.ntmps10
    (repeat (first | (with_reducible refine inBlock_far (by decide) ?_) | (with_reducible refine then_exit ?_) | (with_reducible refine inBlock_here ?_) | ((fail_if_success (with_reducible refine calls_id ?_)); go_step)))
    refine (next_any ⟨⟨a, x, y, s, p, pc⟩, 16, op, nm, md, kd, kn, v, wr, v⟩ (by exact ⟨⟨a0, a1, x0, x1, y0, y1, s0, s1, p0, p1, pc0, pc1⟩, t0, t1, op0, op1, md0, md1, kd0, kd1, v0, hv2, wr0, wr1, v0, v1⟩) _ B (by apply CpuS.mk2; (repeat (first | with_reducible exact hR | apply CpuR.set)); rfl) 18).mono ?_
    rintro e u1 ⟨rfl, hS1, hB1p⟩
    have hB1 : Besd B w.heap.size w u1 := Besd.trans (by repeat (first | with_reducible exact Besd.refl _ _ _ | refine Besd.own ?_ _ _)) hB1p (by first | exact Nat.le_refl _ | (simp only [World.size_setCell]; exact Nat.le_refl _))
    have hR1 : CpuR u1 B (Cp.row ⟨⟨a, x, y, s, p, (pc + 1) % 65536⟩, 18, op, nm, md, kd, kn, v, wr, v⟩) := hS1
    clear c0 c1 c2 c3 c4 c5 c6 c7 c8 c9 c10 c11 c12 c13 c14 ff
    obtain ⟨c0, c1, c2, c3, c4, c5, c6, c7, c8, c9, c10, c11, c12, c13, c14⟩ := CpuS.all (show CpuS u1 B ⟨⟨a, x, y, s, p, (pc + 1) % 65536⟩, 18, op, nm, md, kd, kn, v, wr, v⟩ from hR1)
    have ff := CpuR.thaw hR1
    (try dsimp only)
    (repeat (first | (with_reducible refine inBlock_far (by decide) ?_) | (with_reducible refine then_exit ?_) | (with_reducible refine inBlock_here ?_) | ((fail_if_success (with_reducible refine calls_id ?_)); go_step)))
    all_goals first | refine bodyPost_end (results_none rfl _ _ _) rfl ⟨rfl, ?_, ?_⟩ | refine bodyPost_ret (results_none rfl _ _ _) rfl ⟨rfl, ?_, ?_⟩
    all_goals first
      | (apply CpuS.mk2; (repeat (first | with_reducible exact hR1 | apply CpuR.set | apply CpuR.drew)); rfl)
      | (repeat (first | with_reducible exact hB1 | with_reducible exact Besd.refl _ _ _ | refine Besd.own ?_ _ _ | refine Besd.drew ?_))
set_option maxRecDepth 100000 in
set_option maxHeartbeats 8000000 in
theorem clock_17 (c : Cp) (ok : c.ok) (w : World) (B : Nat) (hS : CpuS w B c) (ht : c.t = 17) (v : Int) (v0 : 0 ≤ v) (v1 : v ≤ 255) : Calls Tryd.prog 10 #[.pointer (some ⟨B, 0, none⟩), .int .u8 v] w (MPost w B (clockN 17 c v)) := by
  obtain ⟨⟨a, x, y, s, p, pc⟩, t, op, nm, md, kd, kn, pl, wr, b⟩ := c
  simp only [] at ht
  subst ht
  obtain ⟨c0, c1, c2, c3, c4, c5, c6, c7, c8, c9, c10, c11, c12, c13, c14⟩ := hS.all
  obtain ⟨⟨a0, a1, x0, x1, y0, y1, s0, s1, p0, p1, pc0, pc1⟩, t0, t1, op0, op1, md0, md1, kd0, kd1, pl0, pl1, wr0, wr1, b0, b1⟩ := ok
  simp only [] at a0 a1 x0 x1 y0 y1 s0 s1 p0 p1 pc0 pc1 t0 t1 op0 op1 md0 md1 kd0 kd1 pl0 pl1 wr0 wr1 b0 b1
  have ff := hS.thaw
  have hlt := hS.lt
  have hR : CpuR w B _ := hS
  have hne : ¬ w.heap.size = B := by omega
  have hne' : ¬ B = w.heap.size := by omega
  have hpc0 : 0 ≤ (pc + 1) % 65536 := by omega
  have hpc1 : (pc + 1) % 65536 ≤ 65535 := by omega
  have hv2 : v ≤ 65535 := by omega
  go_enter Tryd.func10, Tryd.ntmps10
  (repeat (first | (with_reducible refine inBlock_far (by decide) ?_) | (with_reducible refine then_exit ?_) | (with_reducible refine inBlock_here ?_) | ((fail_if_success (with_reducible refine calls_id ?_)); go_step)))
  go_region_with fail
  all_goals (repeat (first | (with_reducible refine inBlock_far (by decide) ?_) | (with_reducible refine then_exit ?_) | (with_reducible refine inBlock_here ?_) | ((fail_if_success (with_reducible refine calls_id ?_)); go_step)))
  all_goals first | refine bodyPost_end (results_none rfl _ _ _) rfl ⟨rfl, ?_, ?_⟩ | refine bodyPost_ret (results_none rfl _ _ _) rfl ⟨rfl, ?_, ?_⟩
  all_goals first
    | (apply CpuS.mk2; (repeat (first | with_reducible exact hR | apply CpuR.set | apply CpuR.drew)); rfl)
    | (repeat (first | with_reducible exact Besd.refl _ _ _ | with_reducible exact Besd.refl _ _ _ | refine Besd.own ?_ _ _ | refine Besd.drew ?_))
set_option maxRecDepth 100000 in
set_option maxHeartbeats 8000000 in
theorem clock_18 (c : Cp) (ok : c.ok) (w : World) (B : Nat) (hS : CpuS w B c) (ht : c.t = 18) (v : Int) (v0 : 0 ≤ v) (v1 : v ≤ 255) : Calls Tryd.prog 10 #[.pointer (some ⟨B, 0, none⟩), .int .u8 v] w (MPost w B (clockN 18 c v)) := by
  obtain ⟨⟨a, x, y, s, p, pc⟩, t, op, nm, md, kd, kn, pl, wr, b⟩ := c
  simp only [] at ht
  subst ht
  obtain ⟨c0, c1, c2, c3, c4, c5, c6, c7, c8, c9, c10, c11, c12, c13, c14⟩ := hS.all
  obtain ⟨⟨a0, a1, x0, x1, y0, y1, s0, s1, p0, p1, pc0, pc1⟩, t0, t1, op0, op1, md0, md1, kd0, kd1, pl0, pl1, wr0, wr1, b0, b1⟩ := ok
  simp only [] at a0 a1 x0 x1 y0 y1 s0 s1 p0 p1 pc0 pc1 t0 t1 op0 op1 md0 md1 kd0 kd1 pl0 pl1 wr0 wr1 b0 b1
  have ff := hS.thaw
  have hlt := hS.lt
  have hR : CpuR w B _ := hS
  have hne : ¬ w.heap.size = B := by omega
  have hne' : ¬ B = w.heap.size := by omega
  have hpc0 : 0 ≤ (pc + 1) % 65536 := by omega
  have hpc1 : (pc + 1) % 65536 ≤ 65535 := by omega
  have hv2 : v ≤ 65535 := by omega
  go_enter Tryd.func10, Tryd.ntmps10
  (repeat (first | (with_reducible refine inBlock_far (by decide) ?_) | (with_reducible refine then_exit ?_) | (with_reducible refine inBlock_here ?_) | ((fail_if_success (with_reducible refine calls_id ?_)); go_step)))
  all_goals first | refine bodyPost_end (results_none rfl _ _ _) rfl ⟨rfl, ?_, ?_⟩ | refine bodyPost_ret (results_none rfl _ _ _) rfl ⟨rfl, ?_, ?_⟩
  all_goals first
    | (apply CpuS.mk2; (repeat (first | with_reducible exact hR | apply CpuR.set | apply CpuR.drew)); rfl)
    | (repeat (first | with_reducible exact Besd.refl _ _ _ | with_reducible exact Besd.refl _ _ _ | refine Besd.own ?_ _ _ | refine Besd.drew ?_))
set_option maxRecDepth 100000 in
set_option maxHeartbeats 8000000 in
theorem clock_19 (c : Cp) (ok : c.ok) (w : World) (B : Nat) (hS : CpuS w B c) (ht : c.t = 19) (v : Int) (v0 : 0 ≤ v) (v1 : v ≤ 255) : Calls Tryd.prog 10 #[.pointer (some ⟨B, 0, none⟩), .int .u8 v] w (MPost w B (clockN 19 c v)) := by
  obtain ⟨⟨a, x, y, s, p, pc⟩, t, op, nm, md, kd, kn, pl, wr, b⟩ := c
  simp only [] at ht
  subst ht
  obtain ⟨c0, c1, c2, c3, c4, c5, c6, c7, c8, c9, c10, c11, c12, c13, c14⟩ := hS.all
  obtain ⟨⟨a0, a1, x0, x1, y0, y1, s0, s1, p0, p1, pc0, pc1⟩, t0, t1, op0, op1, md0, md1, kd0, kd1, pl0, pl1, wr0, wr1, b0, b1⟩ := ok
  simp only [] at a0 a1 x0 x1 y0 y1 s0 s1 p0 p1 pc0 pc1 t0 t1 op0 op1 md0 md1 kd0 kd1 pl0 pl1 wr0 wr1 b0 b1
  have ff := hS.thaw
  have hlt := hS.lt
  have hR : CpuR w B _ := hS
  have hne : ¬ w.heap.size = B := by omega
  have hne' : ¬ B = w.heap.size := by omega
  have hpc0 : 0 ≤ (pc + 1) % 65536 := by omega
  have hpc1 : (pc + 1) % 65536 ≤ 65535 := by omega
  have hv2 : v ≤ 65535 := by omega
  by_cases hmd : md = 9
  · have hq : (md == 9) = true := by simp [hmd]
    show Calls _ _ _ _ (MPost w B (if md = 9 then _ else _))
    rw [if_pos hmd]
    clear hmd
    have hP := wordF_in b0 b1 v0 v1
    have kw := fun w' => word_any b v b0 b1 v0 v1 w'
    show Calls _ _ _ _ (MPost w B ⟨⟨a, x, y, s, p, pc⟩, accF ⟨⟨a, x, y, s, p, pc⟩, 19, op, nm, md, kd, kn, pl, wr, b⟩, op, nm, md, kd, kn, wordF b v, wordF b v, b⟩)
    generalize wordF b v = P at *
    go_enter Tryd.func10, Tryd.ntmps10
    (repeat (first | (with_reducible refine inBlock_far (by decide) ?_) | (with_reducible refine then_exit ?_) | (with_reducible refine inBlock_here ?_) | ((fail_if_success (with_reducible refine calls_id ?_)); go_step)))
    refine (kw _).mono ?_
    rintro e w_ ⟨rfl, rfl⟩
    dsimp only
    (repeat (first | (with_reducible refine inBlock_far (by decide) ?_) | (with_reducible refine then_exit ?_) | (with_reducible refine inBlock_here ?_) | ((fail_if_success (with_reducible refine calls_id ?_)); go_step)))
    refine (access_any ⟨⟨a, x, y, s, p, pc⟩, 19, op, nm, md, kd, kn, P, P, b⟩ (by exact ⟨⟨a0, a1, x0, x1, y0, y1, s0, s1, p0, p1, pc0, pc1⟩, t0, t1, op0, op1, md0, md1, kd0, kd1, hP.1, hP.2, hP.1, hP.2, b0, b1⟩) _ B (by apply CpuS.mk2; (repeat (first | with_reducible exact hR | apply CpuR.set)); rfl)).mono ?_
    rintro e w_ ⟨rfl, rfl⟩
    dsimp only
    (repeat (first | (with_reducible refine inBlock_far (by decide) ?_) | (with_reducible refine then_exit ?_) | (with_reducible refine inBlock_here ?_) | ((fail_if_success (with_reducible refine calls_id ?_)); go_step)))
    all_goals first | refine bodyPost_end (results_none rfl _ _ _) rfl ⟨rfl, ?_, ?_⟩ | refine bodyPost_ret (results_none rfl _ _ _) rfl ⟨rfl, ?_, ?_⟩
    all_goals first
      | (apply CpuS.mk2; (repeat (first | with_reducible exact hR | apply CpuR.set | apply CpuR.drew)); rfl)
      | (repeat (first | with_reducible exact Besd.refl _ _ _ | with_reducible exact Besd.refl _ _ _ | refine Besd.own ?_ _ _ | refine Besd.drew ?_))
  · have hq : (md == 9) = false := by simp [hmd]
    show Calls _ _ _ _ (MPost w B (if md = 9 then _ else _))
    rw [if_neg hmd]
    clear hmd
    go_enter Tryd.func10, Tryd.ntmps10
    (repeat (first | (with_reducible refine inBlock_far (by decide) ?_) | (with_reducible refine then_exit ?_) | (with_reducible refine inBlock_here ?_) | ((fail_if_success (with_reducible refine calls_id ?_)); go_step)))
    refine (far_any ⟨⟨a, x, y, s, p, pc⟩, 19, op, nm, md, kd, kn, pl, wr, b⟩ (by exact ⟨⟨a0, a1, x0, x1, y0, y1, s0, s1, p0, p1, pc0, pc1⟩, t0, t1, op0, op1, md0, md1, kd0, kd1, pl0, pl1, wr0, wr1, b0, b1⟩) _ B hS b v b0 b1 v0 v1).mono ?_
    rintro e u9 ⟨rfl, hS9, hB9p⟩
    have hB9 : Besd B w.heap.size w u9 := Besd.trans (by repeat (first | with_reducible exact Besd.refl _ _ _ | refine Besd.own ?_ _ _)) hB9p (by first | exact Nat.le_refl _ | (simp only [World.size_setCell]; exact Nat.le_refl _))
    (try dsimp only)
    (repeat (first | (with_reducible refine inBlock_far (by decide) ?_) | (with_reducible refine then_exit ?_) | (with_reducible refine inBlock_here ?_) | ((fail_if_success (with_reducible refine calls_id ?_)); go_step)))
    first | exact bodyPost_end (results_none rfl _ _ _) rfl ⟨rfl, hS9, hB9⟩ | exact bodyPost_ret (results_none rfl _ _ _) rfl ⟨rfl, hS9, hB9⟩
set_option maxRecDepth 100000 in
set_option maxHeartbeats 8000000 in
theorem clock_20 (c : Cp) (ok : c.ok) (w : World) (B : Nat) (hS : CpuS w B c) (ht : c.t = 20) (v : Int) (v0 : 0 ≤ v) (v1 : v ≤ 255) : Calls Tryd.prog 10 #[.pointer (some ⟨B, 0, none⟩), .int .u8 v] w (MPost w B (clockN 20 c v)) := by
  obtain ⟨⟨a, x, y, s, p, pc⟩, t, op, nm, md, kd, kn, pl, wr, b⟩ := c
  simp only [] at ht
  subst ht
  obtain ⟨c0, c1, c2, c3, c4, c5, c6, c7, c8, c9, c10, c11, c12, c13, c14⟩ := hS.all
  obtain ⟨⟨a0, a1, x0, x1, y0, y1, s0, s1, p0, p1, pc0, pc1⟩, t0, t1, op0, op1, md0, md1, kd0, kd1, pl0, pl1, wr0, wr1, b0, b1⟩ := ok
  simp only [] at a0 a1 x0 x1 y0 y1 s0 s1 p0 p1 pc0 pc1 t0 t1 op0 op1 md0 md1 kd0 kd1 pl0 pl1 wr0 wr1 b0 b1
  have ff := hS.thaw
  have hlt := hS.lt
  have hR : CpuR w B _ := hS
  have hne : ¬ w.heap.size = B := by omega
  have hne' : ¬ B = w.heap.size := by omega
  have hpc0 : 0 ≤ (pc + 1) % 65536 := by omega
  have hpc1 : (pc + 1) % 65536 ≤ 65535 := by omega
  have hv2 : v ≤ 65535 := by omega
  by_cases hkd : kd = 3
  · have hq : (kd != 3) = false := by simp [hkd]
    show Calls _ _ _ _ (MPost w B (if kd = 3 then _ else _))
    rw [if_pos hkd]
    clear hkd
    go_enter Tryd.func10, Tryd.ntmps10
    (repeat (first | (with_reducible refine inBlock_far (by decide) ?_) | (with_reducible refine then_exit ?_) | (with_reducible refine inBlock_here ?_) | ((fail_if_success (with_reducible refine calls_id ?_)); go_step)))
    all_goals first | refine bodyPost_end (results_none rfl _ _ _) rfl ⟨rfl, ?_, ?_⟩ | refine bodyPost_ret (results_none rfl _ _ _) rfl ⟨rfl, ?_, ?_⟩
    all_goals first
      | (apply CpuS.mk2; (repeat (first | with_reducible exact hR | apply CpuR.set | apply CpuR.drew)); rfl)
      | (repeat (first | with_reducible exact Besd.refl _ _ _ | with_reducible exact Besd.refl _ _ _ | refine Besd.own ?_ _ _ | refine Besd.drew ?_))
  · have hq : (kd != 3) = true := by simp [hkd]
    show Calls _ _ _ _ (MPost w B (if kd = 3 then _ else _))
    rw [if_neg hkd]
    clear hkd
    have kr := fun w' => read_any ⟨a, x, y, s, p, pc⟩ ⟨a0, a1, x0, x1, y0, y1, s0, s1, p0, p1, pc0, pc1⟩ v v0 v1 nm w'
    have hRo := readF_ok (rdK nm) ⟨a, x, y, s, p, pc⟩ v ⟨a0, a1, x0, x1, y0, y1, s0, s1, p0, p1, pc0, pc1⟩ v0 v1
    show Calls _ _ _ _ (MPost w B ⟨readF (rdK nm) ⟨a, x, y, s, p, pc⟩ v, 0, op, nm, md, kd, kn, pl, wr, v⟩)
    generalize readF (rdK nm) ⟨a, x, y, s, p, pc⟩ v = R at *
    obtain ⟨ra, rx, ry, rs, rp, rpc⟩ := R
    obtain ⟨ra0, ra1, rx0, rx1, ry0, ry1, rs0, rs1, rp0, rp1, rpc0, rpc1⟩ := hRo
    simp only [] at ra0 ra1 rx0 rx1 ry0 ry1 rs0 rs1 rp0 rp1 rpc0 rpc1
    simp only [rgU] at kr
    go_enter Tryd.func10, Tryd.ntmps10
    (repeat (first | (with_reducible refine inBlock_far (by decide) ?_) | (with_reducible refine then_exit ?_) | (with_reducible refine inBlock_here ?_) | ((fail_if_success (with_reducible refine calls_id ?_)); go_step)))
    go_region_with ((first | (go_at_call 8; refine (kr _).mono ?_; rintro e u1 ⟨rfl, hw⟩; have hR1 : CpuR u1 B (Cp.row ⟨⟨a, x, y, s, p, pc⟩, 22, op, nm, md, kd, kn, pl, wr, v⟩) := CpuR.below (W := _) (CpuR.drew (CpuR.set (CpuR.set hR 14 (.int .u8 v)) 6 (.int .u8 22))) hw; clear c0 c1 c2 c3 c4 c5 c6 c7 c8 c9 c10 c11 c12 c13 c14 ff; obtain ⟨c0, c1, c2, c3, c4, c5, c6, c7, c8, c9, c10, c11, c12, c13, c14⟩ := CpuS.all (show CpuS u1 B ⟨⟨a, x, y, s, p, pc⟩, 22, op, nm, md, kd, kn, pl, wr, v⟩ from hR1); have ff := CpuR.thaw hR1; have hB1 : Besd B w.heap.size w u1 := Besd.below (((Besd.refl B w.heap.size w).own 14 (.int .u8 v)).own 6 (.int .u8 22)).drew hw (Nat.le_refl _)) | fail))
    all_goals (repeat (first | (with_reducible refine inBlock_far (by decide) ?_) | (with_reducible refine then_exit ?_) | (with_reducible refine inBlock_here ?_) | ((fail_if_success (with_reducible refine calls_id ?_)); go_step)))
    all_goals first | refine bodyPost_end (results_none rfl _ _ _) rfl ⟨rfl, ?_, ?_⟩ | refine bodyPost_ret (results_none rfl _ _ _) rfl ⟨rfl, ?_, ?_⟩
    all_goals first
      | (apply CpuS.mk2; (repeat (first | with_reducible exact hR1 | apply CpuR.set | apply CpuR.drew)); rfl)
      | (repeat (first | with_reducible exact hB1 | with_reducible exact Besd.refl _ _ _ | refine Besd.own ?_ _ _ | refine Besd.drew ?_))
set_option maxRecDepth 100000 in
set_option maxHeartbeats 8000000 in
theorem clock_23 (c : Cp) (ok : c.ok) (w : World) (B : Nat) (hS : CpuS w B c) (ht : c.t = 23) (v : Int) (v0 : 0 ≤ v) (v1 : v ≤ 255) : Calls Tryd.prog 10 #[.pointer (some ⟨B, 0, none⟩), .int .u8 v] w (MPost w B (clockN 23 c v)) := by
  obtain ⟨⟨a, x, y, s, p, pc⟩, t, op, nm, md, kd, kn, pl, wr, b⟩ := c
  simp only [] at ht
  subst ht
  obtain ⟨c0, c1, c2, c3, c4, c5, c6, c7, c8, c9, c10, c11, c12, c13, c14⟩ := hS.all
  obtain ⟨⟨a0, a1, x0, x1, y0, y1, s0, s1, p0, p1, pc0, pc1⟩, t0, t1, op0, op1, md0, md1, kd0, kd1, pl0, pl1, wr0, wr1, b0, b1⟩ := ok
  simp only [] at a0 a1 x0 x1 y0 y1 s0 s1 p0 p1 pc0 pc1 t0 t1 op0 op1 md0 md1 kd0 kd1 pl0 pl1 wr0 wr1 b0 b1
  have ff := hS.thaw
  have hlt := hS.lt
  have hR : CpuR w B _ := hS
  have hne : ¬ w.heap.size = B := by omega
  have hne' : ¬ B = w.heap.size := by omega
  have hpc0 : 0 ≤ (pc + 1) % 65536 := by omega
  have hpc1 : (pc + 1) % 65536 ≤ 65535 := by omega
  have hv2 : v ≤ 65535 := by omega
  have km := fun w' h => turned_any ⟨⟨a, x, y, s, p, pc⟩, 23, op, nm, md, kd, kn, pl, wr, b⟩ (by exact ⟨⟨a0, a1, x0, x1, y0, y1, s0, s1, p0, p1, pc0, pc1⟩, t0, t1, op0, op1, md0, md1, kd0, kd1, pl0, pl1, wr0, wr1, b0, b1⟩) w' B h
  show Calls _ _ _ _ (MPost w B ⟨tuRF ⟨⟨a, x, y, s, p, pc⟩, 23, op, nm, md, kd, kn, pl, wr, b⟩, 0, op, nm, md, kd, kn, pl, wr, b⟩)
  generalize tuVF ⟨⟨a, x, y, s, p, pc⟩, 23, op, nm, md, kd, kn, pl, wr, b⟩ = V at *
  generalize tuRF ⟨⟨a, x, y, s, p, pc⟩, 23, op, nm, md, kd, kn, pl, wr, b⟩ = R at *
  obtain ⟨ra, rx, ry, rs, rp, rpc⟩ := R
  simp only [rgU] at km
  go_enter Tryd.func10, Tryd.ntmps10
  (repeat (first | (with_reducible refine inBlock_far (by decide) ?_) | (with_reducible refine then_exit ?_) | (with_reducible refine inBlock_here ?_) | ((fail_if_success (with_reducible refine calls_id ?_)); go_step)))
  refine (km _ hS).mono ?_
  rintro e u1 ⟨rfl, hw⟩
  have hB1 : Besd B w.heap.size w u1 := Besd.below (by repeat (first | with_reducible exact Besd.refl _ _ _ | refine Besd.own ?_ _ _)) hw (Nat.le_refl _)
  have hR1 : CpuR u1 B (Cp.row ⟨⟨a, x, y, s, p, pc⟩, 23, op, nm, md, kd, kn, pl, wr, b⟩) := CpuR.below (CpuS.mk2 (c := ⟨⟨a, x, y, s, p, pc⟩, 23, op, nm, md, kd, kn, pl, wr, b⟩) (by repeat (first | with_reducible exact hR | apply CpuR.set)) rfl) hw
  clear c0 c1 c2 c3 c4 c5 c6 c7 c8 c9 c10 c11 c12 c13 c14 ff
  obtain ⟨c0, c1, c2, c3, c4, c5, c6, c7, c8, c9, c10, c11, c12, c13, c14⟩ := CpuS.all (show CpuS u1 B ⟨⟨a, x, y, s, p, pc⟩, 23, op, nm, md, kd, kn, pl, wr, b⟩ from hR1)
  have ff := CpuR.thaw hR1
  clear hw
  (try dsimp only)
  (repeat (first | (with_reducible refine inBlock_far (by decide) ?_) | (with_reducible refine then_exit ?_) | (with_reducible refine inBlock_here ?_) | ((fail_if_success (with_reducible refine calls_id ?_)); go_step)))
  all_goals first | refine bodyPost_end (results_none rfl _ _ _) rfl ⟨rfl, ?_, ?_⟩ | refine bodyPost_ret (results_none rfl _ _ _) rfl ⟨rfl, ?_, ?_⟩
  all_goals first
    | (apply CpuS.mk2; (repeat (first | with_reducible exact hR1 | apply CpuR.set | apply CpuR.drew)); rfl)
    | (repeat (first | with_reducible exact hB1 | with_reducible exact Besd.refl _ _ _ | refine Besd.own ?_ _ _ | refine Besd.drew ?_))
end Go.Proofs.YthepcjecmlkaiaaDoor.Mi
