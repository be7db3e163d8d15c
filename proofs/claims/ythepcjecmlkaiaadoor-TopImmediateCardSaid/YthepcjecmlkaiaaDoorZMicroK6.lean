/- Package micro: what a cycle leaves at each step. -/
import Derived.Test.YthepcjecmlkaiaaDoorZMicroO
import Derived.Test.YthepcjecmlkaiaaDoorZAluWalks
import Derived.Test.YthepcjecmlkaiaaDoorZKeep
import Derived.Deep.RegionHeld3
import Derived.RegionTactic
import Derived.Deep.RegionWith
import Derived.BigQuiet
import Derived.IntWalk
namespace Go.Proofs.YthepcjecmlkaiaaDoor.Mi
open Go Go.RowKit Go.Deep Go.Proofs.YthepcjecmlkaiaaDoor Go.Proofs.YthepcjecmlkaiaaDoor.Ex
set_option linter.unusedVariables false
set_option linter.unusedSimpArgs false
set_option maxRecDepth 100000 in
set_option maxHeartbeats 8000000 in
theorem clock_21 (c : Cp) (ok : c.ok) (w : World) (B : Nat) (hS : CpuS w B c) (ht : c.t = 21) (v : Int) (v0 : 0 ≤ v) (v1 : v ≤ 255) : Calls Tryd.prog 10 #[.pointer (some ⟨B, 0, none⟩), .int .u8 v] w (MPost w B (clockN 21 c v)) := by
  obtain ⟨⟨a, x, y, s, p, pc⟩, t, op, nm, md, kd, kn, pl, wr, b⟩ := c
  simp only [] at ht
  subst ht
  obtain ⟨c0, c1, c2, c3, c4, c5, c6, c7, c8, c9, c10, c11, c12, c13, c14⟩ := hS.all
  obtain ⟨⟨a0, a1, x0, x1, y0, y1, s0, s1, p0, p1, pc0, pc1⟩, t0, t1, op0, op1, md0, md1, kd0, kd1, pl0, pl1, wr0, wr1, b0, b1⟩ := ok
  simp only [] at a0 a1 x0 x1 y0 y1 s0 s1 p0 p1 pc0 pc1 t0 t1 op0 op1 md0 md1 kd0 kd1 pl0 pl1 wr0 wr1 b0 b1
  have ff := hS.thaw
  have hlt := hS.lt
  have hR : CpuR w B _ := hS
  have hne : ¬ w.heap.size = B := by omega
  have hne' : ¬ B = w.heap.size := by omega
  have hpc0 : 0 ≤ (pc + 1) % 65536 := by omega
  have hpc1 : (pc + 1) % 65536 ≤ 65535 := by omega
  have hv2 : v ≤ 65535 := by omega
  have km := fun w' h => stored_any ⟨⟨a, x, y, s, p, pc⟩, 21, op, nm, md, kd, kn, pl, wr, b⟩ (by exact ⟨⟨a0, a1, x0, x1, y0, y1, s0, s1, p0, p1, pc0, pc1⟩, t0, t1, op0, op1, md0, md1, kd0, kd1, pl0, pl1, wr0, wr1, b0, b1⟩) w' B h
  show Calls _ _ _ _ (MPost w B ⟨stRF ⟨⟨a, x, y, s, p, pc⟩, 21, op, nm, md, kd, kn, pl, wr, b⟩, 0, op, nm, md, kd, kn, pl, wr, b⟩)
  generalize stPF ⟨⟨a, x, y, s, p, pc⟩, 21, op, nm, md, kd, kn, pl, wr, b⟩ = PL at *
  generalize stVF ⟨⟨a, x, y, s, p, pc⟩, 21, op, nm, md, kd, kn, pl, wr, b⟩ = V at *
  generalize stRF ⟨⟨a, x, y, s, p, pc⟩, 21, op, nm, md, kd, kn, pl, wr, b⟩ = R at *
  obtain ⟨ra, rx, ry, rs, rp, rpc⟩ := R
  simp only [rgU] at km
  go_enter Tryd.func10, Tryd.ntmps10
  (repeat (first | (with_reducible refine inBlock_far (by decide) ?_) | (with_reducible refine then_exit ?_) | (with_reducible refine inBlock_here ?_) | ((fail_if_success (with_reducible refine calls_id ?_)); go_step)))
  refine (km _ hS).mono ?_
  rintro e u1 ⟨rfl, hw⟩
  have hB1 : Besd B w.heap.size w u1 := Besd.below (by repeat (first | with_reducible exact Besd.refl _ _ _ | refine Besd.own ?_ _ _)) hw (Nat.le_refl _)
  have hR1 : CpuR u1 B (Cp.row ⟨⟨a, x, y, s, p, pc⟩, 21, op, nm, md, kd, kn, pl, wr, b⟩) := CpuR.below (CpuS.mk2 (c := ⟨⟨a, x, y, s, p, pc⟩, 21, op, nm, md, kd, kn, pl, wr, b⟩) (by repeat (first | with_reducible exact hR | apply CpuR.set)) rfl) hw
  clear c0 c1 c2 c3 c4 c5 c6 c7 c8 c9 c10 c11 c12 c13 c14 ff
  obtain ⟨c0, c1, c2, c3, c4, c5, c6, c7, c8, c9, c10, c11, c12, c13, c14⟩ := CpuS.all (show CpuS u1 B ⟨⟨a, x, y, s, p, pc⟩, 21, op, nm, md, kd, kn, pl, wr, b⟩ from hR1)
  have ff := CpuR.thaw hR1
  clear hw
  (try dsimp only)
  (repeat (first | (with_reducible refine inBlock_far (by decide) ?_) | (with_reducible refine then_exit ?_) | (with_reducible refine inBlock_here ?_) | ((fail_if_success (with_reducible refine calls_id ?_)); go_step)))
  all_goals first | refine bodyPost_end (results_none rfl _ _ _) rfl ⟨rfl, ?_, ?_⟩ | refine bodyPost_ret (results_none rfl _ _ _) rfl ⟨rfl, ?_, ?_⟩
  all_goals first
    | (apply CpuS.mk2; (repeat (first | with_reducible exact hR1 | apply CpuR.set | apply CpuR.drew)); rfl)
    | (repeat (first | with_reducible exact hB1 | with_reducible exact Besd.refl _ _ _ | refine Besd.own ?_ _ _ | refine Besd.drew ?_))
end Go.Proofs.YthepcjecmlkaiaaDoor.Mi
