/- Package micro: what it asks at each step. -/
import Derived.Test.YthepcjecmlkaiaaDoorZMicroN
import Derived.Test.YthepcjecmlkaiaaDoorZMicroBase
import Derived.Test.YthepcjecmlkaiaaDoorZAluWalks
import Derived.Test.YthepcjecmlkaiaaDoorZKeep
import Derived.Deep.RegionHeld3
import Derived.RegionTactic
import Derived.Deep.RegionWith
import Derived.BigQuiet
import Derived.IntWalk
namespace Go.Proofs.YthepcjecmlkaiaaDoor.Mi
open Go Go.RowKit Go.Deep Go.Proofs.YthepcjecmlkaiaaDoor Go.Proofs.YthepcjecmlkaiaaDoor.Ex
set_option linter.unusedVariables false
set_option linter.unusedSimpArgs false
set_option maxRecDepth 100000 in
set_option maxHeartbeats 8000000 in
theorem pins_38 (c : Cp) (ok : c.ok) (w : World) (B : Nat) (hS : CpuS w B c) (ht : c.t = 38) : Calls Tryd.prog 11 #[.pointer (some ⟨B, 0, none⟩)] w fun e w' => e = .returned (pinV (pinsN 38 c)) ∧ Below w.heap.size w w' := by
  obtain ⟨⟨a, x, y, s, p, pc⟩, t, op, nm, md, kd, kn, pl, wr, b⟩ := c
  simp only [] at ht
  subst ht
  obtain ⟨c0, c1, c2, c3, c4, c5, c6, c7, c8, c9, c10, c11, c12, c13, c14⟩ := hS.all
  obtain ⟨⟨a0, a1, x0, x1, y0, y1, s0, s1, p0, p1, pc0, pc1⟩, t0, t1, op0, op1, md0, md1, kd0, kd1, pl0, pl1, wr0, wr1, b0, b1⟩ := ok
  simp only [] at a0 a1 x0 x1 y0 y1 s0 s1 p0 p1 pc0 pc1 t0 t1 op0 op1 md0 md1 kd0 kd1 pl0 pl1 wr0 wr1 b0 b1
  have ff := hS.thaw
  have hlt := hS.lt
  have hR : CpuR w B _ := hS
  have hne : ¬ w.heap.size = B := by omega
  have hne' : ¬ B = w.heap.size := by omega
  have kst := fun w' h => stack_any ⟨⟨a, x, y, s, p, pc⟩, 38, op, nm, md, kd, kn, pl, wr, b⟩ (by exact ⟨⟨a0, a1, x0, x1, y0, y1, s0, s1, p0, p1, pc0, pc1⟩, t0, t1, op0, op1, md0, md1, kd0, kd1, pl0, pl1, wr0, wr1, b0, b1⟩) w' B h
  simp only [stackF] at kst
  have q : pc / 256 % 256 = pc / 256 := by omega
  have q2 : IntKind.u8.wrap (pc / 256) = pc / 256 := by rw [IntKind.wrap_u8]; exact q
  have kwr := fun v d h0 h1 w' => write_ask v d h0 h1 w'
  simp only [pinV, wrP] at kwr
  go_enter Tryd.func11, Tryd.ntmps11
  repeat (first | (with_reducible refine wp_keep (fun W => RowT 40 W w.heap.size #[.int .u16 0, .bool false, .int .u8 0] ∧ CpuR W B (Cp.row ⟨⟨a, x, y, s, p, pc⟩, 38, op, nm, md, kd, kn, pl, wr, b⟩) ∧ Below w.heap.size w W) (And.intro (RowT.new w _ _) (And.intro (hR.alloc _) ((Below.refl _ _).alloc (Nat.le_refl _) _))) ?_) | go_step)
  rintro W0 ⟨hD0, hR0, hb0⟩
  clear c0 c1 c2 c3 c4 c5 c6 c7 c8 c9 c10 c11 c12 c13 c14 ff hS hR
  obtain ⟨c0, c1, c2, c3, c4, c5, c6, c7, c8, c9, c10, c11, c12, c13, c14⟩ := CpuS.all (show CpuS W0 B ⟨⟨a, x, y, s, p, pc⟩, 38, op, nm, md, kd, kn, pl, wr, b⟩ from hR0)
  have ff := hR0.thaw
  have l0 := hD0.lt
  have hW : w.heap.size ≤ W0.heap.size := Nat.le_of_lt l0
  have hnn := World.new_ne W0 _ c0
  (repeat (first | (with_reducible refine inBlock_far (by decide) ?_) | (with_reducible refine then_exit ?_) | (with_reducible refine inBlock_here ?_) | ((fail_if_success (with_reducible refine calls_id ?_)); go_step)))
  refine (kst _ hR0).mono ?_
  rintro e w1 ⟨rfl, rfl⟩
  dsimp only
  (repeat (first | (with_reducible refine inBlock_far (by decide) ?_) | (with_reducible refine then_exit ?_) | (with_reducible refine inBlock_here ?_) | ((fail_if_success (with_reducible refine calls_id ?_)); go_step)))
  refine (kwr (256 + s) _ (by omega) (by omega) _).mono ?_
  rintro e w1 ⟨rfl, hw⟩
  obtain ⟨q0, q1, q2, qf⟩ := box3 (RowT.below hD0 hw); have hb := Below.trans hb0 (hw.mono hW)
  clear hw
  dsimp only
  (repeat (first | (with_reducible refine inBlock_far (by decide) ?_) | (with_reducible refine then_exit ?_) | (with_reducible refine inBlock_here ?_) | ((fail_if_success (with_reducible refine calls_id ?_)); go_step)))
  refine bodyPost_ret (v := .agg #[.int .u16 ((256 + s) % 8192), .bool true, .int .u8 (pc / 256)]) (by simp [results, Tryd.results11, go_sem, q0, q1, q2]) rfl ⟨rfl, ?_⟩
  repeat (first | (with_reducible exact hb) | (with_reducible refine Below.drew ?_) | (refine Below.setCell ?_ (by exact Nat.le_refl _) _))
set_option maxRecDepth 100000 in
set_option maxHeartbeats 8000000 in
theorem pins_52 (c : Cp) (ok : c.ok) (w : World) (B : Nat) (hS : CpuS w B c) (ht : c.t = 52) : Calls Tryd.prog 11 #[.pointer (some ⟨B, 0, none⟩)] w fun e w' => e = .returned (pinV (pinsN 52 c)) ∧ Below w.heap.size w w' := by
  obtain ⟨⟨a, x, y, s, p, pc⟩, t, op, nm, md, kd, kn, pl, wr, b⟩ := c
  simp only [] at ht
  subst ht
  obtain ⟨c0, c1, c2, c3, c4, c5, c6, c7, c8, c9, c10, c11, c12, c13, c14⟩ := hS.all
  obtain ⟨⟨a0, a1, x0, x1, y0, y1, s0, s1, p0, p1, pc0, pc1⟩, t0, t1, op0, op1, md0, md1, kd0, kd1, pl0, pl1, wr0, wr1, b0, b1⟩ := ok
  simp only [] at a0 a1 x0 x1 y0 y1 s0 s1 p0 p1 pc0 pc1 t0 t1 op0 op1 md0 md1 kd0 kd1 pl0 pl1 wr0 wr1 b0 b1
  have ff := hS.thaw
  have hlt := hS.lt
  have hR : CpuR w B _ := hS
  have hne : ¬ w.heap.size = B := by omega
  have hne' : ¬ B = w.heap.size := by omega
  have kst := fun w' h => stack_any ⟨⟨a, x, y, s, p, pc⟩, 52, op, nm, md, kd, kn, pl, wr, b⟩ (by exact ⟨⟨a0, a1, x0, x1, y0, y1, s0, s1, p0, p1, pc0, pc1⟩, t0, t1, op0, op1, md0, md1, kd0, kd1, pl0, pl1, wr0, wr1, b0, b1⟩) w' B h
  simp only [stackF] at kst
  have q : pc / 256 % 256 = pc / 256 := by omega
  have q2 : IntKind.u8.wrap (pc / 256) = pc / 256 := by rw [IntKind.wrap_u8]; exact q
  have kwr := fun v d h0 h1 w' => write_ask v d h0 h1 w'
  simp only [pinV, wrP] at kwr
  go_enter Tryd.func11, Tryd.ntmps11
  repeat (first | (with_reducible refine wp_keep (fun W => RowT 40 W w.heap.size #[.int .u16 0, .bool false, .int .u8 0] ∧ CpuR W B (Cp.row ⟨⟨a, x, y, s, p, pc⟩, 52, op, nm, md, kd, kn, pl, wr, b⟩) ∧ Below w.heap.size w W) (And.intro (RowT.new w _ _) (And.intro (hR.alloc _) ((Below.refl _ _).alloc (Nat.le_refl _) _))) ?_) | go_step)
  rintro W0 ⟨hD0, hR0, hb0⟩
  clear c0 c1 c2 c3 c4 c5 c6 c7 c8 c9 c10 c11 c12 c13 c14 ff hS hR
  obtain ⟨c0, c1, c2, c3, c4, c5, c6, c7, c8, c9, c10, c11, c12, c13, c14⟩ := CpuS.all (show CpuS W0 B ⟨⟨a, x, y, s, p, pc⟩, 52, op, nm, md, kd, kn, pl, wr, b⟩ from hR0)
  have ff := hR0.thaw
  have l0 := hD0.lt
  have hW : w.heap.size ≤ W0.heap.size := Nat.le_of_lt l0
  have hnn := World.new_ne W0 _ c0
  (repeat (first | (with_reducible refine inBlock_far (by decide) ?_) | (with_reducible refine then_exit ?_) | (with_reducible refine inBlock_here ?_) | ((fail_if_success (with_reducible refine calls_id ?_)); go_step)))
  refine (kst _ hR0).mono ?_
  rintro e w1 ⟨rfl, rfl⟩
  dsimp only
  (repeat (first | (with_reducible refine inBlock_far (by decide) ?_) | (with_reducible refine then_exit ?_) | (with_reducible refine inBlock_here ?_) | ((fail_if_success (with_reducible refine calls_id ?_)); go_step)))
  refine (kwr (256 + s) _ (by omega) (by omega) _).mono ?_
  rintro e w1 ⟨rfl, hw⟩
  obtain ⟨q0, q1, q2, qf⟩ := box3 (RowT.below hD0 hw); have hb := Below.trans hb0 (hw.mono hW)
  clear hw
  dsimp only
  (repeat (first | (with_reducible refine inBlock_far (by decide) ?_) | (with_reducible refine then_exit ?_) | (with_reducible refine inBlock_here ?_) | ((fail_if_success (with_reducible refine calls_id ?_)); go_step)))
  refine bodyPost_ret (v := .agg #[.int .u16 ((256 + s) % 8192), .bool true, .int .u8 (pc / 256)]) (by simp [results, Tryd.results11, go_sem, q0, q1, q2]) rfl ⟨rfl, ?_⟩
  repeat (first | (with_reducible exact hb) | (with_reducible refine Below.drew ?_) | (refine Below.setCell ?_ (by exact Nat.le_refl _) _))
set_option maxRecDepth 100000 in
set_option maxHeartbeats 8000000 in
theorem pins_39 (c : Cp) (ok : c.ok) (w : World) (B : Nat) (hS : CpuS w B c) (ht : c.t = 39) : Calls Tryd.prog 11 #[.pointer (some ⟨B, 0, none⟩)] w fun e w' => e = .returned (pinV (pinsN 39 c)) ∧ Below w.heap.size w w' := by
  obtain ⟨⟨a, x, y, s, p, pc⟩, t, op, nm, md, kd, kn, pl, wr, b⟩ := c
  simp only [] at ht
  subst ht
  obtain ⟨c0, c1, c2, c3, c4, c5, c6, c7, c8, c9, c10, c11, c12, c13, c14⟩ := hS.all
  obtain ⟨⟨a0, a1, x0, x1, y0, y1, s0, s1, p0, p1, pc0, pc1⟩, t0, t1, op0, op1, md0, md1, kd0, kd1, pl0, pl1, wr0, wr1, b0, b1⟩ := ok
  simp only [] at a0 a1 x0 x1 y0 y1 s0 s1 p0 p1 pc0 pc1 t0 t1 op0 op1 md0 md1 kd0 kd1 pl0 pl1 wr0 wr1 b0 b1
  have ff := hS.thaw
  have hlt := hS.lt
  have hR : CpuR w B _ := hS
  have hne : ¬ w.heap.size = B := by omega
  have hne' : ¬ B = w.heap.size := by omega
  have kst := fun w' h => stack_any ⟨⟨a, x, y, s, p, pc⟩, 39, op, nm, md, kd, kn, pl, wr, b⟩ (by exact ⟨⟨a0, a1, x0, x1, y0, y1, s0, s1, p0, p1, pc0, pc1⟩, t0, t1, op0, op1, md0, md1, kd0, kd1, pl0, pl1, wr0, wr1, b0, b1⟩) w' B h
  simp only [stackF] at kst
  have q2 : IntKind.u8.wrap pc = pc % 256 := by rw [IntKind.wrap_u8]
  have kwr := fun v d h0 h1 w' => write_ask v d h0 h1 w'
  simp only [pinV, wrP] at kwr
  go_enter Tryd.func11, Tryd.ntmps11
  repeat (first | (with_reducible refine wp_keep (fun W => RowT 40 W w.heap.size #[.int .u16 0, .bool false, .int .u8 0] ∧ CpuR W B (Cp.row ⟨⟨a, x, y, s, p, pc⟩, 39, op, nm, md, kd, kn, pl, wr, b⟩) ∧ Below w.heap.size w W) (And.intro (RowT.new w _ _) (And.intro (hR.alloc _) ((Below.refl _ _).alloc (Nat.le_refl _) _))) ?_) | go_step)
  rintro W0 ⟨hD0, hR0, hb0⟩
  clear c0 c1 c2 c3 c4 c5 c6 c7 c8 c9 c10 c11 c12 c13 c14 ff hS hR
  obtain ⟨c0, c1, c2, c3, c4, c5, c6, c7, c8, c9, c10, c11, c12, c13, c14⟩ := CpuS.all (show CpuS W0 B ⟨⟨a, x, y, s, p, pc⟩, 39, op, nm, md, kd, kn, pl, wr, b⟩ from hR0)
  have ff := hR0.thaw
  have l0 := hD0.lt
  have hW : w.heap.size ≤ W0.heap.size := Nat.le_of_lt l0
  have hnn := World.new_ne W0 _ c0
  (repeat (first | (with_reducible refine inBlock_far (by decide) ?_) | (with_reducible refine then_exit ?_) | (with_reducible refine inBlock_here ?_) | ((fail_if_success (with_reducible refine calls_id ?_)); go_step)))
  refine (kst _ hR0).mono ?_
  rintro e w1 ⟨rfl, rfl⟩
  dsimp only
  (repeat (first | (with_reducible refine inBlock_far (by decide) ?_) | (with_reducible refine then_exit ?_) | (with_reducible refine inBlock_here ?_) | ((fail_if_success (with_reducible refine calls_id ?_)); go_step)))
  refine (kwr (256 + s) _ (by omega) (by omega) _).mono ?_
  rintro e w1 ⟨rfl, hw⟩
  obtain ⟨q0, q1, q2, qf⟩ := box3 (RowT.below hD0 hw); have hb := Below.trans hb0 (hw.mono hW)
  clear hw
  dsimp only
  (repeat (first | (with_reducible refine inBlock_far (by decide) ?_) | (with_reducible refine then_exit ?_) | (with_reducible refine inBlock_here ?_) | ((fail_if_success (with_reducible refine calls_id ?_)); go_step)))
  refine bodyPost_ret (v := .agg #[.int .u16 ((256 + s) % 8192), .bool true, .int .u8 (pc % 256)]) (by simp [results, Tryd.results11, go_sem, q0, q1, q2]) rfl ⟨rfl, ?_⟩
  repeat (first | (with_reducible exact hb) | (with_reducible refine Below.drew ?_) | (refine Below.setCell ?_ (by exact Nat.le_refl _) _))
set_option maxRecDepth 100000 in
set_option maxHeartbeats 8000000 in
theorem pins_53 (c : Cp) (ok : c.ok) (w : World) (B : Nat) (hS : CpuS w B c) (ht : c.t = 53) : Calls Tryd.prog 11 #[.pointer (some ⟨B, 0, none⟩)] w fun e w' => e = .returned (pinV (pinsN 53 c)) ∧ Below w.heap.size w w' := by
  obtain ⟨⟨a, x, y, s, p, pc⟩, t, op, nm, md, kd, kn, pl, wr, b⟩ := c
  simp only [] at ht
  subst ht
  obtain ⟨c0, c1, c2, c3, c4, c5, c6, c7, c8, c9, c10, c11, c12, c13, c14⟩ := hS.all
  obtain ⟨⟨a0, a1, x0, x1, y0, y1, s0, s1, p0, p1, pc0, pc1⟩, t0, t1, op0, op1, md0, md1, kd0, kd1, pl0, pl1, wr0, wr1, b0, b1⟩ := ok
  simp only [] at a0 a1 x0 x1 y0 y1 s0 s1 p0 p1 pc0 pc1 t0 t1 op0 op1 md0 md1 kd0 kd1 pl0 pl1 wr0 wr1 b0 b1
  have ff := hS.thaw
  have hlt := hS.lt
  have hR : CpuR w B _ := hS
  have hne : ¬ w.heap.size = B := by omega
  have hne' : ¬ B = w.heap.size := by omega
  have kst := fun w' h => stack_any ⟨⟨a, x, y, s, p, pc⟩, 53, op, nm, md, kd, kn, pl, wr, b⟩ (by exact ⟨⟨a0, a1, x0, x1, y0, y1, s0, s1, p0, p1, pc0, pc1⟩, t0, t1, op0, op1, md0, md1, kd0, kd1, pl0, pl1, wr0, wr1, b0, b1⟩) w' B h
  simp only [stackF] at kst
  have q2 : IntKind.u8.wrap pc = pc % 256 := by rw [IntKind.wrap_u8]
  have kwr := fun v d h0 h1 w' => write_ask v d h0 h1 w'
  simp only [pinV, wrP] at kwr
  go_enter Tryd.func11, Tryd.ntmps11
  repeat (first | (with_reducible refine wp_keep (fun W => RowT 40 W w.heap.size #[.int .u16 0, .bool false, .int .u8 0] ∧ CpuR W B (Cp.row ⟨⟨a, x, y, s, p, pc⟩, 53, op, nm, md, kd, kn, pl, wr, b⟩) ∧ Below w.heap.size w W) (And.intro (RowT.new w _ _) (And.intro (hR.alloc _) ((Below.refl _ _).alloc (Nat.le_refl _) _))) ?_) | go_step)
  rintro W0 ⟨hD0, hR0, hb0⟩
  clear c0 c1 c2 c3 c4 c5 c6 c7 c8 c9 c10 c11 c12 c13 c14 ff hS hR
  obtain ⟨c0, c1, c2, c3, c4, c5, c6, c7, c8, c9, c10, c11, c12, c13, c14⟩ := CpuS.all (show CpuS W0 B ⟨⟨a, x, y, s, p, pc⟩, 53, op, nm, md, kd, kn, pl, wr, b⟩ from hR0)
  have ff := hR0.thaw
  have l0 := hD0.lt
  have hW : w.heap.size ≤ W0.heap.size := Nat.le_of_lt l0
  have hnn := World.new_ne W0 _ c0
  (repeat (first | (with_reducible refine inBlock_far (by decide) ?_) | (with_reducible refine then_exit ?_) | (with_reducible refine inBlock_here ?_) | ((fail_if_success (with_reducible refine calls_id ?_)); go_step)))
  refine (kst _ hR0).mono ?_
  rintro e w1 ⟨rfl, rfl⟩
  dsimp only
  (repeat (first | (with_reducible refine inBlock_far (by decide) ?_) | (with_reducible refine then_exit ?_) | (with_reducible refine inBlock_here ?_) | ((fail_if_success (with_reducible refine calls_id ?_)); go_step)))
  refine (kwr (256 + s) _ (by omega) (by omega) _).mono ?_
  rintro e w1 ⟨rfl, hw⟩
  obtain ⟨q0, q1, q2, qf⟩ := box3 (RowT.below hD0 hw); have hb := Below.trans hb0 (hw.mono hW)
  clear hw
  dsimp only
  (repeat (first | (with_reducible refine inBlock_far (by decide) ?_) | (with_reducible refine then_exit ?_) | (with_reducible refine inBlock_here ?_) | ((fail_if_success (with_reducible refine calls_id ?_)); go_step)))
  refine bodyPost_ret (v := .agg #[.int .u16 ((256 + s) % 8192), .bool true, .int .u8 (pc % 256)]) (by simp [results, Tryd.results11, go_sem, q0, q1, q2]) rfl ⟨rfl, ?_⟩
  repeat (first | (with_reducible exact hb) | (with_reducible refine Below.drew ?_) | (refine Below.setCell ?_ (by exact Nat.le_refl _) _))
set_option maxRecDepth 100000 in
set_option maxHeartbeats 8000000 in
theorem pins_54 (c : Cp) (ok : c.ok) (w : World) (B : Nat) (hS : CpuS w B c) (ht : c.t = 54) : Calls Tryd.prog 11 #[.pointer (some ⟨B, 0, none⟩)] w fun e w' => e = .returned (pinV (pinsN 54 c)) ∧ Below w.heap.size w w' := by
  obtain ⟨⟨a, x, y, s, p, pc⟩, t, op, nm, md, kd, kn, pl, wr, b⟩ := c
  simp only [] at ht
  subst ht
  obtain ⟨c0, c1, c2, c3, c4, c5, c6, c7, c8, c9, c10, c11, c12, c13, c14⟩ := hS.all
  obtain ⟨⟨a0, a1, x0, x1, y0, y1, s0, s1, p0, p1, pc0, pc1⟩, t0, t1, op0, op1, md0, md1, kd0, kd1, pl0, pl1, wr0, wr1, b0, b1⟩ := ok
  simp only [] at a0 a1 x0 x1 y0 y1 s0 s1 p0 p1 pc0 pc1 t0 t1 op0 op1 md0 md1 kd0 kd1 pl0 pl1 wr0 wr1 b0 b1
  have ff := hS.thaw
  have hlt := hS.lt
  have hR : CpuR w B _ := hS
  have hne : ¬ w.heap.size = B := by omega
  have hne' : ¬ B = w.heap.size := by omega
  have kst := fun w' h => stack_any ⟨⟨a, x, y, s, p, pc⟩, 54, op, nm, md, kd, kn, pl, wr, b⟩ (by exact ⟨⟨a0, a1, x0, x1, y0, y1, s0, s1, p0, p1, pc0, pc1⟩, t0, t1, op0, op1, md0, md1, kd0, kd1, pl0, pl1, wr0, wr1, b0, b1⟩) w' B h
  simp only [stackF] at kst
  have kwr := fun v d h0 h1 w' => write_ask v d h0 h1 w'
  simp only [pinV, wrP] at kwr
  go_enter Tryd.func11, Tryd.ntmps11
  repeat (first | (with_reducible refine wp_keep (fun W => RowT 40 W w.heap.size #[.int .u16 0, .bool false, .int .u8 0] ∧ CpuR W B (Cp.row ⟨⟨a, x, y, s, p, pc⟩, 54, op, nm, md, kd, kn, pl, wr, b⟩) ∧ Below w.heap.size w W) (And.intro (RowT.new w _ _) (And.intro (hR.alloc _) ((Below.refl _ _).alloc (Nat.le_refl _) _))) ?_) | go_step)
  rintro W0 ⟨hD0, hR0, hb0⟩
  clear c0 c1 c2 c3 c4 c5 c6 c7 c8 c9 c10 c11 c12 c13 c14 ff hS hR
  obtain ⟨c0, c1, c2, c3, c4, c5, c6, c7, c8, c9, c10, c11, c12, c13, c14⟩ := CpuS.all (show CpuS W0 B ⟨⟨a, x, y, s, p, pc⟩, 54, op, nm, md, kd, kn, pl, wr, b⟩ from hR0)
  have ff := hR0.thaw
  have l0 := hD0.lt
  have hW : w.heap.size ≤ W0.heap.size := Nat.le_of_lt l0
  have hnn := World.new_ne W0 _ c0
  (repeat (first | (with_reducible refine inBlock_far (by decide) ?_) | (with_reducible refine then_exit ?_) | (with_reducible refine inBlock_here ?_) | ((fail_if_success (with_reducible refine calls_id ?_)); go_step)))
  go_region_held3 (fun w' => w'.cell? ⟨B, 4, none⟩ = some (.int .u8 p)) (go_keep) ((first | (go_at_call 41; refine (kst _ hR0.drew).mono ?_; rintro e w1 ⟨rfl, rfl⟩) | (go_at_call 42; refine (kwr (256 + s) _ (by omega) (by omega) _).mono ?_; rintro e w1 ⟨rfl, hw⟩; have hR1 := hR0.drew.below hw; obtain ⟨d0, d1, d2, d3, d4, d5, d6, d7, d8, d9, d10, d11, d12, d13, d14⟩ := CpuS.all (show CpuS w1 B ⟨⟨a, x, y, s, p, pc⟩, 54, op, nm, md, kd, kn, pl, wr, b⟩ from hR1); obtain ⟨q0, q1, q2, qf⟩ := box3 (RowT.below hD0.drew hw); have hb := Below.trans hb0.drew (hw.mono hW)) | fail))
  all_goals (try dsimp only)
  all_goals (repeat (first | (with_reducible refine inBlock_far (by decide) ?_) | (with_reducible refine then_exit ?_) | (with_reducible refine inBlock_here ?_) | ((fail_if_success (with_reducible refine calls_id ?_)); go_step)))
  all_goals refine bodyPost_ret (v := .agg #[.int .u16 ((256 + s) % 8192), .bool true, .int .u8 (bits .or .u8 p 16)]) (by simp [results, Tryd.results11, go_sem, q0, q1, q2]) rfl ⟨rfl, ?_⟩
  all_goals repeat (first | (with_reducible exact hb) | (with_reducible refine Below.drew ?_) | (refine Below.setCell ?_ (by exact Nat.le_refl _) _))
set_option maxRecDepth 100000 in
set_option maxHeartbeats 8000000 in
theorem pins_0 (c : Cp) (ok : c.ok) (w : World) (B : Nat) (hS : CpuS w B c) (ht : c.t = 0) : Calls Tryd.prog 11 #[.pointer (some ⟨B, 0, none⟩)] w fun e w' => e = .returned (pinV (pinsN 0 c)) ∧ Below w.heap.size w w' := by
  obtain ⟨⟨a, x, y, s, p, pc⟩, t, op, nm, md, kd, kn, pl, wr, b⟩ := c
  simp only [] at ht
  subst ht
  obtain ⟨c0, c1, c2, c3, c4, c5, c6, c7, c8, c9, c10, c11, c12, c13, c14⟩ := hS.all
  obtain ⟨⟨a0, a1, x0, x1, y0, y1, s0, s1, p0, p1, pc0, pc1⟩, t0, t1, op0, op1, md0, md1, kd0, kd1, pl0, pl1, wr0, wr1, b0, b1⟩ := ok
  simp only [] at a0 a1 x0 x1 y0 y1 s0 s1 p0 p1 pc0 pc1 t0 t1 op0 op1 md0 md1 kd0 kd1 pl0 pl1 wr0 wr1 b0 b1
  have ff := hS.thaw
  have hlt := hS.lt
  have hR : CpuR w B _ := hS
  have hne : ¬ w.heap.size = B := by omega
  have hne' : ¬ B = w.heap.size := by omega
  have kr := fun v h0 h1 w' => read_ask v h0 h1 w'
  simp only [pinV, rdP] at kr
  go_enter Tryd.func11, Tryd.ntmps11
  repeat (first | (with_reducible refine wp_keep (fun W => RowT 40 W w.heap.size #[.int .u16 0, .bool false, .int .u8 0] ∧ CpuR W B (Cp.row ⟨⟨a, x, y, s, p, pc⟩, 0, op, nm, md, kd, kn, pl, wr, b⟩) ∧ Below w.heap.size w W) (And.intro (RowT.new w _ _) (And.intro (hR.alloc _) ((Below.refl _ _).alloc (Nat.le_refl _) _))) ?_) | go_step)
  rintro W0 ⟨hD0, hR0, hb0⟩
  clear c0 c1 c2 c3 c4 c5 c6 c7 c8 c9 c10 c11 c12 c13 c14 ff hS hR
  obtain ⟨c0, c1, c2, c3, c4, c5, c6, c7, c8, c9, c10, c11, c12, c13, c14⟩ := CpuS.all (show CpuS W0 B ⟨⟨a, x, y, s, p, pc⟩, 0, op, nm, md, kd, kn, pl, wr, b⟩ from hR0)
  have ff := hR0.thaw
  have l0 := hD0.lt
  have hW : w.heap.size ≤ W0.heap.size := Nat.le_of_lt l0
  have hnn := World.new_ne W0 _ c0
  (repeat (first | (with_reducible refine inBlock_far (by decide) ?_) | (with_reducible refine then_exit ?_) | (with_reducible refine inBlock_here ?_) | ((fail_if_success (with_reducible refine calls_id ?_)); go_step)))
  refine (kr (pc) (by omega) (by omega) _).mono ?_
  rintro e w1 ⟨rfl, hw⟩
  obtain ⟨q0, q1, q2, qf⟩ := box3 (RowT.below hD0 hw); have hb := Below.trans hb0 (hw.mono hW)
  clear hw
  dsimp only
  (repeat (first | (with_reducible refine inBlock_far (by decide) ?_) | (with_reducible refine then_exit ?_) | (with_reducible refine inBlock_here ?_) | ((fail_if_success (with_reducible refine calls_id ?_)); go_step)))
  refine bodyPost_ret (v := .agg #[.int .u16 ((pc) % 8192), .bool false, .int .u8 0]) (by simp [results, Tryd.results11, go_sem, q0, q1, q2]) rfl ⟨rfl, ?_⟩
  repeat (first | (with_reducible exact hb) | (with_reducible refine Below.drew ?_) | (refine Below.setCell ?_ (by exact Nat.le_refl _) _))
set_option maxRecDepth 100000 in
set_option maxHeartbeats 8000000 in
theorem pins_2 (c : Cp) (ok : c.ok) (w : World) (B : Nat) (hS : CpuS w B c) (ht : c.t = 2) : Calls Tryd.prog 11 #[.pointer (some ⟨B, 0, none⟩)] w fun e w' => e = .returned (pinV (pinsN 2 c)) ∧ Below w.heap.size w w' := by
  obtain ⟨⟨a, x, y, s, p, pc⟩, t, op, nm, md, kd, kn, pl, wr, b⟩ := c
  simp only [] at ht
  subst ht
  obtain ⟨c0, c1, c2, c3, c4, c5, c6, c7, c8, c9, c10, c11, c12, c13, c14⟩ := hS.all
  obtain ⟨⟨a0, a1, x0, x1, y0, y1, s0, s1, p0, p1, pc0, pc1⟩, t0, t1, op0, op1, md0, md1, kd0, kd1, pl0, pl1, wr0, wr1, b0, b1⟩ := ok
  simp only [] at a0 a1 x0 x1 y0 y1 s0 s1 p0 p1 pc0 pc1 t0 t1 op0 op1 md0 md1 kd0 kd1 pl0 pl1 wr0 wr1 b0 b1
  have ff := hS.thaw
  have hlt := hS.lt
  have hR : CpuR w B _ := hS
  have hne : ¬ w.heap.size = B := by omega
  have hne' : ¬ B = w.heap.size := by omega
  have kr := fun v h0 h1 w' => read_ask v h0 h1 w'
  simp only [pinV, rdP] at kr
  go_enter Tryd.func11, Tryd.ntmps11
  repeat (first | (with_reducible refine wp_keep (fun W => RowT 40 W w.heap.size #[.int .u16 0, .bool false, .int .u8 0] ∧ CpuR W B (Cp.row ⟨⟨a, x, y, s, p, pc⟩, 2, op, nm, md, kd, kn, pl, wr, b⟩) ∧ Below w.heap.size w W) (And.intro (RowT.new w _ _) (And.intro (hR.alloc _) ((Below.refl _ _).alloc (Nat.le_refl _) _))) ?_) | go_step)
  rintro W0 ⟨hD0, hR0, hb0⟩
  clear c0 c1 c2 c3 c4 c5 c6 c7 c8 c9 c10 c11 c12 c13 c14 ff hS hR
  obtain ⟨c0, c1, c2, c3, c4, c5, c6, c7, c8, c9, c10, c11, c12, c13, c14⟩ := CpuS.all (show CpuS W0 B ⟨⟨a, x, y, s, p, pc⟩, 2, op, nm, md, kd, kn, pl, wr, b⟩ from hR0)
  have ff := hR0.thaw
  have l0 := hD0.lt
  have hW : w.heap.size ≤ W0.heap.size := Nat.le_of_lt l0
  have hnn := World.new_ne W0 _ c0
  (repeat (first | (with_reducible refine inBlock_far (by decide) ?_) | (with_reducible refine then_exit ?_) | (with_reducible refine inBlock_here ?_) | ((fail_if_success (with_reducible refine calls_id ?_)); go_step)))
  refine (kr (pc) (by omega) (by omega) _).mono ?_
  rintro e w1 ⟨rfl, hw⟩
  obtain ⟨q0, q1, q2, qf⟩ := box3 (RowT.below hD0 hw); have hb := Below.trans hb0 (hw.mono hW)
  clear hw
  dsimp only
  (repeat (first | (with_reducible refine inBlock_far (by decide) ?_) | (with_reducible refine then_exit ?_) | (with_reducible refine inBlock_here ?_) | ((fail_if_success (with_reducible refine calls_id ?_)); go_step)))
  refine bodyPost_ret (v := .agg #[.int .u16 ((pc) % 8192), .bool false, .int .u8 0]) (by simp [results, Tryd.results11, go_sem, q0, q1, q2]) rfl ⟨rfl, ?_⟩
  repeat (first | (with_reducible exact hb) | (with_reducible refine Below.drew ?_) | (refine Below.setCell ?_ (by exact Nat.le_refl _) _))
set_option maxRecDepth 100000 in
set_option maxHeartbeats 8000000 in
theorem pins_3 (c : Cp) (ok : c.ok) (w : World) (B : Nat) (hS : CpuS w B c) (ht : c.t = 3) : Calls Tryd.prog 11 #[.pointer (some ⟨B, 0, none⟩)] w fun e w' => e = .returned (pinV (pinsN 3 c)) ∧ Below w.heap.size w w' := by
  obtain ⟨⟨a, x, y, s, p, pc⟩, t, op, nm, md, kd, kn, pl, wr, b⟩ := c
  simp only [] at ht
  subst ht
  obtain ⟨c0, c1, c2, c3, c4, c5, c6, c7, c8, c9, c10, c11, c12, c13, c14⟩ := hS.all
  obtain ⟨⟨a0, a1, x0, x1, y0, y1, s0, s1, p0, p1, pc0, pc1⟩, t0, t1, op0, op1, md0, md1, kd0, kd1, pl0, pl1, wr0, wr1, b0, b1⟩ := ok
  simp only [] at a0 a1 x0 x1 y0 y1 s0 s1 p0 p1 pc0 pc1 t0 t1 op0 op1 md0 md1 kd0 kd1 pl0 pl1 wr0 wr1 b0 b1
  have ff := hS.thaw
  have hlt := hS.lt
  have hR : CpuR w B _ := hS
  have hne : ¬ w.heap.size = B := by omega
  have hne' : ¬ B = w.heap.size := by omega
  have kr := fun v h0 h1 w' => read_ask v h0 h1 w'
  simp only [pinV, rdP] at kr
  go_enter Tryd.func11, Tryd.ntmps11
  repeat (first | (with_reducible refine wp_keep (fun W => RowT 40 W w.heap.size #[.int .u16 0, .bool false, .int .u8 0] ∧ CpuR W B (Cp.row ⟨⟨a, x, y, s, p, pc⟩, 3, op, nm, md, kd, kn, pl, wr, b⟩) ∧ Below w.heap.size w W) (And.intro (RowT.new w _ _) (And.intro (hR.alloc _) ((Below.refl _ _).alloc (Nat.le_refl _) _))) ?_) | go_step)
  rintro W0 ⟨hD0, hR0, hb0⟩
  clear c0 c1 c2 c3 c4 c5 c6 c7 c8 c9 c10 c11 c12 c13 c14 ff hS hR
  obtain ⟨c0, c1, c2, c3, c4, c5, c6, c7, c8, c9, c10, c11, c12, c13, c14⟩ := CpuS.all (show CpuS W0 B ⟨⟨a, x, y, s, p, pc⟩, 3, op, nm, md, kd, kn, pl, wr, b⟩ from hR0)
  have ff := hR0.thaw
  have l0 := hD0.lt
  have hW : w.heap.size ≤ W0.heap.size := Nat.le_of_lt l0
  have hnn := World.new_ne W0 _ c0
  (repeat (first | (with_reducible refine inBlock_far (by decide) ?_) | (with_reducible refine then_exit ?_) | (with_reducible refine inBlock_here ?_) | ((fail_if_success (with_reducible refine calls_id ?_)); go_step)))
  refine (kr (pc) (by omega) (by omega) _).mono ?_
  rintro e w1 ⟨rfl, hw⟩
  obtain ⟨q0, q1, q2, qf⟩ := box3 (RowT.below hD0 hw); have hb := Below.trans hb0 (hw.mono hW)
  clear hw
  dsimp only
  (repeat (first | (with_reducible refine inBlock_far (by decide) ?_) | (with_reducible refine then_exit ?_) | (with_reducible refine inBlock_here ?_) | ((fail_if_success (with_reducible refine calls_id ?_)); go_step)))
  refine bodyPost_ret (v := .agg #[.int .u16 ((pc) % 8192), .bool false, .int .u8 0]) (by simp [results, Tryd.results11, go_sem, q0, q1, q2]) rfl ⟨rfl, ?_⟩
  repeat (first | (with_reducible exact hb) | (with_reducible refine Below.drew ?_) | (refine Below.setCell ?_ (by exact Nat.le_refl _) _))
set_option maxRecDepth 100000 in
set_option maxHeartbeats 8000000 in
theorem pins_9 (c : Cp) (ok : c.ok) (w : World) (B : Nat) (hS : CpuS w B c) (ht : c.t = 9) : Calls Tryd.prog 11 #[.pointer (some ⟨B, 0, none⟩)] w fun e w' => e = .returned (pinV (pinsN 9 c)) ∧ Below w.heap.size w w' := by
  obtain ⟨⟨a, x, y, s, p, pc⟩, t, op, nm, md, kd, kn, pl, wr, b⟩ := c
  simp only [] at ht
  subst ht
  obtain ⟨c0, c1, c2, c3, c4, c5, c6, c7, c8, c9, c10, c11, c12, c13, c14⟩ := hS.all
  obtain ⟨⟨a0, a1, x0, x1, y0, y1, s0, s1, p0, p1, pc0, pc1⟩, t0, t1, op0, op1, md0, md1, kd0, kd1, pl0, pl1, wr0, wr1, b0, b1⟩ := ok
  simp only [] at a0 a1 x0 x1 y0 y1 s0 s1 p0 p1 pc0 pc1 t0 t1 op0 op1 md0 md1 kd0 kd1 pl0 pl1 wr0 wr1 b0 b1
  have ff := hS.thaw
  have hlt := hS.lt
  have hR : CpuR w B _ := hS
  have hne : ¬ w.heap.size = B := by omega
  have hne' : ¬ B = w.heap.size := by omega
  have kr := fun v h0 h1 w' => read_ask v h0 h1 w'
  simp only [pinV, rdP] at kr
  go_enter Tryd.func11, Tryd.ntmps11
  repeat (first | (with_reducible refine wp_keep (fun W => RowT 40 W w.heap.size #[.int .u16 0, .bool false, .int .u8 0] ∧ CpuR W B (Cp.row ⟨⟨a, x, y, s, p, pc⟩, 9, op, nm, md, kd, kn, pl, wr, b⟩) ∧ Below w.heap.size w W) (And.intro (RowT.new w _ _) (And.intro (hR.alloc _) ((Below.refl _ _).alloc (Nat.le_refl _) _))) ?_) | go_step)
  rintro W0 ⟨hD0, hR0, hb0⟩
  clear c0 c1 c2 c3 c4 c5 c6 c7 c8 c9 c10 c11 c12 c13 c14 ff hS hR
  obtain ⟨c0, c1, c2, c3, c4, c5, c6, c7, c8, c9, c10, c11, c12, c13, c14⟩ := CpuS.all (show CpuS W0 B ⟨⟨a, x, y, s, p, pc⟩, 9, op, nm, md, kd, kn, pl, wr, b⟩ from hR0)
  have ff := hR0.thaw
  have l0 := hD0.lt
  have hW : w.heap.size ≤ W0.heap.size := Nat.le_of_lt l0
  have hnn := World.new_ne W0 _ c0
  (repeat (first | (with_reducible refine inBlock_far (by decide) ?_) | (with_reducible refine then_exit ?_) | (with_reducible refine inBlock_here ?_) | ((fail_if_success (with_reducible refine calls_id ?_)); go_step)))
  refine (kr (pc) (by omega) (by omega) _).mono ?_
  rintro e w1 ⟨rfl, hw⟩
  obtain ⟨q0, q1, q2, qf⟩ := box3 (RowT.below hD0 hw); have hb := Below.trans hb0 (hw.mono hW)
  clear hw
  dsimp only
  (repeat (first | (with_reducible refine inBlock_far (by decide) ?_) | (with_reducible refine then_exit ?_) | (with_reducible refine inBlock_here ?_) | ((fail_if_success (with_reducible refine calls_id ?_)); go_step)))
  refine bodyPost_ret (v := .agg #[.int .u16 ((pc) % 8192), .bool false, .int .u8 0]) (by simp [results, Tryd.results11, go_sem, q0, q1, q2]) rfl ⟨rfl, ?_⟩
  repeat (first | (with_reducible exact hb) | (with_reducible refine Below.drew ?_) | (refine Below.setCell ?_ (by exact Nat.le_refl _) _))
set_option maxRecDepth 100000 in
set_option maxHeartbeats 8000000 in
theorem pins_10 (c : Cp) (ok : c.ok) (w : World) (B : Nat) (hS : CpuS w B c) (ht : c.t = 10) : Calls Tryd.prog 11 #[.pointer (some ⟨B, 0, none⟩)] w fun e w' => e = .returned (pinV (pinsN 10 c)) ∧ Below w.heap.size w w' := by
  obtain ⟨⟨a, x, y, s, p, pc⟩, t, op, nm, md, kd, kn, pl, wr, b⟩ := c
  simp only [] at ht
  subst ht
  obtain ⟨c0, c1, c2, c3, c4, c5, c6, c7, c8, c9, c10, c11, c12, c13, c14⟩ := hS.all
  obtain ⟨⟨a0, a1, x0, x1, y0, y1, s0, s1, p0, p1, pc0, pc1⟩, t0, t1, op0, op1, md0, md1, kd0, kd1, pl0, pl1, wr0, wr1, b0, b1⟩ := ok
  simp only [] at a0 a1 x0 x1 y0 y1 s0 s1 p0 p1 pc0 pc1 t0 t1 op0 op1 md0 md1 kd0 kd1 pl0 pl1 wr0 wr1 b0 b1
  have ff := hS.thaw
  have hlt := hS.lt
  have hR : CpuR w B _ := hS
  have hne : ¬ w.heap.size = B := by omega
  have hne' : ¬ B = w.heap.size := by omega
  have kr := fun v h0 h1 w' => read_ask v h0 h1 w'
  simp only [pinV, rdP] at kr
  go_enter Tryd.func11, Tryd.ntmps11
  repeat (first | (with_reducible refine wp_keep (fun W => RowT 40 W w.heap.size #[.int .u16 0, .bool false, .int .u8 0] ∧ CpuR W B (Cp.row ⟨⟨a, x, y, s, p, pc⟩, 10, op, nm, md, kd, kn, pl, wr, b⟩) ∧ Below w.heap.size w W) (And.intro (RowT.new w _ _) (And.intro (hR.alloc _) ((Below.refl _ _).alloc (Nat.le_refl _) _))) ?_) | go_step)
  rintro W0 ⟨hD0, hR0, hb0⟩
  clear c0 c1 c2 c3 c4 c5 c6 c7 c8 c9 c10 c11 c12 c13 c14 ff hS hR
  obtain ⟨c0, c1, c2, c3, c4, c5, c6, c7, c8, c9, c10, c11, c12, c13, c14⟩ := CpuS.all (show CpuS W0 B ⟨⟨a, x, y, s, p, pc⟩, 10, op, nm, md, kd, kn, pl, wr, b⟩ from hR0)
  have ff := hR0.thaw
  have l0 := hD0.lt
  have hW : w.heap.size ≤ W0.heap.size := Nat.le_of_lt l0
  have hnn := World.new_ne W0 _ c0
  (repeat (first | (with_reducible refine inBlock_far (by decide) ?_) | (with_reducible refine then_exit ?_) | (with_reducible refine inBlock_here ?_) | ((fail_if_success (with_reducible refine calls_id ?_)); go_step)))
  refine (kr (pc) (by omega) (by omega) _).mono ?_
  rintro e w1 ⟨rfl, hw⟩
  obtain ⟨q0, q1, q2, qf⟩ := box3 (RowT.below hD0 hw); have hb := Below.trans hb0 (hw.mono hW)
  clear hw
  dsimp only
  (repeat (first | (with_reducible refine inBlock_far (by decide) ?_) | (with_reducible refine then_exit ?_) | (with_reducible refine inBlock_here ?_) | ((fail_if_success (with_reducible refine calls_id ?_)); go_step)))
  refine bodyPost_ret (v := .agg #[.int .u16 ((pc) % 8192), .bool false, .int .u8 0]) (by simp [results, Tryd.results11, go_sem, q0, q1, q2]) rfl ⟨rfl, ?_⟩
  repeat (first | (with_reducible exact hb) | (with_reducible refine Below.drew ?_) | (refine Below.setCell ?_ (by exact Nat.le_refl _) _))
set_option maxRecDepth 100000 in
set_option maxHeartbeats 8000000 in
theorem pins_11 (c : Cp) (ok : c.ok) (w : World) (B : Nat) (hS : CpuS w B c) (ht : c.t = 11) : Calls Tryd.prog 11 #[.pointer (some ⟨B, 0, none⟩)] w fun e w' => e = .returned (pinV (pinsN 11 c)) ∧ Below w.heap.size w w' := by
  obtain ⟨⟨a, x, y, s, p, pc⟩, t, op, nm, md, kd, kn, pl, wr, b⟩ := c
  simp only [] at ht
  subst ht
  obtain ⟨c0, c1, c2, c3, c4, c5, c6, c7, c8, c9, c10, c11, c12, c13, c14⟩ := hS.all
  obtain ⟨⟨a0, a1, x0, x1, y0, y1, s0, s1, p0, p1, pc0, pc1⟩, t0, t1, op0, op1, md0, md1, kd0, kd1, pl0, pl1, wr0, wr1, b0, b1⟩ := ok
  simp only [] at a0 a1 x0 x1 y0 y1 s0 s1 p0 p1 pc0 pc1 t0 t1 op0 op1 md0 md1 kd0 kd1 pl0 pl1 wr0 wr1 b0 b1
  have ff := hS.thaw
  have hlt := hS.lt
  have hR : CpuR w B _ := hS
  have hne : ¬ w.heap.size = B := by omega
  have hne' : ¬ B = w.heap.size := by omega
  have kr := fun v h0 h1 w' => read_ask v h0 h1 w'
  simp only [pinV, rdP] at kr
  go_enter Tryd.func11, Tryd.ntmps11
  repeat (first | (with_reducible refine wp_keep (fun W => RowT 40 W w.heap.size #[.int .u16 0, .bool false, .int .u8 0] ∧ CpuR W B (Cp.row ⟨⟨a, x, y, s, p, pc⟩, 11, op, nm, md, kd, kn, pl, wr, b⟩) ∧ Below w.heap.size w W) (And.intro (RowT.new w _ _) (And.intro (hR.alloc _) ((Below.refl _ _).alloc (Nat.le_refl _) _))) ?_) | go_step)
  rintro W0 ⟨hD0, hR0, hb0⟩
  clear c0 c1 c2 c3 c4 c5 c6 c7 c8 c9 c10 c11 c12 c13 c14 ff hS hR
  obtain ⟨c0, c1, c2, c3, c4, c5, c6, c7, c8, c9, c10, c11, c12, c13, c14⟩ := CpuS.all (show CpuS W0 B ⟨⟨a, x, y, s, p, pc⟩, 11, op, nm, md, kd, kn, pl, wr, b⟩ from hR0)
  have ff := hR0.thaw
  have l0 := hD0.lt
  have hW : w.heap.size ≤ W0.heap.size := Nat.le_of_lt l0
  have hnn := World.new_ne W0 _ c0
  (repeat (first | (with_reducible refine inBlock_far (by decide) ?_) | (with_reducible refine then_exit ?_) | (with_reducible refine inBlock_here ?_) | ((fail_if_success (with_reducible refine calls_id ?_)); go_step)))
  refine (kr (pc) (by omega) (by omega) _).mono ?_
  rintro e w1 ⟨rfl, hw⟩
  obtain ⟨q0, q1, q2, qf⟩ := box3 (RowT.below hD0 hw); have hb := Below.trans hb0 (hw.mono hW)
  clear hw
  dsimp only
  (repeat (first | (with_reducible refine inBlock_far (by decide) ?_) | (with_reducible refine then_exit ?_) | (with_reducible refine inBlock_here ?_) | ((fail_if_success (with_reducible refine calls_id ?_)); go_step)))
  refine bodyPost_ret (v := .agg #[.int .u16 ((pc) % 8192), .bool false, .int .u8 0]) (by simp [results, Tryd.results11, go_sem, q0, q1, q2]) rfl ⟨rfl, ?_⟩
  repeat (first | (with_reducible exact hb) | (with_reducible refine Below.drew ?_) | (refine Below.setCell ?_ (by exact Nat.le_refl _) _))
set_option maxRecDepth 100000 in
set_option maxHeartbeats 8000000 in
theorem pins_13 (c : Cp) (ok : c.ok) (w : World) (B : Nat) (hS : CpuS w B c) (ht : c.t = 13) : Calls Tryd.prog 11 #[.pointer (some ⟨B, 0, none⟩)] w fun e w' => e = .returned (pinV (pinsN 13 c)) ∧ Below w.heap.size w w' := by
  obtain ⟨⟨a, x, y, s, p, pc⟩, t, op, nm, md, kd, kn, pl, wr, b⟩ := c
  simp only [] at ht
  subst ht
  obtain ⟨c0, c1, c2, c3, c4, c5, c6, c7, c8, c9, c10, c11, c12, c13, c14⟩ := hS.all
  obtain ⟨⟨a0, a1, x0, x1, y0, y1, s0, s1, p0, p1, pc0, pc1⟩, t0, t1, op0, op1, md0, md1, kd0, kd1, pl0, pl1, wr0, wr1, b0, b1⟩ := ok
  simp only [] at a0 a1 x0 x1 y0 y1 s0 s1 p0 p1 pc0 pc1 t0 t1 op0 op1 md0 md1 kd0 kd1 pl0 pl1 wr0 wr1 b0 b1
  have ff := hS.thaw
  have hlt := hS.lt
  have hR : CpuR w B _ := hS
  have hne : ¬ w.heap.size = B := by omega
  have hne' : ¬ B = w.heap.size := by omega
  have kr := fun v h0 h1 w' => read_ask v h0 h1 w'
  simp only [pinV, rdP] at kr
  go_enter Tryd.func11, Tryd.ntmps11
  repeat (first | (with_reducible refine wp_keep (fun W => RowT 40 W w.heap.size #[.int .u16 0, .bool false, .int .u8 0] ∧ CpuR W B (Cp.row ⟨⟨a, x, y, s, p, pc⟩, 13, op, nm, md, kd, kn, pl, wr, b⟩) ∧ Below w.heap.size w W) (And.intro (RowT.new w _ _) (And.intro (hR.alloc _) ((Below.refl _ _).alloc (Nat.le_refl _) _))) ?_) | go_step)
  rintro W0 ⟨hD0, hR0, hb0⟩
  clear c0 c1 c2 c3 c4 c5 c6 c7 c8 c9 c10 c11 c12 c13 c14 ff hS hR
  obtain ⟨c0, c1, c2, c3, c4, c5, c6, c7, c8, c9, c10, c11, c12, c13, c14⟩ := CpuS.all (show CpuS W0 B ⟨⟨a, x, y, s, p, pc⟩, 13, op, nm, md, kd, kn, pl, wr, b⟩ from hR0)
  have ff := hR0.thaw
  have l0 := hD0.lt
  have hW : w.heap.size ≤ W0.heap.size := Nat.le_of_lt l0
  have hnn := World.new_ne W0 _ c0
  (repeat (first | (with_reducible refine inBlock_far (by decide) ?_) | (with_reducible refine then_exit ?_) | (with_reducible refine inBlock_here ?_) | ((fail_if_success (with_reducible refine calls_id ?_)); go_step)))
  refine (kr (pc) (by omega) (by omega) _).mono ?_
  rintro e w1 ⟨rfl, hw⟩
  obtain ⟨q0, q1, q2, qf⟩ := box3 (RowT.below hD0 hw); have hb := Below.trans hb0 (hw.mono hW)
  clear hw
  dsimp only
  (repeat (first | (with_reducible refine inBlock_far (by decide) ?_) | (with_reducible refine then_exit ?_) | (with_reducible refine inBlock_here ?_) | ((fail_if_success (with_reducible refine calls_id ?_)); go_step)))
  refine bodyPost_ret (v := .agg #[.int .u16 ((pc) % 8192), .bool false, .int .u8 0]) (by simp [results, Tryd.results11, go_sem, q0, q1, q2]) rfl ⟨rfl, ?_⟩
  repeat (first | (with_reducible exact hb) | (with_reducible refine Below.drew ?_) | (refine Below.setCell ?_ (by exact Nat.le_refl _) _))
set_option maxRecDepth 100000 in
set_option maxHeartbeats 8000000 in
theorem pins_14 (c : Cp) (ok : c.ok) (w : World) (B : Nat) (hS : CpuS w B c) (ht : c.t = 14) : Calls Tryd.prog 11 #[.pointer (some ⟨B, 0, none⟩)] w fun e w' => e = .returned (pinV (pinsN 14 c)) ∧ Below w.heap.size w w' := by
  obtain ⟨⟨a, x, y, s, p, pc⟩, t, op, nm, md, kd, kn, pl, wr, b⟩ := c
  simp only [] at ht
  subst ht
  obtain ⟨c0, c1, c2, c3, c4, c5, c6, c7, c8, c9, c10, c11, c12, c13, c14⟩ := hS.all
  obtain ⟨⟨a0, a1, x0, x1, y0, y1, s0, s1, p0, p1, pc0, pc1⟩, t0, t1, op0, op1, md0, md1, kd0, kd1, pl0, pl1, wr0, wr1, b0, b1⟩ := ok
  simp only [] at a0 a1 x0 x1 y0 y1 s0 s1 p0 p1 pc0 pc1 t0 t1 op0 op1 md0 md1 kd0 kd1 pl0 pl1 wr0 wr1 b0 b1
  have ff := hS.thaw
  have hlt := hS.lt
  have hR : CpuR w B _ := hS
  have hne : ¬ w.heap.size = B := by omega
  have hne' : ¬ B = w.heap.size := by omega
  have kr := fun v h0 h1 w' => read_ask v h0 h1 w'
  simp only [pinV, rdP] at kr
  go_enter Tryd.func11, Tryd.ntmps11
  repeat (first | (with_reducible refine wp_keep (fun W => RowT 40 W w.heap.size #[.int .u16 0, .bool false, .int .u8 0] ∧ CpuR W B (Cp.row ⟨⟨a, x, y, s, p, pc⟩, 14, op, nm, md, kd, kn, pl, wr, b⟩) ∧ Below w.heap.size w W) (And.intro (RowT.new w _ _) (And.intro (hR.alloc _) ((Below.refl _ _).alloc (Nat.le_refl _) _))) ?_) | go_step)
  rintro W0 ⟨hD0, hR0, hb0⟩
  clear c0 c1 c2 c3 c4 c5 c6 c7 c8 c9 c10 c11 c12 c13 c14 ff hS hR
  obtain ⟨c0, c1, c2, c3, c4, c5, c6, c7, c8, c9, c10, c11, c12, c13, c14⟩ := CpuS.all (show CpuS W0 B ⟨⟨a, x, y, s, p, pc⟩, 14, op, nm, md, kd, kn, pl, wr, b⟩ from hR0)
  have ff := hR0.thaw
  have l0 := hD0.lt
  have hW : w.heap.size ≤ W0.heap.size := Nat.le_of_lt l0
  have hnn := World.new_ne W0 _ c0
  (repeat (first | (with_reducible refine inBlock_far (by decide) ?_) | (with_reducible refine then_exit ?_) | (with_reducible refine inBlock_here ?_) | ((fail_if_success (with_reducible refine calls_id ?_)); go_step)))
  refine (kr (pc) (by omega) (by omega) _).mono ?_
  rintro e w1 ⟨rfl, hw⟩
  obtain ⟨q0, q1, q2, qf⟩ := box3 (RowT.below hD0 hw); have hb := Below.trans hb0 (hw.mono hW)
  clear hw
  dsimp only
  (repeat (first | (with_reducible refine inBlock_far (by decide) ?_) | (with_reducible refine then_exit ?_) | (with_reducible refine inBlock_here ?_) | ((fail_if_success (with_reducible refine calls_id ?_)); go_step)))
  refine bodyPost_ret (v := .agg #[.int .u16 ((pc) % 8192), .bool false, .int .u8 0]) (by simp [results, Tryd.results11, go_sem, q0, q1, q2]) rfl ⟨rfl, ?_⟩
  repeat (first | (with_reducible exact hb) | (with_reducible refine Below.drew ?_) | (refine Below.setCell ?_ (by exact Nat.le_refl _) _))
set_option maxRecDepth 100000 in
set_option maxHeartbeats 8000000 in
theorem pins_16 (c : Cp) (ok : c.ok) (w : World) (B : Nat) (hS : CpuS w B c) (ht : c.t = 16) : Calls Tryd.prog 11 #[.pointer (some ⟨B, 0, none⟩)] w fun e w' => e = .returned (pinV (pinsN 16 c)) ∧ Below w.heap.size w w' := by
  obtain ⟨⟨a, x, y, s, p, pc⟩, t, op, nm, md, kd, kn, pl, wr, b⟩ := c
  simp only [] at ht
  subst ht
  obtain ⟨c0, c1, c2, c3, c4, c5, c6, c7, c8, c9, c10, c11, c12, c13, c14⟩ := hS.all
  obtain ⟨⟨a0, a1, x0, x1, y0, y1, s0, s1, p0, p1, pc0, pc1⟩, t0, t1, op0, op1, md0, md1, kd0, kd1, pl0, pl1, wr0, wr1, b0, b1⟩ := ok
  simp only [] at a0 a1 x0 x1 y0 y1 s0 s1 p0 p1 pc0 pc1 t0 t1 op0 op1 md0 md1 kd0 kd1 pl0 pl1 wr0 wr1 b0 b1
  have ff := hS.thaw
  have hlt := hS.lt
  have hR : CpuR w B _ := hS
  have hne : ¬ w.heap.size = B := by omega
  have hne' : ¬ B = w.heap.size := by omega
  have kr := fun v h0 h1 w' => read_ask v h0 h1 w'
  simp only [pinV, rdP] at kr
  go_enter Tryd.func11, Tryd.ntmps11
  repeat (first | (with_reducible refine wp_keep (fun W => RowT 40 W w.heap.size #[.int .u16 0, .bool false, .int .u8 0] ∧ CpuR W B (Cp.row ⟨⟨a, x, y, s, p, pc⟩, 16, op, nm, md, kd, kn, pl, wr, b⟩) ∧ Below w.heap.size w W) (And.intro (RowT.new w _ _) (And.intro (hR.alloc _) ((Below.refl _ _).alloc (Nat.le_refl _) _))) ?_) | go_step)
  rintro W0 ⟨hD0, hR0, hb0⟩
  clear c0 c1 c2 c3 c4 c5 c6 c7 c8 c9 c10 c11 c12 c13 c14 ff hS hR
  obtain ⟨c0, c1, c2, c3, c4, c5, c6, c7, c8, c9, c10, c11, c12, c13, c14⟩ := CpuS.all (show CpuS W0 B ⟨⟨a, x, y, s, p, pc⟩, 16, op, nm, md, kd, kn, pl, wr, b⟩ from hR0)
  have ff := hR0.thaw
  have l0 := hD0.lt
  have hW : w.heap.size ≤ W0.heap.size := Nat.le_of_lt l0
  have hnn := World.new_ne W0 _ c0
  (repeat (first | (with_reducible refine inBlock_far (by decide) ?_) | (with_reducible refine then_exit ?_) | (with_reducible refine inBlock_here ?_) | ((fail_if_success (with_reducible refine calls_id ?_)); go_step)))
  refine (kr (pc) (by omega) (by omega) _).mono ?_
  rintro e w1 ⟨rfl, hw⟩
  obtain ⟨q0, q1, q2, qf⟩ := box3 (RowT.below hD0 hw); have hb := Below.trans hb0 (hw.mono hW)
  clear hw
  dsimp only
  (repeat (first | (with_reducible refine inBlock_far (by decide) ?_) | (with_reducible refine then_exit ?_) | (with_reducible refine inBlock_here ?_) | ((fail_if_success (with_reducible refine calls_id ?_)); go_step)))
  refine bodyPost_ret (v := .agg #[.int .u16 ((pc) % 8192), .bool false, .int .u8 0]) (by simp [results, Tryd.results11, go_sem, q0, q1, q2]) rfl ⟨rfl, ?_⟩
  repeat (first | (with_reducible exact hb) | (with_reducible refine Below.drew ?_) | (refine Below.setCell ?_ (by exact Nat.le_refl _) _))
end Go.Proofs.YthepcjecmlkaiaaDoor.Mi
