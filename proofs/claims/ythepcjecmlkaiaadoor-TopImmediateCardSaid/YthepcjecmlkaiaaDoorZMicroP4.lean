/- Package micro: what it asks at each step. -/
import Derived.Test.YthepcjecmlkaiaaDoorZMicroBase
import Derived.Test.YthepcjecmlkaiaaDoorZMicroO
import Derived.Test.YthepcjecmlkaiaaDoorZAluWalks
import Derived.Test.YthepcjecmlkaiaaDoorZKeep
import Derived.Deep.RegionHeld3
import Derived.RegionTactic
import Derived.Deep.RegionWith
import Derived.BigQuiet
import Derived.IntWalk
namespace Go.Proofs.YthepcjecmlkaiaaDoor.Mi
open Go Go.RowKit Go.Deep Go.Proofs.YthepcjecmlkaiaaDoor Go.Proofs.YthepcjecmlkaiaaDoor.Ex
set_option linter.unusedVariables false
set_option linter.unusedSimpArgs false
set_option maxRecDepth 100000 in
set_option maxHeartbeats 8000000 in
theorem pins_24 (c : Cp) (ok : c.ok) (w : World) (B : Nat) (hS : CpuS w B c) (ht : c.t = 24) : Calls Tryd.prog 11 #[.pointer (some ⟨B, 0, none⟩)] w fun e w' => e = .returned (pinV (pinsN 24 c)) ∧ Below w.heap.size w w' := by
  obtain ⟨⟨a, x, y, s, p, pc⟩, t, op, nm, md, kd, kn, pl, wr, b⟩ := c
  simp only [] at ht
  subst ht
  obtain ⟨c0, c1, c2, c3, c4, c5, c6, c7, c8, c9, c10, c11, c12, c13, c14⟩ := hS.all
  obtain ⟨⟨a0, a1, x0, x1, y0, y1, s0, s1, p0, p1, pc0, pc1⟩, t0, t1, op0, op1, md0, md1, kd0, kd1, pl0, pl1, wr0, wr1, b0, b1⟩ := ok
  simp only [] at a0 a1 x0 x1 y0 y1 s0 s1 p0 p1 pc0 pc1 t0 t1 op0 op1 md0 md1 kd0 kd1 pl0 pl1 wr0 wr1 b0 b1
  have ff := hS.thaw
  have hlt := hS.lt
  have hR : CpuR w B _ := hS
  have hne : ¬ w.heap.size = B := by omega
  have hne' : ¬ B = w.heap.size := by omega
  have kr := fun v h0 h1 w' => read_ask v h0 h1 w'
  simp only [pinV, rdP] at kr
  go_enter Tryd.func11, Tryd.ntmps11
  repeat (first | (with_reducible refine wp_keep (fun W => RowT 40 W w.heap.size #[.int .u16 0, .bool false, .int .u8 0] ∧ CpuR W B (Cp.row ⟨⟨a, x, y, s, p, pc⟩, 24, op, nm, md, kd, kn, pl, wr, b⟩) ∧ Below w.heap.size w W) (And.intro (RowT.new w _ _) (And.intro (hR.alloc _) ((Below.refl _ _).alloc (Nat.le_refl _) _))) ?_) | go_step)
  rintro W0 ⟨hD0, hR0, hb0⟩
  clear c0 c1 c2 c3 c4 c5 c6 c7 c8 c9 c10 c11 c12 c13 c14 ff hS hR
  obtain ⟨c0, c1, c2, c3, c4, c5, c6, c7, c8, c9, c10, c11, c12, c13, c14⟩ := CpuS.all (show CpuS W0 B ⟨⟨a, x, y, s, p, pc⟩, 24, op, nm, md, kd, kn, pl, wr, b⟩ from hR0)
  have ff := hR0.thaw
  have l0 := hD0.lt
  have hW : w.heap.size ≤ W0.heap.size := Nat.le_of_lt l0
  have hnn := World.new_ne W0 _ c0
  (repeat (first | (with_reducible refine inBlock_far (by decide) ?_) | (with_reducible refine then_exit ?_) | (with_reducible refine inBlock_here ?_) | ((fail_if_success (with_reducible refine calls_id ?_)); go_step)))
  refine (kr (pc) (by omega) (by omega) _).mono ?_
  rintro e w1 ⟨rfl, hw⟩
  obtain ⟨q0, q1, q2, qf⟩ := box3 (RowT.below hD0 hw); have hb := Below.trans hb0 (hw.mono hW)
  clear hw
  dsimp only
  (repeat (first | (with_reducible refine inBlock_far (by decide) ?_) | (with_reducible refine then_exit ?_) | (with_reducible refine inBlock_here ?_) | ((fail_if_success (with_reducible refine calls_id ?_)); go_step)))
  refine bodyPost_ret (v := .agg #[.int .u16 ((pc) % 8192), .bool false, .int .u8 0]) (by simp [results, Tryd.results11, go_sem, q0, q1, q2]) rfl ⟨rfl, ?_⟩
  repeat (first | (with_reducible exact hb) | (with_reducible refine Below.drew ?_) | (refine Below.setCell ?_ (by exact Nat.le_refl _) _))
set_option maxRecDepth 100000 in
set_option maxHeartbeats 8000000 in
theorem pins_25 (c : Cp) (ok : c.ok) (w : World) (B : Nat) (hS : CpuS w B c) (ht : c.t = 25) : Calls Tryd.prog 11 #[.pointer (some ⟨B, 0, none⟩)] w fun e w' => e = .returned (pinV (pinsN 25 c)) ∧ Below w.heap.size w w' := by
  obtain ⟨⟨a, x, y, s, p, pc⟩, t, op, nm, md, kd, kn, pl, wr, b⟩ := c
  simp only [] at ht
  subst ht
  obtain ⟨c0, c1, c2, c3, c4, c5, c6, c7, c8, c9, c10, c11, c12, c13, c14⟩ := hS.all
  obtain ⟨⟨a0, a1, x0, x1, y0, y1, s0, s1, p0, p1, pc0, pc1⟩, t0, t1, op0, op1, md0, md1, kd0, kd1, pl0, pl1, wr0, wr1, b0, b1⟩ := ok
  simp only [] at a0 a1 x0 x1 y0 y1 s0 s1 p0 p1 pc0 pc1 t0 t1 op0 op1 md0 md1 kd0 kd1 pl0 pl1 wr0 wr1 b0 b1
  have ff := hS.thaw
  have hlt := hS.lt
  have hR : CpuR w B _ := hS
  have hne : ¬ w.heap.size = B := by omega
  have hne' : ¬ B = w.heap.size := by omega
  have kr := fun v h0 h1 w' => read_ask v h0 h1 w'
  simp only [pinV, rdP] at kr
  go_enter Tryd.func11, Tryd.ntmps11
  repeat (first | (with_reducible refine wp_keep (fun W => RowT 40 W w.heap.size #[.int .u16 0, .bool false, .int .u8 0] ∧ CpuR W B (Cp.row ⟨⟨a, x, y, s, p, pc⟩, 25, op, nm, md, kd, kn, pl, wr, b⟩) ∧ Below w.heap.size w W) (And.intro (RowT.new w _ _) (And.intro (hR.alloc _) ((Below.refl _ _).alloc (Nat.le_refl _) _))) ?_) | go_step)
  rintro W0 ⟨hD0, hR0, hb0⟩
  clear c0 c1 c2 c3 c4 c5 c6 c7 c8 c9 c10 c11 c12 c13 c14 ff hS hR
  obtain ⟨c0, c1, c2, c3, c4, c5, c6, c7, c8, c9, c10, c11, c12, c13, c14⟩ := CpuS.all (show CpuS W0 B ⟨⟨a, x, y, s, p, pc⟩, 25, op, nm, md, kd, kn, pl, wr, b⟩ from hR0)
  have ff := hR0.thaw
  have l0 := hD0.lt
  have hW : w.heap.size ≤ W0.heap.size := Nat.le_of_lt l0
  have hnn := World.new_ne W0 _ c0
  (repeat (first | (with_reducible refine inBlock_far (by decide) ?_) | (with_reducible refine then_exit ?_) | (with_reducible refine inBlock_here ?_) | ((fail_if_success (with_reducible refine calls_id ?_)); go_step)))
  refine (kr (pc) (by omega) (by omega) _).mono ?_
  rintro e w1 ⟨rfl, hw⟩
  obtain ⟨q0, q1, q2, qf⟩ := box3 (RowT.below hD0 hw); have hb := Below.trans hb0 (hw.mono hW)
  clear hw
  dsimp only
  (repeat (first | (with_reducible refine inBlock_far (by decide) ?_) | (with_reducible refine then_exit ?_) | (with_reducible refine inBlock_here ?_) | ((fail_if_success (with_reducible refine calls_id ?_)); go_step)))
  refine bodyPost_ret (v := .agg #[.int .u16 ((pc) % 8192), .bool false, .int .u8 0]) (by simp [results, Tryd.results11, go_sem, q0, q1, q2]) rfl ⟨rfl, ?_⟩
  repeat (first | (with_reducible exact hb) | (with_reducible refine Below.drew ?_) | (refine Below.setCell ?_ (by exact Nat.le_refl _) _))
set_option maxRecDepth 100000 in
set_option maxHeartbeats 8000000 in
theorem pins_27 (c : Cp) (ok : c.ok) (w : World) (B : Nat) (hS : CpuS w B c) (ht : c.t = 27) : Calls Tryd.prog 11 #[.pointer (some ⟨B, 0, none⟩)] w fun e w' => e = .returned (pinV (pinsN 27 c)) ∧ Below w.heap.size w w' := by
  obtain ⟨⟨a, x, y, s, p, pc⟩, t, op, nm, md, kd, kn, pl, wr, b⟩ := c
  simp only [] at ht
  subst ht
  obtain ⟨c0, c1, c2, c3, c4, c5, c6, c7, c8, c9, c10, c11, c12, c13, c14⟩ := hS.all
  obtain ⟨⟨a0, a1, x0, x1, y0, y1, s0, s1, p0, p1, pc0, pc1⟩, t0, t1, op0, op1, md0, md1, kd0, kd1, pl0, pl1, wr0, wr1, b0, b1⟩ := ok
  simp only [] at a0 a1 x0 x1 y0 y1 s0 s1 p0 p1 pc0 pc1 t0 t1 op0 op1 md0 md1 kd0 kd1 pl0 pl1 wr0 wr1 b0 b1
  have ff := hS.thaw
  have hlt := hS.lt
  have hR : CpuR w B _ := hS
  have hne : ¬ w.heap.size = B := by omega
  have hne' : ¬ B = w.heap.size := by omega
  have kr := fun v h0 h1 w' => read_ask v h0 h1 w'
  simp only [pinV, rdP] at kr
  go_enter Tryd.func11, Tryd.ntmps11
  repeat (first | (with_reducible refine wp_keep (fun W => RowT 40 W w.heap.size #[.int .u16 0, .bool false, .int .u8 0] ∧ CpuR W B (Cp.row ⟨⟨a, x, y, s, p, pc⟩, 27, op, nm, md, kd, kn, pl, wr, b⟩) ∧ Below w.heap.size w W) (And.intro (RowT.new w _ _) (And.intro (hR.alloc _) ((Below.refl _ _).alloc (Nat.le_refl _) _))) ?_) | go_step)
  rintro W0 ⟨hD0, hR0, hb0⟩
  clear c0 c1 c2 c3 c4 c5 c6 c7 c8 c9 c10 c11 c12 c13 c14 ff hS hR
  obtain ⟨c0, c1, c2, c3, c4, c5, c6, c7, c8, c9, c10, c11, c12, c13, c14⟩ := CpuS.all (show CpuS W0 B ⟨⟨a, x, y, s, p, pc⟩, 27, op, nm, md, kd, kn, pl, wr, b⟩ from hR0)
  have ff := hR0.thaw
  have l0 := hD0.lt
  have hW : w.heap.size ≤ W0.heap.size := Nat.le_of_lt l0
  have hnn := World.new_ne W0 _ c0
  (repeat (first | (with_reducible refine inBlock_far (by decide) ?_) | (with_reducible refine then_exit ?_) | (with_reducible refine inBlock_here ?_) | ((fail_if_success (with_reducible refine calls_id ?_)); go_step)))
  refine (kr (pc) (by omega) (by omega) _).mono ?_
  rintro e w1 ⟨rfl, hw⟩
  obtain ⟨q0, q1, q2, qf⟩ := box3 (RowT.below hD0 hw); have hb := Below.trans hb0 (hw.mono hW)
  clear hw
  dsimp only
  (repeat (first | (with_reducible refine inBlock_far (by decide) ?_) | (with_reducible refine then_exit ?_) | (with_reducible refine inBlock_here ?_) | ((fail_if_success (with_reducible refine calls_id ?_)); go_step)))
  refine bodyPost_ret (v := .agg #[.int .u16 ((pc) % 8192), .bool false, .int .u8 0]) (by simp [results, Tryd.results11, go_sem, q0, q1, q2]) rfl ⟨rfl, ?_⟩
  repeat (first | (with_reducible exact hb) | (with_reducible refine Below.drew ?_) | (refine Below.setCell ?_ (by exact Nat.le_refl _) _))
set_option maxRecDepth 100000 in
set_option maxHeartbeats 8000000 in
theorem pins_29 (c : Cp) (ok : c.ok) (w : World) (B : Nat) (hS : CpuS w B c) (ht : c.t = 29) : Calls Tryd.prog 11 #[.pointer (some ⟨B, 0, none⟩)] w fun e w' => e = .returned (pinV (pinsN 29 c)) ∧ Below w.heap.size w w' := by
  obtain ⟨⟨a, x, y, s, p, pc⟩, t, op, nm, md, kd, kn, pl, wr, b⟩ := c
  simp only [] at ht
  subst ht
  obtain ⟨c0, c1, c2, c3, c4, c5, c6, c7, c8, c9, c10, c11, c12, c13, c14⟩ := hS.all
  obtain ⟨⟨a0, a1, x0, x1, y0, y1, s0, s1, p0, p1, pc0, pc1⟩, t0, t1, op0, op1, md0, md1, kd0, kd1, pl0, pl1, wr0, wr1, b0, b1⟩ := ok
  simp only [] at a0 a1 x0 x1 y0 y1 s0 s1 p0 p1 pc0 pc1 t0 t1 op0 op1 md0 md1 kd0 kd1 pl0 pl1 wr0 wr1 b0 b1
  have ff := hS.thaw
  have hlt := hS.lt
  have hR : CpuR w B _ := hS
  have hne : ¬ w.heap.size = B := by omega
  have hne' : ¬ B = w.heap.size := by omega
  have kr := fun v h0 h1 w' => read_ask v h0 h1 w'
  simp only [pinV, rdP] at kr
  go_enter Tryd.func11, Tryd.ntmps11
  repeat (first | (with_reducible refine wp_keep (fun W => RowT 40 W w.heap.size #[.int .u16 0, .bool false, .int .u8 0] ∧ CpuR W B (Cp.row ⟨⟨a, x, y, s, p, pc⟩, 29, op, nm, md, kd, kn, pl, wr, b⟩) ∧ Below w.heap.size w W) (And.intro (RowT.new w _ _) (And.intro (hR.alloc _) ((Below.refl _ _).alloc (Nat.le_refl _) _))) ?_) | go_step)
  rintro W0 ⟨hD0, hR0, hb0⟩
  clear c0 c1 c2 c3 c4 c5 c6 c7 c8 c9 c10 c11 c12 c13 c14 ff hS hR
  obtain ⟨c0, c1, c2, c3, c4, c5, c6, c7, c8, c9, c10, c11, c12, c13, c14⟩ := CpuS.all (show CpuS W0 B ⟨⟨a, x, y, s, p, pc⟩, 29, op, nm, md, kd, kn, pl, wr, b⟩ from hR0)
  have ff := hR0.thaw
  have l0 := hD0.lt
  have hW : w.heap.size ≤ W0.heap.size := Nat.le_of_lt l0
  have hnn := World.new_ne W0 _ c0
  (repeat (first | (with_reducible refine inBlock_far (by decide) ?_) | (with_reducible refine then_exit ?_) | (with_reducible refine inBlock_here ?_) | ((fail_if_success (with_reducible refine calls_id ?_)); go_step)))
  refine (kr (pc) (by omega) (by omega) _).mono ?_
  rintro e w1 ⟨rfl, hw⟩
  obtain ⟨q0, q1, q2, qf⟩ := box3 (RowT.below hD0 hw); have hb := Below.trans hb0 (hw.mono hW)
  clear hw
  dsimp only
  (repeat (first | (with_reducible refine inBlock_far (by decide) ?_) | (with_reducible refine then_exit ?_) | (with_reducible refine inBlock_here ?_) | ((fail_if_success (with_reducible refine calls_id ?_)); go_step)))
  refine bodyPost_ret (v := .agg #[.int .u16 ((pc) % 8192), .bool false, .int .u8 0]) (by simp [results, Tryd.results11, go_sem, q0, q1, q2]) rfl ⟨rfl, ?_⟩
  repeat (first | (with_reducible exact hb) | (with_reducible refine Below.drew ?_) | (refine Below.setCell ?_ (by exact Nat.le_refl _) _))
set_option maxRecDepth 100000 in
set_option maxHeartbeats 8000000 in
theorem pins_32 (c : Cp) (ok : c.ok) (w : World) (B : Nat) (hS : CpuS w B c) (ht : c.t = 32) : Calls Tryd.prog 11 #[.pointer (some ⟨B, 0, none⟩)] w fun e w' => e = .returned (pinV (pinsN 32 c)) ∧ Below w.heap.size w w' := by
  obtain ⟨⟨a, x, y, s, p, pc⟩, t, op, nm, md, kd, kn, pl, wr, b⟩ := c
  simp only [] at ht
  subst ht
  obtain ⟨c0, c1, c2, c3, c4, c5, c6, c7, c8, c9, c10, c11, c12, c13, c14⟩ := hS.all
  obtain ⟨⟨a0, a1, x0, x1, y0, y1, s0, s1, p0, p1, pc0, pc1⟩, t0, t1, op0, op1, md0, md1, kd0, kd1, pl0, pl1, wr0, wr1, b0, b1⟩ := ok
  simp only [] at a0 a1 x0 x1 y0 y1 s0 s1 p0 p1 pc0 pc1 t0 t1 op0 op1 md0 md1 kd0 kd1 pl0 pl1 wr0 wr1 b0 b1
  have ff := hS.thaw
  have hlt := hS.lt
  have hR : CpuR w B _ := hS
  have hne : ¬ w.heap.size = B := by omega
  have hne' : ¬ B = w.heap.size := by omega
  have kr := fun v h0 h1 w' => read_ask v h0 h1 w'
  simp only [pinV, rdP] at kr
  go_enter Tryd.func11, Tryd.ntmps11
  repeat (first | (with_reducible refine wp_keep (fun W => RowT 40 W w.heap.size #[.int .u16 0, .bool false, .int .u8 0] ∧ CpuR W B (Cp.row ⟨⟨a, x, y, s, p, pc⟩, 32, op, nm, md, kd, kn, pl, wr, b⟩) ∧ Below w.heap.size w W) (And.intro (RowT.new w _ _) (And.intro (hR.alloc _) ((Below.refl _ _).alloc (Nat.le_refl _) _))) ?_) | go_step)
  rintro W0 ⟨hD0, hR0, hb0⟩
  clear c0 c1 c2 c3 c4 c5 c6 c7 c8 c9 c10 c11 c12 c13 c14 ff hS hR
  obtain ⟨c0, c1, c2, c3, c4, c5, c6, c7, c8, c9, c10, c11, c12, c13, c14⟩ := CpuS.all (show CpuS W0 B ⟨⟨a, x, y, s, p, pc⟩, 32, op, nm, md, kd, kn, pl, wr, b⟩ from hR0)
  have ff := hR0.thaw
  have l0 := hD0.lt
  have hW : w.heap.size ≤ W0.heap.size := Nat.le_of_lt l0
  have hnn := World.new_ne W0 _ c0
  (repeat (first | (with_reducible refine inBlock_far (by decide) ?_) | (with_reducible refine then_exit ?_) | (with_reducible refine inBlock_here ?_) | ((fail_if_success (with_reducible refine calls_id ?_)); go_step)))
  refine (kr (pc) (by omega) (by omega) _).mono ?_
  rintro e w1 ⟨rfl, hw⟩
  obtain ⟨q0, q1, q2, qf⟩ := box3 (RowT.below hD0 hw); have hb := Below.trans hb0 (hw.mono hW)
  clear hw
  dsimp only
  (repeat (first | (with_reducible refine inBlock_far (by decide) ?_) | (with_reducible refine then_exit ?_) | (with_reducible refine inBlock_here ?_) | ((fail_if_success (with_reducible refine calls_id ?_)); go_step)))
  refine bodyPost_ret (v := .agg #[.int .u16 ((pc) % 8192), .bool false, .int .u8 0]) (by simp [results, Tryd.results11, go_sem, q0, q1, q2]) rfl ⟨rfl, ?_⟩
  repeat (first | (with_reducible exact hb) | (with_reducible refine Below.drew ?_) | (refine Below.setCell ?_ (by exact Nat.le_refl _) _))
set_option maxRecDepth 100000 in
set_option maxHeartbeats 8000000 in
theorem pins_33 (c : Cp) (ok : c.ok) (w : World) (B : Nat) (hS : CpuS w B c) (ht : c.t = 33) : Calls Tryd.prog 11 #[.pointer (some ⟨B, 0, none⟩)] w fun e w' => e = .returned (pinV (pinsN 33 c)) ∧ Below w.heap.size w w' := by
  obtain ⟨⟨a, x, y, s, p, pc⟩, t, op, nm, md, kd, kn, pl, wr, b⟩ := c
  simp only [] at ht
  subst ht
  obtain ⟨c0, c1, c2, c3, c4, c5, c6, c7, c8, c9, c10, c11, c12, c13, c14⟩ := hS.all
  obtain ⟨⟨a0, a1, x0, x1, y0, y1, s0, s1, p0, p1, pc0, pc1⟩, t0, t1, op0, op1, md0, md1, kd0, kd1, pl0, pl1, wr0, wr1, b0, b1⟩ := ok
  simp only [] at a0 a1 x0 x1 y0 y1 s0 s1 p0 p1 pc0 pc1 t0 t1 op0 op1 md0 md1 kd0 kd1 pl0 pl1 wr0 wr1 b0 b1
  have ff := hS.thaw
  have hlt := hS.lt
  have hR : CpuR w B _ := hS
  have hne : ¬ w.heap.size = B := by omega
  have hne' : ¬ B = w.heap.size := by omega
  have kr := fun v h0 h1 w' => read_ask v h0 h1 w'
  simp only [pinV, rdP] at kr
  go_enter Tryd.func11, Tryd.ntmps11
  repeat (first | (with_reducible refine wp_keep (fun W => RowT 40 W w.heap.size #[.int .u16 0, .bool false, .int .u8 0] ∧ CpuR W B (Cp.row ⟨⟨a, x, y, s, p, pc⟩, 33, op, nm, md, kd, kn, pl, wr, b⟩) ∧ Below w.heap.size w W) (And.intro (RowT.new w _ _) (And.intro (hR.alloc _) ((Below.refl _ _).alloc (Nat.le_refl _) _))) ?_) | go_step)
  rintro W0 ⟨hD0, hR0, hb0⟩
  clear c0 c1 c2 c3 c4 c5 c6 c7 c8 c9 c10 c11 c12 c13 c14 ff hS hR
  obtain ⟨c0, c1, c2, c3, c4, c5, c6, c7, c8, c9, c10, c11, c12, c13, c14⟩ := CpuS.all (show CpuS W0 B ⟨⟨a, x, y, s, p, pc⟩, 33, op, nm, md, kd, kn, pl, wr, b⟩ from hR0)
  have ff := hR0.thaw
  have l0 := hD0.lt
  have hW : w.heap.size ≤ W0.heap.size := Nat.le_of_lt l0
  have hnn := World.new_ne W0 _ c0
  (repeat (first | (with_reducible refine inBlock_far (by decide) ?_) | (with_reducible refine then_exit ?_) | (with_reducible refine inBlock_here ?_) | ((fail_if_success (with_reducible refine calls_id ?_)); go_step)))
  refine (kr (pc) (by omega) (by omega) _).mono ?_
  rintro e w1 ⟨rfl, hw⟩
  obtain ⟨q0, q1, q2, qf⟩ := box3 (RowT.below hD0 hw); have hb := Below.trans hb0 (hw.mono hW)
  clear hw
  dsimp only
  (repeat (first | (with_reducible refine inBlock_far (by decide) ?_) | (with_reducible refine then_exit ?_) | (with_reducible refine inBlock_here ?_) | ((fail_if_success (with_reducible refine calls_id ?_)); go_step)))
  refine bodyPost_ret (v := .agg #[.int .u16 ((pc) % 8192), .bool false, .int .u8 0]) (by simp [results, Tryd.results11, go_sem, q0, q1, q2]) rfl ⟨rfl, ?_⟩
  repeat (first | (with_reducible exact hb) | (with_reducible refine Below.drew ?_) | (refine Below.setCell ?_ (by exact Nat.le_refl _) _))
set_option maxRecDepth 100000 in
set_option maxHeartbeats 8000000 in
theorem pins_36 (c : Cp) (ok : c.ok) (w : World) (B : Nat) (hS : CpuS w B c) (ht : c.t = 36) : Calls Tryd.prog 11 #[.pointer (some ⟨B, 0, none⟩)] w fun e w' => e = .returned (pinV (pinsN 36 c)) ∧ Below w.heap.size w w' := by
  obtain ⟨⟨a, x, y, s, p, pc⟩, t, op, nm, md, kd, kn, pl, wr, b⟩ := c
  simp only [] at ht
  subst ht
  obtain ⟨c0, c1, c2, c3, c4, c5, c6, c7, c8, c9, c10, c11, c12, c13, c14⟩ := hS.all
  obtain ⟨⟨a0, a1, x0, x1, y0, y1, s0, s1, p0, p1, pc0, pc1⟩, t0, t1, op0, op1, md0, md1, kd0, kd1, pl0, pl1, wr0, wr1, b0, b1⟩ := ok
  simp only [] at a0 a1 x0 x1 y0 y1 s0 s1 p0 p1 pc0 pc1 t0 t1 op0 op1 md0 md1 kd0 kd1 pl0 pl1 wr0 wr1 b0 b1
  have ff := hS.thaw
  have hlt := hS.lt
  have hR : CpuR w B _ := hS
  have hne : ¬ w.heap.size = B := by omega
  have hne' : ¬ B = w.heap.size := by omega
  have kr := fun v h0 h1 w' => read_ask v h0 h1 w'
  simp only [pinV, rdP] at kr
  go_enter Tryd.func11, Tryd.ntmps11
  repeat (first | (with_reducible refine wp_keep (fun W => RowT 40 W w.heap.size #[.int .u16 0, .bool false, .int .u8 0] ∧ CpuR W B (Cp.row ⟨⟨a, x, y, s, p, pc⟩, 36, op, nm, md, kd, kn, pl, wr, b⟩) ∧ Below w.heap.size w W) (And.intro (RowT.new w _ _) (And.intro (hR.alloc _) ((Below.refl _ _).alloc (Nat.le_refl _) _))) ?_) | go_step)
  rintro W0 ⟨hD0, hR0, hb0⟩
  clear c0 c1 c2 c3 c4 c5 c6 c7 c8 c9 c10 c11 c12 c13 c14 ff hS hR
  obtain ⟨c0, c1, c2, c3, c4, c5, c6, c7, c8, c9, c10, c11, c12, c13, c14⟩ := CpuS.all (show CpuS W0 B ⟨⟨a, x, y, s, p, pc⟩, 36, op, nm, md, kd, kn, pl, wr, b⟩ from hR0)
  have ff := hR0.thaw
  have l0 := hD0.lt
  have hW : w.heap.size ≤ W0.heap.size := Nat.le_of_lt l0
  have hnn := World.new_ne W0 _ c0
  (repeat (first | (with_reducible refine inBlock_far (by decide) ?_) | (with_reducible refine then_exit ?_) | (with_reducible refine inBlock_here ?_) | ((fail_if_success (with_reducible refine calls_id ?_)); go_step)))
  refine (kr (pc) (by omega) (by omega) _).mono ?_
  rintro e w1 ⟨rfl, hw⟩
  obtain ⟨q0, q1, q2, qf⟩ := box3 (RowT.below hD0 hw); have hb := Below.trans hb0 (hw.mono hW)
  clear hw
  dsimp only
  (repeat (first | (with_reducible refine inBlock_far (by decide) ?_) | (with_reducible refine then_exit ?_) | (with_reducible refine inBlock_here ?_) | ((fail_if_success (with_reducible refine calls_id ?_)); go_step)))
  refine bodyPost_ret (v := .agg #[.int .u16 ((pc) % 8192), .bool false, .int .u8 0]) (by simp [results, Tryd.results11, go_sem, q0, q1, q2]) rfl ⟨rfl, ?_⟩
  repeat (first | (with_reducible exact hb) | (with_reducible refine Below.drew ?_) | (refine Below.setCell ?_ (by exact Nat.le_refl _) _))
set_option maxRecDepth 100000 in
set_option maxHeartbeats 8000000 in
theorem pins_40 (c : Cp) (ok : c.ok) (w : World) (B : Nat) (hS : CpuS w B c) (ht : c.t = 40) : Calls Tryd.prog 11 #[.pointer (some ⟨B, 0, none⟩)] w fun e w' => e = .returned (pinV (pinsN 40 c)) ∧ Below w.heap.size w w' := by
  obtain ⟨⟨a, x, y, s, p, pc⟩, t, op, nm, md, kd, kn, pl, wr, b⟩ := c
  simp only [] at ht
  subst ht
  obtain ⟨c0, c1, c2, c3, c4, c5, c6, c7, c8, c9, c10, c11, c12, c13, c14⟩ := hS.all
  obtain ⟨⟨a0, a1, x0, x1, y0, y1, s0, s1, p0, p1, pc0, pc1⟩, t0, t1, op0, op1, md0, md1, kd0, kd1, pl0, pl1, wr0, wr1, b0, b1⟩ := ok
  simp only [] at a0 a1 x0 x1 y0 y1 s0 s1 p0 p1 pc0 pc1 t0 t1 op0 op1 md0 md1 kd0 kd1 pl0 pl1 wr0 wr1 b0 b1
  have ff := hS.thaw
  have hlt := hS.lt
  have hR : CpuR w B _ := hS
  have hne : ¬ w.heap.size = B := by omega
  have hne' : ¬ B = w.heap.size := by omega
  have kr := fun v h0 h1 w' => read_ask v h0 h1 w'
  simp only [pinV, rdP] at kr
  go_enter Tryd.func11, Tryd.ntmps11
  repeat (first | (with_reducible refine wp_keep (fun W => RowT 40 W w.heap.size #[.int .u16 0, .bool false, .int .u8 0] ∧ CpuR W B (Cp.row ⟨⟨a, x, y, s, p, pc⟩, 40, op, nm, md, kd, kn, pl, wr, b⟩) ∧ Below w.heap.size w W) (And.intro (RowT.new w _ _) (And.intro (hR.alloc _) ((Below.refl _ _).alloc (Nat.le_refl _) _))) ?_) | go_step)
  rintro W0 ⟨hD0, hR0, hb0⟩
  clear c0 c1 c2 c3 c4 c5 c6 c7 c8 c9 c10 c11 c12 c13 c14 ff hS hR
  obtain ⟨c0, c1, c2, c3, c4, c5, c6, c7, c8, c9, c10, c11, c12, c13, c14⟩ := CpuS.all (show CpuS W0 B ⟨⟨a, x, y, s, p, pc⟩, 40, op, nm, md, kd, kn, pl, wr, b⟩ from hR0)
  have ff := hR0.thaw
  have l0 := hD0.lt
  have hW : w.heap.size ≤ W0.heap.size := Nat.le_of_lt l0
  have hnn := World.new_ne W0 _ c0
  (repeat (first | (with_reducible refine inBlock_far (by decide) ?_) | (with_reducible refine then_exit ?_) | (with_reducible refine inBlock_here ?_) | ((fail_if_success (with_reducible refine calls_id ?_)); go_step)))
  refine (kr (pc) (by omega) (by omega) _).mono ?_
  rintro e w1 ⟨rfl, hw⟩
  obtain ⟨q0, q1, q2, qf⟩ := box3 (RowT.below hD0 hw); have hb := Below.trans hb0 (hw.mono hW)
  clear hw
  dsimp only
  (repeat (first | (with_reducible refine inBlock_far (by decide) ?_) | (with_reducible refine then_exit ?_) | (with_reducible refine inBlock_here ?_) | ((fail_if_success (with_reducible refine calls_id ?_)); go_step)))
  refine bodyPost_ret (v := .agg #[.int .u16 ((pc) % 8192), .bool false, .int .u8 0]) (by simp [results, Tryd.results11, go_sem, q0, q1, q2]) rfl ⟨rfl, ?_⟩
  repeat (first | (with_reducible exact hb) | (with_reducible refine Below.drew ?_) | (refine Below.setCell ?_ (by exact Nat.le_refl _) _))
set_option maxRecDepth 100000 in
set_option maxHeartbeats 8000000 in
theorem pins_41 (c : Cp) (ok : c.ok) (w : World) (B : Nat) (hS : CpuS w B c) (ht : c.t = 41) : Calls Tryd.prog 11 #[.pointer (some ⟨B, 0, none⟩)] w fun e w' => e = .returned (pinV (pinsN 41 c)) ∧ Below w.heap.size w w' := by
  obtain ⟨⟨a, x, y, s, p, pc⟩, t, op, nm, md, kd, kn, pl, wr, b⟩ := c
  simp only [] at ht
  subst ht
  obtain ⟨c0, c1, c2, c3, c4, c5, c6, c7, c8, c9, c10, c11, c12, c13, c14⟩ := hS.all
  obtain ⟨⟨a0, a1, x0, x1, y0, y1, s0, s1, p0, p1, pc0, pc1⟩, t0, t1, op0, op1, md0, md1, kd0, kd1, pl0, pl1, wr0, wr1, b0, b1⟩ := ok
  simp only [] at a0 a1 x0 x1 y0 y1 s0 s1 p0 p1 pc0 pc1 t0 t1 op0 op1 md0 md1 kd0 kd1 pl0 pl1 wr0 wr1 b0 b1
  have ff := hS.thaw
  have hlt := hS.lt
  have hR : CpuR w B _ := hS
  have hne : ¬ w.heap.size = B := by omega
  have hne' : ¬ B = w.heap.size := by omega
  have kr := fun v h0 h1 w' => read_ask v h0 h1 w'
  simp only [pinV, rdP] at kr
  go_enter Tryd.func11, Tryd.ntmps11
  repeat (first | (with_reducible refine wp_keep (fun W => RowT 40 W w.heap.size #[.int .u16 0, .bool false, .int .u8 0] ∧ CpuR W B (Cp.row ⟨⟨a, x, y, s, p, pc⟩, 41, op, nm, md, kd, kn, pl, wr, b⟩) ∧ Below w.heap.size w W) (And.intro (RowT.new w _ _) (And.intro (hR.alloc _) ((Below.refl _ _).alloc (Nat.le_refl _) _))) ?_) | go_step)
  rintro W0 ⟨hD0, hR0, hb0⟩
  clear c0 c1 c2 c3 c4 c5 c6 c7 c8 c9 c10 c11 c12 c13 c14 ff hS hR
  obtain ⟨c0, c1, c2, c3, c4, c5, c6, c7, c8, c9, c10, c11, c12, c13, c14⟩ := CpuS.all (show CpuS W0 B ⟨⟨a, x, y, s, p, pc⟩, 41, op, nm, md, kd, kn, pl, wr, b⟩ from hR0)
  have ff := hR0.thaw
  have l0 := hD0.lt
  have hW : w.heap.size ≤ W0.heap.size := Nat.le_of_lt l0
  have hnn := World.new_ne W0 _ c0
  (repeat (first | (with_reducible refine inBlock_far (by decide) ?_) | (with_reducible refine then_exit ?_) | (with_reducible refine inBlock_here ?_) | ((fail_if_success (with_reducible refine calls_id ?_)); go_step)))
  refine (kr (pc) (by omega) (by omega) _).mono ?_
  rintro e w1 ⟨rfl, hw⟩
  obtain ⟨q0, q1, q2, qf⟩ := box3 (RowT.below hD0 hw); have hb := Below.trans hb0 (hw.mono hW)
  clear hw
  dsimp only
  (repeat (first | (with_reducible refine inBlock_far (by decide) ?_) | (with_reducible refine then_exit ?_) | (with_reducible refine inBlock_here ?_) | ((fail_if_success (with_reducible refine calls_id ?_)); go_step)))
  refine bodyPost_ret (v := .agg #[.int .u16 ((pc) % 8192), .bool false, .int .u8 0]) (by simp [results, Tryd.results11, go_sem, q0, q1, q2]) rfl ⟨rfl, ?_⟩
  repeat (first | (with_reducible exact hb) | (with_reducible refine Below.drew ?_) | (refine Below.setCell ?_ (by exact Nat.le_refl _) _))
set_option maxRecDepth 100000 in
set_option maxHeartbeats 8000000 in
theorem pins_45 (c : Cp) (ok : c.ok) (w : World) (B : Nat) (hS : CpuS w B c) (ht : c.t = 45) : Calls Tryd.prog 11 #[.pointer (some ⟨B, 0, none⟩)] w fun e w' => e = .returned (pinV (pinsN 45 c)) ∧ Below w.heap.size w w' := by
  obtain ⟨⟨a, x, y, s, p, pc⟩, t, op, nm, md, kd, kn, pl, wr, b⟩ := c
  simp only [] at ht
  subst ht
  obtain ⟨c0, c1, c2, c3, c4, c5, c6, c7, c8, c9, c10, c11, c12, c13, c14⟩ := hS.all
  obtain ⟨⟨a0, a1, x0, x1, y0, y1, s0, s1, p0, p1, pc0, pc1⟩, t0, t1, op0, op1, md0, md1, kd0, kd1, pl0, pl1, wr0, wr1, b0, b1⟩ := ok
  simp only [] at a0 a1 x0 x1 y0 y1 s0 s1 p0 p1 pc0 pc1 t0 t1 op0 op1 md0 md1 kd0 kd1 pl0 pl1 wr0 wr1 b0 b1
  have ff := hS.thaw
  have hlt := hS.lt
  have hR : CpuR w B _ := hS
  have hne : ¬ w.heap.size = B := by omega
  have hne' : ¬ B = w.heap.size := by omega
  have kr := fun v h0 h1 w' => read_ask v h0 h1 w'
  simp only [pinV, rdP] at kr
  go_enter Tryd.func11, Tryd.ntmps11
  repeat (first | (with_reducible refine wp_keep (fun W => RowT 40 W w.heap.size #[.int .u16 0, .bool false, .int .u8 0] ∧ CpuR W B (Cp.row ⟨⟨a, x, y, s, p, pc⟩, 45, op, nm, md, kd, kn, pl, wr, b⟩) ∧ Below w.heap.size w W) (And.intro (RowT.new w _ _) (And.intro (hR.alloc _) ((Below.refl _ _).alloc (Nat.le_refl _) _))) ?_) | go_step)
  rintro W0 ⟨hD0, hR0, hb0⟩
  clear c0 c1 c2 c3 c4 c5 c6 c7 c8 c9 c10 c11 c12 c13 c14 ff hS hR
  obtain ⟨c0, c1, c2, c3, c4, c5, c6, c7, c8, c9, c10, c11, c12, c13, c14⟩ := CpuS.all (show CpuS W0 B ⟨⟨a, x, y, s, p, pc⟩, 45, op, nm, md, kd, kn, pl, wr, b⟩ from hR0)
  have ff := hR0.thaw
  have l0 := hD0.lt
  have hW : w.heap.size ≤ W0.heap.size := Nat.le_of_lt l0
  have hnn := World.new_ne W0 _ c0
  (repeat (first | (with_reducible refine inBlock_far (by decide) ?_) | (with_reducible refine then_exit ?_) | (with_reducible refine inBlock_here ?_) | ((fail_if_success (with_reducible refine calls_id ?_)); go_step)))
  refine (kr (pc) (by omega) (by omega) _).mono ?_
  rintro e w1 ⟨rfl, hw⟩
  obtain ⟨q0, q1, q2, qf⟩ := box3 (RowT.below hD0 hw); have hb := Below.trans hb0 (hw.mono hW)
  clear hw
  dsimp only
  (repeat (first | (with_reducible refine inBlock_far (by decide) ?_) | (with_reducible refine then_exit ?_) | (with_reducible refine inBlock_here ?_) | ((fail_if_success (with_reducible refine calls_id ?_)); go_step)))
  refine bodyPost_ret (v := .agg #[.int .u16 ((pc) % 8192), .bool false, .int .u8 0]) (by simp [results, Tryd.results11, go_sem, q0, q1, q2]) rfl ⟨rfl, ?_⟩
  repeat (first | (with_reducible exact hb) | (with_reducible refine Below.drew ?_) | (refine Below.setCell ?_ (by exact Nat.le_refl _) _))
set_option maxRecDepth 100000 in
set_option maxHeartbeats 8000000 in
theorem pins_46 (c : Cp) (ok : c.ok) (w : World) (B : Nat) (hS : CpuS w B c) (ht : c.t = 46) : Calls Tryd.prog 11 #[.pointer (some ⟨B, 0, none⟩)] w fun e w' => e = .returned (pinV (pinsN 46 c)) ∧ Below w.heap.size w w' := by
  obtain ⟨⟨a, x, y, s, p, pc⟩, t, op, nm, md, kd, kn, pl, wr, b⟩ := c
  simp only [] at ht
  subst ht
  obtain ⟨c0, c1, c2, c3, c4, c5, c6, c7, c8, c9, c10, c11, c12, c13, c14⟩ := hS.all
  obtain ⟨⟨a0, a1, x0, x1, y0, y1, s0, s1, p0, p1, pc0, pc1⟩, t0, t1, op0, op1, md0, md1, kd0, kd1, pl0, pl1, wr0, wr1, b0, b1⟩ := ok
  simp only [] at a0 a1 x0 x1 y0 y1 s0 s1 p0 p1 pc0 pc1 t0 t1 op0 op1 md0 md1 kd0 kd1 pl0 pl1 wr0 wr1 b0 b1
  have ff := hS.thaw
  have hlt := hS.lt
  have hR : CpuR w B _ := hS
  have hne : ¬ w.heap.size = B := by omega
  have hne' : ¬ B = w.heap.size := by omega
  have kr := fun v h0 h1 w' => read_ask v h0 h1 w'
  simp only [pinV, rdP] at kr
  go_enter Tryd.func11, Tryd.ntmps11
  repeat (first | (with_reducible refine wp_keep (fun W => RowT 40 W w.heap.size #[.int .u16 0, .bool false, .int .u8 0] ∧ CpuR W B (Cp.row ⟨⟨a, x, y, s, p, pc⟩, 46, op, nm, md, kd, kn, pl, wr, b⟩) ∧ Below w.heap.size w W) (And.intro (RowT.new w _ _) (And.intro (hR.alloc _) ((Below.refl _ _).alloc (Nat.le_refl _) _))) ?_) | go_step)
  rintro W0 ⟨hD0, hR0, hb0⟩
  clear c0 c1 c2 c3 c4 c5 c6 c7 c8 c9 c10 c11 c12 c13 c14 ff hS hR
  obtain ⟨c0, c1, c2, c3, c4, c5, c6, c7, c8, c9, c10, c11, c12, c13, c14⟩ := CpuS.all (show CpuS W0 B ⟨⟨a, x, y, s, p, pc⟩, 46, op, nm, md, kd, kn, pl, wr, b⟩ from hR0)
  have ff := hR0.thaw
  have l0 := hD0.lt
  have hW : w.heap.size ≤ W0.heap.size := Nat.le_of_lt l0
  have hnn := World.new_ne W0 _ c0
  (repeat (first | (with_reducible refine inBlock_far (by decide) ?_) | (with_reducible refine then_exit ?_) | (with_reducible refine inBlock_here ?_) | ((fail_if_success (with_reducible refine calls_id ?_)); go_step)))
  refine (kr (pc) (by omega) (by omega) _).mono ?_
  rintro e w1 ⟨rfl, hw⟩
  obtain ⟨q0, q1, q2, qf⟩ := box3 (RowT.below hD0 hw); have hb := Below.trans hb0 (hw.mono hW)
  clear hw
  dsimp only
  (repeat (first | (with_reducible refine inBlock_far (by decide) ?_) | (with_reducible refine then_exit ?_) | (with_reducible refine inBlock_here ?_) | ((fail_if_success (with_reducible refine calls_id ?_)); go_step)))
  refine bodyPost_ret (v := .agg #[.int .u16 ((pc) % 8192), .bool false, .int .u8 0]) (by simp [results, Tryd.results11, go_sem, q0, q1, q2]) rfl ⟨rfl, ?_⟩
  repeat (first | (with_reducible exact hb) | (with_reducible refine Below.drew ?_) | (refine Below.setCell ?_ (by exact Nat.le_refl _) _))
set_option maxRecDepth 100000 in
set_option maxHeartbeats 8000000 in
theorem pins_51 (c : Cp) (ok : c.ok) (w : World) (B : Nat) (hS : CpuS w B c) (ht : c.t = 51) : Calls Tryd.prog 11 #[.pointer (some ⟨B, 0, none⟩)] w fun e w' => e = .returned (pinV (pinsN 51 c)) ∧ Below w.heap.size w w' := by
  obtain ⟨⟨a, x, y, s, p, pc⟩, t, op, nm, md, kd, kn, pl, wr, b⟩ := c
  simp only [] at ht
  subst ht
  obtain ⟨c0, c1, c2, c3, c4, c5, c6, c7, c8, c9, c10, c11, c12, c13, c14⟩ := hS.all
  obtain ⟨⟨a0, a1, x0, x1, y0, y1, s0, s1, p0, p1, pc0, pc1⟩, t0, t1, op0, op1, md0, md1, kd0, kd1, pl0, pl1, wr0, wr1, b0, b1⟩ := ok
  simp only [] at a0 a1 x0 x1 y0 y1 s0 s1 p0 p1 pc0 pc1 t0 t1 op0 op1 md0 md1 kd0 kd1 pl0 pl1 wr0 wr1 b0 b1
  have ff := hS.thaw
  have hlt := hS.lt
  have hR : CpuR w B _ := hS
  have hne : ¬ w.heap.size = B := by omega
  have hne' : ¬ B = w.heap.size := by omega
  have kr := fun v h0 h1 w' => read_ask v h0 h1 w'
  simp only [pinV, rdP] at kr
  go_enter Tryd.func11, Tryd.ntmps11
  repeat (first | (with_reducible refine wp_keep (fun W => RowT 40 W w.heap.size #[.int .u16 0, .bool false, .int .u8 0] ∧ CpuR W B (Cp.row ⟨⟨a, x, y, s, p, pc⟩, 51, op, nm, md, kd, kn, pl, wr, b⟩) ∧ Below w.heap.size w W) (And.intro (RowT.new w _ _) (And.intro (hR.alloc _) ((Below.refl _ _).alloc (Nat.le_refl _) _))) ?_) | go_step)
  rintro W0 ⟨hD0, hR0, hb0⟩
  clear c0 c1 c2 c3 c4 c5 c6 c7 c8 c9 c10 c11 c12 c13 c14 ff hS hR
  obtain ⟨c0, c1, c2, c3, c4, c5, c6, c7, c8, c9, c10, c11, c12, c13, c14⟩ := CpuS.all (show CpuS W0 B ⟨⟨a, x, y, s, p, pc⟩, 51, op, nm, md, kd, kn, pl, wr, b⟩ from hR0)
  have ff := hR0.thaw
  have l0 := hD0.lt
  have hW : w.heap.size ≤ W0.heap.size := Nat.le_of_lt l0
  have hnn := World.new_ne W0 _ c0
  (repeat (first | (with_reducible refine inBlock_far (by decide) ?_) | (with_reducible refine then_exit ?_) | (with_reducible refine inBlock_here ?_) | ((fail_if_success (with_reducible refine calls_id ?_)); go_step)))
  refine (kr (pc) (by omega) (by omega) _).mono ?_
  rintro e w1 ⟨rfl, hw⟩
  obtain ⟨q0, q1, q2, qf⟩ := box3 (RowT.below hD0 hw); have hb := Below.trans hb0 (hw.mono hW)
  clear hw
  dsimp only
  (repeat (first | (with_reducible refine inBlock_far (by decide) ?_) | (with_reducible refine then_exit ?_) | (with_reducible refine inBlock_here ?_) | ((fail_if_success (with_reducible refine calls_id ?_)); go_step)))
  refine bodyPost_ret (v := .agg #[.int .u16 ((pc) % 8192), .bool false, .int .u8 0]) (by simp [results, Tryd.results11, go_sem, q0, q1, q2]) rfl ⟨rfl, ?_⟩
  repeat (first | (with_reducible exact hb) | (with_reducible refine Below.drew ?_) | (refine Below.setCell ?_ (by exact Nat.le_refl _) _))
set_option maxRecDepth 100000 in
set_option maxHeartbeats 8000000 in
theorem pins_21 (c : Cp) (ok : c.ok) (w : World) (B : Nat) (hS : CpuS w B c) (ht : c.t = 21) : Calls Tryd.prog 11 #[.pointer (some ⟨B, 0, none⟩)] w fun e w' => e = .returned (pinV (pinsN 21 c)) ∧ Below w.heap.size w w' := by
  obtain ⟨⟨a, x, y, s, p, pc⟩, t, op, nm, md, kd, kn, pl, wr, b⟩ := c
  simp only [] at ht
  subst ht
  obtain ⟨c0, c1, c2, c3, c4, c5, c6, c7, c8, c9, c10, c11, c12, c13, c14⟩ := hS.all
  obtain ⟨⟨a0, a1, x0, x1, y0, y1, s0, s1, p0, p1, pc0, pc1⟩, t0, t1, op0, op1, md0, md1, kd0, kd1, pl0, pl1, wr0, wr1, b0, b1⟩ := ok
  simp only [] at a0 a1 x0 x1 y0 y1 s0 s1 p0 p1 pc0 pc1 t0 t1 op0 op1 md0 md1 kd0 kd1 pl0 pl1 wr0 wr1 b0 b1
  have ff := hS.thaw
  have hlt := hS.lt
  have hR : CpuR w B _ := hS
  have hne : ¬ w.heap.size = B := by omega
  have hne' : ¬ B = w.heap.size := by omega
  have ksv := fun w' h => stored_any ⟨⟨a, x, y, s, p, pc⟩, 21, op, nm, md, kd, kn, pl, wr, b⟩ (by exact ⟨⟨a0, a1, x0, x1, y0, y1, s0, s1, p0, p1, pc0, pc1⟩, t0, t1, op0, op1, md0, md1, kd0, kd1, pl0, pl1, wr0, wr1, b0, b1⟩) w' B h
  have hV := storeVM_in (stK nm) ⟨a, x, y, s, p, pc⟩ (wr / 256) ⟨a0, a1, x0, x1, y0, y1, s0, s1, p0, p1, pc0, pc1⟩
  have hPL : 0 ≤ stPF ⟨⟨a, x, y, s, p, pc⟩, 21, op, nm, md, kd, kn, pl, wr, b⟩ ∧ stPF ⟨⟨a, x, y, s, p, pc⟩, 21, op, nm, md, kd, kn, pl, wr, b⟩ ≤ 65535 := by
    show 0 ≤ (if unM nm = true ∧ pl ≠ wr then wordF (pl % 256) (storeV (stK nm) ⟨a, x, y, s, p, pc⟩ (wr / 256)) else pl) ∧ (if unM nm = true ∧ pl ≠ wr then wordF (pl % 256) (storeV (stK nm) ⟨a, x, y, s, p, pc⟩ (wr / 256)) else pl) ≤ 65535
    split
    · exact wordF_in (by omega) (by omega) hV.1 hV.2
    · exact ⟨pl0, pl1⟩
  show Calls _ _ _ _ fun e w' => e = .returned (pinV (wrP (stPF ⟨⟨a, x, y, s, p, pc⟩, 21, op, nm, md, kd, kn, pl, wr, b⟩) (stVF ⟨⟨a, x, y, s, p, pc⟩, 21, op, nm, md, kd, kn, pl, wr, b⟩))) ∧ Below w.heap.size w w'
  generalize stPF ⟨⟨a, x, y, s, p, pc⟩, 21, op, nm, md, kd, kn, pl, wr, b⟩ = PL at *
  generalize stVF ⟨⟨a, x, y, s, p, pc⟩, 21, op, nm, md, kd, kn, pl, wr, b⟩ = V at *
  generalize stRF ⟨⟨a, x, y, s, p, pc⟩, 21, op, nm, md, kd, kn, pl, wr, b⟩ = R at *
  obtain ⟨ra, rx, ry, rs, rp, rpc⟩ := R
  simp only [rgU] at ksv
  clear hV
  have kwr := fun v d h0 h1 w' => write_ask v d h0 h1 w'
  simp only [pinV, wrP] at kwr
  go_enter Tryd.func11, Tryd.ntmps11
  repeat (first | (with_reducible refine wp_keep (fun W => RowT 40 W w.heap.size #[.int .u16 0, .bool false, .int .u8 0] ∧ CpuR W B (Cp.row ⟨⟨a, x, y, s, p, pc⟩, 21, op, nm, md, kd, kn, pl, wr, b⟩) ∧ Below w.heap.size w W) (And.intro (RowT.new w _ _) (And.intro (hR.alloc _) ((Below.refl _ _).alloc (Nat.le_refl _) _))) ?_) | go_step)
  rintro W0 ⟨hD0, hR0, hb0⟩
  clear c0 c1 c2 c3 c4 c5 c6 c7 c8 c9 c10 c11 c12 c13 c14 ff hS hR
  obtain ⟨c0, c1, c2, c3, c4, c5, c6, c7, c8, c9, c10, c11, c12, c13, c14⟩ := CpuS.all (show CpuS W0 B ⟨⟨a, x, y, s, p, pc⟩, 21, op, nm, md, kd, kn, pl, wr, b⟩ from hR0)
  have ff := hR0.thaw
  have l0 := hD0.lt
  have hW : w.heap.size ≤ W0.heap.size := Nat.le_of_lt l0
  have hnn := World.new_ne W0 _ c0
  (repeat (first | (with_reducible refine inBlock_far (by decide) ?_) | (with_reducible refine then_exit ?_) | (with_reducible refine inBlock_here ?_) | ((fail_if_success (with_reducible refine calls_id ?_)); go_step)))
  refine (ksv _ hR0).mono ?_
  rintro e w1 ⟨rfl, hw0⟩
  have hD1 := hD0.below hw0
  have hR1 := hR0.below hw0
  have hb1 := hb0.trans (hw0.mono hW)
  dsimp only
  clear c0 c1 c2 c3 c4 c5 c6 c7 c8 c9 c10 c11 c12 c13 c14 ff hnn
  repeat (first | (with_reducible refine wp_keep (fun W => RowT 40 W w.heap.size #[.int .u16 0, .bool false, .int .u8 0] ∧ CpuR W B (Cp.row ⟨⟨a, x, y, s, p, pc⟩, 21, op, nm, md, kd, kn, pl, wr, b⟩) ∧ Below w.heap.size w W) (And.intro (hD1.alloc (.cells #[.int .u8 ra, .int .u8 rx, .int .u8 ry, .int .u8 rs, .int .u8 rp, .int .u16 rpc] _)) (And.intro (hR1.alloc _) (hb1.alloc (Nat.le_of_lt hD1.lt) _))) ?_) | go_step)
  rintro W2 ⟨hD2, hR2, hb2⟩
  obtain ⟨c0, c1, c2, c3, c4, c5, c6, c7, c8, c9, c10, c11, c12, c13, c14⟩ := CpuS.all (show CpuS W2 B ⟨⟨a, x, y, s, p, pc⟩, 21, op, nm, md, kd, kn, pl, wr, b⟩ from hR2)
  have ff := hR2.thaw
  have hW2 : w.heap.size ≤ W2.heap.size := Nat.le_of_lt hD2.lt
  (repeat (first | (with_reducible refine inBlock_far (by decide) ?_) | (with_reducible refine then_exit ?_) | (with_reducible refine inBlock_here ?_) | ((fail_if_success (with_reducible refine calls_id ?_)); go_step)))
  refine (kwr (PL) _ (by omega) (by omega) _).mono ?_
  rintro e w3 ⟨rfl, hw⟩
  obtain ⟨q0, q1, q2, qf⟩ := box3 (RowT.below hD2 hw)
  have hb := hb2.trans (hw.mono hW2)
  clear hw
  dsimp only
  (repeat (first | (with_reducible refine inBlock_far (by decide) ?_) | (with_reducible refine then_exit ?_) | (with_reducible refine inBlock_here ?_) | ((fail_if_success (with_reducible refine calls_id ?_)); go_step)))
  refine bodyPost_ret (v := .agg #[.int .u16 ((PL) % 8192), .bool true, .int .u8 V]) (by simp [results, Tryd.results11, go_sem, q0, q1, q2]) rfl ⟨rfl, ?_⟩
  repeat (first | (with_reducible exact hb) | (with_reducible refine Below.drew ?_) | (refine Below.setCell ?_ (by exact Nat.le_refl _) _))
set_option maxRecDepth 100000 in
set_option maxHeartbeats 8000000 in
theorem pins_23 (c : Cp) (ok : c.ok) (w : World) (B : Nat) (hS : CpuS w B c) (ht : c.t = 23) : Calls Tryd.prog 11 #[.pointer (some ⟨B, 0, none⟩)] w fun e w' => e = .returned (pinV (pinsN 23 c)) ∧ Below w.heap.size w w' := by
  obtain ⟨⟨a, x, y, s, p, pc⟩, t, op, nm, md, kd, kn, pl, wr, b⟩ := c
  simp only [] at ht
  subst ht
  obtain ⟨c0, c1, c2, c3, c4, c5, c6, c7, c8, c9, c10, c11, c12, c13, c14⟩ := hS.all
  obtain ⟨⟨a0, a1, x0, x1, y0, y1, s0, s1, p0, p1, pc0, pc1⟩, t0, t1, op0, op1, md0, md1, kd0, kd1, pl0, pl1, wr0, wr1, b0, b1⟩ := ok
  simp only [] at a0 a1 x0 x1 y0 y1 s0 s1 p0 p1 pc0 pc1 t0 t1 op0 op1 md0 md1 kd0 kd1 pl0 pl1 wr0 wr1 b0 b1
  have ff := hS.thaw
  have hlt := hS.lt
  have hR : CpuR w B _ := hS
  have hne : ¬ w.heap.size = B := by omega
  have hne' : ¬ B = w.heap.size := by omega
  have ksv := fun w' h => turned_any ⟨⟨a, x, y, s, p, pc⟩, 23, op, nm, md, kd, kn, pl, wr, b⟩ (by exact ⟨⟨a0, a1, x0, x1, y0, y1, s0, s1, p0, p1, pc0, pc1⟩, t0, t1, op0, op1, md0, md1, kd0, kd1, pl0, pl1, wr0, wr1, b0, b1⟩) w' B h
  show Calls _ _ _ _ fun e w' => e = .returned (pinV (wrP pl (tuVF ⟨⟨a, x, y, s, p, pc⟩, 23, op, nm, md, kd, kn, pl, wr, b⟩))) ∧ Below w.heap.size w w'
  generalize tuVF ⟨⟨a, x, y, s, p, pc⟩, 23, op, nm, md, kd, kn, pl, wr, b⟩ = V at *
  generalize tuRF ⟨⟨a, x, y, s, p, pc⟩, 23, op, nm, md, kd, kn, pl, wr, b⟩ = R at *
  obtain ⟨ra, rx, ry, rs, rp, rpc⟩ := R
  simp only [rgU] at ksv
  have kwr := fun v d h0 h1 w' => write_ask v d h0 h1 w'
  simp only [pinV, wrP] at kwr
  go_enter Tryd.func11, Tryd.ntmps11
  repeat (first | (with_reducible refine wp_keep (fun W => RowT 40 W w.heap.size #[.int .u16 0, .bool false, .int .u8 0] ∧ CpuR W B (Cp.row ⟨⟨a, x, y, s, p, pc⟩, 23, op, nm, md, kd, kn, pl, wr, b⟩) ∧ Below w.heap.size w W) (And.intro (RowT.new w _ _) (And.intro (hR.alloc _) ((Below.refl _ _).alloc (Nat.le_refl _) _))) ?_) | go_step)
  rintro W0 ⟨hD0, hR0, hb0⟩
  clear c0 c1 c2 c3 c4 c5 c6 c7 c8 c9 c10 c11 c12 c13 c14 ff hS hR
  obtain ⟨c0, c1, c2, c3, c4, c5, c6, c7, c8, c9, c10, c11, c12, c13, c14⟩ := CpuS.all (show CpuS W0 B ⟨⟨a, x, y, s, p, pc⟩, 23, op, nm, md, kd, kn, pl, wr, b⟩ from hR0)
  have ff := hR0.thaw
  have l0 := hD0.lt
  have hW : w.heap.size ≤ W0.heap.size := Nat.le_of_lt l0
  have hnn := World.new_ne W0 _ c0
  (repeat (first | (with_reducible refine inBlock_far (by decide) ?_) | (with_reducible refine then_exit ?_) | (with_reducible refine inBlock_here ?_) | ((fail_if_success (with_reducible refine calls_id ?_)); go_step)))
  refine (ksv _ hR0).mono ?_
  rintro e w1 ⟨rfl, hw0⟩
  have hD1 := hD0.below hw0
  have hR1 := hR0.below hw0
  have hb1 := hb0.trans (hw0.mono hW)
  dsimp only
  clear c0 c1 c2 c3 c4 c5 c6 c7 c8 c9 c10 c11 c12 c13 c14 ff hnn
  repeat (first | (with_reducible refine wp_keep (fun W => RowT 40 W w.heap.size #[.int .u16 0, .bool false, .int .u8 0] ∧ CpuR W B (Cp.row ⟨⟨a, x, y, s, p, pc⟩, 23, op, nm, md, kd, kn, pl, wr, b⟩) ∧ Below w.heap.size w W) (And.intro (hD1.alloc (.cells #[.int .u8 ra, .int .u8 rx, .int .u8 ry, .int .u8 rs, .int .u8 rp, .int .u16 rpc] _)) (And.intro (hR1.alloc _) (hb1.alloc (Nat.le_of_lt hD1.lt) _))) ?_) | go_step)
  rintro W2 ⟨hD2, hR2, hb2⟩
  obtain ⟨c0, c1, c2, c3, c4, c5, c6, c7, c8, c9, c10, c11, c12, c13, c14⟩ := CpuS.all (show CpuS W2 B ⟨⟨a, x, y, s, p, pc⟩, 23, op, nm, md, kd, kn, pl, wr, b⟩ from hR2)
  have ff := hR2.thaw
  have hW2 : w.heap.size ≤ W2.heap.size := Nat.le_of_lt hD2.lt
  (repeat (first | (with_reducible refine inBlock_far (by decide) ?_) | (with_reducible refine then_exit ?_) | (with_reducible refine inBlock_here ?_) | ((fail_if_success (with_reducible refine calls_id ?_)); go_step)))
  refine (kwr (pl) _ (by omega) (by omega) _).mono ?_
  rintro e w3 ⟨rfl, hw⟩
  obtain ⟨q0, q1, q2, qf⟩ := box3 (RowT.below hD2 hw)
  have hb := hb2.trans (hw.mono hW2)
  clear hw
  dsimp only
  (repeat (first | (with_reducible refine inBlock_far (by decide) ?_) | (with_reducible refine then_exit ?_) | (with_reducible refine inBlock_here ?_) | ((fail_if_success (with_reducible refine calls_id ?_)); go_step)))
  refine bodyPost_ret (v := .agg #[.int .u16 ((pl) % 8192), .bool true, .int .u8 V]) (by simp [results, Tryd.results11, go_sem, q0, q1, q2]) rfl ⟨rfl, ?_⟩
  repeat (first | (with_reducible exact hb) | (with_reducible refine Below.drew ?_) | (refine Below.setCell ?_ (by exact Nat.le_refl _) _))
end Go.Proofs.YthepcjecmlkaiaaDoor.Mi
