/- Package micro: what it asks at each step. -/
import Derived.Test.YthepcjecmlkaiaaDoorZMicroN
import Derived.Test.YthepcjecmlkaiaaDoorZMicroBase
import Derived.Test.YthepcjecmlkaiaaDoorZAluWalks
import Derived.Test.YthepcjecmlkaiaaDoorZKeep
import Derived.Deep.RegionHeld3
import Derived.RegionTactic
import Derived.Deep.RegionWith
import Derived.BigQuiet
import Derived.IntWalk
namespace Go.Proofs.YthepcjecmlkaiaaDoor.Mi
open Go Go.RowKit Go.Deep Go.Proofs.YthepcjecmlkaiaaDoor Go.Proofs.YthepcjecmlkaiaaDoor.Ex
set_option linter.unusedVariables false
set_option linter.unusedSimpArgs false
set_option maxRecDepth 100000 in
set_option maxHeartbeats 8000000 in
theorem pins_1 (c : Cp) (ok : c.ok) (w : World) (B : Nat) (hS : CpuS w B c) (ht : c.t = 1) : Calls Tryd.prog 11 #[.pointer (some ⟨B, 0, none⟩)] w fun e w' => e = .returned (pinV (pinsN 1 c)) ∧ Below w.heap.size w w' := by
  obtain ⟨⟨a, x, y, s, p, pc⟩, t, op, nm, md, kd, kn, pl, wr, b⟩ := c
  simp only [] at ht
  subst ht
  obtain ⟨c0, c1, c2, c3, c4, c5, c6, c7, c8, c9, c10, c11, c12, c13, c14⟩ := hS.all
  obtain ⟨⟨a0, a1, x0, x1, y0, y1, s0, s1, p0, p1, pc0, pc1⟩, t0, t1, op0, op1, md0, md1, kd0, kd1, pl0, pl1, wr0, wr1, b0, b1⟩ := ok
  simp only [] at a0 a1 x0 x1 y0 y1 s0 s1 p0 p1 pc0 pc1 t0 t1 op0 op1 md0 md1 kd0 kd1 pl0 pl1 wr0 wr1 b0 b1
  have ff := hS.thaw
  have hlt := hS.lt
  have hR : CpuR w B _ := hS
  have hne : ¬ w.heap.size = B := by omega
  have hne' : ¬ B = w.heap.size := by omega
  have kr := fun v h0 h1 w' => read_ask v h0 h1 w'
  simp only [pinV, rdP] at kr
  go_enter Tryd.func11, Tryd.ntmps11
  repeat (first | (with_reducible refine wp_keep (fun W => RowT 40 W w.heap.size #[.int .u16 0, .bool false, .int .u8 0] ∧ CpuR W B (Cp.row ⟨⟨a, x, y, s, p, pc⟩, 1, op, nm, md, kd, kn, pl, wr, b⟩) ∧ Below w.heap.size w W) (And.intro (RowT.new w _ _) (And.intro (hR.alloc _) ((Below.refl _ _).alloc (Nat.le_refl _) _))) ?_) | go_step)
  rintro W0 ⟨hD0, hR0, hb0⟩
  clear c0 c1 c2 c3 c4 c5 c6 c7 c8 c9 c10 c11 c12 c13 c14 ff hS hR
  obtain ⟨c0, c1, c2, c3, c4, c5, c6, c7, c8, c9, c10, c11, c12, c13, c14⟩ := CpuS.all (show CpuS W0 B ⟨⟨a, x, y, s, p, pc⟩, 1, op, nm, md, kd, kn, pl, wr, b⟩ from hR0)
  have ff := hR0.thaw
  have l0 := hD0.lt
  have hW : w.heap.size ≤ W0.heap.size := Nat.le_of_lt l0
  have hnn := World.new_ne W0 _ c0
  (repeat (first | (with_reducible refine inBlock_far (by decide) ?_) | (with_reducible refine then_exit ?_) | (with_reducible refine inBlock_here ?_) | ((fail_if_success (with_reducible refine calls_id ?_)); go_step)))
  refine (kr (65535) (by omega) (by omega) _).mono ?_
  rintro e w1 ⟨rfl, hw⟩
  obtain ⟨q0, q1, q2, qf⟩ := box3 (RowT.below hD0 hw); have hb := Below.trans hb0 (hw.mono hW)
  clear hw
  dsimp only
  (repeat (first | (with_reducible refine inBlock_far (by decide) ?_) | (with_reducible refine then_exit ?_) | (with_reducible refine inBlock_here ?_) | ((fail_if_success (with_reducible refine calls_id ?_)); go_step)))
  refine bodyPost_ret (v := .agg #[.int .u16 ((65535) % 8192), .bool false, .int .u8 0]) (by simp [results, Tryd.results11, go_sem, q0, q1, q2]) rfl ⟨rfl, ?_⟩
  repeat (first | (with_reducible exact hb) | (with_reducible refine Below.drew ?_) | (refine Below.setCell ?_ (by exact Nat.le_refl _) _))
set_option maxRecDepth 100000 in
set_option maxHeartbeats 8000000 in
theorem pins_7 (c : Cp) (ok : c.ok) (w : World) (B : Nat) (hS : CpuS w B c) (ht : c.t = 7) : Calls Tryd.prog 11 #[.pointer (some ⟨B, 0, none⟩)] w fun e w' => e = .returned (pinV (pinsN 7 c)) ∧ Below w.heap.size w w' := by
  obtain ⟨⟨a, x, y, s, p, pc⟩, t, op, nm, md, kd, kn, pl, wr, b⟩ := c
  simp only [] at ht
  subst ht
  obtain ⟨c0, c1, c2, c3, c4, c5, c6, c7, c8, c9, c10, c11, c12, c13, c14⟩ := hS.all
  obtain ⟨⟨a0, a1, x0, x1, y0, y1, s0, s1, p0, p1, pc0, pc1⟩, t0, t1, op0, op1, md0, md1, kd0, kd1, pl0, pl1, wr0, wr1, b0, b1⟩ := ok
  simp only [] at a0 a1 x0 x1 y0 y1 s0 s1 p0 p1 pc0 pc1 t0 t1 op0 op1 md0 md1 kd0 kd1 pl0 pl1 wr0 wr1 b0 b1
  have ff := hS.thaw
  have hlt := hS.lt
  have hR : CpuR w B _ := hS
  have hne : ¬ w.heap.size = B := by omega
  have hne' : ¬ B = w.heap.size := by omega
  have kr := fun v h0 h1 w' => read_ask v h0 h1 w'
  simp only [pinV, rdP] at kr
  go_enter Tryd.func11, Tryd.ntmps11
  repeat (first | (with_reducible refine wp_keep (fun W => RowT 40 W w.heap.size #[.int .u16 0, .bool false, .int .u8 0] ∧ CpuR W B (Cp.row ⟨⟨a, x, y, s, p, pc⟩, 7, op, nm, md, kd, kn, pl, wr, b⟩) ∧ Below w.heap.size w W) (And.intro (RowT.new w _ _) (And.intro (hR.alloc _) ((Below.refl _ _).alloc (Nat.le_refl _) _))) ?_) | go_step)
  rintro W0 ⟨hD0, hR0, hb0⟩
  clear c0 c1 c2 c3 c4 c5 c6 c7 c8 c9 c10 c11 c12 c13 c14 ff hS hR
  obtain ⟨c0, c1, c2, c3, c4, c5, c6, c7, c8, c9, c10, c11, c12, c13, c14⟩ := CpuS.all (show CpuS W0 B ⟨⟨a, x, y, s, p, pc⟩, 7, op, nm, md, kd, kn, pl, wr, b⟩ from hR0)
  have ff := hR0.thaw
  have l0 := hD0.lt
  have hW : w.heap.size ≤ W0.heap.size := Nat.le_of_lt l0
  have hnn := World.new_ne W0 _ c0
  (repeat (first | (with_reducible refine inBlock_far (by decide) ?_) | (with_reducible refine then_exit ?_) | (with_reducible refine inBlock_here ?_) | ((fail_if_success (with_reducible refine calls_id ?_)); go_step)))
  refine (kr (65532) (by omega) (by omega) _).mono ?_
  rintro e w1 ⟨rfl, hw⟩
  obtain ⟨q0, q1, q2, qf⟩ := box3 (RowT.below hD0 hw); have hb := Below.trans hb0 (hw.mono hW)
  clear hw
  dsimp only
  (repeat (first | (with_reducible refine inBlock_far (by decide) ?_) | (with_reducible refine then_exit ?_) | (with_reducible refine inBlock_here ?_) | ((fail_if_success (with_reducible refine calls_id ?_)); go_step)))
  refine bodyPost_ret (v := .agg #[.int .u16 ((65532) % 8192), .bool false, .int .u8 0]) (by simp [results, Tryd.results11, go_sem, q0, q1, q2]) rfl ⟨rfl, ?_⟩
  repeat (first | (with_reducible exact hb) | (with_reducible refine Below.drew ?_) | (refine Below.setCell ?_ (by exact Nat.le_refl _) _))
set_option maxRecDepth 100000 in
set_option maxHeartbeats 8000000 in
theorem pins_8 (c : Cp) (ok : c.ok) (w : World) (B : Nat) (hS : CpuS w B c) (ht : c.t = 8) : Calls Tryd.prog 11 #[.pointer (some ⟨B, 0, none⟩)] w fun e w' => e = .returned (pinV (pinsN 8 c)) ∧ Below w.heap.size w w' := by
  obtain ⟨⟨a, x, y, s, p, pc⟩, t, op, nm, md, kd, kn, pl, wr, b⟩ := c
  simp only [] at ht
  subst ht
  obtain ⟨c0, c1, c2, c3, c4, c5, c6, c7, c8, c9, c10, c11, c12, c13, c14⟩ := hS.all
  obtain ⟨⟨a0, a1, x0, x1, y0, y1, s0, s1, p0, p1, pc0, pc1⟩, t0, t1, op0, op1, md0, md1, kd0, kd1, pl0, pl1, wr0, wr1, b0, b1⟩ := ok
  simp only [] at a0 a1 x0 x1 y0 y1 s0 s1 p0 p1 pc0 pc1 t0 t1 op0 op1 md0 md1 kd0 kd1 pl0 pl1 wr0 wr1 b0 b1
  have ff := hS.thaw
  have hlt := hS.lt
  have hR : CpuR w B _ := hS
  have hne : ¬ w.heap.size = B := by omega
  have hne' : ¬ B = w.heap.size := by omega
  have kr := fun v h0 h1 w' => read_ask v h0 h1 w'
  simp only [pinV, rdP] at kr
  go_enter Tryd.func11, Tryd.ntmps11
  repeat (first | (with_reducible refine wp_keep (fun W => RowT 40 W w.heap.size #[.int .u16 0, .bool false, .int .u8 0] ∧ CpuR W B (Cp.row ⟨⟨a, x, y, s, p, pc⟩, 8, op, nm, md, kd, kn, pl, wr, b⟩) ∧ Below w.heap.size w W) (And.intro (RowT.new w _ _) (And.intro (hR.alloc _) ((Below.refl _ _).alloc (Nat.le_refl _) _))) ?_) | go_step)
  rintro W0 ⟨hD0, hR0, hb0⟩
  clear c0 c1 c2 c3 c4 c5 c6 c7 c8 c9 c10 c11 c12 c13 c14 ff hS hR
  obtain ⟨c0, c1, c2, c3, c4, c5, c6, c7, c8, c9, c10, c11, c12, c13, c14⟩ := CpuS.all (show CpuS W0 B ⟨⟨a, x, y, s, p, pc⟩, 8, op, nm, md, kd, kn, pl, wr, b⟩ from hR0)
  have ff := hR0.thaw
  have l0 := hD0.lt
  have hW : w.heap.size ≤ W0.heap.size := Nat.le_of_lt l0
  have hnn := World.new_ne W0 _ c0
  (repeat (first | (with_reducible refine inBlock_far (by decide) ?_) | (with_reducible refine then_exit ?_) | (with_reducible refine inBlock_here ?_) | ((fail_if_success (with_reducible refine calls_id ?_)); go_step)))
  refine (kr (65533) (by omega) (by omega) _).mono ?_
  rintro e w1 ⟨rfl, hw⟩
  obtain ⟨q0, q1, q2, qf⟩ := box3 (RowT.below hD0 hw); have hb := Below.trans hb0 (hw.mono hW)
  clear hw
  dsimp only
  (repeat (first | (with_reducible refine inBlock_far (by decide) ?_) | (with_reducible refine then_exit ?_) | (with_reducible refine inBlock_here ?_) | ((fail_if_success (with_reducible refine calls_id ?_)); go_step)))
  refine bodyPost_ret (v := .agg #[.int .u16 ((65533) % 8192), .bool false, .int .u8 0]) (by simp [results, Tryd.results11, go_sem, q0, q1, q2]) rfl ⟨rfl, ?_⟩
  repeat (first | (with_reducible exact hb) | (with_reducible refine Below.drew ?_) | (refine Below.setCell ?_ (by exact Nat.le_refl _) _))
set_option maxRecDepth 100000 in
set_option maxHeartbeats 8000000 in
theorem pins_55 (c : Cp) (ok : c.ok) (w : World) (B : Nat) (hS : CpuS w B c) (ht : c.t = 55) : Calls Tryd.prog 11 #[.pointer (some ⟨B, 0, none⟩)] w fun e w' => e = .returned (pinV (pinsN 55 c)) ∧ Below w.heap.size w w' := by
  obtain ⟨⟨a, x, y, s, p, pc⟩, t, op, nm, md, kd, kn, pl, wr, b⟩ := c
  simp only [] at ht
  subst ht
  obtain ⟨c0, c1, c2, c3, c4, c5, c6, c7, c8, c9, c10, c11, c12, c13, c14⟩ := hS.all
  obtain ⟨⟨a0, a1, x0, x1, y0, y1, s0, s1, p0, p1, pc0, pc1⟩, t0, t1, op0, op1, md0, md1, kd0, kd1, pl0, pl1, wr0, wr1, b0, b1⟩ := ok
  simp only [] at a0 a1 x0 x1 y0 y1 s0 s1 p0 p1 pc0 pc1 t0 t1 op0 op1 md0 md1 kd0 kd1 pl0 pl1 wr0 wr1 b0 b1
  have ff := hS.thaw
  have hlt := hS.lt
  have hR : CpuR w B _ := hS
  have hne : ¬ w.heap.size = B := by omega
  have hne' : ¬ B = w.heap.size := by omega
  have kr := fun v h0 h1 w' => read_ask v h0 h1 w'
  simp only [pinV, rdP] at kr
  go_enter Tryd.func11, Tryd.ntmps11
  repeat (first | (with_reducible refine wp_keep (fun W => RowT 40 W w.heap.size #[.int .u16 0, .bool false, .int .u8 0] ∧ CpuR W B (Cp.row ⟨⟨a, x, y, s, p, pc⟩, 55, op, nm, md, kd, kn, pl, wr, b⟩) ∧ Below w.heap.size w W) (And.intro (RowT.new w _ _) (And.intro (hR.alloc _) ((Below.refl _ _).alloc (Nat.le_refl _) _))) ?_) | go_step)
  rintro W0 ⟨hD0, hR0, hb0⟩
  clear c0 c1 c2 c3 c4 c5 c6 c7 c8 c9 c10 c11 c12 c13 c14 ff hS hR
  obtain ⟨c0, c1, c2, c3, c4, c5, c6, c7, c8, c9, c10, c11, c12, c13, c14⟩ := CpuS.all (show CpuS W0 B ⟨⟨a, x, y, s, p, pc⟩, 55, op, nm, md, kd, kn, pl, wr, b⟩ from hR0)
  have ff := hR0.thaw
  have l0 := hD0.lt
  have hW : w.heap.size ≤ W0.heap.size := Nat.le_of_lt l0
  have hnn := World.new_ne W0 _ c0
  (repeat (first | (with_reducible refine inBlock_far (by decide) ?_) | (with_reducible refine then_exit ?_) | (with_reducible refine inBlock_here ?_) | ((fail_if_success (with_reducible refine calls_id ?_)); go_step)))
  refine (kr (65534) (by omega) (by omega) _).mono ?_
  rintro e w1 ⟨rfl, hw⟩
  obtain ⟨q0, q1, q2, qf⟩ := box3 (RowT.below hD0 hw); have hb := Below.trans hb0 (hw.mono hW)
  clear hw
  dsimp only
  (repeat (first | (with_reducible refine inBlock_far (by decide) ?_) | (with_reducible refine then_exit ?_) | (with_reducible refine inBlock_here ?_) | ((fail_if_success (with_reducible refine calls_id ?_)); go_step)))
  refine bodyPost_ret (v := .agg #[.int .u16 ((65534) % 8192), .bool false, .int .u8 0]) (by simp [results, Tryd.results11, go_sem, q0, q1, q2]) rfl ⟨rfl, ?_⟩
  repeat (first | (with_reducible exact hb) | (with_reducible refine Below.drew ?_) | (refine Below.setCell ?_ (by exact Nat.le_refl _) _))
set_option maxRecDepth 100000 in
set_option maxHeartbeats 8000000 in
theorem pins_56 (c : Cp) (ok : c.ok) (w : World) (B : Nat) (hS : CpuS w B c) (ht : c.t = 56) : Calls Tryd.prog 11 #[.pointer (some ⟨B, 0, none⟩)] w fun e w' => e = .returned (pinV (pinsN 56 c)) ∧ Below w.heap.size w w' := by
  obtain ⟨⟨a, x, y, s, p, pc⟩, t, op, nm, md, kd, kn, pl, wr, b⟩ := c
  simp only [] at ht
  subst ht
  obtain ⟨c0, c1, c2, c3, c4, c5, c6, c7, c8, c9, c10, c11, c12, c13, c14⟩ := hS.all
  obtain ⟨⟨a0, a1, x0, x1, y0, y1, s0, s1, p0, p1, pc0, pc1⟩, t0, t1, op0, op1, md0, md1, kd0, kd1, pl0, pl1, wr0, wr1, b0, b1⟩ := ok
  simp only [] at a0 a1 x0 x1 y0 y1 s0 s1 p0 p1 pc0 pc1 t0 t1 op0 op1 md0 md1 kd0 kd1 pl0 pl1 wr0 wr1 b0 b1
  have ff := hS.thaw
  have hlt := hS.lt
  have hR : CpuR w B _ := hS
  have hne : ¬ w.heap.size = B := by omega
  have hne' : ¬ B = w.heap.size := by omega
  have kr := fun v h0 h1 w' => read_ask v h0 h1 w'
  simp only [pinV, rdP] at kr
  go_enter Tryd.func11, Tryd.ntmps11
  repeat (first | (with_reducible refine wp_keep (fun W => RowT 40 W w.heap.size #[.int .u16 0, .bool false, .int .u8 0] ∧ CpuR W B (Cp.row ⟨⟨a, x, y, s, p, pc⟩, 56, op, nm, md, kd, kn, pl, wr, b⟩) ∧ Below w.heap.size w W) (And.intro (RowT.new w _ _) (And.intro (hR.alloc _) ((Below.refl _ _).alloc (Nat.le_refl _) _))) ?_) | go_step)
  rintro W0 ⟨hD0, hR0, hb0⟩
  clear c0 c1 c2 c3 c4 c5 c6 c7 c8 c9 c10 c11 c12 c13 c14 ff hS hR
  obtain ⟨c0, c1, c2, c3, c4, c5, c6, c7, c8, c9, c10, c11, c12, c13, c14⟩ := CpuS.all (show CpuS W0 B ⟨⟨a, x, y, s, p, pc⟩, 56, op, nm, md, kd, kn, pl, wr, b⟩ from hR0)
  have ff := hR0.thaw
  have l0 := hD0.lt
  have hW : w.heap.size ≤ W0.heap.size := Nat.le_of_lt l0
  have hnn := World.new_ne W0 _ c0
  (repeat (first | (with_reducible refine inBlock_far (by decide) ?_) | (with_reducible refine then_exit ?_) | (with_reducible refine inBlock_here ?_) | ((fail_if_success (with_reducible refine calls_id ?_)); go_step)))
  refine (kr (65535) (by omega) (by omega) _).mono ?_
  rintro e w1 ⟨rfl, hw⟩
  obtain ⟨q0, q1, q2, qf⟩ := box3 (RowT.below hD0 hw); have hb := Below.trans hb0 (hw.mono hW)
  clear hw
  dsimp only
  (repeat (first | (with_reducible refine inBlock_far (by decide) ?_) | (with_reducible refine then_exit ?_) | (with_reducible refine inBlock_here ?_) | ((fail_if_success (with_reducible refine calls_id ?_)); go_step)))
  refine bodyPost_ret (v := .agg #[.int .u16 ((65535) % 8192), .bool false, .int .u8 0]) (by simp [results, Tryd.results11, go_sem, q0, q1, q2]) rfl ⟨rfl, ?_⟩
  repeat (first | (with_reducible exact hb) | (with_reducible refine Below.drew ?_) | (refine Below.setCell ?_ (by exact Nat.le_refl _) _))
set_option maxRecDepth 100000 in
set_option maxHeartbeats 8000000 in
theorem pins_12 (c : Cp) (ok : c.ok) (w : World) (B : Nat) (hS : CpuS w B c) (ht : c.t = 12) : Calls Tryd.prog 11 #[.pointer (some ⟨B, 0, none⟩)] w fun e w' => e = .returned (pinV (pinsN 12 c)) ∧ Below w.heap.size w w' := by
  obtain ⟨⟨a, x, y, s, p, pc⟩, t, op, nm, md, kd, kn, pl, wr, b⟩ := c
  simp only [] at ht
  subst ht
  obtain ⟨c0, c1, c2, c3, c4, c5, c6, c7, c8, c9, c10, c11, c12, c13, c14⟩ := hS.all
  obtain ⟨⟨a0, a1, x0, x1, y0, y1, s0, s1, p0, p1, pc0, pc1⟩, t0, t1, op0, op1, md0, md1, kd0, kd1, pl0, pl1, wr0, wr1, b0, b1⟩ := ok
  simp only [] at a0 a1 x0 x1 y0 y1 s0 s1 p0 p1 pc0 pc1 t0 t1 op0 op1 md0 md1 kd0 kd1 pl0 pl1 wr0 wr1 b0 b1
  have ff := hS.thaw
  have hlt := hS.lt
  have hR : CpuR w B _ := hS
  have hne : ¬ w.heap.size = B := by omega
  have hne' : ¬ B = w.heap.size := by omega
  have kr := fun v h0 h1 w' => read_ask v h0 h1 w'
  simp only [pinV, rdP] at kr
  go_enter Tryd.func11, Tryd.ntmps11
  repeat (first | (with_reducible refine wp_keep (fun W => RowT 40 W w.heap.size #[.int .u16 0, .bool false, .int .u8 0] ∧ CpuR W B (Cp.row ⟨⟨a, x, y, s, p, pc⟩, 12, op, nm, md, kd, kn, pl, wr, b⟩) ∧ Below w.heap.size w W) (And.intro (RowT.new w _ _) (And.intro (hR.alloc _) ((Below.refl _ _).alloc (Nat.le_refl _) _))) ?_) | go_step)
  rintro W0 ⟨hD0, hR0, hb0⟩
  clear c0 c1 c2 c3 c4 c5 c6 c7 c8 c9 c10 c11 c12 c13 c14 ff hS hR
  obtain ⟨c0, c1, c2, c3, c4, c5, c6, c7, c8, c9, c10, c11, c12, c13, c14⟩ := CpuS.all (show CpuS W0 B ⟨⟨a, x, y, s, p, pc⟩, 12, op, nm, md, kd, kn, pl, wr, b⟩ from hR0)
  have ff := hR0.thaw
  have l0 := hD0.lt
  have hW : w.heap.size ≤ W0.heap.size := Nat.le_of_lt l0
  have hnn := World.new_ne W0 _ c0
  (repeat (first | (with_reducible refine inBlock_far (by decide) ?_) | (with_reducible refine then_exit ?_) | (with_reducible refine inBlock_here ?_) | ((fail_if_success (with_reducible refine calls_id ?_)); go_step)))
  refine (kr (b) (by omega) (by omega) _).mono ?_
  rintro e w1 ⟨rfl, hw⟩
  obtain ⟨q0, q1, q2, qf⟩ := box3 (RowT.below hD0 hw); have hb := Below.trans hb0 (hw.mono hW)
  clear hw
  dsimp only
  (repeat (first | (with_reducible refine inBlock_far (by decide) ?_) | (with_reducible refine then_exit ?_) | (with_reducible refine inBlock_here ?_) | ((fail_if_success (with_reducible refine calls_id ?_)); go_step)))
  refine bodyPost_ret (v := .agg #[.int .u16 ((b) % 8192), .bool false, .int .u8 0]) (by simp [results, Tryd.results11, go_sem, q0, q1, q2]) rfl ⟨rfl, ?_⟩
  repeat (first | (with_reducible exact hb) | (with_reducible refine Below.drew ?_) | (refine Below.setCell ?_ (by exact Nat.le_refl _) _))
set_option maxRecDepth 100000 in
set_option maxHeartbeats 8000000 in
theorem pins_17 (c : Cp) (ok : c.ok) (w : World) (B : Nat) (hS : CpuS w B c) (ht : c.t = 17) : Calls Tryd.prog 11 #[.pointer (some ⟨B, 0, none⟩)] w fun e w' => e = .returned (pinV (pinsN 17 c)) ∧ Below w.heap.size w w' := by
  obtain ⟨⟨a, x, y, s, p, pc⟩, t, op, nm, md, kd, kn, pl, wr, b⟩ := c
  simp only [] at ht
  subst ht
  obtain ⟨c0, c1, c2, c3, c4, c5, c6, c7, c8, c9, c10, c11, c12, c13, c14⟩ := hS.all
  obtain ⟨⟨a0, a1, x0, x1, y0, y1, s0, s1, p0, p1, pc0, pc1⟩, t0, t1, op0, op1, md0, md1, kd0, kd1, pl0, pl1, wr0, wr1, b0, b1⟩ := ok
  simp only [] at a0 a1 x0 x1 y0 y1 s0 s1 p0 p1 pc0 pc1 t0 t1 op0 op1 md0 md1 kd0 kd1 pl0 pl1 wr0 wr1 b0 b1
  have ff := hS.thaw
  have hlt := hS.lt
  have hR : CpuR w B _ := hS
  have hne : ¬ w.heap.size = B := by omega
  have hne' : ¬ B = w.heap.size := by omega
  have kr := fun v h0 h1 w' => read_ask v h0 h1 w'
  simp only [pinV, rdP] at kr
  go_enter Tryd.func11, Tryd.ntmps11
  repeat (first | (with_reducible refine wp_keep (fun W => RowT 40 W w.heap.size #[.int .u16 0, .bool false, .int .u8 0] ∧ CpuR W B (Cp.row ⟨⟨a, x, y, s, p, pc⟩, 17, op, nm, md, kd, kn, pl, wr, b⟩) ∧ Below w.heap.size w W) (And.intro (RowT.new w _ _) (And.intro (hR.alloc _) ((Below.refl _ _).alloc (Nat.le_refl _) _))) ?_) | go_step)
  rintro W0 ⟨hD0, hR0, hb0⟩
  clear c0 c1 c2 c3 c4 c5 c6 c7 c8 c9 c10 c11 c12 c13 c14 ff hS hR
  obtain ⟨c0, c1, c2, c3, c4, c5, c6, c7, c8, c9, c10, c11, c12, c13, c14⟩ := CpuS.all (show CpuS W0 B ⟨⟨a, x, y, s, p, pc⟩, 17, op, nm, md, kd, kn, pl, wr, b⟩ from hR0)
  have ff := hR0.thaw
  have l0 := hD0.lt
  have hW : w.heap.size ≤ W0.heap.size := Nat.le_of_lt l0
  have hnn := World.new_ne W0 _ c0
  (repeat (first | (with_reducible refine inBlock_far (by decide) ?_) | (with_reducible refine then_exit ?_) | (with_reducible refine inBlock_here ?_) | ((fail_if_success (with_reducible refine calls_id ?_)); go_step)))
  refine (kr (b) (by omega) (by omega) _).mono ?_
  rintro e w1 ⟨rfl, hw⟩
  obtain ⟨q0, q1, q2, qf⟩ := box3 (RowT.below hD0 hw); have hb := Below.trans hb0 (hw.mono hW)
  clear hw
  dsimp only
  (repeat (first | (with_reducible refine inBlock_far (by decide) ?_) | (with_reducible refine then_exit ?_) | (with_reducible refine inBlock_here ?_) | ((fail_if_success (with_reducible refine calls_id ?_)); go_step)))
  refine bodyPost_ret (v := .agg #[.int .u16 ((b) % 8192), .bool false, .int .u8 0]) (by simp [results, Tryd.results11, go_sem, q0, q1, q2]) rfl ⟨rfl, ?_⟩
  repeat (first | (with_reducible exact hb) | (with_reducible refine Below.drew ?_) | (refine Below.setCell ?_ (by exact Nat.le_refl _) _))
set_option maxRecDepth 100000 in
set_option maxHeartbeats 8000000 in
theorem pins_15 (c : Cp) (ok : c.ok) (w : World) (B : Nat) (hS : CpuS w B c) (ht : c.t = 15) : Calls Tryd.prog 11 #[.pointer (some ⟨B, 0, none⟩)] w fun e w' => e = .returned (pinV (pinsN 15 c)) ∧ Below w.heap.size w w' := by
  obtain ⟨⟨a, x, y, s, p, pc⟩, t, op, nm, md, kd, kn, pl, wr, b⟩ := c
  simp only [] at ht
  subst ht
  obtain ⟨c0, c1, c2, c3, c4, c5, c6, c7, c8, c9, c10, c11, c12, c13, c14⟩ := hS.all
  obtain ⟨⟨a0, a1, x0, x1, y0, y1, s0, s1, p0, p1, pc0, pc1⟩, t0, t1, op0, op1, md0, md1, kd0, kd1, pl0, pl1, wr0, wr1, b0, b1⟩ := ok
  simp only [] at a0 a1 x0 x1 y0 y1 s0 s1 p0 p1 pc0 pc1 t0 t1 op0 op1 md0 md1 kd0 kd1 pl0 pl1 wr0 wr1 b0 b1
  have ff := hS.thaw
  have hlt := hS.lt
  have hR : CpuR w B _ := hS
  have hne : ¬ w.heap.size = B := by omega
  have hne' : ¬ B = w.heap.size := by omega
  have kr := fun v h0 h1 w' => read_ask v h0 h1 w'
  simp only [pinV, rdP] at kr
  go_enter Tryd.func11, Tryd.ntmps11
  repeat (first | (with_reducible refine wp_keep (fun W => RowT 40 W w.heap.size #[.int .u16 0, .bool false, .int .u8 0] ∧ CpuR W B (Cp.row ⟨⟨a, x, y, s, p, pc⟩, 15, op, nm, md, kd, kn, pl, wr, b⟩) ∧ Below w.heap.size w W) (And.intro (RowT.new w _ _) (And.intro (hR.alloc _) ((Below.refl _ _).alloc (Nat.le_refl _) _))) ?_) | go_step)
  rintro W0 ⟨hD0, hR0, hb0⟩
  clear c0 c1 c2 c3 c4 c5 c6 c7 c8 c9 c10 c11 c12 c13 c14 ff hS hR
  obtain ⟨c0, c1, c2, c3, c4, c5, c6, c7, c8, c9, c10, c11, c12, c13, c14⟩ := CpuS.all (show CpuS W0 B ⟨⟨a, x, y, s, p, pc⟩, 15, op, nm, md, kd, kn, pl, wr, b⟩ from hR0)
  have ff := hR0.thaw
  have l0 := hD0.lt
  have hW : w.heap.size ≤ W0.heap.size := Nat.le_of_lt l0
  have hnn := World.new_ne W0 _ c0
  (repeat (first | (with_reducible refine inBlock_far (by decide) ?_) | (with_reducible refine then_exit ?_) | (with_reducible refine inBlock_here ?_) | ((fail_if_success (with_reducible refine calls_id ?_)); go_step)))
  refine (kr (wr) (by omega) (by omega) _).mono ?_
  rintro e w1 ⟨rfl, hw⟩
  obtain ⟨q0, q1, q2, qf⟩ := box3 (RowT.below hD0 hw); have hb := Below.trans hb0 (hw.mono hW)
  clear hw
  dsimp only
  (repeat (first | (with_reducible refine inBlock_far (by decide) ?_) | (with_reducible refine then_exit ?_) | (with_reducible refine inBlock_here ?_) | ((fail_if_success (with_reducible refine calls_id ?_)); go_step)))
  refine bodyPost_ret (v := .agg #[.int .u16 ((wr) % 8192), .bool false, .int .u8 0]) (by simp [results, Tryd.results11, go_sem, q0, q1, q2]) rfl ⟨rfl, ?_⟩
  repeat (first | (with_reducible exact hb) | (with_reducible refine Below.drew ?_) | (refine Below.setCell ?_ (by exact Nat.le_refl _) _))
set_option maxRecDepth 100000 in
set_option maxHeartbeats 8000000 in
theorem pins_26 (c : Cp) (ok : c.ok) (w : World) (B : Nat) (hS : CpuS w B c) (ht : c.t = 26) : Calls Tryd.prog 11 #[.pointer (some ⟨B, 0, none⟩)] w fun e w' => e = .returned (pinV (pinsN 26 c)) ∧ Below w.heap.size w w' := by
  obtain ⟨⟨a, x, y, s, p, pc⟩, t, op, nm, md, kd, kn, pl, wr, b⟩ := c
  simp only [] at ht
  subst ht
  obtain ⟨c0, c1, c2, c3, c4, c5, c6, c7, c8, c9, c10, c11, c12, c13, c14⟩ := hS.all
  obtain ⟨⟨a0, a1, x0, x1, y0, y1, s0, s1, p0, p1, pc0, pc1⟩, t0, t1, op0, op1, md0, md1, kd0, kd1, pl0, pl1, wr0, wr1, b0, b1⟩ := ok
  simp only [] at a0 a1 x0 x1 y0 y1 s0 s1 p0 p1 pc0 pc1 t0 t1 op0 op1 md0 md1 kd0 kd1 pl0 pl1 wr0 wr1 b0 b1
  have ff := hS.thaw
  have hlt := hS.lt
  have hR : CpuR w B _ := hS
  have hne : ¬ w.heap.size = B := by omega
  have hne' : ¬ B = w.heap.size := by omega
  have kr := fun v h0 h1 w' => read_ask v h0 h1 w'
  simp only [pinV, rdP] at kr
  go_enter Tryd.func11, Tryd.ntmps11
  repeat (first | (with_reducible refine wp_keep (fun W => RowT 40 W w.heap.size #[.int .u16 0, .bool false, .int .u8 0] ∧ CpuR W B (Cp.row ⟨⟨a, x, y, s, p, pc⟩, 26, op, nm, md, kd, kn, pl, wr, b⟩) ∧ Below w.heap.size w W) (And.intro (RowT.new w _ _) (And.intro (hR.alloc _) ((Below.refl _ _).alloc (Nat.le_refl _) _))) ?_) | go_step)
  rintro W0 ⟨hD0, hR0, hb0⟩
  clear c0 c1 c2 c3 c4 c5 c6 c7 c8 c9 c10 c11 c12 c13 c14 ff hS hR
  obtain ⟨c0, c1, c2, c3, c4, c5, c6, c7, c8, c9, c10, c11, c12, c13, c14⟩ := CpuS.all (show CpuS W0 B ⟨⟨a, x, y, s, p, pc⟩, 26, op, nm, md, kd, kn, pl, wr, b⟩ from hR0)
  have ff := hR0.thaw
  have l0 := hD0.lt
  have hW : w.heap.size ≤ W0.heap.size := Nat.le_of_lt l0
  have hnn := World.new_ne W0 _ c0
  (repeat (first | (with_reducible refine inBlock_far (by decide) ?_) | (with_reducible refine then_exit ?_) | (with_reducible refine inBlock_here ?_) | ((fail_if_success (with_reducible refine calls_id ?_)); go_step)))
  refine (kr (wr) (by omega) (by omega) _).mono ?_
  rintro e w1 ⟨rfl, hw⟩
  obtain ⟨q0, q1, q2, qf⟩ := box3 (RowT.below hD0 hw); have hb := Below.trans hb0 (hw.mono hW)
  clear hw
  dsimp only
  (repeat (first | (with_reducible refine inBlock_far (by decide) ?_) | (with_reducible refine then_exit ?_) | (with_reducible refine inBlock_here ?_) | ((fail_if_success (with_reducible refine calls_id ?_)); go_step)))
  refine bodyPost_ret (v := .agg #[.int .u16 ((wr) % 8192), .bool false, .int .u8 0]) (by simp [results, Tryd.results11, go_sem, q0, q1, q2]) rfl ⟨rfl, ?_⟩
  repeat (first | (with_reducible exact hb) | (with_reducible refine Below.drew ?_) | (refine Below.setCell ?_ (by exact Nat.le_refl _) _))
set_option maxRecDepth 100000 in
set_option maxHeartbeats 8000000 in
theorem pins_18 (c : Cp) (ok : c.ok) (w : World) (B : Nat) (hS : CpuS w B c) (ht : c.t = 18) : Calls Tryd.prog 11 #[.pointer (some ⟨B, 0, none⟩)] w fun e w' => e = .returned (pinV (pinsN 18 c)) ∧ Below w.heap.size w w' := by
  obtain ⟨⟨a, x, y, s, p, pc⟩, t, op, nm, md, kd, kn, pl, wr, b⟩ := c
  simp only [] at ht
  subst ht
  obtain ⟨c0, c1, c2, c3, c4, c5, c6, c7, c8, c9, c10, c11, c12, c13, c14⟩ := hS.all
  obtain ⟨⟨a0, a1, x0, x1, y0, y1, s0, s1, p0, p1, pc0, pc1⟩, t0, t1, op0, op1, md0, md1, kd0, kd1, pl0, pl1, wr0, wr1, b0, b1⟩ := ok
  simp only [] at a0 a1 x0 x1 y0 y1 s0 s1 p0 p1 pc0 pc1 t0 t1 op0 op1 md0 md1 kd0 kd1 pl0 pl1 wr0 wr1 b0 b1
  have ff := hS.thaw
  have hlt := hS.lt
  have hR : CpuR w B _ := hS
  have hne : ¬ w.heap.size = B := by omega
  have hne' : ¬ B = w.heap.size := by omega
  have kr := fun v h0 h1 w' => read_ask v h0 h1 w'
  simp only [pinV, rdP] at kr
  go_enter Tryd.func11, Tryd.ntmps11
  repeat (first | (with_reducible refine wp_keep (fun W => RowT 40 W w.heap.size #[.int .u16 0, .bool false, .int .u8 0] ∧ CpuR W B (Cp.row ⟨⟨a, x, y, s, p, pc⟩, 18, op, nm, md, kd, kn, pl, wr, b⟩) ∧ Below w.heap.size w W) (And.intro (RowT.new w _ _) (And.intro (hR.alloc _) ((Below.refl _ _).alloc (Nat.le_refl _) _))) ?_) | go_step)
  rintro W0 ⟨hD0, hR0, hb0⟩
  clear c0 c1 c2 c3 c4 c5 c6 c7 c8 c9 c10 c11 c12 c13 c14 ff hS hR
  obtain ⟨c0, c1, c2, c3, c4, c5, c6, c7, c8, c9, c10, c11, c12, c13, c14⟩ := CpuS.all (show CpuS W0 B ⟨⟨a, x, y, s, p, pc⟩, 18, op, nm, md, kd, kn, pl, wr, b⟩ from hR0)
  have ff := hR0.thaw
  have l0 := hD0.lt
  have hW : w.heap.size ≤ W0.heap.size := Nat.le_of_lt l0
  have hnn := World.new_ne W0 _ c0
  (repeat (first | (with_reducible refine inBlock_far (by decide) ?_) | (with_reducible refine then_exit ?_) | (with_reducible refine inBlock_here ?_) | ((fail_if_success (with_reducible refine calls_id ?_)); go_step)))
  refine (kr (pl) (by omega) (by omega) _).mono ?_
  rintro e w1 ⟨rfl, hw⟩
  obtain ⟨q0, q1, q2, qf⟩ := box3 (RowT.below hD0 hw); have hb := Below.trans hb0 (hw.mono hW)
  clear hw
  dsimp only
  (repeat (first | (with_reducible refine inBlock_far (by decide) ?_) | (with_reducible refine then_exit ?_) | (with_reducible refine inBlock_here ?_) | ((fail_if_success (with_reducible refine calls_id ?_)); go_step)))
  refine bodyPost_ret (v := .agg #[.int .u16 ((pl) % 8192), .bool false, .int .u8 0]) (by simp [results, Tryd.results11, go_sem, q0, q1, q2]) rfl ⟨rfl, ?_⟩
  repeat (first | (with_reducible exact hb) | (with_reducible refine Below.drew ?_) | (refine Below.setCell ?_ (by exact Nat.le_refl _) _))
set_option maxRecDepth 100000 in
set_option maxHeartbeats 8000000 in
theorem pins_19 (c : Cp) (ok : c.ok) (w : World) (B : Nat) (hS : CpuS w B c) (ht : c.t = 19) : Calls Tryd.prog 11 #[.pointer (some ⟨B, 0, none⟩)] w fun e w' => e = .returned (pinV (pinsN 19 c)) ∧ Below w.heap.size w w' := by
  obtain ⟨⟨a, x, y, s, p, pc⟩, t, op, nm, md, kd, kn, pl, wr, b⟩ := c
  simp only [] at ht
  subst ht
  obtain ⟨c0, c1, c2, c3, c4, c5, c6, c7, c8, c9, c10, c11, c12, c13, c14⟩ := hS.all
  obtain ⟨⟨a0, a1, x0, x1, y0, y1, s0, s1, p0, p1, pc0, pc1⟩, t0, t1, op0, op1, md0, md1, kd0, kd1, pl0, pl1, wr0, wr1, b0, b1⟩ := ok
  simp only [] at a0 a1 x0 x1 y0 y1 s0 s1 p0 p1 pc0 pc1 t0 t1 op0 op1 md0 md1 kd0 kd1 pl0 pl1 wr0 wr1 b0 b1
  have ff := hS.thaw
  have hlt := hS.lt
  have hR : CpuR w B _ := hS
  have hne : ¬ w.heap.size = B := by omega
  have hne' : ¬ B = w.heap.size := by omega
  have kr := fun v h0 h1 w' => read_ask v h0 h1 w'
  simp only [pinV, rdP] at kr
  go_enter Tryd.func11, Tryd.ntmps11
  repeat (first | (with_reducible refine wp_keep (fun W => RowT 40 W w.heap.size #[.int .u16 0, .bool false, .int .u8 0] ∧ CpuR W B (Cp.row ⟨⟨a, x, y, s, p, pc⟩, 19, op, nm, md, kd, kn, pl, wr, b⟩) ∧ Below w.heap.size w W) (And.intro (RowT.new w _ _) (And.intro (hR.alloc _) ((Below.refl _ _).alloc (Nat.le_refl _) _))) ?_) | go_step)
  rintro W0 ⟨hD0, hR0, hb0⟩
  clear c0 c1 c2 c3 c4 c5 c6 c7 c8 c9 c10 c11 c12 c13 c14 ff hS hR
  obtain ⟨c0, c1, c2, c3, c4, c5, c6, c7, c8, c9, c10, c11, c12, c13, c14⟩ := CpuS.all (show CpuS W0 B ⟨⟨a, x, y, s, p, pc⟩, 19, op, nm, md, kd, kn, pl, wr, b⟩ from hR0)
  have ff := hR0.thaw
  have l0 := hD0.lt
  have hW : w.heap.size ≤ W0.heap.size := Nat.le_of_lt l0
  have hnn := World.new_ne W0 _ c0
  (repeat (first | (with_reducible refine inBlock_far (by decide) ?_) | (with_reducible refine then_exit ?_) | (with_reducible refine inBlock_here ?_) | ((fail_if_success (with_reducible refine calls_id ?_)); go_step)))
  refine (kr (pl) (by omega) (by omega) _).mono ?_
  rintro e w1 ⟨rfl, hw⟩
  obtain ⟨q0, q1, q2, qf⟩ := box3 (RowT.below hD0 hw); have hb := Below.trans hb0 (hw.mono hW)
  clear hw
  dsimp only
  (repeat (first | (with_reducible refine inBlock_far (by decide) ?_) | (with_reducible refine then_exit ?_) | (with_reducible refine inBlock_here ?_) | ((fail_if_success (with_reducible refine calls_id ?_)); go_step)))
  refine bodyPost_ret (v := .agg #[.int .u16 ((pl) % 8192), .bool false, .int .u8 0]) (by simp [results, Tryd.results11, go_sem, q0, q1, q2]) rfl ⟨rfl, ?_⟩
  repeat (first | (with_reducible exact hb) | (with_reducible refine Below.drew ?_) | (refine Below.setCell ?_ (by exact Nat.le_refl _) _))
set_option maxRecDepth 100000 in
set_option maxHeartbeats 8000000 in
theorem pins_20 (c : Cp) (ok : c.ok) (w : World) (B : Nat) (hS : CpuS w B c) (ht : c.t = 20) : Calls Tryd.prog 11 #[.pointer (some ⟨B, 0, none⟩)] w fun e w' => e = .returned (pinV (pinsN 20 c)) ∧ Below w.heap.size w w' := by
  obtain ⟨⟨a, x, y, s, p, pc⟩, t, op, nm, md, kd, kn, pl, wr, b⟩ := c
  simp only [] at ht
  subst ht
  obtain ⟨c0, c1, c2, c3, c4, c5, c6, c7, c8, c9, c10, c11, c12, c13, c14⟩ := hS.all
  obtain ⟨⟨a0, a1, x0, x1, y0, y1, s0, s1, p0, p1, pc0, pc1⟩, t0, t1, op0, op1, md0, md1, kd0, kd1, pl0, pl1, wr0, wr1, b0, b1⟩ := ok
  simp only [] at a0 a1 x0 x1 y0 y1 s0 s1 p0 p1 pc0 pc1 t0 t1 op0 op1 md0 md1 kd0 kd1 pl0 pl1 wr0 wr1 b0 b1
  have ff := hS.thaw
  have hlt := hS.lt
  have hR : CpuR w B _ := hS
  have hne : ¬ w.heap.size = B := by omega
  have hne' : ¬ B = w.heap.size := by omega
  have kr := fun v h0 h1 w' => read_ask v h0 h1 w'
  simp only [pinV, rdP] at kr
  go_enter Tryd.func11, Tryd.ntmps11
  repeat (first | (with_reducible refine wp_keep (fun W => RowT 40 W w.heap.size #[.int .u16 0, .bool false, .int .u8 0] ∧ CpuR W B (Cp.row ⟨⟨a, x, y, s, p, pc⟩, 20, op, nm, md, kd, kn, pl, wr, b⟩) ∧ Below w.heap.size w W) (And.intro (RowT.new w _ _) (And.intro (hR.alloc _) ((Below.refl _ _).alloc (Nat.le_refl _) _))) ?_) | go_step)
  rintro W0 ⟨hD0, hR0, hb0⟩
  clear c0 c1 c2 c3 c4 c5 c6 c7 c8 c9 c10 c11 c12 c13 c14 ff hS hR
  obtain ⟨c0, c1, c2, c3, c4, c5, c6, c7, c8, c9, c10, c11, c12, c13, c14⟩ := CpuS.all (show CpuS W0 B ⟨⟨a, x, y, s, p, pc⟩, 20, op, nm, md, kd, kn, pl, wr, b⟩ from hR0)
  have ff := hR0.thaw
  have l0 := hD0.lt
  have hW : w.heap.size ≤ W0.heap.size := Nat.le_of_lt l0
  have hnn := World.new_ne W0 _ c0
  (repeat (first | (with_reducible refine inBlock_far (by decide) ?_) | (with_reducible refine then_exit ?_) | (with_reducible refine inBlock_here ?_) | ((fail_if_success (with_reducible refine calls_id ?_)); go_step)))
  refine (kr (pl) (by omega) (by omega) _).mono ?_
  rintro e w1 ⟨rfl, hw⟩
  obtain ⟨q0, q1, q2, qf⟩ := box3 (RowT.below hD0 hw); have hb := Below.trans hb0 (hw.mono hW)
  clear hw
  dsimp only
  (repeat (first | (with_reducible refine inBlock_far (by decide) ?_) | (with_reducible refine then_exit ?_) | (with_reducible refine inBlock_here ?_) | ((fail_if_success (with_reducible refine calls_id ?_)); go_step)))
  refine bodyPost_ret (v := .agg #[.int .u16 ((pl) % 8192), .bool false, .int .u8 0]) (by simp [results, Tryd.results11, go_sem, q0, q1, q2]) rfl ⟨rfl, ?_⟩
  repeat (first | (with_reducible exact hb) | (with_reducible refine Below.drew ?_) | (refine Below.setCell ?_ (by exact Nat.le_refl _) _))
set_option maxRecDepth 100000 in
set_option maxHeartbeats 8000000 in
theorem pins_34 (c : Cp) (ok : c.ok) (w : World) (B : Nat) (hS : CpuS w B c) (ht : c.t = 34) : Calls Tryd.prog 11 #[.pointer (some ⟨B, 0, none⟩)] w fun e w' => e = .returned (pinV (pinsN 34 c)) ∧ Below w.heap.size w w' := by
  obtain ⟨⟨a, x, y, s, p, pc⟩, t, op, nm, md, kd, kn, pl, wr, b⟩ := c
  simp only [] at ht
  subst ht
  obtain ⟨c0, c1, c2, c3, c4, c5, c6, c7, c8, c9, c10, c11, c12, c13, c14⟩ := hS.all
  obtain ⟨⟨a0, a1, x0, x1, y0, y1, s0, s1, p0, p1, pc0, pc1⟩, t0, t1, op0, op1, md0, md1, kd0, kd1, pl0, pl1, wr0, wr1, b0, b1⟩ := ok
  simp only [] at a0 a1 x0 x1 y0 y1 s0 s1 p0 p1 pc0 pc1 t0 t1 op0 op1 md0 md1 kd0 kd1 pl0 pl1 wr0 wr1 b0 b1
  have ff := hS.thaw
  have hlt := hS.lt
  have hR : CpuR w B _ := hS
  have hne : ¬ w.heap.size = B := by omega
  have hne' : ¬ B = w.heap.size := by omega
  have kr := fun v h0 h1 w' => read_ask v h0 h1 w'
  simp only [pinV, rdP] at kr
  go_enter Tryd.func11, Tryd.ntmps11
  repeat (first | (with_reducible refine wp_keep (fun W => RowT 40 W w.heap.size #[.int .u16 0, .bool false, .int .u8 0] ∧ CpuR W B (Cp.row ⟨⟨a, x, y, s, p, pc⟩, 34, op, nm, md, kd, kn, pl, wr, b⟩) ∧ Below w.heap.size w W) (And.intro (RowT.new w _ _) (And.intro (hR.alloc _) ((Below.refl _ _).alloc (Nat.le_refl _) _))) ?_) | go_step)
  rintro W0 ⟨hD0, hR0, hb0⟩
  clear c0 c1 c2 c3 c4 c5 c6 c7 c8 c9 c10 c11 c12 c13 c14 ff hS hR
  obtain ⟨c0, c1, c2, c3, c4, c5, c6, c7, c8, c9, c10, c11, c12, c13, c14⟩ := CpuS.all (show CpuS W0 B ⟨⟨a, x, y, s, p, pc⟩, 34, op, nm, md, kd, kn, pl, wr, b⟩ from hR0)
  have ff := hR0.thaw
  have l0 := hD0.lt
  have hW : w.heap.size ≤ W0.heap.size := Nat.le_of_lt l0
  have hnn := World.new_ne W0 _ c0
  (repeat (first | (with_reducible refine inBlock_far (by decide) ?_) | (with_reducible refine then_exit ?_) | (with_reducible refine inBlock_here ?_) | ((fail_if_success (with_reducible refine calls_id ?_)); go_step)))
  refine (kr (pl) (by omega) (by omega) _).mono ?_
  rintro e w1 ⟨rfl, hw⟩
  obtain ⟨q0, q1, q2, qf⟩ := box3 (RowT.below hD0 hw); have hb := Below.trans hb0 (hw.mono hW)
  clear hw
  dsimp only
  (repeat (first | (with_reducible refine inBlock_far (by decide) ?_) | (with_reducible refine then_exit ?_) | (with_reducible refine inBlock_here ?_) | ((fail_if_success (with_reducible refine calls_id ?_)); go_step)))
  refine bodyPost_ret (v := .agg #[.int .u16 ((pl) % 8192), .bool false, .int .u8 0]) (by simp [results, Tryd.results11, go_sem, q0, q1, q2]) rfl ⟨rfl, ?_⟩
  repeat (first | (with_reducible exact hb) | (with_reducible refine Below.drew ?_) | (refine Below.setCell ?_ (by exact Nat.le_refl _) _))
set_option maxRecDepth 100000 in
set_option maxHeartbeats 8000000 in
theorem pins_35 (c : Cp) (ok : c.ok) (w : World) (B : Nat) (hS : CpuS w B c) (ht : c.t = 35) : Calls Tryd.prog 11 #[.pointer (some ⟨B, 0, none⟩)] w fun e w' => e = .returned (pinV (pinsN 35 c)) ∧ Below w.heap.size w w' := by
  obtain ⟨⟨a, x, y, s, p, pc⟩, t, op, nm, md, kd, kn, pl, wr, b⟩ := c
  simp only [] at ht
  subst ht
  obtain ⟨c0, c1, c2, c3, c4, c5, c6, c7, c8, c9, c10, c11, c12, c13, c14⟩ := hS.all
  obtain ⟨⟨a0, a1, x0, x1, y0, y1, s0, s1, p0, p1, pc0, pc1⟩, t0, t1, op0, op1, md0, md1, kd0, kd1, pl0, pl1, wr0, wr1, b0, b1⟩ := ok
  simp only [] at a0 a1 x0 x1 y0 y1 s0 s1 p0 p1 pc0 pc1 t0 t1 op0 op1 md0 md1 kd0 kd1 pl0 pl1 wr0 wr1 b0 b1
  have ff := hS.thaw
  have hlt := hS.lt
  have hR : CpuR w B _ := hS
  have hne : ¬ w.heap.size = B := by omega
  have hne' : ¬ B = w.heap.size := by omega
  have kr := fun v h0 h1 w' => read_ask v h0 h1 w'
  simp only [pinV, rdP] at kr
  go_enter Tryd.func11, Tryd.ntmps11
  repeat (first | (with_reducible refine wp_keep (fun W => RowT 40 W w.heap.size #[.int .u16 0, .bool false, .int .u8 0] ∧ CpuR W B (Cp.row ⟨⟨a, x, y, s, p, pc⟩, 35, op, nm, md, kd, kn, pl, wr, b⟩) ∧ Below w.heap.size w W) (And.intro (RowT.new w _ _) (And.intro (hR.alloc _) ((Below.refl _ _).alloc (Nat.le_refl _) _))) ?_) | go_step)
  rintro W0 ⟨hD0, hR0, hb0⟩
  clear c0 c1 c2 c3 c4 c5 c6 c7 c8 c9 c10 c11 c12 c13 c14 ff hS hR
  obtain ⟨c0, c1, c2, c3, c4, c5, c6, c7, c8, c9, c10, c11, c12, c13, c14⟩ := CpuS.all (show CpuS W0 B ⟨⟨a, x, y, s, p, pc⟩, 35, op, nm, md, kd, kn, pl, wr, b⟩ from hR0)
  have ff := hR0.thaw
  have l0 := hD0.lt
  have hW : w.heap.size ≤ W0.heap.size := Nat.le_of_lt l0
  have hnn := World.new_ne W0 _ c0
  (repeat (first | (with_reducible refine inBlock_far (by decide) ?_) | (with_reducible refine then_exit ?_) | (with_reducible refine inBlock_here ?_) | ((fail_if_success (with_reducible refine calls_id ?_)); go_step)))
  refine (kr (pl) (by omega) (by omega) _).mono ?_
  rintro e w1 ⟨rfl, hw⟩
  obtain ⟨q0, q1, q2, qf⟩ := box3 (RowT.below hD0 hw); have hb := Below.trans hb0 (hw.mono hW)
  clear hw
  dsimp only
  (repeat (first | (with_reducible refine inBlock_far (by decide) ?_) | (with_reducible refine then_exit ?_) | (with_reducible refine inBlock_here ?_) | ((fail_if_success (with_reducible refine calls_id ?_)); go_step)))
  refine bodyPost_ret (v := .agg #[.int .u16 ((pl) % 8192), .bool false, .int .u8 0]) (by simp [results, Tryd.results11, go_sem, q0, q1, q2]) rfl ⟨rfl, ?_⟩
  repeat (first | (with_reducible exact hb) | (with_reducible refine Below.drew ?_) | (refine Below.setCell ?_ (by exact Nat.le_refl _) _))
set_option maxRecDepth 100000 in
set_option maxHeartbeats 8000000 in
theorem pins_22 (c : Cp) (ok : c.ok) (w : World) (B : Nat) (hS : CpuS w B c) (ht : c.t = 22) : Calls Tryd.prog 11 #[.pointer (some ⟨B, 0, none⟩)] w fun e w' => e = .returned (pinV (pinsN 22 c)) ∧ Below w.heap.size w w' := by
  obtain ⟨⟨a, x, y, s, p, pc⟩, t, op, nm, md, kd, kn, pl, wr, b⟩ := c
  simp only [] at ht
  subst ht
  obtain ⟨c0, c1, c2, c3, c4, c5, c6, c7, c8, c9, c10, c11, c12, c13, c14⟩ := hS.all
  obtain ⟨⟨a0, a1, x0, x1, y0, y1, s0, s1, p0, p1, pc0, pc1⟩, t0, t1, op0, op1, md0, md1, kd0, kd1, pl0, pl1, wr0, wr1, b0, b1⟩ := ok
  simp only [] at a0 a1 x0 x1 y0 y1 s0 s1 p0 p1 pc0 pc1 t0 t1 op0 op1 md0 md1 kd0 kd1 pl0 pl1 wr0 wr1 b0 b1
  have ff := hS.thaw
  have hlt := hS.lt
  have hR : CpuR w B _ := hS
  have hne : ¬ w.heap.size = B := by omega
  have hne' : ¬ B = w.heap.size := by omega
  have kwr := fun v d h0 h1 w' => write_ask v d h0 h1 w'
  simp only [pinV, wrP] at kwr
  go_enter Tryd.func11, Tryd.ntmps11
  repeat (first | (with_reducible refine wp_keep (fun W => RowT 40 W w.heap.size #[.int .u16 0, .bool false, .int .u8 0] ∧ CpuR W B (Cp.row ⟨⟨a, x, y, s, p, pc⟩, 22, op, nm, md, kd, kn, pl, wr, b⟩) ∧ Below w.heap.size w W) (And.intro (RowT.new w _ _) (And.intro (hR.alloc _) ((Below.refl _ _).alloc (Nat.le_refl _) _))) ?_) | go_step)
  rintro W0 ⟨hD0, hR0, hb0⟩
  clear c0 c1 c2 c3 c4 c5 c6 c7 c8 c9 c10 c11 c12 c13 c14 ff hS hR
  obtain ⟨c0, c1, c2, c3, c4, c5, c6, c7, c8, c9, c10, c11, c12, c13, c14⟩ := CpuS.all (show CpuS W0 B ⟨⟨a, x, y, s, p, pc⟩, 22, op, nm, md, kd, kn, pl, wr, b⟩ from hR0)
  have ff := hR0.thaw
  have l0 := hD0.lt
  have hW : w.heap.size ≤ W0.heap.size := Nat.le_of_lt l0
  have hnn := World.new_ne W0 _ c0
  (repeat (first | (with_reducible refine inBlock_far (by decide) ?_) | (with_reducible refine then_exit ?_) | (with_reducible refine inBlock_here ?_) | ((fail_if_success (with_reducible refine calls_id ?_)); go_step)))
  go_region_held3 (fun w' => w'.cell? ⟨B, 12, none⟩ = some (.int .u16 pl) ∧ w'.cell? ⟨B, 14, none⟩ = some (.int .u8 b)) (go_keep) ((first | (go_at_call 42; refine (kwr pl _ (by omega) (by omega) _).mono ?_; rintro e w1 ⟨rfl, hw⟩; have hR1 := hR0.drew.below hw; obtain ⟨d0, d1, d2, d3, d4, d5, d6, d7, d8, d9, d10, d11, d12, d13, d14⟩ := CpuS.all (show CpuS w1 B ⟨⟨a, x, y, s, p, pc⟩, 22, op, nm, md, kd, kn, pl, wr, b⟩ from hR1); obtain ⟨q0, q1, q2, qf⟩ := box3 (RowT.below hD0.drew hw); have hb := Below.trans hb0.drew (hw.mono hW)) | fail))
  all_goals (try dsimp only)
  all_goals (repeat (first | (with_reducible refine inBlock_far (by decide) ?_) | (with_reducible refine then_exit ?_) | (with_reducible refine inBlock_here ?_) | ((fail_if_success (with_reducible refine calls_id ?_)); go_step)))
  all_goals refine bodyPost_ret (v := .agg #[.int .u16 (pl % 8192), .bool true, .int .u8 b]) (by simp [results, Tryd.results11, go_sem, q0, q1, q2]) rfl ⟨rfl, ?_⟩
  all_goals repeat (first | (with_reducible exact hb) | (with_reducible refine Below.drew ?_) | (refine Below.setCell ?_ (by exact Nat.le_refl _) _))
set_option maxRecDepth 100000 in
set_option maxHeartbeats 8000000 in
theorem pins_28 (c : Cp) (ok : c.ok) (w : World) (B : Nat) (hS : CpuS w B c) (ht : c.t = 28) : Calls Tryd.prog 11 #[.pointer (some ⟨B, 0, none⟩)] w fun e w' => e = .returned (pinV (pinsN 28 c)) ∧ Below w.heap.size w w' := by
  obtain ⟨⟨a, x, y, s, p, pc⟩, t, op, nm, md, kd, kn, pl, wr, b⟩ := c
  simp only [] at ht
  subst ht
  obtain ⟨c0, c1, c2, c3, c4, c5, c6, c7, c8, c9, c10, c11, c12, c13, c14⟩ := hS.all
  obtain ⟨⟨a0, a1, x0, x1, y0, y1, s0, s1, p0, p1, pc0, pc1⟩, t0, t1, op0, op1, md0, md1, kd0, kd1, pl0, pl1, wr0, wr1, b0, b1⟩ := ok
  simp only [] at a0 a1 x0 x1 y0 y1 s0 s1 p0 p1 pc0 pc1 t0 t1 op0 op1 md0 md1 kd0 kd1 pl0 pl1 wr0 wr1 b0 b1
  have ff := hS.thaw
  have hlt := hS.lt
  have hR : CpuR w B _ := hS
  have hne : ¬ w.heap.size = B := by omega
  have hne' : ¬ B = w.heap.size := by omega
  have kst := fun w' h => stack_any ⟨⟨a, x, y, s, p, pc⟩, 28, op, nm, md, kd, kn, pl, wr, b⟩ (by exact ⟨⟨a0, a1, x0, x1, y0, y1, s0, s1, p0, p1, pc0, pc1⟩, t0, t1, op0, op1, md0, md1, kd0, kd1, pl0, pl1, wr0, wr1, b0, b1⟩) w' B h
  simp only [stackF] at kst
  have kwr := fun v d h0 h1 w' => write_ask v d h0 h1 w'
  simp only [pinV, wrP] at kwr
  by_cases hn : nm.toList = [80, 72, 80]
  · have hq : (nm.toList == [80, 72, 80]) = true := by rw [hn]; rfl
    go_enter Tryd.func11, Tryd.ntmps11
    repeat (first | (with_reducible refine wp_keep (fun W => RowT 40 W w.heap.size #[.int .u16 0, .bool false, .int .u8 0] ∧ CpuR W B (Cp.row ⟨⟨a, x, y, s, p, pc⟩, 28, op, nm, md, kd, kn, pl, wr, b⟩) ∧ Below w.heap.size w W) (And.intro (RowT.new w _ _) (And.intro (hR.alloc _) ((Below.refl _ _).alloc (Nat.le_refl _) _))) ?_) | go_step)
    rintro W0 ⟨hD0, hR0, hb0⟩
    clear c0 c1 c2 c3 c4 c5 c6 c7 c8 c9 c10 c11 c12 c13 c14 ff hS hR
    obtain ⟨c0, c1, c2, c3, c4, c5, c6, c7, c8, c9, c10, c11, c12, c13, c14⟩ := CpuS.all (show CpuS W0 B ⟨⟨a, x, y, s, p, pc⟩, 28, op, nm, md, kd, kn, pl, wr, b⟩ from hR0)
    have ff := hR0.thaw
    have l0 := hD0.lt
    have hW : w.heap.size ≤ W0.heap.size := Nat.le_of_lt l0
    have hnn := World.new_ne W0 _ c0
    (repeat (first | (with_reducible refine inBlock_far (by decide) ?_) | (with_reducible refine then_exit ?_) | (with_reducible refine inBlock_here ?_) | ((fail_if_success (with_reducible refine calls_id ?_)); go_step)))
    go_region_held3 (fun w' => w'.cell? ⟨B, 4, none⟩ = some (.int .u8 p)) (go_keep) ((first | (go_at_call 41; refine (kst _ hR0.drew).mono ?_; rintro e w1 ⟨rfl, rfl⟩) | (go_at_call 42; refine (kwr (256 + s) _ (by omega) (by omega) _).mono ?_; rintro e w1 ⟨rfl, hw⟩; have hR1 := hR0.drew.below hw; obtain ⟨d0, d1, d2, d3, d4, d5, d6, d7, d8, d9, d10, d11, d12, d13, d14⟩ := CpuS.all (show CpuS w1 B ⟨⟨a, x, y, s, p, pc⟩, 28, op, nm, md, kd, kn, pl, wr, b⟩ from hR1); obtain ⟨q0, q1, q2, qf⟩ := box3 (RowT.below hD0.drew hw); have hb := Below.trans hb0.drew (hw.mono hW)) | fail))
    all_goals (try dsimp only)
    all_goals (repeat (first | (with_reducible refine inBlock_far (by decide) ?_) | (with_reducible refine then_exit ?_) | (with_reducible refine inBlock_here ?_) | ((fail_if_success (with_reducible refine calls_id ?_)); go_step)))
    all_goals refine bodyPost_ret (v := .agg #[.int .u16 ((256 + s) % 8192), .bool true, .int .u8 (bits .or .u8 p 16)]) (by simp [results, Tryd.results11, go_sem, q0, q1, q2]) rfl ⟨(by show _ = Ending.returned (pinV (wrP (256 + s) (if nm.toList = [80, 72, 80] then bits .or .u8 p 16 else a))); rw [if_pos hn]; rfl), ?_⟩
    all_goals repeat (first | (with_reducible exact hb) | (with_reducible refine Below.drew ?_) | (refine Below.setCell ?_ (by exact Nat.le_refl _) _))
  · have hq : (nm.toList == [80, 72, 80]) = false := beq_false_of_ne hn
    go_enter Tryd.func11, Tryd.ntmps11
    repeat (first | (with_reducible refine wp_keep (fun W => RowT 40 W w.heap.size #[.int .u16 0, .bool false, .int .u8 0] ∧ CpuR W B (Cp.row ⟨⟨a, x, y, s, p, pc⟩, 28, op, nm, md, kd, kn, pl, wr, b⟩) ∧ Below w.heap.size w W) (And.intro (RowT.new w _ _) (And.intro (hR.alloc _) ((Below.refl _ _).alloc (Nat.le_refl _) _))) ?_) | go_step)
    rintro W0 ⟨hD0, hR0, hb0⟩
    clear c0 c1 c2 c3 c4 c5 c6 c7 c8 c9 c10 c11 c12 c13 c14 ff hS hR
    obtain ⟨c0, c1, c2, c3, c4, c5, c6, c7, c8, c9, c10, c11, c12, c13, c14⟩ := CpuS.all (show CpuS W0 B ⟨⟨a, x, y, s, p, pc⟩, 28, op, nm, md, kd, kn, pl, wr, b⟩ from hR0)
    have ff := hR0.thaw
    have l0 := hD0.lt
    have hW : w.heap.size ≤ W0.heap.size := Nat.le_of_lt l0
    have hnn := World.new_ne W0 _ c0
    (repeat (first | (with_reducible refine inBlock_far (by decide) ?_) | (with_reducible refine then_exit ?_) | (with_reducible refine inBlock_here ?_) | ((fail_if_success (with_reducible refine calls_id ?_)); go_step)))
    go_region_held3 (fun w' => w'.cell? ⟨B, 0, none⟩ = some (.int .u8 a)) (go_keep) ((first | (go_at_call 41; refine (kst _ hR0.drew).mono ?_; rintro e w1 ⟨rfl, rfl⟩) | (go_at_call 42; refine (kwr (256 + s) _ (by omega) (by omega) _).mono ?_; rintro e w1 ⟨rfl, hw⟩; have hR1 := hR0.drew.below hw; obtain ⟨d0, d1, d2, d3, d4, d5, d6, d7, d8, d9, d10, d11, d12, d13, d14⟩ := CpuS.all (show CpuS w1 B ⟨⟨a, x, y, s, p, pc⟩, 28, op, nm, md, kd, kn, pl, wr, b⟩ from hR1); obtain ⟨q0, q1, q2, qf⟩ := box3 (RowT.below hD0.drew hw); have hb := Below.trans hb0.drew (hw.mono hW)) | fail))
    all_goals (try dsimp only)
    all_goals (repeat (first | (with_reducible refine inBlock_far (by decide) ?_) | (with_reducible refine then_exit ?_) | (with_reducible refine inBlock_here ?_) | ((fail_if_success (with_reducible refine calls_id ?_)); go_step)))
    all_goals refine bodyPost_ret (v := .agg #[.int .u16 ((256 + s) % 8192), .bool true, .int .u8 (a)]) (by simp [results, Tryd.results11, go_sem, q0, q1, q2]) rfl ⟨(by show _ = Ending.returned (pinV (wrP (256 + s) (if nm.toList = [80, 72, 80] then bits .or .u8 p 16 else a))); rw [if_neg hn]; rfl), ?_⟩
    all_goals repeat (first | (with_reducible exact hb) | (with_reducible refine Below.drew ?_) | (refine Below.setCell ?_ (by exact Nat.le_refl _) _))
end Go.Proofs.YthepcjecmlkaiaaDoor.Mi
/- Package micro: what it asks at each step. -/
namespace Go.Proofs.YthepcjecmlkaiaaDoor.Mi
open Go Go.RowKit Go.Deep Go.Proofs.YthepcjecmlkaiaaDoor Go.Proofs.YthepcjecmlkaiaaDoor.Ex
set_option linter.unusedVariables false
set_option linter.unusedSimpArgs false
set_option maxRecDepth 100000 in
set_option maxHeartbeats 8000000 in
theorem pins_4 (c : Cp) (ok : c.ok) (w : World) (B : Nat) (hS : CpuS w B c) (ht : c.t = 4) : Calls Tryd.prog 11 #[.pointer (some ⟨B, 0, none⟩)] w fun e w' => e = .returned (pinV (pinsN 4 c)) ∧ Below w.heap.size w w' := by
  obtain ⟨⟨a, x, y, s, p, pc⟩, t, op, nm, md, kd, kn, pl, wr, b⟩ := c
  simp only [] at ht
  subst ht
  obtain ⟨c0, c1, c2, c3, c4, c5, c6, c7, c8, c9, c10, c11, c12, c13, c14⟩ := hS.all
  obtain ⟨⟨a0, a1, x0, x1, y0, y1, s0, s1, p0, p1, pc0, pc1⟩, t0, t1, op0, op1, md0, md1, kd0, kd1, pl0, pl1, wr0, wr1, b0, b1⟩ := ok
  simp only [] at a0 a1 x0 x1 y0 y1 s0 s1 p0 p1 pc0 pc1 t0 t1 op0 op1 md0 md1 kd0 kd1 pl0 pl1 wr0 wr1 b0 b1
  have ff := hS.thaw
  have hlt := hS.lt
  have hR : CpuR w B _ := hS
  have hne : ¬ w.heap.size = B := by omega
  have hne' : ¬ B = w.heap.size := by omega
  have kst := fun w' h => stack_any ⟨⟨a, x, y, s, p, pc⟩, 4, op, nm, md, kd, kn, pl, wr, b⟩ (by exact ⟨⟨a0, a1, x0, x1, y0, y1, s0, s1, p0, p1, pc0, pc1⟩, t0, t1, op0, op1, md0, md1, kd0, kd1, pl0, pl1, wr0, wr1, b0, b1⟩) w' B h
  simp only [stackF] at kst
  have kr := fun v h0 h1 w' => read_ask v h0 h1 w'
  simp only [pinV, rdP] at kr
  go_enter Tryd.func11, Tryd.ntmps11
  repeat (first | (with_reducible refine wp_keep (fun W => RowT 40 W w.heap.size #[.int .u16 0, .bool false, .int .u8 0] ∧ CpuR W B (Cp.row ⟨⟨a, x, y, s, p, pc⟩, 4, op, nm, md, kd, kn, pl, wr, b⟩) ∧ Below w.heap.size w W) (And.intro (RowT.new w _ _) (And.intro (hR.alloc _) ((Below.refl _ _).alloc (Nat.le_refl _) _))) ?_) | go_step)
  rintro W0 ⟨hD0, hR0, hb0⟩
  clear c0 c1 c2 c3 c4 c5 c6 c7 c8 c9 c10 c11 c12 c13 c14 ff hS hR
  obtain ⟨c0, c1, c2, c3, c4, c5, c6, c7, c8, c9, c10, c11, c12, c13, c14⟩ := CpuS.all (show CpuS W0 B ⟨⟨a, x, y, s, p, pc⟩, 4, op, nm, md, kd, kn, pl, wr, b⟩ from hR0)
  have ff := hR0.thaw
  have l0 := hD0.lt
  have hW : w.heap.size ≤ W0.heap.size := Nat.le_of_lt l0
  have hnn := World.new_ne W0 _ c0
  (repeat (first | (with_reducible refine inBlock_far (by decide) ?_) | (with_reducible refine then_exit ?_) | (with_reducible refine inBlock_here ?_) | ((fail_if_success (with_reducible refine calls_id ?_)); go_step)))
  refine (kst _ hR0).mono ?_
  rintro e w1 ⟨rfl, rfl⟩
  dsimp only
  (repeat (first | (with_reducible refine inBlock_far (by decide) ?_) | (with_reducible refine then_exit ?_) | (with_reducible refine inBlock_here ?_) | ((fail_if_success (with_reducible refine calls_id ?_)); go_step)))
  refine (kr (256 + s) (by omega) (by omega) _).mono ?_
  rintro e w1 ⟨rfl, hw⟩
  obtain ⟨q0, q1, q2, qf⟩ := box3 (RowT.below hD0 hw); have hb := Below.trans hb0 (hw.mono hW)
  clear hw
  dsimp only
  (repeat (first | (with_reducible refine inBlock_far (by decide) ?_) | (with_reducible refine then_exit ?_) | (with_reducible refine inBlock_here ?_) | ((fail_if_success (with_reducible refine calls_id ?_)); go_step)))
  refine bodyPost_ret (v := .agg #[.int .u16 ((256 + s) % 8192), .bool false, .int .u8 0]) (by simp [results, Tryd.results11, go_sem, q0, q1, q2]) rfl ⟨rfl, ?_⟩
  repeat (first | (with_reducible exact hb) | (with_reducible refine Below.drew ?_) | (refine Below.setCell ?_ (by exact Nat.le_refl _) _))
set_option maxRecDepth 100000 in
set_option maxHeartbeats 8000000 in
theorem pins_5 (c : Cp) (ok : c.ok) (w : World) (B : Nat) (hS : CpuS w B c) (ht : c.t = 5) : Calls Tryd.prog 11 #[.pointer (some ⟨B, 0, none⟩)] w fun e w' => e = .returned (pinV (pinsN 5 c)) ∧ Below w.heap.size w w' := by
  obtain ⟨⟨a, x, y, s, p, pc⟩, t, op, nm, md, kd, kn, pl, wr, b⟩ := c
  simp only [] at ht
  subst ht
  obtain ⟨c0, c1, c2, c3, c4, c5, c6, c7, c8, c9, c10, c11, c12, c13, c14⟩ := hS.all
  obtain ⟨⟨a0, a1, x0, x1, y0, y1, s0, s1, p0, p1, pc0, pc1⟩, t0, t1, op0, op1, md0, md1, kd0, kd1, pl0, pl1, wr0, wr1, b0, b1⟩ := ok
  simp only [] at a0 a1 x0 x1 y0 y1 s0 s1 p0 p1 pc0 pc1 t0 t1 op0 op1 md0 md1 kd0 kd1 pl0 pl1 wr0 wr1 b0 b1
  have ff := hS.thaw
  have hlt := hS.lt
  have hR : CpuR w B _ := hS
  have hne : ¬ w.heap.size = B := by omega
  have hne' : ¬ B = w.heap.size := by omega
  have kst := fun w' h => stack_any ⟨⟨a, x, y, s, p, pc⟩, 5, op, nm, md, kd, kn, pl, wr, b⟩ (by exact ⟨⟨a0, a1, x0, x1, y0, y1, s0, s1, p0, p1, pc0, pc1⟩, t0, t1, op0, op1, md0, md1, kd0, kd1, pl0, pl1, wr0, wr1, b0, b1⟩) w' B h
  simp only [stackF] at kst
  have kr := fun v h0 h1 w' => read_ask v h0 h1 w'
  simp only [pinV, rdP] at kr
  go_enter Tryd.func11, Tryd.ntmps11
  repeat (first | (with_reducible refine wp_keep (fun W => RowT 40 W w.heap.size #[.int .u16 0, .bool false, .int .u8 0] ∧ CpuR W B (Cp.row ⟨⟨a, x, y, s, p, pc⟩, 5, op, nm, md, kd, kn, pl, wr, b⟩) ∧ Below w.heap.size w W) (And.intro (RowT.new w _ _) (And.intro (hR.alloc _) ((Below.refl _ _).alloc (Nat.le_refl _) _))) ?_) | go_step)
  rintro W0 ⟨hD0, hR0, hb0⟩
  clear c0 c1 c2 c3 c4 c5 c6 c7 c8 c9 c10 c11 c12 c13 c14 ff hS hR
  obtain ⟨c0, c1, c2, c3, c4, c5, c6, c7, c8, c9, c10, c11, c12, c13, c14⟩ := CpuS.all (show CpuS W0 B ⟨⟨a, x, y, s, p, pc⟩, 5, op, nm, md, kd, kn, pl, wr, b⟩ from hR0)
  have ff := hR0.thaw
  have l0 := hD0.lt
  have hW : w.heap.size ≤ W0.heap.size := Nat.le_of_lt l0
  have hnn := World.new_ne W0 _ c0
  (repeat (first | (with_reducible refine inBlock_far (by decide) ?_) | (with_reducible refine then_exit ?_) | (with_reducible refine inBlock_here ?_) | ((fail_if_success (with_reducible refine calls_id ?_)); go_step)))
  refine (kst _ hR0).mono ?_
  rintro e w1 ⟨rfl, rfl⟩
  dsimp only
  (repeat (first | (with_reducible refine inBlock_far (by decide) ?_) | (with_reducible refine then_exit ?_) | (with_reducible refine inBlock_here ?_) | ((fail_if_success (with_reducible refine calls_id ?_)); go_step)))
  refine (kr (256 + s) (by omega) (by omega) _).mono ?_
  rintro e w1 ⟨rfl, hw⟩
  obtain ⟨q0, q1, q2, qf⟩ := box3 (RowT.below hD0 hw); have hb := Below.trans hb0 (hw.mono hW)
  clear hw
  dsimp only
  (repeat (first | (with_reducible refine inBlock_far (by decide) ?_) | (with_reducible refine then_exit ?_) | (with_reducible refine inBlock_here ?_) | ((fail_if_success (with_reducible refine calls_id ?_)); go_step)))
  refine bodyPost_ret (v := .agg #[.int .u16 ((256 + s) % 8192), .bool false, .int .u8 0]) (by simp [results, Tryd.results11, go_sem, q0, q1, q2]) rfl ⟨rfl, ?_⟩
  repeat (first | (with_reducible exact hb) | (with_reducible refine Below.drew ?_) | (refine Below.setCell ?_ (by exact Nat.le_refl _) _))
set_option maxRecDepth 100000 in
set_option maxHeartbeats 8000000 in
theorem pins_6 (c : Cp) (ok : c.ok) (w : World) (B : Nat) (hS : CpuS w B c) (ht : c.t = 6) : Calls Tryd.prog 11 #[.pointer (some ⟨B, 0, none⟩)] w fun e w' => e = .returned (pinV (pinsN 6 c)) ∧ Below w.heap.size w w' := by
  obtain ⟨⟨a, x, y, s, p, pc⟩, t, op, nm, md, kd, kn, pl, wr, b⟩ := c
  simp only [] at ht
  subst ht
  obtain ⟨c0, c1, c2, c3, c4, c5, c6, c7, c8, c9, c10, c11, c12, c13, c14⟩ := hS.all
  obtain ⟨⟨a0, a1, x0, x1, y0, y1, s0, s1, p0, p1, pc0, pc1⟩, t0, t1, op0, op1, md0, md1, kd0, kd1, pl0, pl1, wr0, wr1, b0, b1⟩ := ok
  simp only [] at a0 a1 x0 x1 y0 y1 s0 s1 p0 p1 pc0 pc1 t0 t1 op0 op1 md0 md1 kd0 kd1 pl0 pl1 wr0 wr1 b0 b1
  have ff := hS.thaw
  have hlt := hS.lt
  have hR : CpuR w B _ := hS
  have hne : ¬ w.heap.size = B := by omega
  have hne' : ¬ B = w.heap.size := by omega
  have kst := fun w' h => stack_any ⟨⟨a, x, y, s, p, pc⟩, 6, op, nm, md, kd, kn, pl, wr, b⟩ (by exact ⟨⟨a0, a1, x0, x1, y0, y1, s0, s1, p0, p1, pc0, pc1⟩, t0, t1, op0, op1, md0, md1, kd0, kd1, pl0, pl1, wr0, wr1, b0, b1⟩) w' B h
  simp only [stackF] at kst
  have kr := fun v h0 h1 w' => read_ask v h0 h1 w'
  simp only [pinV, rdP] at kr
  go_enter Tryd.func11, Tryd.ntmps11
  repeat (first | (with_reducible refine wp_keep (fun W => RowT 40 W w.heap.size #[.int .u16 0, .bool false, .int .u8 0] ∧ CpuR W B (Cp.row ⟨⟨a, x, y, s, p, pc⟩, 6, op, nm, md, kd, kn, pl, wr, b⟩) ∧ Below w.heap.size w W) (And.intro (RowT.new w _ _) (And.intro (hR.alloc _) ((Below.refl _ _).alloc (Nat.le_refl _) _))) ?_) | go_step)
  rintro W0 ⟨hD0, hR0, hb0⟩
  clear c0 c1 c2 c3 c4 c5 c6 c7 c8 c9 c10 c11 c12 c13 c14 ff hS hR
  obtain ⟨c0, c1, c2, c3, c4, c5, c6, c7, c8, c9, c10, c11, c12, c13, c14⟩ := CpuS.all (show CpuS W0 B ⟨⟨a, x, y, s, p, pc⟩, 6, op, nm, md, kd, kn, pl, wr, b⟩ from hR0)
  have ff := hR0.thaw
  have l0 := hD0.lt
  have hW : w.heap.size ≤ W0.heap.size := Nat.le_of_lt l0
  have hnn := World.new_ne W0 _ c0
  (repeat (first | (with_reducible refine inBlock_far (by decide) ?_) | (with_reducible refine then_exit ?_) | (with_reducible refine inBlock_here ?_) | ((fail_if_success (with_reducible refine calls_id ?_)); go_step)))
  refine (kst _ hR0).mono ?_
  rintro e w1 ⟨rfl, rfl⟩
  dsimp only
  (repeat (first | (with_reducible refine inBlock_far (by decide) ?_) | (with_reducible refine then_exit ?_) | (with_reducible refine inBlock_here ?_) | ((fail_if_success (with_reducible refine calls_id ?_)); go_step)))
  refine (kr (256 + s) (by omega) (by omega) _).mono ?_
  rintro e w1 ⟨rfl, hw⟩
  obtain ⟨q0, q1, q2, qf⟩ := box3 (RowT.below hD0 hw); have hb := Below.trans hb0 (hw.mono hW)
  clear hw
  dsimp only
  (repeat (first | (with_reducible refine inBlock_far (by decide) ?_) | (with_reducible refine then_exit ?_) | (with_reducible refine inBlock_here ?_) | ((fail_if_success (with_reducible refine calls_id ?_)); go_step)))
  refine bodyPost_ret (v := .agg #[.int .u16 ((256 + s) % 8192), .bool false, .int .u8 0]) (by simp [results, Tryd.results11, go_sem, q0, q1, q2]) rfl ⟨rfl, ?_⟩
  repeat (first | (with_reducible exact hb) | (with_reducible refine Below.drew ?_) | (refine Below.setCell ?_ (by exact Nat.le_refl _) _))
set_option maxRecDepth 100000 in
set_option maxHeartbeats 8000000 in
theorem pins_30 (c : Cp) (ok : c.ok) (w : World) (B : Nat) (hS : CpuS w B c) (ht : c.t = 30) : Calls Tryd.prog 11 #[.pointer (some ⟨B, 0, none⟩)] w fun e w' => e = .returned (pinV (pinsN 30 c)) ∧ Below w.heap.size w w' := by
  obtain ⟨⟨a, x, y, s, p, pc⟩, t, op, nm, md, kd, kn, pl, wr, b⟩ := c
  simp only [] at ht
  subst ht
  obtain ⟨c0, c1, c2, c3, c4, c5, c6, c7, c8, c9, c10, c11, c12, c13, c14⟩ := hS.all
  obtain ⟨⟨a0, a1, x0, x1, y0, y1, s0, s1, p0, p1, pc0, pc1⟩, t0, t1, op0, op1, md0, md1, kd0, kd1, pl0, pl1, wr0, wr1, b0, b1⟩ := ok
  simp only [] at a0 a1 x0 x1 y0 y1 s0 s1 p0 p1 pc0 pc1 t0 t1 op0 op1 md0 md1 kd0 kd1 pl0 pl1 wr0 wr1 b0 b1
  have ff := hS.thaw
  have hlt := hS.lt
  have hR : CpuR w B _ := hS
  have hne : ¬ w.heap.size = B := by omega
  have hne' : ¬ B = w.heap.size := by omega
  have kst := fun w' h => stack_any ⟨⟨a, x, y, s, p, pc⟩, 30, op, nm, md, kd, kn, pl, wr, b⟩ (by exact ⟨⟨a0, a1, x0, x1, y0, y1, s0, s1, p0, p1, pc0, pc1⟩, t0, t1, op0, op1, md0, md1, kd0, kd1, pl0, pl1, wr0, wr1, b0, b1⟩) w' B h
  simp only [stackF] at kst
  have kr := fun v h0 h1 w' => read_ask v h0 h1 w'
  simp only [pinV, rdP] at kr
  go_enter Tryd.func11, Tryd.ntmps11
  repeat (first | (with_reducible refine wp_keep (fun W => RowT 40 W w.heap.size #[.int .u16 0, .bool false, .int .u8 0] ∧ CpuR W B (Cp.row ⟨⟨a, x, y, s, p, pc⟩, 30, op, nm, md, kd, kn, pl, wr, b⟩) ∧ Below w.heap.size w W) (And.intro (RowT.new w _ _) (And.intro (hR.alloc _) ((Below.refl _ _).alloc (Nat.le_refl _) _))) ?_) | go_step)
  rintro W0 ⟨hD0, hR0, hb0⟩
  clear c0 c1 c2 c3 c4 c5 c6 c7 c8 c9 c10 c11 c12 c13 c14 ff hS hR
  obtain ⟨c0, c1, c2, c3, c4, c5, c6, c7, c8, c9, c10, c11, c12, c13, c14⟩ := CpuS.all (show CpuS W0 B ⟨⟨a, x, y, s, p, pc⟩, 30, op, nm, md, kd, kn, pl, wr, b⟩ from hR0)
  have ff := hR0.thaw
  have l0 := hD0.lt
  have hW : w.heap.size ≤ W0.heap.size := Nat.le_of_lt l0
  have hnn := World.new_ne W0 _ c0
  (repeat (first | (with_reducible refine inBlock_far (by decide) ?_) | (with_reducible refine then_exit ?_) | (with_reducible refine inBlock_here ?_) | ((fail_if_success (with_reducible refine calls_id ?_)); go_step)))
  refine (kst _ hR0).mono ?_
  rintro e w1 ⟨rfl, rfl⟩
  dsimp only
  (repeat (first | (with_reducible refine inBlock_far (by decide) ?_) | (with_reducible refine then_exit ?_) | (with_reducible refine inBlock_here ?_) | ((fail_if_success (with_reducible refine calls_id ?_)); go_step)))
  refine (kr (256 + s) (by omega) (by omega) _).mono ?_
  rintro e w1 ⟨rfl, hw⟩
  obtain ⟨q0, q1, q2, qf⟩ := box3 (RowT.below hD0 hw); have hb := Below.trans hb0 (hw.mono hW)
  clear hw
  dsimp only
  (repeat (first | (with_reducible refine inBlock_far (by decide) ?_) | (with_reducible refine then_exit ?_) | (with_reducible refine inBlock_here ?_) | ((fail_if_success (with_reducible refine calls_id ?_)); go_step)))
  refine bodyPost_ret (v := .agg #[.int .u16 ((256 + s) % 8192), .bool false, .int .u8 0]) (by simp [results, Tryd.results11, go_sem, q0, q1, q2]) rfl ⟨rfl, ?_⟩
  repeat (first | (with_reducible exact hb) | (with_reducible refine Below.drew ?_) | (refine Below.setCell ?_ (by exact Nat.le_refl _) _))
set_option maxRecDepth 100000 in
set_option maxHeartbeats 8000000 in
theorem pins_31 (c : Cp) (ok : c.ok) (w : World) (B : Nat) (hS : CpuS w B c) (ht : c.t = 31) : Calls Tryd.prog 11 #[.pointer (some ⟨B, 0, none⟩)] w fun e w' => e = .returned (pinV (pinsN 31 c)) ∧ Below w.heap.size w w' := by
  obtain ⟨⟨a, x, y, s, p, pc⟩, t, op, nm, md, kd, kn, pl, wr, b⟩ := c
  simp only [] at ht
  subst ht
  obtain ⟨c0, c1, c2, c3, c4, c5, c6, c7, c8, c9, c10, c11, c12, c13, c14⟩ := hS.all
  obtain ⟨⟨a0, a1, x0, x1, y0, y1, s0, s1, p0, p1, pc0, pc1⟩, t0, t1, op0, op1, md0, md1, kd0, kd1, pl0, pl1, wr0, wr1, b0, b1⟩ := ok
  simp only [] at a0 a1 x0 x1 y0 y1 s0 s1 p0 p1 pc0 pc1 t0 t1 op0 op1 md0 md1 kd0 kd1 pl0 pl1 wr0 wr1 b0 b1
  have ff := hS.thaw
  have hlt := hS.lt
  have hR : CpuR w B _ := hS
  have hne : ¬ w.heap.size = B := by omega
  have hne' : ¬ B = w.heap.size := by omega
  have kst := fun w' h => stack_any ⟨⟨a, x, y, s, p, pc⟩, 31, op, nm, md, kd, kn, pl, wr, b⟩ (by exact ⟨⟨a0, a1, x0, x1, y0, y1, s0, s1, p0, p1, pc0, pc1⟩, t0, t1, op0, op1, md0, md1, kd0, kd1, pl0, pl1, wr0, wr1, b0, b1⟩) w' B h
  simp only [stackF] at kst
  have kr := fun v h0 h1 w' => read_ask v h0 h1 w'
  simp only [pinV, rdP] at kr
  go_enter Tryd.func11, Tryd.ntmps11
  repeat (first | (with_reducible refine wp_keep (fun W => RowT 40 W w.heap.size #[.int .u16 0, .bool false, .int .u8 0] ∧ CpuR W B (Cp.row ⟨⟨a, x, y, s, p, pc⟩, 31, op, nm, md, kd, kn, pl, wr, b⟩) ∧ Below w.heap.size w W) (And.intro (RowT.new w _ _) (And.intro (hR.alloc _) ((Below.refl _ _).alloc (Nat.le_refl _) _))) ?_) | go_step)
  rintro W0 ⟨hD0, hR0, hb0⟩
  clear c0 c1 c2 c3 c4 c5 c6 c7 c8 c9 c10 c11 c12 c13 c14 ff hS hR
  obtain ⟨c0, c1, c2, c3, c4, c5, c6, c7, c8, c9, c10, c11, c12, c13, c14⟩ := CpuS.all (show CpuS W0 B ⟨⟨a, x, y, s, p, pc⟩, 31, op, nm, md, kd, kn, pl, wr, b⟩ from hR0)
  have ff := hR0.thaw
  have l0 := hD0.lt
  have hW : w.heap.size ≤ W0.heap.size := Nat.le_of_lt l0
  have hnn := World.new_ne W0 _ c0
  (repeat (first | (with_reducible refine inBlock_far (by decide) ?_) | (with_reducible refine then_exit ?_) | (with_reducible refine inBlock_here ?_) | ((fail_if_success (with_reducible refine calls_id ?_)); go_step)))
  refine (kst _ hR0).mono ?_
  rintro e w1 ⟨rfl, rfl⟩
  dsimp only
  (repeat (first | (with_reducible refine inBlock_far (by decide) ?_) | (with_reducible refine then_exit ?_) | (with_reducible refine inBlock_here ?_) | ((fail_if_success (with_reducible refine calls_id ?_)); go_step)))
  refine (kr (256 + s) (by omega) (by omega) _).mono ?_
  rintro e w1 ⟨rfl, hw⟩
  obtain ⟨q0, q1, q2, qf⟩ := box3 (RowT.below hD0 hw); have hb := Below.trans hb0 (hw.mono hW)
  clear hw
  dsimp only
  (repeat (first | (with_reducible refine inBlock_far (by decide) ?_) | (with_reducible refine then_exit ?_) | (with_reducible refine inBlock_here ?_) | ((fail_if_success (with_reducible refine calls_id ?_)); go_step)))
  refine bodyPost_ret (v := .agg #[.int .u16 ((256 + s) % 8192), .bool false, .int .u8 0]) (by simp [results, Tryd.results11, go_sem, q0, q1, q2]) rfl ⟨rfl, ?_⟩
  repeat (first | (with_reducible exact hb) | (with_reducible refine Below.drew ?_) | (refine Below.setCell ?_ (by exact Nat.le_refl _) _))
set_option maxRecDepth 100000 in
set_option maxHeartbeats 8000000 in
theorem pins_37 (c : Cp) (ok : c.ok) (w : World) (B : Nat) (hS : CpuS w B c) (ht : c.t = 37) : Calls Tryd.prog 11 #[.pointer (some ⟨B, 0, none⟩)] w fun e w' => e = .returned (pinV (pinsN 37 c)) ∧ Below w.heap.size w w' := by
  obtain ⟨⟨a, x, y, s, p, pc⟩, t, op, nm, md, kd, kn, pl, wr, b⟩ := c
  simp only [] at ht
  subst ht
  obtain ⟨c0, c1, c2, c3, c4, c5, c6, c7, c8, c9, c10, c11, c12, c13, c14⟩ := hS.all
  obtain ⟨⟨a0, a1, x0, x1, y0, y1, s0, s1, p0, p1, pc0, pc1⟩, t0, t1, op0, op1, md0, md1, kd0, kd1, pl0, pl1, wr0, wr1, b0, b1⟩ := ok
  simp only [] at a0 a1 x0 x1 y0 y1 s0 s1 p0 p1 pc0 pc1 t0 t1 op0 op1 md0 md1 kd0 kd1 pl0 pl1 wr0 wr1 b0 b1
  have ff := hS.thaw
  have hlt := hS.lt
  have hR : CpuR w B _ := hS
  have hne : ¬ w.heap.size = B := by omega
  have hne' : ¬ B = w.heap.size := by omega
  have kst := fun w' h => stack_any ⟨⟨a, x, y, s, p, pc⟩, 37, op, nm, md, kd, kn, pl, wr, b⟩ (by exact ⟨⟨a0, a1, x0, x1, y0, y1, s0, s1, p0, p1, pc0, pc1⟩, t0, t1, op0, op1, md0, md1, kd0, kd1, pl0, pl1, wr0, wr1, b0, b1⟩) w' B h
  simp only [stackF] at kst
  have kr := fun v h0 h1 w' => read_ask v h0 h1 w'
  simp only [pinV, rdP] at kr
  go_enter Tryd.func11, Tryd.ntmps11
  repeat (first | (with_reducible refine wp_keep (fun W => RowT 40 W w.heap.size #[.int .u16 0, .bool false, .int .u8 0] ∧ CpuR W B (Cp.row ⟨⟨a, x, y, s, p, pc⟩, 37, op, nm, md, kd, kn, pl, wr, b⟩) ∧ Below w.heap.size w W) (And.intro (RowT.new w _ _) (And.intro (hR.alloc _) ((Below.refl _ _).alloc (Nat.le_refl _) _))) ?_) | go_step)
  rintro W0 ⟨hD0, hR0, hb0⟩
  clear c0 c1 c2 c3 c4 c5 c6 c7 c8 c9 c10 c11 c12 c13 c14 ff hS hR
  obtain ⟨c0, c1, c2, c3, c4, c5, c6, c7, c8, c9, c10, c11, c12, c13, c14⟩ := CpuS.all (show CpuS W0 B ⟨⟨a, x, y, s, p, pc⟩, 37, op, nm, md, kd, kn, pl, wr, b⟩ from hR0)
  have ff := hR0.thaw
  have l0 := hD0.lt
  have hW : w.heap.size ≤ W0.heap.size := Nat.le_of_lt l0
  have hnn := World.new_ne W0 _ c0
  (repeat (first | (with_reducible refine inBlock_far (by decide) ?_) | (with_reducible refine then_exit ?_) | (with_reducible refine inBlock_here ?_) | ((fail_if_success (with_reducible refine calls_id ?_)); go_step)))
  refine (kst _ hR0).mono ?_
  rintro e w1 ⟨rfl, rfl⟩
  dsimp only
  (repeat (first | (with_reducible refine inBlock_far (by decide) ?_) | (with_reducible refine then_exit ?_) | (with_reducible refine inBlock_here ?_) | ((fail_if_success (with_reducible refine calls_id ?_)); go_step)))
  refine (kr (256 + s) (by omega) (by omega) _).mono ?_
  rintro e w1 ⟨rfl, hw⟩
  obtain ⟨q0, q1, q2, qf⟩ := box3 (RowT.below hD0 hw); have hb := Below.trans hb0 (hw.mono hW)
  clear hw
  dsimp only
  (repeat (first | (with_reducible refine inBlock_far (by decide) ?_) | (with_reducible refine then_exit ?_) | (with_reducible refine inBlock_here ?_) | ((fail_if_success (with_reducible refine calls_id ?_)); go_step)))
  refine bodyPost_ret (v := .agg #[.int .u16 ((256 + s) % 8192), .bool false, .int .u8 0]) (by simp [results, Tryd.results11, go_sem, q0, q1, q2]) rfl ⟨rfl, ?_⟩
  repeat (first | (with_reducible exact hb) | (with_reducible refine Below.drew ?_) | (refine Below.setCell ?_ (by exact Nat.le_refl _) _))
set_option maxRecDepth 100000 in
set_option maxHeartbeats 8000000 in
theorem pins_42 (c : Cp) (ok : c.ok) (w : World) (B : Nat) (hS : CpuS w B c) (ht : c.t = 42) : Calls Tryd.prog 11 #[.pointer (some ⟨B, 0, none⟩)] w fun e w' => e = .returned (pinV (pinsN 42 c)) ∧ Below w.heap.size w w' := by
  obtain ⟨⟨a, x, y, s, p, pc⟩, t, op, nm, md, kd, kn, pl, wr, b⟩ := c
  simp only [] at ht
  subst ht
  obtain ⟨c0, c1, c2, c3, c4, c5, c6, c7, c8, c9, c10, c11, c12, c13, c14⟩ := hS.all
  obtain ⟨⟨a0, a1, x0, x1, y0, y1, s0, s1, p0, p1, pc0, pc1⟩, t0, t1, op0, op1, md0, md1, kd0, kd1, pl0, pl1, wr0, wr1, b0, b1⟩ := ok
  simp only [] at a0 a1 x0 x1 y0 y1 s0 s1 p0 p1 pc0 pc1 t0 t1 op0 op1 md0 md1 kd0 kd1 pl0 pl1 wr0 wr1 b0 b1
  have ff := hS.thaw
  have hlt := hS.lt
  have hR : CpuR w B _ := hS
  have hne : ¬ w.heap.size = B := by omega
  have hne' : ¬ B = w.heap.size := by omega
  have kst := fun w' h => stack_any ⟨⟨a, x, y, s, p, pc⟩, 42, op, nm, md, kd, kn, pl, wr, b⟩ (by exact ⟨⟨a0, a1, x0, x1, y0, y1, s0, s1, p0, p1, pc0, pc1⟩, t0, t1, op0, op1, md0, md1, kd0, kd1, pl0, pl1, wr0, wr1, b0, b1⟩) w' B h
  simp only [stackF] at kst
  have kr := fun v h0 h1 w' => read_ask v h0 h1 w'
  simp only [pinV, rdP] at kr
  go_enter Tryd.func11, Tryd.ntmps11
  repeat (first | (with_reducible refine wp_keep (fun W => RowT 40 W w.heap.size #[.int .u16 0, .bool false, .int .u8 0] ∧ CpuR W B (Cp.row ⟨⟨a, x, y, s, p, pc⟩, 42, op, nm, md, kd, kn, pl, wr, b⟩) ∧ Below w.heap.size w W) (And.intro (RowT.new w _ _) (And.intro (hR.alloc _) ((Below.refl _ _).alloc (Nat.le_refl _) _))) ?_) | go_step)
  rintro W0 ⟨hD0, hR0, hb0⟩
  clear c0 c1 c2 c3 c4 c5 c6 c7 c8 c9 c10 c11 c12 c13 c14 ff hS hR
  obtain ⟨c0, c1, c2, c3, c4, c5, c6, c7, c8, c9, c10, c11, c12, c13, c14⟩ := CpuS.all (show CpuS W0 B ⟨⟨a, x, y, s, p, pc⟩, 42, op, nm, md, kd, kn, pl, wr, b⟩ from hR0)
  have ff := hR0.thaw
  have l0 := hD0.lt
  have hW : w.heap.size ≤ W0.heap.size := Nat.le_of_lt l0
  have hnn := World.new_ne W0 _ c0
  (repeat (first | (with_reducible refine inBlock_far (by decide) ?_) | (with_reducible refine then_exit ?_) | (with_reducible refine inBlock_here ?_) | ((fail_if_success (with_reducible refine calls_id ?_)); go_step)))
  refine (kst _ hR0).mono ?_
  rintro e w1 ⟨rfl, rfl⟩
  dsimp only
  (repeat (first | (with_reducible refine inBlock_far (by decide) ?_) | (with_reducible refine then_exit ?_) | (with_reducible refine inBlock_here ?_) | ((fail_if_success (with_reducible refine calls_id ?_)); go_step)))
  refine (kr (256 + s) (by omega) (by omega) _).mono ?_
  rintro e w1 ⟨rfl, hw⟩
  obtain ⟨q0, q1, q2, qf⟩ := box3 (RowT.below hD0 hw); have hb := Below.trans hb0 (hw.mono hW)
  clear hw
  dsimp only
  (repeat (first | (with_reducible refine inBlock_far (by decide) ?_) | (with_reducible refine then_exit ?_) | (with_reducible refine inBlock_here ?_) | ((fail_if_success (with_reducible refine calls_id ?_)); go_step)))
  refine bodyPost_ret (v := .agg #[.int .u16 ((256 + s) % 8192), .bool false, .int .u8 0]) (by simp [results, Tryd.results11, go_sem, q0, q1, q2]) rfl ⟨rfl, ?_⟩
  repeat (first | (with_reducible exact hb) | (with_reducible refine Below.drew ?_) | (refine Below.setCell ?_ (by exact Nat.le_refl _) _))
set_option maxRecDepth 100000 in
set_option maxHeartbeats 8000000 in
theorem pins_43 (c : Cp) (ok : c.ok) (w : World) (B : Nat) (hS : CpuS w B c) (ht : c.t = 43) : Calls Tryd.prog 11 #[.pointer (some ⟨B, 0, none⟩)] w fun e w' => e = .returned (pinV (pinsN 43 c)) ∧ Below w.heap.size w w' := by
  obtain ⟨⟨a, x, y, s, p, pc⟩, t, op, nm, md, kd, kn, pl, wr, b⟩ := c
  simp only [] at ht
  subst ht
  obtain ⟨c0, c1, c2, c3, c4, c5, c6, c7, c8, c9, c10, c11, c12, c13, c14⟩ := hS.all
  obtain ⟨⟨a0, a1, x0, x1, y0, y1, s0, s1, p0, p1, pc0, pc1⟩, t0, t1, op0, op1, md0, md1, kd0, kd1, pl0, pl1, wr0, wr1, b0, b1⟩ := ok
  simp only [] at a0 a1 x0 x1 y0 y1 s0 s1 p0 p1 pc0 pc1 t0 t1 op0 op1 md0 md1 kd0 kd1 pl0 pl1 wr0 wr1 b0 b1
  have ff := hS.thaw
  have hlt := hS.lt
  have hR : CpuR w B _ := hS
  have hne : ¬ w.heap.size = B := by omega
  have hne' : ¬ B = w.heap.size := by omega
  have kst := fun w' h => stack_any ⟨⟨a, x, y, s, p, pc⟩, 43, op, nm, md, kd, kn, pl, wr, b⟩ (by exact ⟨⟨a0, a1, x0, x1, y0, y1, s0, s1, p0, p1, pc0, pc1⟩, t0, t1, op0, op1, md0, md1, kd0, kd1, pl0, pl1, wr0, wr1, b0, b1⟩) w' B h
  simp only [stackF] at kst
  have kr := fun v h0 h1 w' => read_ask v h0 h1 w'
  simp only [pinV, rdP] at kr
  go_enter Tryd.func11, Tryd.ntmps11
  repeat (first | (with_reducible refine wp_keep (fun W => RowT 40 W w.heap.size #[.int .u16 0, .bool false, .int .u8 0] ∧ CpuR W B (Cp.row ⟨⟨a, x, y, s, p, pc⟩, 43, op, nm, md, kd, kn, pl, wr, b⟩) ∧ Below w.heap.size w W) (And.intro (RowT.new w _ _) (And.intro (hR.alloc _) ((Below.refl _ _).alloc (Nat.le_refl _) _))) ?_) | go_step)
  rintro W0 ⟨hD0, hR0, hb0⟩
  clear c0 c1 c2 c3 c4 c5 c6 c7 c8 c9 c10 c11 c12 c13 c14 ff hS hR
  obtain ⟨c0, c1, c2, c3, c4, c5, c6, c7, c8, c9, c10, c11, c12, c13, c14⟩ := CpuS.all (show CpuS W0 B ⟨⟨a, x, y, s, p, pc⟩, 43, op, nm, md, kd, kn, pl, wr, b⟩ from hR0)
  have ff := hR0.thaw
  have l0 := hD0.lt
  have hW : w.heap.size ≤ W0.heap.size := Nat.le_of_lt l0
  have hnn := World.new_ne W0 _ c0
  (repeat (first | (with_reducible refine inBlock_far (by decide) ?_) | (with_reducible refine then_exit ?_) | (with_reducible refine inBlock_here ?_) | ((fail_if_success (with_reducible refine calls_id ?_)); go_step)))
  refine (kst _ hR0).mono ?_
  rintro e w1 ⟨rfl, rfl⟩
  dsimp only
  (repeat (first | (with_reducible refine inBlock_far (by decide) ?_) | (with_reducible refine then_exit ?_) | (with_reducible refine inBlock_here ?_) | ((fail_if_success (with_reducible refine calls_id ?_)); go_step)))
  refine (kr (256 + s) (by omega) (by omega) _).mono ?_
  rintro e w1 ⟨rfl, hw⟩
  obtain ⟨q0, q1, q2, qf⟩ := box3 (RowT.below hD0 hw); have hb := Below.trans hb0 (hw.mono hW)
  clear hw
  dsimp only
  (repeat (first | (with_reducible refine inBlock_far (by decide) ?_) | (with_reducible refine then_exit ?_) | (with_reducible refine inBlock_here ?_) | ((fail_if_success (with_reducible refine calls_id ?_)); go_step)))
  refine bodyPost_ret (v := .agg #[.int .u16 ((256 + s) % 8192), .bool false, .int .u8 0]) (by simp [results, Tryd.results11, go_sem, q0, q1, q2]) rfl ⟨rfl, ?_⟩
  repeat (first | (with_reducible exact hb) | (with_reducible refine Below.drew ?_) | (refine Below.setCell ?_ (by exact Nat.le_refl _) _))
set_option maxRecDepth 100000 in
set_option maxHeartbeats 8000000 in
theorem pins_44 (c : Cp) (ok : c.ok) (w : World) (B : Nat) (hS : CpuS w B c) (ht : c.t = 44) : Calls Tryd.prog 11 #[.pointer (some ⟨B, 0, none⟩)] w fun e w' => e = .returned (pinV (pinsN 44 c)) ∧ Below w.heap.size w w' := by
  obtain ⟨⟨a, x, y, s, p, pc⟩, t, op, nm, md, kd, kn, pl, wr, b⟩ := c
  simp only [] at ht
  subst ht
  obtain ⟨c0, c1, c2, c3, c4, c5, c6, c7, c8, c9, c10, c11, c12, c13, c14⟩ := hS.all
  obtain ⟨⟨a0, a1, x0, x1, y0, y1, s0, s1, p0, p1, pc0, pc1⟩, t0, t1, op0, op1, md0, md1, kd0, kd1, pl0, pl1, wr0, wr1, b0, b1⟩ := ok
  simp only [] at a0 a1 x0 x1 y0 y1 s0 s1 p0 p1 pc0 pc1 t0 t1 op0 op1 md0 md1 kd0 kd1 pl0 pl1 wr0 wr1 b0 b1
  have ff := hS.thaw
  have hlt := hS.lt
  have hR : CpuR w B _ := hS
  have hne : ¬ w.heap.size = B := by omega
  have hne' : ¬ B = w.heap.size := by omega
  have kst := fun w' h => stack_any ⟨⟨a, x, y, s, p, pc⟩, 44, op, nm, md, kd, kn, pl, wr, b⟩ (by exact ⟨⟨a0, a1, x0, x1, y0, y1, s0, s1, p0, p1, pc0, pc1⟩, t0, t1, op0, op1, md0, md1, kd0, kd1, pl0, pl1, wr0, wr1, b0, b1⟩) w' B h
  simp only [stackF] at kst
  have kr := fun v h0 h1 w' => read_ask v h0 h1 w'
  simp only [pinV, rdP] at kr
  go_enter Tryd.func11, Tryd.ntmps11
  repeat (first | (with_reducible refine wp_keep (fun W => RowT 40 W w.heap.size #[.int .u16 0, .bool false, .int .u8 0] ∧ CpuR W B (Cp.row ⟨⟨a, x, y, s, p, pc⟩, 44, op, nm, md, kd, kn, pl, wr, b⟩) ∧ Below w.heap.size w W) (And.intro (RowT.new w _ _) (And.intro (hR.alloc _) ((Below.refl _ _).alloc (Nat.le_refl _) _))) ?_) | go_step)
  rintro W0 ⟨hD0, hR0, hb0⟩
  clear c0 c1 c2 c3 c4 c5 c6 c7 c8 c9 c10 c11 c12 c13 c14 ff hS hR
  obtain ⟨c0, c1, c2, c3, c4, c5, c6, c7, c8, c9, c10, c11, c12, c13, c14⟩ := CpuS.all (show CpuS W0 B ⟨⟨a, x, y, s, p, pc⟩, 44, op, nm, md, kd, kn, pl, wr, b⟩ from hR0)
  have ff := hR0.thaw
  have l0 := hD0.lt
  have hW : w.heap.size ≤ W0.heap.size := Nat.le_of_lt l0
  have hnn := World.new_ne W0 _ c0
  (repeat (first | (with_reducible refine inBlock_far (by decide) ?_) | (with_reducible refine then_exit ?_) | (with_reducible refine inBlock_here ?_) | ((fail_if_success (with_reducible refine calls_id ?_)); go_step)))
  refine (kst _ hR0).mono ?_
  rintro e w1 ⟨rfl, rfl⟩
  dsimp only
  (repeat (first | (with_reducible refine inBlock_far (by decide) ?_) | (with_reducible refine then_exit ?_) | (with_reducible refine inBlock_here ?_) | ((fail_if_success (with_reducible refine calls_id ?_)); go_step)))
  refine (kr (256 + s) (by omega) (by omega) _).mono ?_
  rintro e w1 ⟨rfl, hw⟩
  obtain ⟨q0, q1, q2, qf⟩ := box3 (RowT.below hD0 hw); have hb := Below.trans hb0 (hw.mono hW)
  clear hw
  dsimp only
  (repeat (first | (with_reducible refine inBlock_far (by decide) ?_) | (with_reducible refine then_exit ?_) | (with_reducible refine inBlock_here ?_) | ((fail_if_success (with_reducible refine calls_id ?_)); go_step)))
  refine bodyPost_ret (v := .agg #[.int .u16 ((256 + s) % 8192), .bool false, .int .u8 0]) (by simp [results, Tryd.results11, go_sem, q0, q1, q2]) rfl ⟨rfl, ?_⟩
  repeat (first | (with_reducible exact hb) | (with_reducible refine Below.drew ?_) | (refine Below.setCell ?_ (by exact Nat.le_refl _) _))
set_option maxRecDepth 100000 in
set_option maxHeartbeats 8000000 in
theorem pins_47 (c : Cp) (ok : c.ok) (w : World) (B : Nat) (hS : CpuS w B c) (ht : c.t = 47) : Calls Tryd.prog 11 #[.pointer (some ⟨B, 0, none⟩)] w fun e w' => e = .returned (pinV (pinsN 47 c)) ∧ Below w.heap.size w w' := by
  obtain ⟨⟨a, x, y, s, p, pc⟩, t, op, nm, md, kd, kn, pl, wr, b⟩ := c
  simp only [] at ht
  subst ht
  obtain ⟨c0, c1, c2, c3, c4, c5, c6, c7, c8, c9, c10, c11, c12, c13, c14⟩ := hS.all
  obtain ⟨⟨a0, a1, x0, x1, y0, y1, s0, s1, p0, p1, pc0, pc1⟩, t0, t1, op0, op1, md0, md1, kd0, kd1, pl0, pl1, wr0, wr1, b0, b1⟩ := ok
  simp only [] at a0 a1 x0 x1 y0 y1 s0 s1 p0 p1 pc0 pc1 t0 t1 op0 op1 md0 md1 kd0 kd1 pl0 pl1 wr0 wr1 b0 b1
  have ff := hS.thaw
  have hlt := hS.lt
  have hR : CpuR w B _ := hS
  have hne : ¬ w.heap.size = B := by omega
  have hne' : ¬ B = w.heap.size := by omega
  have kst := fun w' h => stack_any ⟨⟨a, x, y, s, p, pc⟩, 47, op, nm, md, kd, kn, pl, wr, b⟩ (by exact ⟨⟨a0, a1, x0, x1, y0, y1, s0, s1, p0, p1, pc0, pc1⟩, t0, t1, op0, op1, md0, md1, kd0, kd1, pl0, pl1, wr0, wr1, b0, b1⟩) w' B h
  simp only [stackF] at kst
  have kr := fun v h0 h1 w' => read_ask v h0 h1 w'
  simp only [pinV, rdP] at kr
  go_enter Tryd.func11, Tryd.ntmps11
  repeat (first | (with_reducible refine wp_keep (fun W => RowT 40 W w.heap.size #[.int .u16 0, .bool false, .int .u8 0] ∧ CpuR W B (Cp.row ⟨⟨a, x, y, s, p, pc⟩, 47, op, nm, md, kd, kn, pl, wr, b⟩) ∧ Below w.heap.size w W) (And.intro (RowT.new w _ _) (And.intro (hR.alloc _) ((Below.refl _ _).alloc (Nat.le_refl _) _))) ?_) | go_step)
  rintro W0 ⟨hD0, hR0, hb0⟩
  clear c0 c1 c2 c3 c4 c5 c6 c7 c8 c9 c10 c11 c12 c13 c14 ff hS hR
  obtain ⟨c0, c1, c2, c3, c4, c5, c6, c7, c8, c9, c10, c11, c12, c13, c14⟩ := CpuS.all (show CpuS W0 B ⟨⟨a, x, y, s, p, pc⟩, 47, op, nm, md, kd, kn, pl, wr, b⟩ from hR0)
  have ff := hR0.thaw
  have l0 := hD0.lt
  have hW : w.heap.size ≤ W0.heap.size := Nat.le_of_lt l0
  have hnn := World.new_ne W0 _ c0
  (repeat (first | (with_reducible refine inBlock_far (by decide) ?_) | (with_reducible refine then_exit ?_) | (with_reducible refine inBlock_here ?_) | ((fail_if_success (with_reducible refine calls_id ?_)); go_step)))
  refine (kst _ hR0).mono ?_
  rintro e w1 ⟨rfl, rfl⟩
  dsimp only
  (repeat (first | (with_reducible refine inBlock_far (by decide) ?_) | (with_reducible refine then_exit ?_) | (with_reducible refine inBlock_here ?_) | ((fail_if_success (with_reducible refine calls_id ?_)); go_step)))
  refine (kr (256 + s) (by omega) (by omega) _).mono ?_
  rintro e w1 ⟨rfl, hw⟩
  obtain ⟨q0, q1, q2, qf⟩ := box3 (RowT.below hD0 hw); have hb := Below.trans hb0 (hw.mono hW)
  clear hw
  dsimp only
  (repeat (first | (with_reducible refine inBlock_far (by decide) ?_) | (with_reducible refine then_exit ?_) | (with_reducible refine inBlock_here ?_) | ((fail_if_success (with_reducible refine calls_id ?_)); go_step)))
  refine bodyPost_ret (v := .agg #[.int .u16 ((256 + s) % 8192), .bool false, .int .u8 0]) (by simp [results, Tryd.results11, go_sem, q0, q1, q2]) rfl ⟨rfl, ?_⟩
  repeat (first | (with_reducible exact hb) | (with_reducible refine Below.drew ?_) | (refine Below.setCell ?_ (by exact Nat.le_refl _) _))
set_option maxRecDepth 100000 in
set_option maxHeartbeats 8000000 in
theorem pins_48 (c : Cp) (ok : c.ok) (w : World) (B : Nat) (hS : CpuS w B c) (ht : c.t = 48) : Calls Tryd.prog 11 #[.pointer (some ⟨B, 0, none⟩)] w fun e w' => e = .returned (pinV (pinsN 48 c)) ∧ Below w.heap.size w w' := by
  obtain ⟨⟨a, x, y, s, p, pc⟩, t, op, nm, md, kd, kn, pl, wr, b⟩ := c
  simp only [] at ht
  subst ht
  obtain ⟨c0, c1, c2, c3, c4, c5, c6, c7, c8, c9, c10, c11, c12, c13, c14⟩ := hS.all
  obtain ⟨⟨a0, a1, x0, x1, y0, y1, s0, s1, p0, p1, pc0, pc1⟩, t0, t1, op0, op1, md0, md1, kd0, kd1, pl0, pl1, wr0, wr1, b0, b1⟩ := ok
  simp only [] at a0 a1 x0 x1 y0 y1 s0 s1 p0 p1 pc0 pc1 t0 t1 op0 op1 md0 md1 kd0 kd1 pl0 pl1 wr0 wr1 b0 b1
  have ff := hS.thaw
  have hlt := hS.lt
  have hR : CpuR w B _ := hS
  have hne : ¬ w.heap.size = B := by omega
  have hne' : ¬ B = w.heap.size := by omega
  have kst := fun w' h => stack_any ⟨⟨a, x, y, s, p, pc⟩, 48, op, nm, md, kd, kn, pl, wr, b⟩ (by exact ⟨⟨a0, a1, x0, x1, y0, y1, s0, s1, p0, p1, pc0, pc1⟩, t0, t1, op0, op1, md0, md1, kd0, kd1, pl0, pl1, wr0, wr1, b0, b1⟩) w' B h
  simp only [stackF] at kst
  have kr := fun v h0 h1 w' => read_ask v h0 h1 w'
  simp only [pinV, rdP] at kr
  go_enter Tryd.func11, Tryd.ntmps11
  repeat (first | (with_reducible refine wp_keep (fun W => RowT 40 W w.heap.size #[.int .u16 0, .bool false, .int .u8 0] ∧ CpuR W B (Cp.row ⟨⟨a, x, y, s, p, pc⟩, 48, op, nm, md, kd, kn, pl, wr, b⟩) ∧ Below w.heap.size w W) (And.intro (RowT.new w _ _) (And.intro (hR.alloc _) ((Below.refl _ _).alloc (Nat.le_refl _) _))) ?_) | go_step)
  rintro W0 ⟨hD0, hR0, hb0⟩
  clear c0 c1 c2 c3 c4 c5 c6 c7 c8 c9 c10 c11 c12 c13 c14 ff hS hR
  obtain ⟨c0, c1, c2, c3, c4, c5, c6, c7, c8, c9, c10, c11, c12, c13, c14⟩ := CpuS.all (show CpuS W0 B ⟨⟨a, x, y, s, p, pc⟩, 48, op, nm, md, kd, kn, pl, wr, b⟩ from hR0)
  have ff := hR0.thaw
  have l0 := hD0.lt
  have hW : w.heap.size ≤ W0.heap.size := Nat.le_of_lt l0
  have hnn := World.new_ne W0 _ c0
  (repeat (first | (with_reducible refine inBlock_far (by decide) ?_) | (with_reducible refine then_exit ?_) | (with_reducible refine inBlock_here ?_) | ((fail_if_success (with_reducible refine calls_id ?_)); go_step)))
  refine (kst _ hR0).mono ?_
  rintro e w1 ⟨rfl, rfl⟩
  dsimp only
  (repeat (first | (with_reducible refine inBlock_far (by decide) ?_) | (with_reducible refine then_exit ?_) | (with_reducible refine inBlock_here ?_) | ((fail_if_success (with_reducible refine calls_id ?_)); go_step)))
  refine (kr (256 + s) (by omega) (by omega) _).mono ?_
  rintro e w1 ⟨rfl, hw⟩
  obtain ⟨q0, q1, q2, qf⟩ := box3 (RowT.below hD0 hw); have hb := Below.trans hb0 (hw.mono hW)
  clear hw
  dsimp only
  (repeat (first | (with_reducible refine inBlock_far (by decide) ?_) | (with_reducible refine then_exit ?_) | (with_reducible refine inBlock_here ?_) | ((fail_if_success (with_reducible refine calls_id ?_)); go_step)))
  refine bodyPost_ret (v := .agg #[.int .u16 ((256 + s) % 8192), .bool false, .int .u8 0]) (by simp [results, Tryd.results11, go_sem, q0, q1, q2]) rfl ⟨rfl, ?_⟩
  repeat (first | (with_reducible exact hb) | (with_reducible refine Below.drew ?_) | (refine Below.setCell ?_ (by exact Nat.le_refl _) _))
set_option maxRecDepth 100000 in
set_option maxHeartbeats 8000000 in
theorem pins_49 (c : Cp) (ok : c.ok) (w : World) (B : Nat) (hS : CpuS w B c) (ht : c.t = 49) : Calls Tryd.prog 11 #[.pointer (some ⟨B, 0, none⟩)] w fun e w' => e = .returned (pinV (pinsN 49 c)) ∧ Below w.heap.size w w' := by
  obtain ⟨⟨a, x, y, s, p, pc⟩, t, op, nm, md, kd, kn, pl, wr, b⟩ := c
  simp only [] at ht
  subst ht
  obtain ⟨c0, c1, c2, c3, c4, c5, c6, c7, c8, c9, c10, c11, c12, c13, c14⟩ := hS.all
  obtain ⟨⟨a0, a1, x0, x1, y0, y1, s0, s1, p0, p1, pc0, pc1⟩, t0, t1, op0, op1, md0, md1, kd0, kd1, pl0, pl1, wr0, wr1, b0, b1⟩ := ok
  simp only [] at a0 a1 x0 x1 y0 y1 s0 s1 p0 p1 pc0 pc1 t0 t1 op0 op1 md0 md1 kd0 kd1 pl0 pl1 wr0 wr1 b0 b1
  have ff := hS.thaw
  have hlt := hS.lt
  have hR : CpuR w B _ := hS
  have hne : ¬ w.heap.size = B := by omega
  have hne' : ¬ B = w.heap.size := by omega
  have kst := fun w' h => stack_any ⟨⟨a, x, y, s, p, pc⟩, 49, op, nm, md, kd, kn, pl, wr, b⟩ (by exact ⟨⟨a0, a1, x0, x1, y0, y1, s0, s1, p0, p1, pc0, pc1⟩, t0, t1, op0, op1, md0, md1, kd0, kd1, pl0, pl1, wr0, wr1, b0, b1⟩) w' B h
  simp only [stackF] at kst
  have kr := fun v h0 h1 w' => read_ask v h0 h1 w'
  simp only [pinV, rdP] at kr
  go_enter Tryd.func11, Tryd.ntmps11
  repeat (first | (with_reducible refine wp_keep (fun W => RowT 40 W w.heap.size #[.int .u16 0, .bool false, .int .u8 0] ∧ CpuR W B (Cp.row ⟨⟨a, x, y, s, p, pc⟩, 49, op, nm, md, kd, kn, pl, wr, b⟩) ∧ Below w.heap.size w W) (And.intro (RowT.new w _ _) (And.intro (hR.alloc _) ((Below.refl _ _).alloc (Nat.le_refl _) _))) ?_) | go_step)
  rintro W0 ⟨hD0, hR0, hb0⟩
  clear c0 c1 c2 c3 c4 c5 c6 c7 c8 c9 c10 c11 c12 c13 c14 ff hS hR
  obtain ⟨c0, c1, c2, c3, c4, c5, c6, c7, c8, c9, c10, c11, c12, c13, c14⟩ := CpuS.all (show CpuS W0 B ⟨⟨a, x, y, s, p, pc⟩, 49, op, nm, md, kd, kn, pl, wr, b⟩ from hR0)
  have ff := hR0.thaw
  have l0 := hD0.lt
  have hW : w.heap.size ≤ W0.heap.size := Nat.le_of_lt l0
  have hnn := World.new_ne W0 _ c0
  (repeat (first | (with_reducible refine inBlock_far (by decide) ?_) | (with_reducible refine then_exit ?_) | (with_reducible refine inBlock_here ?_) | ((fail_if_success (with_reducible refine calls_id ?_)); go_step)))
  refine (kst _ hR0).mono ?_
  rintro e w1 ⟨rfl, rfl⟩
  dsimp only
  (repeat (first | (with_reducible refine inBlock_far (by decide) ?_) | (with_reducible refine then_exit ?_) | (with_reducible refine inBlock_here ?_) | ((fail_if_success (with_reducible refine calls_id ?_)); go_step)))
  refine (kr (256 + s) (by omega) (by omega) _).mono ?_
  rintro e w1 ⟨rfl, hw⟩
  obtain ⟨q0, q1, q2, qf⟩ := box3 (RowT.below hD0 hw); have hb := Below.trans hb0 (hw.mono hW)
  clear hw
  dsimp only
  (repeat (first | (with_reducible refine inBlock_far (by decide) ?_) | (with_reducible refine then_exit ?_) | (with_reducible refine inBlock_here ?_) | ((fail_if_success (with_reducible refine calls_id ?_)); go_step)))
  refine bodyPost_ret (v := .agg #[.int .u16 ((256 + s) % 8192), .bool false, .int .u8 0]) (by simp [results, Tryd.results11, go_sem, q0, q1, q2]) rfl ⟨rfl, ?_⟩
  repeat (first | (with_reducible exact hb) | (with_reducible refine Below.drew ?_) | (refine Below.setCell ?_ (by exact Nat.le_refl _) _))
set_option maxRecDepth 100000 in
set_option maxHeartbeats 8000000 in
theorem pins_50 (c : Cp) (ok : c.ok) (w : World) (B : Nat) (hS : CpuS w B c) (ht : c.t = 50) : Calls Tryd.prog 11 #[.pointer (some ⟨B, 0, none⟩)] w fun e w' => e = .returned (pinV (pinsN 50 c)) ∧ Below w.heap.size w w' := by
  obtain ⟨⟨a, x, y, s, p, pc⟩, t, op, nm, md, kd, kn, pl, wr, b⟩ := c
  simp only [] at ht
  subst ht
  obtain ⟨c0, c1, c2, c3, c4, c5, c6, c7, c8, c9, c10, c11, c12, c13, c14⟩ := hS.all
  obtain ⟨⟨a0, a1, x0, x1, y0, y1, s0, s1, p0, p1, pc0, pc1⟩, t0, t1, op0, op1, md0, md1, kd0, kd1, pl0, pl1, wr0, wr1, b0, b1⟩ := ok
  simp only [] at a0 a1 x0 x1 y0 y1 s0 s1 p0 p1 pc0 pc1 t0 t1 op0 op1 md0 md1 kd0 kd1 pl0 pl1 wr0 wr1 b0 b1
  have ff := hS.thaw
  have hlt := hS.lt
  have hR : CpuR w B _ := hS
  have hne : ¬ w.heap.size = B := by omega
  have hne' : ¬ B = w.heap.size := by omega
  have kst := fun w' h => stack_any ⟨⟨a, x, y, s, p, pc⟩, 50, op, nm, md, kd, kn, pl, wr, b⟩ (by exact ⟨⟨a0, a1, x0, x1, y0, y1, s0, s1, p0, p1, pc0, pc1⟩, t0, t1, op0, op1, md0, md1, kd0, kd1, pl0, pl1, wr0, wr1, b0, b1⟩) w' B h
  simp only [stackF] at kst
  have kr := fun v h0 h1 w' => read_ask v h0 h1 w'
  simp only [pinV, rdP] at kr
  go_enter Tryd.func11, Tryd.ntmps11
  repeat (first | (with_reducible refine wp_keep (fun W => RowT 40 W w.heap.size #[.int .u16 0, .bool false, .int .u8 0] ∧ CpuR W B (Cp.row ⟨⟨a, x, y, s, p, pc⟩, 50, op, nm, md, kd, kn, pl, wr, b⟩) ∧ Below w.heap.size w W) (And.intro (RowT.new w _ _) (And.intro (hR.alloc _) ((Below.refl _ _).alloc (Nat.le_refl _) _))) ?_) | go_step)
  rintro W0 ⟨hD0, hR0, hb0⟩
  clear c0 c1 c2 c3 c4 c5 c6 c7 c8 c9 c10 c11 c12 c13 c14 ff hS hR
  obtain ⟨c0, c1, c2, c3, c4, c5, c6, c7, c8, c9, c10, c11, c12, c13, c14⟩ := CpuS.all (show CpuS W0 B ⟨⟨a, x, y, s, p, pc⟩, 50, op, nm, md, kd, kn, pl, wr, b⟩ from hR0)
  have ff := hR0.thaw
  have l0 := hD0.lt
  have hW : w.heap.size ≤ W0.heap.size := Nat.le_of_lt l0
  have hnn := World.new_ne W0 _ c0
  (repeat (first | (with_reducible refine inBlock_far (by decide) ?_) | (with_reducible refine then_exit ?_) | (with_reducible refine inBlock_here ?_) | ((fail_if_success (with_reducible refine calls_id ?_)); go_step)))
  refine (kst _ hR0).mono ?_
  rintro e w1 ⟨rfl, rfl⟩
  dsimp only
  (repeat (first | (with_reducible refine inBlock_far (by decide) ?_) | (with_reducible refine then_exit ?_) | (with_reducible refine inBlock_here ?_) | ((fail_if_success (with_reducible refine calls_id ?_)); go_step)))
  refine (kr (256 + s) (by omega) (by omega) _).mono ?_
  rintro e w1 ⟨rfl, hw⟩
  obtain ⟨q0, q1, q2, qf⟩ := box3 (RowT.below hD0 hw); have hb := Below.trans hb0 (hw.mono hW)
  clear hw
  dsimp only
  (repeat (first | (with_reducible refine inBlock_far (by decide) ?_) | (with_reducible refine then_exit ?_) | (with_reducible refine inBlock_here ?_) | ((fail_if_success (with_reducible refine calls_id ?_)); go_step)))
  refine bodyPost_ret (v := .agg #[.int .u16 ((256 + s) % 8192), .bool false, .int .u8 0]) (by simp [results, Tryd.results11, go_sem, q0, q1, q2]) rfl ⟨rfl, ?_⟩
  repeat (first | (with_reducible exact hb) | (with_reducible refine Below.drew ?_) | (refine Below.setCell ?_ (by exact Nat.le_refl _) _))
end Go.Proofs.YthepcjecmlkaiaaDoor.Mi
