/- Package micro: what calls package exec, and the places behind an index, walked. -/
import Derived.Test.YthepcjecmlkaiaaDoorZMicroM
import Derived.Test.YthepcjecmlkaiaaDoorZAluWalks
import Derived.Test.YthepcjecmlkaiaaDoorZKeep
import Derived.Deep.RegionHeld3
import Derived.RegionTactic
import Derived.Deep.RegionWith
import Derived.BigQuiet
import Derived.IntWalk
namespace Go.Proofs.YthepcjecmlkaiaaDoor.Mi
open Go Go.RowKit Go.Deep Go.Proofs.YthepcjecmlkaiaaDoor Go.Proofs.YthepcjecmlkaiaaDoor.Ex
set_option linter.unusedVariables false
set_option linter.unusedSimpArgs false
set_option maxRecDepth 100000 in
set_option maxHeartbeats 4000000 in
theorem turned_any (c : Cp) (ok : c.ok) (w : World) (B : Nat) (hS : CpuS w B c) : Calls Tryd.prog 38 #[.pointer (some ⟨B, 0, none⟩)] w fun e w' => e = .returned (.tuple #[.int .u8 (tuVF c), rgU (tuRF c)]) ∧ Below w.heap.size w w' := by
  obtain ⟨⟨a, x, y, s, p, pc⟩, t, op, nm, md, kd, kn, pl, wr, b⟩ := c
  obtain ⟨c0, c1, c2, c3, c4, c5, c6, c7, c8, c9, c10, c11, c12, c13, c14⟩ := hS.all
  obtain ⟨⟨a0, a1, x0, x1, y0, y1, s0, s1, p0, p1, pc0, pc1⟩, t0, t1, op0, op1, md0, md1, kd0, kd1, pl0, pl1, wr0, wr1, b0, b1⟩ := ok
  simp only [] at a0 a1 x0 x1 y0 y1 s0 s1 p0 p1 pc0 pc1 t0 t1 op0 op1 md0 md1 kd0 kd1 pl0 pl1 wr0 wr1 b0 b1
  have ff := hS.thaw
  have hlt := hS.lt
  have hR : CpuR w B _ := hS
  have kt := fun w' => turn_any ⟨a, x, y, s, p, pc⟩ ⟨a0, a1, x0, x1, y0, y1, s0, s1, p0, p1, pc0, pc1⟩ b b0 b1 nm w'
  unfold tuVF tuRF
  show Calls _ _ _ _ fun e w' => e = .returned (.tuple #[.int .u8 (turnV (tuK nm) p b), rgU (turnR (tuK nm) ⟨a, x, y, s, p, pc⟩ b)]) ∧ Below w.heap.size w w'
  simp only [] at kt
  generalize turnV (tuK nm) p b = V at *
  generalize turnR (tuK nm) ⟨a, x, y, s, p, pc⟩ b = R at *
  obtain ⟨ra, rx, ry, rs, rp, rpc⟩ := R
  simp only [rgU] at kt ⊢
  have hne : ¬ w.heap.size = B := by omega
  have hne' : ¬ B = w.heap.size := by omega
  have hA := heap_alloc_new w (.cells #[.int .u8 0, .int .u8 0, .int .u8 0, .int .u8 0, .int .u8 0, .int .u16 0] 24)
  go_enter Tryd.func38, Tryd.ntmps38
  go_wp2_with fail
  go_region_held3 (fun w' => w'.cell? ⟨B, 8, none⟩ = some (.string nm) ∧ w'.cell? ⟨B, 0, none⟩ = some (.int .u8 a) ∧ w'.cell? ⟨B, 1, none⟩ = some (.int .u8 x) ∧ w'.cell? ⟨B, 2, none⟩ = some (.int .u8 y) ∧ w'.cell? ⟨B, 3, none⟩ = some (.int .u8 s) ∧ w'.cell? ⟨B, 4, none⟩ = some (.int .u8 p) ∧ w'.cell? ⟨B, 5, none⟩ = some (.int .u16 pc) ∧ w'.cell? ⟨B, 14, none⟩ = some (.int .u8 b)) (go_keep) ((go_at_call 60; refine (kt _).mono ?_; rintro e w1 ⟨rfl, hw⟩; have hR1 := CpuR.below (CpuR.drew (CpuR.alloc hR _)) hw; obtain ⟨d0, d1, d2, d3, d4, d5, d6, d7, d8, d9, d10, d11, d12, d13, d14⟩ := CpuS.all (show CpuS w1 B ⟨⟨a, x, y, s, p, pc⟩, t, op, nm, md, _, kn, pl, wr, b⟩ from hR1); have gg := hR1.thaw; obtain ⟨q0, q1, q2, q3, q4, q5, qf⟩ := box6 ((hw.block w.heap.size (by simp [World.drew])).trans hA); have hz := hw.size; have hb : Below w.heap.size w w1 := Below.trans ((Below.alloc (Below.refl _ _) (Nat.le_refl _) (.cells #[.int .u8 0, .int .u8 0, .int .u8 0, .int .u8 0, .int .u8 0, .int .u16 0] 24)).drew) (hw.mono (by simp [World.drew]))))
  go_wp2_with fail
  refine bodyPost_ret (v := .tuple #[.int .u8 V, .agg #[.int .u8 ra, .int .u8 rx, .int .u8 ry, .int .u8 rs, .int .u8 rp, .int .u16 rpc]]) (by simp [results, Tryd.results38, go_sem, q0, q1, q2, q3, q4, q5]) rfl ⟨rfl, ?_⟩
  repeat (first | (with_reducible exact Below.refl _ _) | (with_reducible exact hb) | (with_reducible refine Below.drew ?_) | (with_reducible refine Below.setCell ?_ (by simp only [World.size_alloc, World.size_setCell]; omega) _) | (with_reducible refine Below.alloc ?_ (by simp) _))
set_option maxRecDepth 100000 in
set_option maxHeartbeats 4000000 in
theorem turnA_any (r : Rg) (ok : r.ok) (nm : ByteArray) (w : World) : Calls Tryd.prog 55 #[.string nm, rgU r] w fun e w' => e = .returned (rgU (turnAF nm r)) ∧ Below w.heap.size w w' := by
  have kt := fun w' => turn_any r ok r.a ok.a0 ok.a1 nm w'
  unfold turnAF
  generalize turnV (tuK nm) r.p r.a = V at *
  generalize turnR (tuK nm) r r.a = R at *
  obtain ⟨a, x, y, s, p, pc⟩ := r
  obtain ⟨ra, rx, ry, rs, rp, rpc⟩ := R
  clear ok
  simp only [rgU] at kt ⊢
  go_enter Tryd.func55, Tryd.ntmps55
  repeat (first | (with_reducible refine wp_keep _ (((KS.nil w).alloc #[_, _, _, _, _, _] _).alloc #[_, _, _, _, _, _] _) ?_) | go_step)
  rintro W0 hS0
  have hk0 := hS0.2.2
  simp only [World.size_alloc, List.forall_mem_cons] at hk0
  obtain ⟨⟨-, l1, t1, f1⟩, ⟨-, l0, t0, f0⟩, -⟩ := hk0
  have z0 : W0.cell? ⟨w.heap.size, 0, none⟩ = some (.int .u8 a) := t0 0
  have z1 : W0.cell? ⟨w.heap.size, 1, none⟩ = some (.int .u8 x) := t0 1
  have z2 : W0.cell? ⟨w.heap.size, 2, none⟩ = some (.int .u8 y) := t0 2
  have z3 : W0.cell? ⟨w.heap.size, 3, none⟩ = some (.int .u8 s) := t0 3
  have z4 : W0.cell? ⟨w.heap.size, 4, none⟩ = some (.int .u8 p) := t0 4
  have z5 : W0.cell? ⟨w.heap.size, 5, none⟩ = some (.int .u16 pc) := t0 5
  clear t0 t1 f0 f1 l0 l1
  go_wp2_with fail
  refine (kt _).mono ?_
  rintro e w1 ⟨rfl, hw⟩
  have hS1 := hS0.below hw
  clear hw z0 z1 z2 z3 z4 z5
  dsimp only
  repeat (first | (with_reducible refine wp_keep _ (hS1.alloc #[.int .u8 ra, .int .u8 rx, .int .u8 ry, .int .u8 rs, .int .u8 rp, .int .u16 rpc] _) ?_) | go_step)
  rintro W2 hS2
  have hb := hS2.1
  have hk := hS2.2.2
  simp only [World.size_alloc, List.forall_mem_cons] at hk
  obtain ⟨⟨-, l2, t2, f2⟩, ⟨-, l1, t1, f1⟩, ⟨-, l0, -, -⟩, -⟩ := hk
  have l3 := hS1.2.2
  simp only [World.size_alloc, List.forall_mem_cons] at l3
  obtain ⟨⟨-, l3, -, -⟩, -⟩ := l3
  have hne : ¬ w1.heap.size = w.heap.size + 1 := by omega
  have hD : w.heap.size ≤ w.heap.size + 1 := by omega
  have hE : w.heap.size ≤ w1.heap.size := by omega
  clear hS0 hS1 hS2 l0 l1 l2 l3
  generalize w.heap.size + 1 = D at *
  generalize w1.heap.size = E at *
  have hne' : ¬ D = E := fun h => hne h.symm
  have z0 : W2.cell? ⟨E, 0, none⟩ = some (.int .u8 ra) := t2 0
  have z1 : W2.cell? ⟨E, 1, none⟩ = some (.int .u8 rx) := t2 1
  have z2 : W2.cell? ⟨E, 2, none⟩ = some (.int .u8 ry) := t2 2
  have z3 : W2.cell? ⟨E, 3, none⟩ = some (.int .u8 rs) := t2 3
  have z4 : W2.cell? ⟨E, 4, none⟩ = some (.int .u8 rp) := t2 4
  have z5 : W2.cell? ⟨E, 5, none⟩ = some (.int .u16 rpc) := t2 5
  have q0 : W2.cell? ⟨D, 0, none⟩ = some (.int .u8 0) := t1 0
  have q1 : W2.cell? ⟨D, 1, none⟩ = some (.int .u8 0) := t1 1
  have q2 : W2.cell? ⟨D, 2, none⟩ = some (.int .u8 0) := t1 2
  have q3 : W2.cell? ⟨D, 3, none⟩ = some (.int .u8 0) := t1 3
  have q4 : W2.cell? ⟨D, 4, none⟩ = some (.int .u8 0) := t1 4
  have q5 : W2.cell? ⟨D, 5, none⟩ = some (.int .u16 0) := t1 5
  clear t1 t2
  repeat go_step
  refine bodyPost_ret (v := .agg #[.int .u8 V, .int .u8 rx, .int .u8 ry, .int .u8 rs, .int .u8 rp, .int .u16 rpc]) (by simp [results, Tryd.results55, go_sem, q0, q1, q2, q3, q4, q5]) rfl ⟨rfl, ?_⟩
  repeat (first | (with_reducible exact hb) | (with_reducible refine Below.setCell ?_ (by assumption) _))
set_option maxRecDepth 100000 in
set_option maxHeartbeats 4000000 in
theorem done_any (c : Cp) (ok : c.ok) (w : World) (B : Nat) (hS : CpuS w B c) : Calls Tryd.prog 32 #[.pointer (some ⟨B, 0, none⟩)] w (MPost w B (doneF c)) := by
  obtain ⟨⟨a, x, y, s, p, pc⟩, t, op, nm, md, kd, kn, pl, wr, b⟩ := c
  obtain ⟨c0, c1, c2, c3, c4, c5, c6, c7, c8, c9, c10, c11, c12, c13, c14⟩ := hS.all
  obtain ⟨⟨a0, a1, x0, x1, y0, y1, s0, s1, p0, p1, pc0, pc1⟩, t0, t1, op0, op1, md0, md1, kd0, kd1, pl0, pl1, wr0, wr1, b0, b1⟩ := ok
  simp only [] at a0 a1 x0 x1 y0 y1 s0 s1 p0 p1 pc0 pc1 t0 t1 op0 op1 md0 md1 kd0 kd1 pl0 pl1 wr0 wr1 b0 b1
  have ff := hS.thaw
  have hlt := hS.lt
  have hR : CpuR w B _ := hS
  have ks := fun w' => self_any ⟨a, x, y, s, p, pc⟩ ⟨a0, a1, x0, x1, y0, y1, s0, s1, p0, p1, pc0, pc1⟩ nm w'
  have kt := fun w' => turnA_any ⟨a, x, y, s, p, pc⟩ ⟨a0, a1, x0, x1, y0, y1, s0, s1, p0, p1, pc0, pc1⟩ nm w'
  unfold doneF
  by_cases h : kd = 3
  · subst h
    show Calls _ _ _ _ (MPost w B ⟨turnAF nm ⟨a, x, y, s, p, pc⟩, t, op, nm, md, 3, kn, pl, wr, b⟩)
    generalize turnAF nm ⟨a, x, y, s, p, pc⟩ = R at *
    obtain ⟨ra, rx, ry, rs, rp, rpc⟩ := R
    simp only [rgU] at kt
    clear ks
    go_enter Tryd.func32, Tryd.ntmps32
    go_wp2_with fail
    go_region_with ((first | (go_at_call 55; refine (kt _).mono ?_; rintro e w1 ⟨rfl, hw⟩; have hR1 := CpuR.below (CpuR.drew hR) hw; obtain ⟨d0, d1, d2, d3, d4, d5, d6, d7, d8, d9, d10, d11, d12, d13, d14⟩ := CpuS.all (show CpuS w1 B ⟨⟨a, x, y, s, p, pc⟩, t, op, nm, md, _, kn, pl, wr, b⟩ from hR1); have gg := hR1.thaw; have hB1 : Besd B w.heap.size w w1 := ((Besd.refl B w.heap.size w).drew.below hw (Nat.le_refl _))) | fail))
    all_goals go_wp2_with fail
    all_goals refine bodyPost_end (results_none rfl _ _ _) rfl ⟨rfl, ?_, ?_⟩
    all_goals first
      | (apply CpuS.mk2; (repeat (first | with_reducible exact hR1 | apply CpuR.set)); rfl)
      | (repeat (first | with_reducible exact hB1 | refine Besd.own ?_ _ _))
  · have hq : (kd == 3) = false := beq_false_of_ne h
    show Calls _ _ _ _ (MPost w B ⟨if kd = 3 then turnAF nm ⟨a, x, y, s, p, pc⟩ else selfF (seK nm) ⟨a, x, y, s, p, pc⟩, t, op, nm, md, kd, kn, pl, wr, b⟩)
    rw [if_neg h]
    generalize selfF (seK nm) ⟨a, x, y, s, p, pc⟩ = R at *
    obtain ⟨ra, rx, ry, rs, rp, rpc⟩ := R
    simp only [rgU] at ks
    clear kt
    go_enter Tryd.func32, Tryd.ntmps32
    go_wp2_with fail
    go_region_with ((first | (go_at_call 56; refine (ks _).mono ?_; rintro e w1 ⟨rfl, hw⟩; have hR1 := CpuR.below (CpuR.drew hR) hw; obtain ⟨d0, d1, d2, d3, d4, d5, d6, d7, d8, d9, d10, d11, d12, d13, d14⟩ := CpuS.all (show CpuS w1 B ⟨⟨a, x, y, s, p, pc⟩, t, op, nm, md, _, kn, pl, wr, b⟩ from hR1); have gg := hR1.thaw; have hB1 : Besd B w.heap.size w w1 := ((Besd.refl B w.heap.size w).drew.below hw (Nat.le_refl _))) | fail))
    all_goals go_wp2_with fail
    all_goals refine bodyPost_end (results_none rfl _ _ _) rfl ⟨rfl, ?_, ?_⟩
    all_goals first
      | (apply CpuS.mk2; (repeat (first | with_reducible exact hR1 | apply CpuR.set)); rfl)
      | (repeat (first | with_reducible exact hB1 | refine Besd.own ?_ _ _))
end Go.Proofs.YthepcjecmlkaiaaDoor.Mi
