/- Package micro: its small functions and methods, walked. -/
import Derived.Test.YthepcjecmlkaiaaDoorZMicroBase
import Derived.Test.YthepcjecmlkaiaaDoorZAluWalks
import Derived.Test.YthepcjecmlkaiaaDoorZKeep
import Derived.Deep.RegionHeld3
import Derived.RegionTactic
import Derived.Deep.RegionWith
import Derived.BigQuiet
import Derived.IntWalk
namespace Go.Proofs.YthepcjecmlkaiaaDoor.Mi
open Go Go.RowKit Go.Deep Go.Proofs.YthepcjecmlkaiaaDoor Go.Proofs.YthepcjecmlkaiaaDoor.Ex
set_option linter.unusedVariables false
set_option linter.unusedSimpArgs false
theorem orw (l h : Int) (l0 : 0 ≤ l) (l1 : l ≤ 255) (h0 : 0 ≤ h) (h1 : h ≤ 255) : bits .or .u16 (h * 256) l = h * 256 + l := by
  rw [u16_or _ _ (by omega) (by omega) l0 (by omega)]
  have e1 : (h * 256).toNat = 2 ^ 8 * h.toNat := by omega
  rw [e1, Nat.or_comm, Nat.or_comm, ← Nat.two_pow_add_eq_or_of_lt (by omega : l.toNat < 2 ^ 8)]
  omega
theorem and8191 (v : Int) (h0 : 0 ≤ v) (h1 : v ≤ 65535) : bits .and .u16 v 8191 = v % 8192 := by
  rw [u16_and _ _ h0 (by omega) (by omega) (by omega)]
  have : v.toNat &&& (8191 : Int).toNat = v.toNat % 8192 := Nat.and_two_pow_sub_one_eq_mod v.toNat 13
  rw [this]; omega
set_option maxRecDepth 100000 in
theorem word_any (l h : Int) (l0 : 0 ≤ l) (l1 : l ≤ 255) (h0 : 0 ≤ h) (h1 : h ≤ 255) (w : World) : Calls Tryd.prog 36 #[.int .u8 l, .int .u8 h] w fun e w' => e = .returned (.int .u16 (wordF l h)) ∧ w' = w := by
  have q := orw l h l0 l1 h0 h1
  unfold wordF
  go_enter Tryd.func36, Tryd.ntmps36
  go_wp2
  go_ret
  exact ⟨rfl, rfl⟩
def pinV (q : Pn) : Value := .agg #[.int .u16 q.a, .bool q.w, .int .u8 q.d]
set_option maxRecDepth 100000 in
theorem read_ask (v : Int) (h0 : 0 ≤ v) (h1 : v ≤ 65535) (w : World) : Calls Tryd.prog 40 #[.int .u16 v] w fun e w' => e = .returned (pinV (rdP v)) ∧ Below w.heap.size w w' := by
  have q := and8191 v h0 h1
  unfold rdP pinV
  go_enter Tryd.func40, Tryd.ntmps40
  go_wp2
  refine bodyPost_ret (v := .agg #[.int .u16 (v % 8192), .bool false, .int .u8 0]) (by simp [results, Tryd.results40, go_sem]) rfl ⟨rfl, ?_⟩
  repeat (first | (with_reducible exact Below.refl _ _) | (with_reducible refine Below.setCell ?_ (by simp) _) | (with_reducible refine Below.alloc ?_ (by simp) _))
set_option maxRecDepth 100000 in
theorem write_ask (v d : Int) (h0 : 0 ≤ v) (h1 : v ≤ 65535) (w : World) : Calls Tryd.prog 42 #[.int .u16 v, .int .u8 d] w fun e w' => e = .returned (pinV (wrP v d)) ∧ Below w.heap.size w w' := by
  have q := and8191 v h0 h1
  unfold wrP pinV
  go_enter Tryd.func42, Tryd.ntmps42
  go_wp2
  refine bodyPost_ret (v := .agg #[.int .u16 (v % 8192), .bool true, .int .u8 d]) (by simp [results, Tryd.results42, go_sem]) rfl ⟨rfl, ?_⟩
  repeat (first | (with_reducible exact Below.refl _ _) | (with_reducible refine Below.setCell ?_ (by simp) _) | (with_reducible refine Below.alloc ?_ (by simp) _))
set_option maxRecDepth 100000 in
theorem clean_any (v : Int) (w : World) : Calls Tryd.prog 46 #[.int .u8 v] w fun e w' => e = .returned (.int .u8 (cleanF v)) ∧ w' = w := by
  unfold cleanF
  go_enter Tryd.func46, Tryd.ntmps46
  go_wp2
  go_ret
  exact ⟨rfl, rfl⟩
set_option maxRecDepth 100000 in
theorem stack_any (c : Cp) (ok : c.ok) (w : World) (B : Nat) (hS : CpuS w B c) : Calls Tryd.prog 41 #[.pointer (some ⟨B, 0, none⟩)] w fun e w' => e = .returned (.int .u16 (stackF c)) ∧ w' = w := by
  obtain ⟨⟨a, x, y, s, p, pc⟩, t, op, nm, md, kd, kn, pl, wr, b⟩ := c
  obtain ⟨c0, c1, c2, c3, c4, c5, c6, c7, c8, c9, c10, c11, c12, c13, c14⟩ := hS.all
  obtain ⟨⟨a0, a1, x0, x1, y0, y1, s0, s1, p0, p1, pc0, pc1⟩, t0, t1, op0, op1, md0, md1, kd0, kd1, pl0, pl1, wr0, wr1, b0, b1⟩ := ok
  simp only [] at a0 a1 x0 x1 y0 y1 s0 s1 p0 p1 pc0 pc1 t0 t1 op0 op1 md0 md1 kd0 kd1 pl0 pl1 wr0 wr1 b0 b1
  have ff := hS.thaw
  have hlt := hS.lt
  have hR : CpuR w B _ := hS
  have q : bits .or .u16 256 s = 256 + s := by have := orw s 1 s0 s1 (by omega) (by omega); simpa using this
  unfold stackF
  go_enter Tryd.func41, Tryd.ntmps41
  go_wp2
  go_ret
  exact ⟨rfl, rfl⟩
set_option maxRecDepth 100000 in
theorem base_any (c : Cp) (ok : c.ok) (w : World) (B : Nat) (hS : CpuS w B c) : Calls Tryd.prog 58 #[.pointer (some ⟨B, 0, none⟩)] w fun e w' => e = .returned (.int .u8 (baseF c)) ∧ w' = w := by
  obtain ⟨⟨a, x, y, s, p, pc⟩, t, op, nm, md, kd, kn, pl, wr, b⟩ := c
  obtain ⟨c0, c1, c2, c3, c4, c5, c6, c7, c8, c9, c10, c11, c12, c13, c14⟩ := hS.all
  obtain ⟨⟨a0, a1, x0, x1, y0, y1, s0, s1, p0, p1, pc0, pc1⟩, t0, t1, op0, op1, md0, md1, kd0, kd1, pl0, pl1, wr0, wr1, b0, b1⟩ := ok
  simp only [] at a0 a1 x0 x1 y0 y1 s0 s1 p0 p1 pc0 pc1 t0 t1 op0 op1 md0 md1 kd0 kd1 pl0 pl1 wr0 wr1 b0 b1
  have ff := hS.thaw
  have hlt := hS.lt
  have hR : CpuR w B _ := hS
  have q : wr / 256 % 256 = wr / 256 := by omega
  unfold baseF
  go_enter Tryd.func58, Tryd.ntmps58
  go_wp2
  go_ret
  exact ⟨rfl, rfl⟩
set_option maxRecDepth 100000 in
theorem index_any (c : Cp) (ok : c.ok) (w : World) (B : Nat) (hS : CpuS w B c) : Calls Tryd.prog 34 #[.pointer (some ⟨B, 0, none⟩)] w fun e w' => e = .returned (.int .u8 (idxF c)) ∧ w' = w := by
  obtain ⟨⟨a, x, y, s, p, pc⟩, t, op, nm, md, kd, kn, pl, wr, b⟩ := c
  obtain ⟨c0, c1, c2, c3, c4, c5, c6, c7, c8, c9, c10, c11, c12, c13, c14⟩ := hS.all
  obtain ⟨⟨a0, a1, x0, x1, y0, y1, s0, s1, p0, p1, pc0, pc1⟩, t0, t1, op0, op1, md0, md1, kd0, kd1, pl0, pl1, wr0, wr1, b0, b1⟩ := ok
  simp only [] at a0 a1 x0 x1 y0 y1 s0 s1 p0 p1 pc0 pc1 t0 t1 op0 op1 md0 md1 kd0 kd1 pl0 pl1 wr0 wr1 b0 b1
  have ff := hS.thaw
  have hlt := hS.lt
  have hR : CpuR w B _ := hS
  clear c0 c3 c4 c5 c6 c7 c8 c10 c11 c12 c13 c14 ff hlt hR hS
  rcases (by omega : md = 0 ∨ md = 1 ∨ md = 2 ∨ md = 3 ∨ md = 4 ∨ md = 5 ∨ md = 6 ∨ md = 7 ∨ md = 8 ∨ md = 9 ∨ md = 10 ∨ md = 11 ∨ md = 12) with rfl | rfl | rfl | rfl | rfl | rfl | rfl | rfl | rfl | rfl | rfl | rfl | rfl
  all_goals
    go_enter Tryd.func34, Tryd.ntmps34
    go_wp2
    go_ret
    exact ⟨rfl, rfl⟩
set_option maxRecDepth 100000 in
theorem access_any (c : Cp) (ok : c.ok) (w : World) (B : Nat) (hS : CpuS w B c) : Calls Tryd.prog 33 #[.pointer (some ⟨B, 0, none⟩)] w fun e w' => e = .returned (.int .u8 (accF c)) ∧ w' = w := by
  obtain ⟨⟨a, x, y, s, p, pc⟩, t, op, nm, md, kd, kn, pl, wr, b⟩ := c
  obtain ⟨c0, c1, c2, c3, c4, c5, c6, c7, c8, c9, c10, c11, c12, c13, c14⟩ := hS.all
  obtain ⟨⟨a0, a1, x0, x1, y0, y1, s0, s1, p0, p1, pc0, pc1⟩, t0, t1, op0, op1, md0, md1, kd0, kd1, pl0, pl1, wr0, wr1, b0, b1⟩ := ok
  simp only [] at a0 a1 x0 x1 y0 y1 s0 s1 p0 p1 pc0 pc1 t0 t1 op0 op1 md0 md1 kd0 kd1 pl0 pl1 wr0 wr1 b0 b1
  have ff := hS.thaw
  have hlt := hS.lt
  have hR : CpuR w B _ := hS
  unfold accF
  by_cases h : kd = 2
  · subst h
    rw [if_pos rfl]
    go_enter Tryd.func33, Tryd.ntmps33
    go_wp2
    go_ret
    exact ⟨rfl, rfl⟩
  · rw [if_neg h]
    have hq : (kd == 2) = false := beq_false_of_ne h
    go_enter Tryd.func33, Tryd.ntmps33
    go_wp2
    go_ret
    exact ⟨rfl, rfl⟩
set_option maxRecDepth 100000 in
theorem next_any (c : Cp) (ok : c.ok) (w : World) (B : Nat) (hS : CpuS w B c) (v : Int) : Calls Tryd.prog 29 #[.pointer (some ⟨B, 0, none⟩), .int .u8 v] w (MPost w B (nextF c v)) := by
  obtain ⟨⟨a, x, y, s, p, pc⟩, t, op, nm, md, kd, kn, pl, wr, b⟩ := c
  obtain ⟨c0, c1, c2, c3, c4, c5, c6, c7, c8, c9, c10, c11, c12, c13, c14⟩ := hS.all
  obtain ⟨⟨a0, a1, x0, x1, y0, y1, s0, s1, p0, p1, pc0, pc1⟩, t0, t1, op0, op1, md0, md1, kd0, kd1, pl0, pl1, wr0, wr1, b0, b1⟩ := ok
  simp only [] at a0 a1 x0 x1 y0 y1 s0 s1 p0 p1 pc0 pc1 t0 t1 op0 op1 md0 md1 kd0 kd1 pl0 pl1 wr0 wr1 b0 b1
  have ff := hS.thaw
  have hlt := hS.lt
  have hR : CpuR w B _ := hS
  go_enter Tryd.func29, Tryd.ntmps29
  go_wp2
  refine bodyPost_end (results_none rfl _ _ _) rfl ⟨rfl, ?_, ?_⟩
  · apply CpuS.mk2
    · repeat (first | with_reducible exact hR | apply CpuR.set)
    · rfl
  · repeat (first | with_reducible exact Besd.refl _ _ _ | refine Besd.own ?_ _ _)
set_option maxRecDepth 100000 in
theorem decode_mode (c : Cp) (ok : c.ok) (w : World) (B : Nat) (hS : CpuS w B c) (hk : c.kd = 0 ∨ c.kd = 1 ∨ c.kd = 2 ∨ c.kd = 3) : Calls Tryd.prog 30 #[.pointer (some ⟨B, 0, none⟩)] w fun e w' => e = .returned (.int .u8 (decF c.kd c.md)) ∧ w' = w := by
  obtain ⟨⟨a, x, y, s, p, pc⟩, t, op, nm, md, kd, kn, pl, wr, b⟩ := c
  obtain ⟨c0, c1, c2, c3, c4, c5, c6, c7, c8, c9, c10, c11, c12, c13, c14⟩ := hS.all
  obtain ⟨⟨a0, a1, x0, x1, y0, y1, s0, s1, p0, p1, pc0, pc1⟩, t0, t1, op0, op1, md0, md1, kd0, kd1, pl0, pl1, wr0, wr1, b0, b1⟩ := ok
  simp only [] at a0 a1 x0 x1 y0 y1 s0 s1 p0 p1 pc0 pc1 t0 t1 op0 op1 md0 md1 kd0 kd1 pl0 pl1 wr0 wr1 b0 b1
  have ff := hS.thaw
  have hlt := hS.lt
  have hR : CpuR w B _ := hS
  simp only [] at hk
  have e4 : (kd == 4) = false := beq_false_of_ne (by omega)
  have e5 : (kd == 5) = false := beq_false_of_ne (by omega)
  have e6 : (kd == 6) = false := beq_false_of_ne (by omega)
  have e7 : (kd == 7) = false := beq_false_of_ne (by omega)
  have e8 : (kd == 8) = false := beq_false_of_ne (by omega)
  have e9 : (kd == 9) = false := beq_false_of_ne (by omega)
  have e10 : (kd == 10) = false := beq_false_of_ne (by omega)
  have e11 : (kd == 11) = false := beq_false_of_ne (by omega)
  have e12 : (kd == 12) = false := beq_false_of_ne (by omega)
  have hd : decF kd md = decF 0 md := by unfold decF; simp only [show ¬ kd = 12 from by omega, show ¬ kd = 4 from by omega, show ¬ kd = 5 from by omega, show ¬ kd = 6 from by omega, show ¬ kd = 7 from by omega, show ¬ kd = 8 from by omega, show ¬ kd = 9 from by omega, show ¬ kd = 10 from by omega, show ¬ kd = 11 from by omega, if_false]; rfl
  show Calls _ _ _ _ fun e w' => e = .returned (.int .u8 (decF kd md)) ∧ w' = w
  rw [hd]
  clear hd c0 c1 c2 c3 c4 c5 c6 c7 c8 c11 c12 c13 c14 ff hlt hR hS hk
  rcases (by omega : md = 0 ∨ md = 1 ∨ md = 2 ∨ md = 3 ∨ md = 4 ∨ md = 5 ∨ md = 6 ∨ md = 7 ∨ md = 8 ∨ md = 9 ∨ md = 10 ∨ md = 11 ∨ md = 12) with rfl | rfl | rfl | rfl | rfl | rfl | rfl | rfl | rfl | rfl | rfl | rfl | rfl
  all_goals
    go_enter Tryd.func30, Tryd.ntmps30
    go_wp2
    go_ret
    exact ⟨rfl, rfl⟩
set_option maxRecDepth 100000 in
theorem decode_any (c : Cp) (ok : c.ok) (w : World) (B : Nat) (hS : CpuS w B c) : Calls Tryd.prog 30 #[.pointer (some ⟨B, 0, none⟩)] w fun e w' => e = .returned (.int .u8 (decF c.kd c.md)) ∧ w' = w := by
  by_cases hk : c.kd = 0 ∨ c.kd = 1 ∨ c.kd = 2 ∨ c.kd = 3
  · exact decode_mode c ok w B hS hk
  obtain ⟨⟨a, x, y, s, p, pc⟩, t, op, nm, md, kd, kn, pl, wr, b⟩ := c
  obtain ⟨c0, c1, c2, c3, c4, c5, c6, c7, c8, c9, c10, c11, c12, c13, c14⟩ := hS.all
  obtain ⟨⟨a0, a1, x0, x1, y0, y1, s0, s1, p0, p1, pc0, pc1⟩, t0, t1, op0, op1, md0, md1, kd0, kd1, pl0, pl1, wr0, wr1, b0, b1⟩ := ok
  simp only [] at a0 a1 x0 x1 y0 y1 s0 s1 p0 p1 pc0 pc1 t0 t1 op0 op1 md0 md1 kd0 kd1 pl0 pl1 wr0 wr1 b0 b1
  have ff := hS.thaw
  have hlt := hS.lt
  have hR : CpuR w B _ := hS
  simp only [] at hk
  clear c0 c1 c2 c3 c4 c5 c6 c7 c8 c11 c12 c13 c14 ff hlt hR hS
  rcases (by omega : kd = 4 ∨ kd = 5 ∨ kd = 6 ∨ kd = 7 ∨ kd = 8 ∨ kd = 9 ∨ kd = 10 ∨ kd = 11 ∨ kd = 12) with rfl | rfl | rfl | rfl | rfl | rfl | rfl | rfl | rfl
  all_goals
    clear hk
    go_enter Tryd.func30, Tryd.ntmps30
    go_wp2
    go_ret
    exact ⟨rfl, rfl⟩
end Go.Proofs.YthepcjecmlkaiaaDoor.Mi
