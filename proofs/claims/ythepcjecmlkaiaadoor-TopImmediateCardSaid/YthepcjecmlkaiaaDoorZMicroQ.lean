/- Package micro: the places behind an index; a branch. -/
import Derived.Test.YthepcjecmlkaiaaDoorZMicroN
import Derived.Test.YthepcjecmlkaiaaDoorZAluWalks
import Derived.Test.YthepcjecmlkaiaaDoorZKeep
import Derived.Deep.RegionHeld3
import Derived.RegionTactic
import Derived.Deep.RegionWith
import Derived.BigQuiet
import Derived.IntWalk
namespace Go.Proofs.YthepcjecmlkaiaaDoor.Mi
open Go Go.RowKit Go.Deep Go.Proofs.YthepcjecmlkaiaaDoor Go.Proofs.YthepcjecmlkaiaaDoor.Ex
set_option linter.unusedVariables false
set_option linter.unusedSimpArgs false
theorem and255 (v : Int) (h0 : 0 ≤ v) (h1 : v ≤ 65535) : bits .and .u16 v 255 = v % 256 := by
  rw [u16_and _ _ h0 (by omega) (by omega) (by omega)]
  have : v.toNat &&& (255 : Int).toNat = v.toNat % 256 := Nat.and_two_pow_sub_one_eq_mod v.toNat 8
  rw [this]; omega
theorem CpuR.drewN {W : World} {B : Nat} {cs : Array Value} (h : CpuR W B cs) (n : Nat) : CpuR (W.drewN n) B cs := h
theorem Besd.drewN {B n : Nat} {a w : World} (h : Besd B n a w) (m : Nat) : Besd B n a (w.drewN m) := ⟨h.os, h.tape, h.output, h.size, h.block⟩
theorem spare_i8 (b : Int) (h0 : 0 ≤ b) (h1 : b ≤ 255) : IntKind.i8.wrap b = spare b := Alu.byte_cases (P := fun b => IntKind.i8.wrap b = spare b) (by decide +kernel) b h0 h1
theorem spare_in (b : Int) (h0 : 0 ≤ b) (h1 : b ≤ 255) : -128 ≤ spare b ∧ spare b ≤ 127 := by unfold spare; split <;> omega
set_option maxRecDepth 100000 in
set_option maxHeartbeats 4000000 in
theorem branch_any (c : Cp) (ok : c.ok) (w : World) (B : Nat) (hS : CpuS w B c) : Calls Tryd.prog 62 #[.pointer (some ⟨B, 0, none⟩), .int .u8 c.b] w (MPost w B (branchF c c.b)) := by
  obtain ⟨⟨a, x, y, s, p, pc⟩, t, op, nm, md, kd, kn, pl, wr, b⟩ := c
  obtain ⟨c0, c1, c2, c3, c4, c5, c6, c7, c8, c9, c10, c11, c12, c13, c14⟩ := hS.all
  obtain ⟨⟨a0, a1, x0, x1, y0, y1, s0, s1, p0, p1, pc0, pc1⟩, t0, t1, op0, op1, md0, md1, kd0, kd1, pl0, pl1, wr0, wr1, b0, b1⟩ := ok
  simp only [] at a0 a1 x0 x1 y0 y1 s0 s1 p0 p1 pc0 pc1 t0 t1 op0 op1 md0 md1 kd0 kd1 pl0 pl1 wr0 wr1 b0 b1
  have ff := hS.thaw
  have hlt := hS.lt
  have hR : CpuR w B _ := hS
  have hs := spare_i8 b b0 b1
  have hr := spare_in b b0 b1
  have h16 : IntKind.i16.wrap (spare b) = spare b := IntWalk.i16_in _ (by omega)
  have hu : IntKind.u16.wrap (spare b) = spare b % 65536 := by rw [IntKind.wrap_u16]
  obtain ⟨g, hg⟩ : ∃ g, g = (pc + spare b) % 65536 := ⟨_, rfl⟩
  have hG : IntKind.u16.wrap (pc + spare b % 65536) = g := by rw [IntKind.wrap_u16, hg]; omega
  unfold branchF
  simp only []
  rw [← hg]
  clear hg
  generalize spare b = sb at *
  obtain ⟨q, hQ⟩ : ∃ q, q = bits .or .u16 (bits .and .u16 pc 65280) (bits .and .u16 g 255) := ⟨_, rfl⟩
  rw [← hQ]
  have hQ' := hQ.symm
  clear hQ
  by_cases h : g = q
  · have hq : (g != q) = false := by simp [h]
    rw [if_pos h]
    have h' := Lib.hid h
    clear h
    go_enter Tryd.func62, Tryd.ntmps62
    go_wp2_with fail
    all_goals skip
    all_goals refine bodyPost_end (results_none rfl _ _ _) rfl ⟨rfl, ?_, ?_⟩
    all_goals first
      | (apply CpuS.mk2; (repeat (first | with_reducible exact hR | apply CpuR.set)); rfl)
      | (repeat (first | with_reducible exact Besd.refl _ _ _ | refine Besd.own ?_ _ _))
  · have hq : (g != q) = true := by simp [h]
    rw [if_neg h]
    clear h
    go_enter Tryd.func62, Tryd.ntmps62
    go_wp2_with fail
    all_goals skip
    all_goals refine bodyPost_end (results_none rfl _ _ _) rfl ⟨rfl, ?_, ?_⟩
    all_goals first
      | (apply CpuS.mk2; (repeat (first | with_reducible exact hR | apply CpuR.set)); rfl)
      | (repeat (first | with_reducible exact Besd.refl _ _ _ | refine Besd.own ?_ _ _))
set_option maxRecDepth 100000 in
set_option maxHeartbeats 4000000 in
theorem far_any (c : Cp) (ok : c.ok) (w : World) (B : Nat) (hS : CpuS w B c) (l h : Int) (l0 : 0 ≤ l) (l1 : l ≤ 255) (h0 : 0 ≤ h) (h1 : h ≤ 255) : Calls Tryd.prog 35 #[.pointer (some ⟨B, 0, none⟩), .int .u8 l, .int .u8 h] w (MPost w B (farF c l h)) := by
  obtain ⟨⟨a, x, y, s, p, pc⟩, t, op, nm, md, kd, kn, pl, wr, b⟩ := c
  obtain ⟨c0, c1, c2, c3, c4, c5, c6, c7, c8, c9, c10, c11, c12, c13, c14⟩ := hS.all
  obtain ⟨⟨a0, a1, x0, x1, y0, y1, s0, s1, p0, p1, pc0, pc1⟩, t0, t1, op0, op1, md0, md1, kd0, kd1, pl0, pl1, wr0, wr1, b0, b1⟩ := ok
  simp only [] at a0 a1 x0 x1 y0 y1 s0 s1 p0 p1 pc0 pc1 t0 t1 op0 op1 md0 md1 kd0 kd1 pl0 pl1 wr0 wr1 b0 b1
  have ff := hS.thaw
  have hlt := hS.lt
  have hR : CpuR w B _ := hS
  have kw := fun w' => word_any l h l0 l1 h0 h1 w'
  have ki := fun w' hS => index_any ⟨⟨a, x, y, s, p, pc⟩, t, op, nm, md, kd, kn, pl, wr, b⟩ (by exact ⟨⟨a0, a1, x0, x1, y0, y1, s0, s1, p0, p1, pc0, pc1⟩, t0, t1, op0, op1, md0, md1, kd0, kd1, pl0, pl1, wr0, wr1, b0, b1⟩) w' B hS
  have hi : 0 ≤ idxF ⟨⟨a, x, y, s, p, pc⟩, t, op, nm, md, kd, kn, pl, wr, b⟩ ∧ idxF ⟨⟨a, x, y, s, p, pc⟩, t, op, nm, md, kd, kn, pl, wr, b⟩ ≤ 255 := by unfold idxF; simp only []; (repeat' split) <;> omega
  have hw := wordF_in l0 l1 h0 h1
  unfold farF
  simp only []
  generalize idxF ⟨⟨a, x, y, s, p, pc⟩, t, op, nm, md, kd, kn, pl, wr, b⟩ = ix at *
  generalize wordF l h = lh at *
  have hx : IntKind.u16.wrap (lh + ix) = (lh + ix) % 65536 := by rw [IntKind.wrap_u16]
  have hP : 0 ≤ (lh + ix) % 65536 ∧ (lh + ix) % 65536 ≤ 65535 := by omega
  generalize (lh + ix) % 65536 = P at *
  have kv := fun w' => word_any (P % 256) h (by omega) (by omega) h0 h1 w'
  have hQ := wordF_in (l := P % 256) (by omega) (by omega) h0 h1
  have hcv : IntKind.u8.wrap P = P % 256 := by rw [IntKind.wrap_u8]
  generalize wordF (P % 256) h = Q at *
  have ka := fun w' hS => access_any ⟨⟨a, x, y, s, p, pc⟩, t, op, nm, md, kd, kn, P, Q, b⟩ (by exact ⟨⟨a0, a1, x0, x1, y0, y1, s0, s1, p0, p1, pc0, pc1⟩, t0, t1, op0, op1, md0, md1, kd0, kd1, hP.1, hP.2, hQ.1, hQ.2, b0, b1⟩) w' B hS
  have hac : accF ⟨⟨a, x, y, s, p, pc⟩, t, op, nm, md, kd, kn, pl, wr, b⟩ = accF ⟨⟨a, x, y, s, p, pc⟩, t, op, nm, md, kd, kn, P, Q, b⟩ := rfl
  rw [hac]
  clear hac
  generalize accF ⟨⟨a, x, y, s, p, pc⟩, t, op, nm, md, kd, kn, P, Q, b⟩ = AC at *
  have hPQ : (P != Q) = !(decide (P = Q)) := by (by_cases h : P = Q) <;> simp [h]
  have hk1 : (kd != 1) = !(decide (kd = 1)) := by (by_cases h : kd = 1) <;> simp [h]
  have hR1 : CpuR (w.setCell ⟨B, 12, none⟩ (.int .u16 P)) B _ := hR.set 12 _
  have hR2 : CpuS ((w.setCell ⟨B, 12, none⟩ (.int .u16 P)).setCell ⟨B, 13, none⟩ (.int .u16 Q)) B ⟨⟨a, x, y, s, p, pc⟩, t, op, nm, md, kd, kn, P, Q, b⟩ := hR1.set 13 _
  clear hR1
  have key : ∀ un pq kq : Bool, ((md == 7) || ((md == 8) || (md == 10))) = un → (P != Q) = pq → (kd != 1) = kq → (md == 7) = true ∨ ((md == 7) = false ∧ (md == 8) = true) ∨ ((md == 7) = false ∧ (md == 8) = false) →
      Calls Tryd.prog 35 #[.pointer (some ⟨B, 0, none⟩), .int .u8 l, .int .u8 h] w (MPost w B ⟨⟨a, x, y, s, p, pc⟩, if un && (pq || kq) then 15 else AC, op, nm, md, kd, kn, P, Q, b⟩) := by
    intro un pq kq hun hpq hkq hmd
    clear hPQ hk1 c0 c1 c2 c3 c4 c5 c7 c8
    rcases hmd with h7 | ⟨h7, h8⟩ | ⟨h7, h8⟩
    · obtain rfl : un = true := by rw [← hun, h7]; rfl
      cases pq <;> cases kq
      all_goals
        go_enter Tryd.func35, Tryd.ntmps35
        go_wp2_with fail
        refine (kw _).mono ?_
        rintro e w1 ⟨rfl, rfl⟩
        go_wp2_with fail
        refine (ki _ hS).mono ?_
        rintro e w1 ⟨rfl, rfl⟩
        go_wp2_with fail
        refine (kv _).mono ?_
        rintro e w1 ⟨rfl, rfl⟩
        go_wp2_with fail
        refine (ka _ hR2).mono ?_
        rintro e w1 ⟨rfl, rfl⟩
        go_wp2_with fail
        go_quiet (fail)
        go_wp2_with fail
        refine bodyPost_end (results_none rfl _ _ _) rfl ⟨rfl, ?_, ?_⟩
        · apply CpuS.mk2
          · repeat (first | with_reducible exact hR | apply CpuR.set | apply CpuR.drewN)
          · rfl
        · repeat (first | with_reducible exact Besd.refl _ _ _ | refine Besd.own ?_ _ _ | refine Besd.drewN ?_ _)
    · obtain rfl : un = true := by rw [← hun, h7, h8]; rfl
      cases pq <;> cases kq
      all_goals
        go_enter Tryd.func35, Tryd.ntmps35
        go_wp2_with fail
        refine (kw _).mono ?_
        rintro e w1 ⟨rfl, rfl⟩
        go_wp2_with fail
        refine (ki _ hS).mono ?_
        rintro e w1 ⟨rfl, rfl⟩
        go_wp2_with fail
        refine (kv _).mono ?_
        rintro e w1 ⟨rfl, rfl⟩
        go_wp2_with fail
        refine (ka _ hR2).mono ?_
        rintro e w1 ⟨rfl, rfl⟩
        go_wp2_with fail
        go_quiet (fail)
        go_wp2_with fail
        refine bodyPost_end (results_none rfl _ _ _) rfl ⟨rfl, ?_, ?_⟩
        · apply CpuS.mk2
          · repeat (first | with_reducible exact hR | apply CpuR.set | apply CpuR.drewN)
          · rfl
        · repeat (first | with_reducible exact Besd.refl _ _ _ | refine Besd.own ?_ _ _ | refine Besd.drewN ?_ _)
    · have h10 : (md == 10) = un := by rw [← hun, h7, h8]; cases (md == 10) <;> rfl
      clear hun
      cases un
      · cases pq <;> cases kq
        all_goals
          go_enter Tryd.func35, Tryd.ntmps35
          go_wp2_with fail
          refine (kw _).mono ?_
          rintro e w1 ⟨rfl, rfl⟩
          go_wp2_with fail
          refine (ki _ hS).mono ?_
          rintro e w1 ⟨rfl, rfl⟩
          go_wp2_with fail
          refine (kv _).mono ?_
          rintro e w1 ⟨rfl, rfl⟩
          go_wp2_with fail
          refine (ka _ hR2).mono ?_
          rintro e w1 ⟨rfl, rfl⟩
          go_wp2_with fail
          go_quiet (fail)
          go_wp2_with fail
          refine bodyPost_end (results_none rfl _ _ _) rfl ⟨rfl, ?_, ?_⟩
          · apply CpuS.mk2
            · repeat (first | with_reducible exact hR | apply CpuR.set | apply CpuR.drewN)
            · rfl
          · repeat (first | with_reducible exact Besd.refl _ _ _ | refine Besd.own ?_ _ _ | refine Besd.drewN ?_ _)
      · cases pq <;> cases kq
        all_goals
          go_enter Tryd.func35, Tryd.ntmps35
          go_wp2_with fail
          refine (kw _).mono ?_
          rintro e w1 ⟨rfl, rfl⟩
          go_wp2_with fail
          refine (ki _ hS).mono ?_
          rintro e w1 ⟨rfl, rfl⟩
          go_wp2_with fail
          refine (kv _).mono ?_
          rintro e w1 ⟨rfl, rfl⟩
          go_wp2_with fail
          refine (ka _ hR2).mono ?_
          rintro e w1 ⟨rfl, rfl⟩
          go_wp2_with fail
          go_quiet (fail)
          go_wp2_with fail
          refine bodyPost_end (results_none rfl _ _ _) rfl ⟨rfl, ?_, ?_⟩
          · apply CpuS.mk2
            · repeat (first | with_reducible exact hR | apply CpuR.set | apply CpuR.drewN)
            · rfl
          · repeat (first | with_reducible exact Besd.refl _ _ _ | refine Besd.own ?_ _ _ | refine Besd.drewN ?_ _)
  have h := key _ _ _ rfl rfl rfl (by cases h7 : (md == 7) <;> cases h8 : (md == 8) <;> simp)
  have e : (if (((md == 7) || ((md == 8) || (md == 10))) && ((P != Q) || (kd != 1))) = true then (15 : Int) else AC) = if (md = 7 ∨ md = 8 ∨ md = 10) ∧ (P ≠ Q ∨ kd ≠ 1) then 15 else AC := by
    congr 1
    simp
  rw [e] at h
  exact h
end Go.Proofs.YthepcjecmlkaiaaDoor.Mi
