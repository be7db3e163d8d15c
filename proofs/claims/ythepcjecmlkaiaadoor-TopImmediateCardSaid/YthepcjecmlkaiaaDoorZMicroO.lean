/- Package micro: what a store writes and where; the places behind an index; a branch. -/
import Derived.Test.YthepcjecmlkaiaaDoorZMicroN
import Derived.Test.YthepcjecmlkaiaaDoorZAluWalks
import Derived.Test.YthepcjecmlkaiaaDoorZKeep
import Derived.Deep.RegionHeld3
import Derived.RegionTactic
import Derived.Deep.RegionWith
import Derived.BigQuiet
import Derived.IntWalk
namespace Go.Proofs.YthepcjecmlkaiaaDoor.Mi
open Go Go.RowKit Go.Deep Go.Proofs.YthepcjecmlkaiaaDoor Go.Proofs.YthepcjecmlkaiaaDoor.Ex
set_option linter.unusedVariables false
set_option linter.unusedSimpArgs false
theorem below_drewN {B : Nat} {a w : World} (h : Below B a w) (n : Nat) : Below B a (w.drewN n) := ⟨h.os, h.tape, h.output, h.size, h.block⟩
theorem unsureM_any (tag : ByteArray) (w : World) : Calls Tryd.prog 59 #[.string tag] w fun e w' => e = .returned (.bool (unM tag)) ∧ w' = w := by
  have flip : ∀ {x : Bool}, Calls Tryd.prog 59 #[.string tag] w (fun e w' => e = .returned (.bool x) ∧ w = w') → Calls Tryd.prog 59 #[.string tag] w (fun e w' => e = .returned (.bool x) ∧ w' = w) := fun h => h.mono fun e w' h => ⟨h.1, h.2.symm⟩
  by_cases h0 : tag.toList = [83, 72, 65]
  · rw [show unM tag = true from by unfold unM; rw [h0]; decide]; exact flip (unsure_SHA tag h0 w)
  by_cases h1 : tag.toList = [83, 72, 88]
  · rw [show unM tag = true from by unfold unM; rw [h1]; decide]; exact flip (unsure_SHX tag h1 w)
  by_cases h2 : tag.toList = [83, 72, 89]
  · rw [show unM tag = true from by unfold unM; rw [h2]; decide]; exact flip (unsure_SHY tag h2 w)
  by_cases h3 : tag.toList = [84, 65, 83]
  · rw [show unM tag = true from by unfold unM; rw [h3]; decide]; exact flip (unsure_TAS tag h3 w)
  have hn : ∀ l ∈ ([[83, 72, 65], [83, 72, 88], [83, 72, 89], [84, 65, 83]] : List (List UInt8)), tag.toList ≠ l := fun l hl => by
    rcases (by simpa only [List.mem_cons, List.not_mem_nil, or_false] using hl : l = [83, 72, 65] ∨ l = [83, 72, 88] ∨ l = [83, 72, 89] ∨ l = [84, 65, 83]) with rfl | rfl | rfl | rfl <;> assumption
  rw [show unM tag = false from by unfold unM; exact decide_eq_false (fun h => hn _ h rfl)]
  exact flip (unsure_other tag hn w)
set_option maxRecDepth 100000 in
set_option maxHeartbeats 40000000 in
theorem stored_any (c : Cp) (ok : c.ok) (w : World) (B : Nat) (hS : CpuS w B c) : Calls Tryd.prog 37 #[.pointer (some ⟨B, 0, none⟩)] w fun e w' => e = .returned (.tuple #[.int .u16 (stPF c), .int .u8 (stVF c), rgU (stRF c)]) ∧ Below w.heap.size w w' := by
  obtain ⟨⟨a, x, y, s, p, pc⟩, t, op, nm, md, kd, kn, pl, wr, b⟩ := c
  obtain ⟨c0, c1, c2, c3, c4, c5, c6, c7, c8, c9, c10, c11, c12, c13, c14⟩ := hS.all
  obtain ⟨⟨a0, a1, x0, x1, y0, y1, s0, s1, p0, p1, pc0, pc1⟩, t0, t1, op0, op1, md0, md1, kd0, kd1, pl0, pl1, wr0, wr1, b0, b1⟩ := ok
  simp only [] at a0 a1 x0 x1 y0 y1 s0 s1 p0 p1 pc0 pc1 t0 t1 op0 op1 md0 md1 kd0 kd1 pl0 pl1 wr0 wr1 b0 b1
  have ff := hS.thaw
  have hlt := hS.lt
  have hR : CpuR w B _ := hS
  have kb := fun w' h => base_any ⟨⟨a, x, y, s, p, pc⟩, t, op, nm, md, kd, kn, pl, wr, b⟩ (by exact ⟨⟨a0, a1, x0, x1, y0, y1, s0, s1, p0, p1, pc0, pc1⟩, t0, t1, op0, op1, md0, md1, kd0, kd1, pl0, pl1, wr0, wr1, b0, b1⟩) w' B h
  have hV := storeVM_in (stK nm) ⟨a, x, y, s, p, pc⟩ (wr / 256) ⟨a0, a1, x0, x1, y0, y1, s0, s1, p0, p1, pc0, pc1⟩
  have ks := fun w' => store_any ⟨a, x, y, s, p, pc⟩ ⟨a0, a1, x0, x1, y0, y1, s0, s1, p0, p1, pc0, pc1⟩ (wr / 256) (by omega) (by omega) nm w'
  have ku := fun w' => unsureM_any nm w'
  have hP : stPF ⟨⟨a, x, y, s, p, pc⟩, t, op, nm, md, kd, kn, pl, wr, b⟩ = if unM nm = true ∧ pl ≠ wr then wordF (pl % 256) (storeV (stK nm) ⟨a, x, y, s, p, pc⟩ (wr / 256)) else pl := rfl
  rw [hP]
  show Calls _ _ _ _ fun e w' => e = .returned (.tuple #[.int .u16 (if unM nm = true ∧ pl ≠ wr then wordF (pl % 256) (storeV (stK nm) ⟨a, x, y, s, p, pc⟩ (wr / 256)) else pl), .int .u8 (storeV (stK nm) ⟨a, x, y, s, p, pc⟩ (wr / 256)), rgU (storeR (stK nm) ⟨a, x, y, s, p, pc⟩)]) ∧ Below w.heap.size w w'
  simp only [baseF] at kb
  clear hP
  generalize storeV (stK nm) ⟨a, x, y, s, p, pc⟩ (wr / 256) = V at *
  generalize storeR (stK nm) ⟨a, x, y, s, p, pc⟩ = R at *
  obtain ⟨ra, rx, ry, rs, rp, rpc⟩ := R
  simp only [rgU] at ks ⊢
  have kw := fun w' => word_any (pl % 256) V (by omega) (by omega) hV.1 hV.2 w'
  generalize unM nm = un at *
  generalize wordF (pl % 256) V = Wd at *
  obtain ⟨PL, hPL⟩ : ∃ PL, PL = if un = true ∧ pl ≠ wr then Wd else pl := ⟨_, rfl⟩
  rw [← hPL]
  have hcase : (un = true ∧ PL = Wd ∧ (pl != wr) = true) ∨ (un = true ∧ PL = pl ∧ (pl != wr) = false) ∨ (un = false ∧ PL = pl) := by
    rw [hPL]
    cases un
    · simp
    · by_cases h : pl = wr <;> simp [h]
  have HPL := Lib.hid hcase
  clear hPL hcase
  go_enter Tryd.func37, Tryd.ntmps37
  repeat (first | (with_reducible refine wp_keep (fun W => RowT 24 W w.heap.size #[.int .u8 0, .int .u8 0, .int .u8 0, .int .u8 0, .int .u8 0, .int .u16 0] ∧ CpuR W B (Cp.row ⟨⟨a, x, y, s, p, pc⟩, t, op, nm, md, kd, kn, pl, wr, b⟩) ∧ Below w.heap.size w W) (And.intro (RowT.new w _ _) (And.intro (hR.alloc _) ((Below.refl _ _).alloc (Nat.le_refl _) _))) ?_) | go_step)
  rintro W0 ⟨hD0, hR0, hb0⟩
  obtain ⟨d0, d1, d2, d3, d4, d5, d6, d7, d8, d9, d10, d11, d12, d13, d14⟩ := CpuS.all (show CpuS W0 B ⟨⟨a, x, y, s, p, pc⟩, t, op, nm, md, _, kn, pl, wr, b⟩ from hR0)
  have l0 := hD0.lt
  have hW : w.heap.size ≤ W0.heap.size := Nat.le_of_lt l0
  have hBW : ¬ W0.heap.size = B := by omega
  have hBW2 : B ≠ W0.heap.size := fun h => hBW h.symm
  have hDW2 : ¬ w.heap.size = W0.heap.size := by omega
  clear c0 c1 c2 c3 c4 c5 c6 c7 c8 c9 c10 c11 c12 c13 c14 ff
  go_wp2_with fail
  have hnn := World.new_ne W0 _ d0
  go_region_held3 (fun w' => w'.cell? ⟨B, 8, none⟩ = some (.string nm) ∧ w'.cell? ⟨B, 0, none⟩ = some (.int .u8 a) ∧ w'.cell? ⟨B, 1, none⟩ = some (.int .u8 x) ∧ w'.cell? ⟨B, 2, none⟩ = some (.int .u8 y) ∧ w'.cell? ⟨B, 3, none⟩ = some (.int .u8 s) ∧ w'.cell? ⟨B, 4, none⟩ = some (.int .u8 p) ∧ w'.cell? ⟨B, 5, none⟩ = some (.int .u16 pc)) (go_keep) ((first | (go_at_call 58; refine (kb _ (by first | exact hR0.drew | exact (hR0.drew.alloc _) | exact (hR0.alloc _).drew)).mono ?_; rintro e w1 ⟨rfl, rfl⟩) | (go_at_call 57; refine (ks _).mono ?_; rintro e w1 ⟨rfl, hw⟩; (first | (have hD1 := hD0.drew.below hw; have hb1 := hb0.drew.trans (hw.mono hW); have hR1 := hR0.drew.below hw; have hE1 := True.intro) | (have hD1 := (hD0.alloc (.cells #[.int .u8 0, .int .u8 0, .int .u8 0, .int .u8 0, .int .u8 0, .int .u16 0] 24)).drew.below hw; have hb1 := Below.trans (hb0.alloc hW (.cells #[.int .u8 0, .int .u8 0, .int .u8 0, .int .u8 0, .int .u8 0, .int .u16 0] 24)).drew (hw.mono (by show w.heap.size ≤ (W0.alloc _).heap.size; rw [World.size_alloc]; exact Nat.le_succ_of_le hW)); have hR1 := CpuR.below (CpuR.drew (CpuR.alloc hR0 (.cells #[.int .u8 0, .int .u8 0, .int .u8 0, .int .u8 0, .int .u8 0, .int .u16 0] 24))) hw; have hE1 : RowT 24 w1 W0.heap.size #[.int .u8 0, .int .u8 0, .int .u8 0, .int .u8 0, .int .u8 0, .int .u16 0] := RowT.below (RowT.new W0 #[.int .u8 0, .int .u8 0, .int .u8 0, .int .u8 0, .int .u8 0, .int .u16 0] 24).drew hw; obtain ⟨q0, q1, q2, q3, q4, q5, qf⟩ := box6 hE1)); obtain ⟨e0, e1, e2, e3, e4, e5, e6, e7, e8, e9, e10, e11, e12, e13, e14⟩ := CpuS.all (show CpuS w1 B ⟨⟨a, x, y, s, p, pc⟩, t, op, nm, md, _, kn, pl, wr, b⟩ from hR1)) | fail))
  all_goals clear e0 e1 e2 e3 e4 e5 e6 e7 e8 e9 e10 e11 e12 e13 e14 d0 d1 d2 d3 d4 d5 d6 d7 d8 d9 d10 d11 d12 d13 d14
  all_goals go_step
  all_goals first
    | (refine k_keep (fun W => RowT 24 W W0.heap.size #[.int .u8 ra, .int .u8 rx, .int .u8 ry, .int .u8 rs, .int .u8 rp, .int .u16 rpc] ∧ RowT 24 W w.heap.size #[.int .u8 0, .int .u8 0, .int .u8 0, .int .u8 0, .int .u8 0, .int .u16 0] ∧ CpuR W B (Cp.row ⟨⟨a, x, y, s, p, pc⟩, t, op, nm, md, kd, kn, pl, wr, b⟩) ∧ Below w.heap.size w W) ⟨((((((hE1.set 0 _).set 1 _).set 2 _).set 3 _).set 4 _).set 5 _), (by repeat (first | with_reducible exact hD1 | refine RowT.other ?_ _ hDW2 _)), (by repeat (first | with_reducible exact hR1 | refine CpuR.other ?_ _ hBW2 _)), (by repeat (first | with_reducible exact hb1 | with_reducible refine Below.setCell ?_ hW _))⟩ ?_
       rintro W2 ⟨hE2, hD2, hR2, hb2⟩
       have hED : ¬ W0.heap.size = w.heap.size := by omega
       have hEB : ¬ W0.heap.size = B := hBW
       clear hD0 hR0 hb0 hD1 hR1 hb1 hE1 hw q0 q1 q2 q3 q4 q5 qf
       generalize W0.heap.size = E at *)
    | (refine k_keep (fun W => RowT 24 W w1.heap.size #[.int .u8 ra, .int .u8 rx, .int .u8 ry, .int .u8 rs, .int .u8 rp, .int .u16 rpc] ∧ RowT 24 W w.heap.size #[.int .u8 0, .int .u8 0, .int .u8 0, .int .u8 0, .int .u8 0, .int .u16 0] ∧ CpuR W B (Cp.row ⟨⟨a, x, y, s, p, pc⟩, t, op, nm, md, kd, kn, pl, wr, b⟩) ∧ Below w.heap.size w W) ⟨RowT.new w1 _ _, hD1.alloc _, hR1.alloc _, hb1.alloc (Nat.le_of_lt hD1.lt) _⟩ ?_
       rintro W2 ⟨hE2, hD2, hR2, hb2⟩
       have hED : ¬ w1.heap.size = w.heap.size := by have := hD1.lt; omega
       have hEB : ¬ w1.heap.size = B := by have := hR1.lt; omega
       clear hD0 hR0 hb0 hD1 hR1 hb1 hE1 hw
       generalize w1.heap.size = E at *)
  all_goals obtain ⟨g0, g1, g2, g3, g4, g5, gf⟩ := box6 hE2
  all_goals obtain ⟨q0, q1, q2, q3, q4, q5, qf⟩ := box6 hD2
  all_goals obtain ⟨d0, d1, d2, d3, d4, d5, d6, d7, d8, d9, d10, d11, d12, d13, d14⟩ := CpuS.all (show CpuS W2 B ⟨⟨a, x, y, s, p, pc⟩, t, op, nm, md, _, kn, pl, wr, b⟩ from hR2)
  all_goals have hDE : ¬ w.heap.size = E := fun h => hED h.symm
  all_goals have hDd : w.heap.size ≤ w.heap.size := Nat.le_refl _
  all_goals clear hE2 hD2 hR2
  all_goals generalize hDD : w.heap.size = D at *
  all_goals have hcase := HPL.out
  all_goals clear HPL
  all_goals rcases hcase with ⟨hun, hPL, hpq⟩ | ⟨hun, hPL, hpq⟩ | ⟨hun, hPL⟩
  all_goals subst hun
  all_goals subst hPL
  all_goals go_wp2_with fail
  all_goals go_quiet (first | (go_at_call 59; refine Calls.quiet_of_same (ku _)))
  all_goals go_wp2_with fail
  all_goals (try (go_at_call 36; refine (kw _).mono ?_; rintro e w4 ⟨rfl, rfl⟩; go_wp2_with fail))
  all_goals go_region_with fail
  all_goals go_wp2_with fail
  all_goals refine bodyPost_ret (v := .tuple #[.int .u16 PL, .int .u8 V, .agg #[.int .u8 ra, .int .u8 rx, .int .u8 ry, .int .u8 rs, .int .u8 rp, .int .u16 rpc]]) (by simp [results, Tryd.results37, go_sem, q0, q1, q2, q3, q4, q5]) rfl ⟨rfl, ?_⟩
  all_goals (try rw [hDD])
  all_goals (repeat (first | (with_reducible exact hb2) | (with_reducible refine Below.drew ?_) | (with_reducible refine below_drewN ?_ _) | (with_reducible refine Below.setCell ?_ hDd _)))
end Go.Proofs.YthepcjecmlkaiaaDoor.Mi
