/- Package micro: a new one, a copy, what it tells, one that is not there. -/
import Derived.Test.YthepcjecmlkaiaaDoorZMicroN
import Derived.Test.YthepcjecmlkaiaaDoorZMicroBase
import Derived.Test.YthepcjecmlkaiaaDoorZAluWalks
import Derived.Test.YthepcjecmlkaiaaDoorZKeep
import Derived.Deep.RegionHeld3
import Derived.RegionTactic
import Derived.Deep.RegionWith
import Derived.BigQuiet
import Derived.IntWalk
namespace Go.Proofs.YthepcjecmlkaiaaDoor.Mi
open Go Go.RowKit Go.Deep Go.Proofs.YthepcjecmlkaiaaDoor Go.Proofs.YthepcjecmlkaiaaDoor.Ex
set_option linter.unusedVariables false
set_option linter.unusedSimpArgs false
def newC (r : Rg) (t : Int) : Cp := ⟨{ r with p := cleanF r.p }, t, 0, ⟨#[]⟩, 0, 0, false, 0, 0, 0⟩
theorem newC_ok (r : Rg) (ok : r.ok) (t : Int) (h0 : 0 ≤ t) (h1 : t ≤ 56) : (newC r t).ok := by
  have hc := cleanF_in ok.p0 ok.p1
  exact ⟨p_ok ok hc.1 hc.2, h0, h1, Int.le_refl 0, (by decide : (0 : Int) ≤ 255), Int.le_refl 0, (by decide : (0 : Int) ≤ 12), Int.le_refl 0, (by decide : (0 : Int) ≤ 12), Int.le_refl 0, (by decide : (0 : Int) ≤ 65535), Int.le_refl 0, (by decide : (0 : Int) ≤ 65535), Int.le_refl 0, (by decide : (0 : Int) ≤ 255)⟩
/-- What a function leaves that makes a processor. -/
def NPost (w : World) (c : Cp) (e : Ending) (w' : World) : Prop := ∃ B, e = .returned (.pointer (some ⟨B, 0, none⟩)) ∧ w.heap.size ≤ B ∧ CpuS w' B c ∧ Below w.heap.size w w'
set_option maxRecDepth 100000 in
set_option maxHeartbeats 4000000 in
theorem new_any (r : Rg) (w : World) : Calls Tryd.prog 18 #[rgU r] w (NPost w (newC r 2)) := by
  obtain ⟨a, x, y, s, p, pc⟩ := r
  have kc := fun w' => clean_any p w'
  unfold newC
  simp only [rgU]
  generalize cleanF p = q at *
  have e0 := RowT.new w #[.int .u8 a, .int .u8 x, .int .u8 y, .int .u8 s, .int .u8 p, .int .u16 pc] 24
  obtain ⟨c0, c1, c2, c3, c4, c5, cf⟩ := box6 e0
  have hz : (w.alloc (.cells #[.int .u8 a, .int .u8 x, .int .u8 y, .int .u8 s, .int .u8 p, .int .u16 pc] 24)).heap.size = w.heap.size + 1 := by simp
  have hb : Below w.heap.size w (w.alloc (.cells #[.int .u8 a, .int .u8 x, .int .u8 y, .int .u8 s, .int .u8 p, .int .u16 pc] 24)) := (Below.refl _ _).alloc (Nat.le_refl _) _
  go_enter Tryd.func18, Tryd.ntmps18
  go_wp2_with fail
  refine (kc _).mono ?_
  rintro e w1 ⟨rfl, rfl⟩
  go_wp2_with fail
  refine bodyPost_ret (v := .pointer (some ⟨w.heap.size + 1, 0, none⟩)) (by simp [results, Tryd.results18, go_sem]) rfl ⟨w.heap.size + 1, rfl, Nat.le_succ _, ?_, ?_⟩
  · show RowT 52 _ _ _
    exact RowT.new1 _ _ _ _
  · exact ((Below.refl _ _).alloc (Nat.le_refl _) _).alloc (by simp) _
set_option maxRecDepth 100000 in
set_option maxHeartbeats 4000000 in
theorem at_any (r : Rg) (j : Bool) (w : World) : Calls Tryd.prog 6 #[rgU r, .bool j] w (NPost w (newC r (if j then 1 else 0))) := by
  have kn := fun w' => new_any r w'
  unfold newC at *
  obtain ⟨a, x, y, s, p, pc⟩ := r
  simp only [rgU] at kn ⊢
  generalize cleanF p = q at *
  obtain ⟨c0, c1, c2, c3, c4, c5, cf⟩ := box6 (RowT.new w #[.int .u8 a, .int .u8 x, .int .u8 y, .int .u8 s, .int .u8 p, .int .u16 pc] 24)
  have hb0 : Below w.heap.size w (w.alloc (.cells #[.int .u8 a, .int .u8 x, .int .u8 y, .int .u8 s, .int .u8 p, .int .u16 pc] 24)) := (Below.refl _ _).alloc (Nat.le_refl _) _
  cases j
  all_goals
    go_enter Tryd.func6, Tryd.ntmps6
    go_wp2_with fail
    refine (kn _).mono ?_
    rintro e w1 ⟨B, rfl, hB, hS, hw⟩
    obtain ⟨d0, d1, d2, d3, d4, d5, d6, d7, d8, d9, d10, d11, d12, d13, d14⟩ := CpuS.all hS
    have dd := CpuR.thaw hS
    have hR : CpuR w1 B _ := hS
    have hb := hb0.trans (hw.mono (by simp))
    simp only [World.size_alloc] at hB
    have hBw : w.heap.size ≤ B := by omega
    clear c0 c1 c2 c3 c4 c5 cf hS hw hb0
    go_wp2_with fail
    refine bodyPost_ret (v := .pointer (some ⟨B, 0, none⟩)) (by simp [results, Tryd.results6, go_sem]) rfl ⟨B, rfl, hBw, ?_, ?_⟩
    · apply CpuS.mk2
      · repeat (first | with_reducible exact hR | apply CpuR.set)
      · rfl
    · repeat (first | with_reducible exact hb | refine Below.setCell ?_ (by exact hBw) _)
set_option maxRecDepth 100000 in
theorem fresh_any (c : Cp) (w : World) (B : Nat) (hS : CpuS w B c) : Calls Tryd.prog 12 #[.pointer (some ⟨B, 0, none⟩)] w fun e w' => e = .returned (.bool (c.t == 0)) ∧ w' = w := by
  obtain ⟨⟨a, x, y, s, p, pc⟩, t, op, nm, md, kd, kn, pl, wr, b⟩ := c
  obtain ⟨c0, c1, c2, c3, c4, c5, c6, c7, c8, c9, c10, c11, c12, c13, c14⟩ := hS.all
  clear hS
  go_enter Tryd.func12, Tryd.ntmps12
  go_wp2_with fail
  all_goals (try go_quiet (fail))
  all_goals (try go_wp2_with fail)
  all_goals go_ret
  all_goals exact ⟨by first | rfl | simp_all, rfl⟩
set_option maxRecDepth 100000 in
theorem fresh_nil (w : World) : Calls Tryd.prog 12 #[.pointer none] w fun e w' => e = .returned (.bool false) ∧ w' = w := by
  go_enter Tryd.func12, Tryd.ntmps12
  go_wp2_with fail
  all_goals (try go_quiet (fail))
  all_goals (try go_wp2_with fail)
  all_goals go_ret
  all_goals exact ⟨rfl, rfl⟩
set_option maxRecDepth 100000 in
theorem jammed_any (c : Cp) (w : World) (B : Nat) (hS : CpuS w B c) : Calls Tryd.prog 19 #[.pointer (some ⟨B, 0, none⟩)] w fun e w' => e = .returned (.bool (c.t == 1)) ∧ w' = w := by
  obtain ⟨⟨a, x, y, s, p, pc⟩, t, op, nm, md, kd, kn, pl, wr, b⟩ := c
  obtain ⟨c0, c1, c2, c3, c4, c5, c6, c7, c8, c9, c10, c11, c12, c13, c14⟩ := hS.all
  clear hS
  go_enter Tryd.func19, Tryd.ntmps19
  go_wp2_with fail
  all_goals (try go_quiet (fail))
  all_goals (try go_wp2_with fail)
  all_goals go_ret
  all_goals exact ⟨by first | rfl | simp_all, rfl⟩
set_option maxRecDepth 100000 in
theorem jammed_nil (w : World) : Calls Tryd.prog 19 #[.pointer none] w fun e w' => e = .returned (.bool false) ∧ w' = w := by
  go_enter Tryd.func19, Tryd.ntmps19
  go_wp2_with fail
  all_goals (try go_quiet (fail))
  all_goals (try go_wp2_with fail)
  all_goals go_ret
  all_goals exact ⟨rfl, rfl⟩
set_option maxRecDepth 100000 in
theorem regs_any (c : Cp) (w : World) (B : Nat) (hS : CpuS w B c) : Calls Tryd.prog 9 #[.pointer (some ⟨B, 0, none⟩)] w fun e w' => e = .returned (rgU c.r) ∧ Below w.heap.size w w' := by
  obtain ⟨⟨a, x, y, s, p, pc⟩, t, op, nm, md, kd, kn, pl, wr, b⟩ := c
  obtain ⟨c0, c1, c2, c3, c4, c5, c6, c7, c8, c9, c10, c11, c12, c13, c14⟩ := hS.all
  have hlt := hS.lt
  have hne : ¬ w.heap.size = B := by omega
  have hne' : ¬ B = w.heap.size := by omega
  clear hS
  simp only [rgU]
  go_enter Tryd.func9, Tryd.ntmps9
  go_wp2_with fail
  refine bodyPost_ret (v := .agg #[.int .u8 a, .int .u8 x, .int .u8 y, .int .u8 s, .int .u8 p, .int .u16 pc]) (by simp [results, Tryd.results9, go_sem]) rfl ⟨rfl, ?_⟩
  repeat (first | (with_reducible exact Below.refl _ _) | (with_reducible refine Below.setCell ?_ (by simp) _) | (with_reducible refine Below.alloc ?_ (by simp) _))
set_option maxRecDepth 100000 in
theorem regs_nil (w : World) : Calls Tryd.prog 9 #[.pointer none] w fun e w' => e = .returned (.agg #[.int .u8 0, .int .u8 0, .int .u8 0, .int .u8 0, .int .u8 0, .int .u16 0]) ∧ Below w.heap.size w w' := by
  go_enter Tryd.func9, Tryd.ntmps9
  go_wp2_with fail
  refine bodyPost_ret (v := .agg #[.int .u8 0, .int .u8 0, .int .u8 0, .int .u8 0, .int .u8 0, .int .u16 0]) (by simp [results, Tryd.results9, go_sem]) rfl ⟨rfl, ?_⟩
  repeat (first | (with_reducible exact Below.refl _ _) | (with_reducible refine Below.setCell ?_ (by simp) _) | (with_reducible refine Below.alloc ?_ (by simp) _))
set_option maxRecDepth 100000 in
theorem pins_nil (w : World) : Calls Tryd.prog 11 #[.pointer none] w fun e w' => e = .returned (.agg #[.int .u16 0, .bool false, .int .u8 0]) ∧ Below w.heap.size w w' := by
  go_enter Tryd.func11, Tryd.ntmps11
  go_wp2_with fail
  refine bodyPost_ret (v := .agg #[.int .u16 0, .bool false, .int .u8 0]) (by simp [results, Tryd.results11, go_sem]) rfl ⟨rfl, ?_⟩
  repeat (first | (with_reducible exact Below.refl _ _) | (with_reducible refine Below.setCell ?_ (by simp) _) | (with_reducible refine Below.alloc ?_ (by simp) _))
set_option maxRecDepth 100000 in
theorem clock_nil (v : Int) (w : World) : Calls Tryd.prog 10 #[.pointer none, .int .u8 v] w fun e w' => e = .returned (.tuple #[]) ∧ w' = w := by
  go_enter Tryd.func10, Tryd.ntmps10
  go_wp2_with fail
  first | exact bodyPost_end (results_none rfl _ _ _) rfl ⟨rfl, rfl⟩ | exact bodyPost_ret (results_none rfl _ _ _) rfl ⟨rfl, rfl⟩
end Go.Proofs.YthepcjecmlkaiaaDoor.Mi
