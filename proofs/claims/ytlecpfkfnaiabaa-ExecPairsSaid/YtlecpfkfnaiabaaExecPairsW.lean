/- The walk of the law ExecPairs: of two branches that ask the same flag just one goes. -/
import Derived.Test.YtlecpfkfnaiabaaExecAwake
import Derived.Test.YtlecpfkfnaiabaaSame
import Derived.LoopN
import Derived.Deep.RegionWith
import Derived.Test.YtlecpfkfnaiabaaExecGo
namespace Go.Proofs.Ytlecpfkfnaiabaa
open Go.RowKit
set_option linter.unusedVariables false
set_option linter.unusedSimpArgs false
set_option maxRecDepth 100000 in
set_option maxHeartbeats 4000000 in
theorem execPairs_walk (p : Int) (w : World) (p0 : 0 ≤ p) (p1 : p ≤ 255) :
    Calls Try.prog 5 #[.int .u8 p] w fun e w' => e = .returned (.bool true) ∧ Below w.heap.size w w' := by
  have kk := fun tag w' => goes_any p p0 p1 tag w'
  have k1 : Ex.goesF (Ex.goK ⟨#[66, 80, 76]⟩) p = (!Alu.has p 128) := by rw [show Ex.goK ⟨#[66, 80, 76]⟩ = .BPL from by decide +kernel]; rfl
  have k2 : Ex.goesF (Ex.goK ⟨#[66, 77, 73]⟩) p = Alu.has p 128 := by rw [show Ex.goK ⟨#[66, 77, 73]⟩ = .BMI from by decide +kernel]; rfl
  have k3 : Ex.goesF (Ex.goK ⟨#[66, 86, 67]⟩) p = (!Alu.has p 64) := by rw [show Ex.goK ⟨#[66, 86, 67]⟩ = .BVC from by decide +kernel]; rfl
  have k4 : Ex.goesF (Ex.goK ⟨#[66, 86, 83]⟩) p = Alu.has p 64 := by rw [show Ex.goK ⟨#[66, 86, 83]⟩ = .BVS from by decide +kernel]; rfl
  have k5 : Ex.goesF (Ex.goK ⟨#[66, 67, 67]⟩) p = (!Alu.has p 1) := by rw [show Ex.goK ⟨#[66, 67, 67]⟩ = .BCC from by decide +kernel]; rfl
  have k6 : Ex.goesF (Ex.goK ⟨#[66, 67, 83]⟩) p = Alu.has p 1 := by rw [show Ex.goK ⟨#[66, 67, 83]⟩ = .BCS from by decide +kernel]; rfl
  have k7 : Ex.goesF (Ex.goK ⟨#[66, 78, 69]⟩) p = (!Alu.has p 2) := by rw [show Ex.goK ⟨#[66, 78, 69]⟩ = .BNE from by decide +kernel]; rfl
  have k8 : Ex.goesF (Ex.goK ⟨#[66, 69, 81]⟩) p = Alu.has p 2 := by rw [show Ex.goK ⟨#[66, 69, 81]⟩ = .BEQ from by decide +kernel]; rfl
  generalize Alu.has p 128 = b1 at *
  generalize Alu.has p 64 = b2 at *
  generalize Alu.has p 1 = b3 at *
  generalize Alu.has p 2 = b4 at *
  have z1 : ((!b1) == b1) = false := by cases b1 <;> rfl
  have z2 : ((!b2) == b2) = false := by cases b2 <;> rfl
  have z3 : ((!b3) == b3) = false := by cases b3 <;> rfl
  have z4 : ((!b4) == b4) = false := by cases b4 <;> rfl
  go_enter Try.func5, Try.ntmps5
  repeat (first | (with_reducible refine wp_keep _ ((KS.nil w).alloc #[_, _, _, _, _, _, _, _] _) ?_) | go_step)
  rintro W hS
  have hb := hS.1
  have hz := hS.2.1
  have hk := hS.2.2
  simp only [World.size_alloc, List.forall_mem_cons] at hk
  obtain ⟨⟨-, l0, t0, -⟩, -⟩ := hk
  clear hS
  have u0 : W.cell? ⟨w.heap.size, 0, none⟩ = some (.string ⟨#[66, 80, 76]⟩) := t0 0
  have u1 : W.cell? ⟨w.heap.size, 1, none⟩ = some (.string ⟨#[66, 77, 73]⟩) := t0 1
  have u2 : W.cell? ⟨w.heap.size, 2, none⟩ = some (.string ⟨#[66, 86, 67]⟩) := t0 2
  have u3 : W.cell? ⟨w.heap.size, 3, none⟩ = some (.string ⟨#[66, 86, 83]⟩) := t0 3
  have u4 : W.cell? ⟨w.heap.size, 4, none⟩ = some (.string ⟨#[66, 67, 67]⟩) := t0 4
  have u5 : W.cell? ⟨w.heap.size, 5, none⟩ = some (.string ⟨#[66, 67, 83]⟩) := t0 5
  have u6 : W.cell? ⟨w.heap.size, 6, none⟩ = some (.string ⟨#[66, 78, 69]⟩) := t0 6
  have u7 : W.cell? ⟨w.heap.size, 7, none⟩ = some (.string ⟨#[66, 69, 81]⟩) := t0 7
  clear t0
  go_wp2_with fail
  refine wp_loop_rounds 5 ?_
  rw [rounds_succ]
  go_wp2_with fail
  apply SameAt.one
  · go_region_with (go_at_call 18; refine (kk _ _).mono ?_; rintro e w1 ⟨rfl, rfl⟩)
    all_goals exact ⟨rfl, rfl⟩
  go_wp2_with fail
  rw [rounds_succ]
  go_wp2_with fail
  apply SameAt.one
  · go_region_with (go_at_call 18; refine (kk _ _).mono ?_; rintro e w1 ⟨rfl, rfl⟩)
    all_goals exact ⟨rfl, rfl⟩
  go_wp2_with fail
  rw [rounds_succ]
  go_wp2_with fail
  apply SameAt.one
  · go_region_with (go_at_call 18; refine (kk _ _).mono ?_; rintro e w1 ⟨rfl, rfl⟩)
    all_goals exact ⟨rfl, rfl⟩
  go_wp2_with fail
  rw [rounds_succ]
  go_wp2_with fail
  apply SameAt.one
  · go_region_with (go_at_call 18; refine (kk _ _).mono ?_; rintro e w1 ⟨rfl, rfl⟩)
    all_goals exact ⟨rfl, rfl⟩
  go_wp2_with fail
  rw [rounds_succ]
  go_wp2_with fail
  refine (awake_any _).mono ?_
  rintro e w4 ⟨rfl, hw4⟩
  go_wp2_with fail
  go_ret
  exact ⟨rfl, hb.drew.drew.drew.drew.trans (hw4.mono hz)⟩
end Go.Proofs.Ytlecpfkfnaiabaa
