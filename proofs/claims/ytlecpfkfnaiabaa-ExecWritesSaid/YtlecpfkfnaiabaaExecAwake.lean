/- The laws of package exec: what the chapter's examples say comes to true. -/
import Derived.Test.YtlecpfkfnaiabaaExecTu1
import Derived.Test.YtlecpfkfnaiabaaExecSt1
namespace Go.Proofs.Ytlecpfkfnaiabaa
open Go.RowKit
set_option linter.unusedVariables false
set_option linter.unusedSimpArgs false

theorem old_cell {w1 w2 : World} {A : Obj} {cs : Array Value} {T : TypeId} (hA : A = .cells cs T) (h : Below (w1.alloc A).heap.size (w1.alloc A) w2) (i : Nat) : w2.cell? ⟨w1.heap.size, i, none⟩ = cs[i]? := by
  subst hA
  rw [h.cell (by simp), World.cell?_alloc_at _ _ _ _ rfl]
theorem past2 {w1 w2 w3 : World} {A B : Obj} {cs : Array Value} {T : TypeId} (hA : A = .cells cs T) (h2 : Below (w1.alloc A).heap.size (w1.alloc A) w2) (h3 : Below (w2.alloc B).heap.size (w2.alloc B) w3) (o : Obj) (i : Nat) :
    (w3.alloc o).cell? ⟨w1.heap.size, i, none⟩ = cs[i]? := by
  have s2 := h2.size
  have s3 := h3.size
  simp only [World.size_alloc] at s2 s3
  have e1 : w1.heap.size < w3.heap.size := by omega
  have e2 : w1.heap.size < w2.heap.size := by omega
  have e3 : w1.heap.size < (w2.alloc B).heap.size := by simp only [World.size_alloc]; omega
  rw [World.cell?_alloc_past _ _ _ e1, h3.cell e3, World.cell?_alloc_past _ _ _ e2, old_cell hA h2 i]
set_option maxRecDepth 100000 in
set_option maxHeartbeats 1000000 in
theorem awake_any (w : World) :
    Calls Try.prog 13 #[] w fun e w' => e = .returned (.bool true) ∧ Below w.heap.size w w' := by
  have h1 := fun w' => read_LDA ⟨5, 0, 0, 0, 0, 0⟩ (by constructor <;> decide) 0 (by decide) (by decide) ⟨#[76, 68, 65]⟩ (by decide +kernel) w'
  have h2 := fun w' => store_SHX ⟨0, 15, 0, 0, 0, 0⟩ (by constructor <;> decide) 18 (by decide) (by decide) ⟨#[83, 72, 88]⟩ (by decide +kernel) w'
  have h3 := fun w' => turn_DCP ⟨5, 0, 0, 0, 0, 0⟩ (by constructor <;> decide) 6 (by decide) (by decide) ⟨#[68, 67, 80]⟩ (by decide +kernel) w'
  have h4 := fun w' => goes_BNE 0 (by decide) (by decide) ⟨#[66, 78, 69]⟩ (by decide +kernel) w'
  rw [show Ex.readF .LDA ⟨5, 0, 0, 0, 0, 0⟩ 0 = ⟨0, 0, 0, 0, 2, 0⟩ from by decide +kernel] at h1
  rw [show Ex.storeV .SHX ⟨0, 15, 0, 0, 0, 0⟩ 18 = 3 from by decide +kernel, show Ex.storeR .SHX ⟨0, 15, 0, 0, 0, 0⟩ = ⟨0, 15, 0, 0, 0, 0⟩ from rfl] at h2
  simp only [] at h3
  rw [show Ex.turnV .DCP 0 6 = 5 from by decide +kernel, show Ex.turnR .DCP ⟨5, 0, 0, 0, 0, 0⟩ 6 = ⟨5, 0, 0, 0, 3, 0⟩ from by decide +kernel] at h3
  rw [show Ex.goesF .BNE 0 = true from by decide +kernel] at h4
  simp only [rgU] at h1 h2 h3
  go_enter Try.func13, Try.ntmps13
  go_wp2_with fail
  refine (h1 _).mono ?_
  rintro e w1 ⟨rfl, hw1⟩
  go_wp2_with fail
  refine (h2 _).mono ?_
  rintro e w2 ⟨rfl, hw2⟩
  go_wp2_with fail
  refine (h3 _).mono ?_
  rintro e w3 ⟨rfl, hw3⟩
  have s1 := hw1.size
  have s2 := hw2.size
  have s3 := hw3.size
  simp only [World.size_alloc] at s2 s3
  have r0 : ∀ o, (w3.alloc o).cell? ⟨w1.heap.size, 0, none⟩ = some (.int .u8 0) := fun o => past2 rfl hw2 hw3 o 0
  have r4 : ∀ o, (w3.alloc o).cell? ⟨w1.heap.size, 4, none⟩ = some (.int .u8 2) := fun o => past2 rfl hw2 hw3 o 4
  go_wp2_with fail
  refine (h4 _).mono ?_
  rintro e w4 ⟨rfl, rfl⟩
  go_wp2_with fail
  go_ret
  refine ⟨rfl, ?_⟩
  have b1 := hw1.alloc s1 (.cells #[.int .u8 0, .int .u8 0, .int .u8 0, .int .u8 0, .int .u8 2, .int .u16 0] 24)
  have b2 := (b1.trans (hw2.mono (by simp only [World.size_alloc]; omega))).alloc (by omega) (.cells #[.int .u8 0, .int .u8 15, .int .u8 0, .int .u8 0, .int .u8 0, .int .u16 0] 24)
  exact (b2.trans (hw3.mono (by simp only [World.size_alloc]; omega))).alloc (by omega) _
end Go.Proofs.Ytlecpfkfnaiabaa
