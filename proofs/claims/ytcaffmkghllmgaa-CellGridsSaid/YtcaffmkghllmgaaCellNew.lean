/- Package cell: a new ring. -/
import Derived.Test.YtcaffmkghllmgaaCellRing
import Derived.Test.YtcaffmkghllmgaaCellRp
namespace Go.Proofs.Ytcaffmkghllmgaa.Cl
open Go.RowKit Go.Deep
set_option linter.unusedVariables false
set_option linter.unusedSimpArgs false
theorem info_string : (Try.prog.info? 9).map (fun i => (i.zero, i.size, i.bytes)) = some (some (.string ⟨#[]⟩), 1, 16) := by kernel_rfl


theorem newring_string (w : World) (room : Nat) (h0 : 1 ≤ room) (h1 : room ≤ 65536) : Calls Try.prog 28 #[.int .i64 room] w fun e w' => e = .returned (.pointer (some ⟨w.heap.size + 1, 0, none⟩)) ∧
    RingS 94 9 w' (w.heap.size + 1) w.heap.size room 0 0 (List.replicate room (.string ⟨#[]⟩)) ∧ Below w.heap.size w w' ∧ w'.heap.size = w.heap.size + 2 := by
  have hmk := run_make_row' (P := Try.prog) 92 9 (.string ⟨#[]⟩) 16 Try.underlying92 info_string rfl .i64 .i64 room (by omega) (by omega)
  have hr0 : ¬ (room : Int) < 1 := by omega
  have hr1 : ¬ (65536 : Int) < room := by omega
  go_enter Try.func28, Try.ntmps28
  go_wp2_with fail
  go_ret
  refine ⟨rfl, ?_, ?_, by simp⟩
  · refine ⟨heap_alloc2_new w _ _, ?_, by simp, by omega, by omega, by omega, h1⟩
    rw [heap_alloc2_old, made_row]
  · exact ((Below.refl _ w).alloc (Nat.le_refl _) _).alloc (by simp) _
theorem newring_string_nil (w : World) (room : Int) (h0 : room < 1 ∨ 65536 < room) : Calls Try.prog 28 #[.int .i64 room] w fun e w' => e = .returned (.pointer none) ∧ w' = w := by
  by_cases h : room < 1
  · go_enter Try.func28, Try.ntmps28
    go_wp2_with fail
    go_ret
    exact ⟨rfl, rfl⟩
  · have h' : 65536 < room := by omega
    go_enter Try.func28, Try.ntmps28
    go_wp2_with fail
    go_ret
    exact ⟨rfl, rfl⟩

theorem newring_int (w : World) (room : Nat) (h0 : 1 ≤ room) (h1 : room ≤ 65536) : Calls Try.prog 15 #[.int .i64 room] w fun e w' => e = .returned (.pointer (some ⟨w.heap.size + 1, 0, none⟩)) ∧
    RingS 77 3 w' (w.heap.size + 1) w.heap.size room 0 0 (List.replicate room (.int .i64 0)) ∧ Below w.heap.size w w' ∧ w'.heap.size = w.heap.size + 2 := by
  have hmk := run_make_row' (P := Try.prog) 22 3 (.int .i64 0) 8 Try.underlying22 info_int rfl .i64 .i64 room (by omega) (by omega)
  have hr0 : ¬ (room : Int) < 1 := by omega
  have hr1 : ¬ (65536 : Int) < room := by omega
  go_enter Try.func15, Try.ntmps15
  go_wp2_with fail
  go_ret
  refine ⟨rfl, ?_, ?_, by simp⟩
  · refine ⟨heap_alloc2_new w _ _, ?_, by simp, by omega, by omega, by omega, h1⟩
    rw [heap_alloc2_old, made_row]
  · exact ((Below.refl _ w).alloc (Nat.le_refl _) _).alloc (by simp) _
theorem newring_int_nil (w : World) (room : Int) (h0 : room < 1 ∨ 65536 < room) : Calls Try.prog 15 #[.int .i64 room] w fun e w' => e = .returned (.pointer none) ∧ w' = w := by
  by_cases h : room < 1
  · go_enter Try.func15, Try.ntmps15
    go_wp2_with fail
    go_ret
    exact ⟨rfl, rfl⟩
  · have h' : 65536 < room := by omega
    go_enter Try.func15, Try.ntmps15
    go_wp2_with fail
    go_ret
    exact ⟨rfl, rfl⟩
end Go.Proofs.Ytcaffmkghllmgaa.Cl
