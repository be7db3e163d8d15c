/- Package code: the reference's Cycles, walked. Printed by gen/coderc.py. -/
import Derived.Test.YtcchnenjfckbbaaDoorCodeRc0
namespace Go.Proofs.YtcchnenjfckbbaaDoor.Co
open Go.RowKit Go.Maps Go.Deep Go.Proofs.Tryd
set_option linter.unusedVariables false
set_option linter.unusedSimpArgs false
set_option maxRecDepth 100000 in
set_option maxHeartbeats 1000000 in
theorem rc_6_8 (o : Nat) (nm : ByteArray) (kn : Bool) (w : World)
    (K : Hid (Calls Tryd.prog 8 #[.int .i64 (o : Int)] w fun e w' => e = .returned (.agg #[.string nm, .int .i64 6, .int .i64 8, .bool kn]) ∧ Below w.heap.size w w')) :
    Calls Tryd.prog 12 #[.int .i64 (o : Int)] w fun e w' => e = .returned (.int .i64 (rcycF (nm.toList == [74, 77, 80]) 6 8)) ∧ Below w.heap.size w w' := by
  have hix : ∀ w : World, (Instr.index 51 (.agg #[.int .i64 0, .int .i64 0, .int .i64 0, .int .i64 0, .int .i64 2, .int .i64 3, .int .i64 4, .int .i64 3, .int .i64 6, .int .i64 6, .int .i64 6, .int .i64 7, .int .i64 0]) (.int .i64 8)).run Tryd.prog w = .ok (.int .i64 6) w := fun _ => by kernel_rfl
  cases hj : (nm.toList == [74, 77, 80]) with
  | true =>
    go_enter Tryd.func12, Tryd.ntmps12
    go_wp2_with fail
    refine K.out.mono ?_
    rintro e w' ⟨rfl, hb⟩
    go_wp2_with fail
    go_ret
    exact ⟨by rfl, (((hb.alloc hb.size _).alloc (by have := hb.size; simp; omega) _).alloc (by have := hb.size; simp; omega) _).alloc (by have := hb.size; simp; omega) _⟩
  | false =>
    go_enter Tryd.func12, Tryd.ntmps12
    go_wp2_with fail
    refine K.out.mono ?_
    rintro e w' ⟨rfl, hb⟩
    go_wp2_with fail
    go_ret
    exact ⟨by rfl, (((hb.alloc hb.size _).alloc (by have := hb.size; simp; omega) _).alloc (by have := hb.size; simp; omega) _).alloc (by have := hb.size; simp; omega) _⟩
set_option maxRecDepth 100000 in
set_option maxHeartbeats 1000000 in
theorem rc_0_9 (o : Nat) (nm : ByteArray) (kn : Bool) (w : World)
    (K : Hid (Calls Tryd.prog 8 #[.int .i64 (o : Int)] w fun e w' => e = .returned (.agg #[.string nm, .int .i64 0, .int .i64 9, .bool kn]) ∧ Below w.heap.size w w')) :
    Calls Tryd.prog 12 #[.int .i64 (o : Int)] w fun e w' => e = .returned (.int .i64 (rcycF (nm.toList == [74, 77, 80]) 0 9)) ∧ Below w.heap.size w w' := by
  have hix : ∀ w : World, (Instr.index 51 (.agg #[.int .i64 0, .int .i64 0, .int .i64 0, .int .i64 0, .int .i64 2, .int .i64 3, .int .i64 4, .int .i64 3, .int .i64 6, .int .i64 6, .int .i64 6, .int .i64 7, .int .i64 0]) (.int .i64 9)).run Tryd.prog w = .ok (.int .i64 6) w := fun _ => by kernel_rfl
  cases hj : (nm.toList == [74, 77, 80]) with
  | true =>
    go_enter Tryd.func12, Tryd.ntmps12
    go_wp2_with fail
    refine K.out.mono ?_
    rintro e w' ⟨rfl, hb⟩
    go_wp2_with fail
    go_ret
    exact ⟨by rfl, (((hb.alloc hb.size _).alloc (by have := hb.size; simp; omega) _).alloc (by have := hb.size; simp; omega) _).alloc (by have := hb.size; simp; omega) _⟩
  | false =>
    go_enter Tryd.func12, Tryd.ntmps12
    go_wp2_with fail
    refine K.out.mono ?_
    rintro e w' ⟨rfl, hb⟩
    go_wp2_with fail
    go_ret
    exact ⟨by rfl, (((hb.alloc hb.size _).alloc (by have := hb.size; simp; omega) _).alloc (by have := hb.size; simp; omega) _).alloc (by have := hb.size; simp; omega) _⟩
set_option maxRecDepth 100000 in
set_option maxHeartbeats 1000000 in
theorem rc_0_10 (o : Nat) (nm : ByteArray) (kn : Bool) (w : World)
    (K : Hid (Calls Tryd.prog 8 #[.int .i64 (o : Int)] w fun e w' => e = .returned (.agg #[.string nm, .int .i64 0, .int .i64 10, .bool kn]) ∧ Below w.heap.size w w')) :
    Calls Tryd.prog 12 #[.int .i64 (o : Int)] w fun e w' => e = .returned (.int .i64 (rcycF (nm.toList == [74, 77, 80]) 0 10)) ∧ Below w.heap.size w w' := by
  have hix : ∀ w : World, (Instr.index 51 (.agg #[.int .i64 0, .int .i64 0, .int .i64 0, .int .i64 0, .int .i64 2, .int .i64 3, .int .i64 4, .int .i64 3, .int .i64 6, .int .i64 6, .int .i64 6, .int .i64 7, .int .i64 0]) (.int .i64 10)).run Tryd.prog w = .ok (.int .i64 6) w := fun _ => by kernel_rfl
  cases hj : (nm.toList == [74, 77, 80]) with
  | true =>
    go_enter Tryd.func12, Tryd.ntmps12
    go_wp2_with fail
    refine K.out.mono ?_
    rintro e w' ⟨rfl, hb⟩
    go_wp2_with fail
    go_ret
    exact ⟨by rfl, (((hb.alloc hb.size _).alloc (by have := hb.size; simp; omega) _).alloc (by have := hb.size; simp; omega) _).alloc (by have := hb.size; simp; omega) _⟩
  | false =>
    go_enter Tryd.func12, Tryd.ntmps12
    go_wp2_with fail
    refine K.out.mono ?_
    rintro e w' ⟨rfl, hb⟩
    go_wp2_with fail
    go_ret
    exact ⟨by rfl, (((hb.alloc hb.size _).alloc (by have := hb.size; simp; omega) _).alloc (by have := hb.size; simp; omega) _).alloc (by have := hb.size; simp; omega) _⟩
set_option maxRecDepth 100000 in
set_option maxHeartbeats 1000000 in
theorem rc_0_11 (o : Nat) (nm : ByteArray) (kn : Bool) (w : World)
    (K : Hid (Calls Tryd.prog 8 #[.int .i64 (o : Int)] w fun e w' => e = .returned (.agg #[.string nm, .int .i64 0, .int .i64 11, .bool kn]) ∧ Below w.heap.size w w')) :
    Calls Tryd.prog 12 #[.int .i64 (o : Int)] w fun e w' => e = .returned (.int .i64 (rcycF (nm.toList == [74, 77, 80]) 0 11)) ∧ Below w.heap.size w w' := by
  have hix : ∀ w : World, (Instr.index 51 (.agg #[.int .i64 0, .int .i64 0, .int .i64 0, .int .i64 0, .int .i64 2, .int .i64 3, .int .i64 4, .int .i64 3, .int .i64 6, .int .i64 6, .int .i64 6, .int .i64 7, .int .i64 0]) (.int .i64 11)).run Tryd.prog w = .ok (.int .i64 7) w := fun _ => by kernel_rfl
  cases hj : (nm.toList == [74, 77, 80]) with
  | true =>
    go_enter Tryd.func12, Tryd.ntmps12
    go_wp2_with fail
    refine K.out.mono ?_
    rintro e w' ⟨rfl, hb⟩
    go_wp2_with fail
    go_ret
    exact ⟨by rfl, (((hb.alloc hb.size _).alloc (by have := hb.size; simp; omega) _).alloc (by have := hb.size; simp; omega) _).alloc (by have := hb.size; simp; omega) _⟩
  | false =>
    go_enter Tryd.func12, Tryd.ntmps12
    go_wp2_with fail
    refine K.out.mono ?_
    rintro e w' ⟨rfl, hb⟩
    go_wp2_with fail
    go_ret
    exact ⟨by rfl, (((hb.alloc hb.size _).alloc (by have := hb.size; simp; omega) _).alloc (by have := hb.size; simp; omega) _).alloc (by have := hb.size; simp; omega) _⟩
set_option maxRecDepth 100000 in
set_option maxHeartbeats 1000000 in
theorem rc_0_12 (o : Nat) (nm : ByteArray) (kn : Bool) (w : World)
    (K : Hid (Calls Tryd.prog 8 #[.int .i64 (o : Int)] w fun e w' => e = .returned (.agg #[.string nm, .int .i64 0, .int .i64 12, .bool kn]) ∧ Below w.heap.size w w')) :
    Calls Tryd.prog 12 #[.int .i64 (o : Int)] w fun e w' => e = .returned (.int .i64 (rcycF (nm.toList == [74, 77, 80]) 0 12)) ∧ Below w.heap.size w w' := by
  have hix : ∀ w : World, (Instr.index 51 (.agg #[.int .i64 0, .int .i64 0, .int .i64 0, .int .i64 0, .int .i64 2, .int .i64 3, .int .i64 4, .int .i64 3, .int .i64 6, .int .i64 6, .int .i64 6, .int .i64 7, .int .i64 0]) (.int .i64 12)).run Tryd.prog w = .ok (.int .i64 0) w := fun _ => by kernel_rfl
  cases hj : (nm.toList == [74, 77, 80]) with
  | true =>
    go_enter Tryd.func12, Tryd.ntmps12
    go_wp2_with fail
    refine K.out.mono ?_
    rintro e w' ⟨rfl, hb⟩
    go_wp2_with fail
    go_ret
    exact ⟨by rfl, (((hb.alloc hb.size _).alloc (by have := hb.size; simp; omega) _).alloc (by have := hb.size; simp; omega) _).alloc (by have := hb.size; simp; omega) _⟩
  | false =>
    go_enter Tryd.func12, Tryd.ntmps12
    go_wp2_with fail
    refine K.out.mono ?_
    rintro e w' ⟨rfl, hb⟩
    go_wp2_with fail
    go_ret
    exact ⟨by rfl, (((hb.alloc hb.size _).alloc (by have := hb.size; simp; omega) _).alloc (by have := hb.size; simp; omega) _).alloc (by have := hb.size; simp; omega) _⟩
end Go.Proofs.YtcchnenjfckbbaaDoor.Co
