/- Package code: the reference's Cycles, walked. Printed by gen/coderc.py. -/
import Derived.Test.YtcchnenjfckbbaaDoorCodeRc0
namespace Go.Proofs.YtcchnenjfckbbaaDoor.Co
open Go.RowKit Go.Maps Go.Deep Go.Proofs.Tryd
set_option linter.unusedVariables false
set_option linter.unusedSimpArgs false
set_option maxRecDepth 100000 in
set_option maxHeartbeats 1000000 in
theorem rc_11_4 (o : Nat) (nm : ByteArray) (kn : Bool) (w : World)
    (K : Hid (Calls Tryd.prog 8 #[.int .i64 (o : Int)] w fun e w' => e = .returned (.agg #[.string nm, .int .i64 11, .int .i64 4, .bool kn]) ∧ Below w.heap.size w w')) :
    Calls Tryd.prog 12 #[.int .i64 (o : Int)] w fun e w' => e = .returned (.int .i64 (rcycF (nm.toList == [74, 77, 80]) 11 4)) ∧ Below w.heap.size w w' := by
  have hix : ∀ w : World, (Instr.index 51 (.agg #[.int .i64 0, .int .i64 0, .int .i64 0, .int .i64 0, .int .i64 2, .int .i64 3, .int .i64 4, .int .i64 3, .int .i64 6, .int .i64 6, .int .i64 6, .int .i64 7, .int .i64 0]) (.int .i64 4)).run Tryd.prog w = .ok (.int .i64 2) w := fun _ => by kernel_rfl
  cases hj : (nm.toList == [74, 77, 80]) with
  | true =>
    go_enter Tryd.func12, Tryd.ntmps12
    go_wp2_with fail
    refine K.out.mono ?_
    rintro e w' ⟨rfl, hb⟩
    go_wp2_with fail
    go_ret
    exact ⟨by rfl, (((hb.alloc hb.size _).alloc (by have := hb.size; simp; omega) _).alloc (by have := hb.size; simp; omega) _).alloc (by have := hb.size; simp; omega) _⟩
  | false =>
    go_enter Tryd.func12, Tryd.ntmps12
    go_wp2_with fail
    refine K.out.mono ?_
    rintro e w' ⟨rfl, hb⟩
    go_wp2_with fail
    go_ret
    exact ⟨by rfl, (((hb.alloc hb.size _).alloc (by have := hb.size; simp; omega) _).alloc (by have := hb.size; simp; omega) _).alloc (by have := hb.size; simp; omega) _⟩
set_option maxRecDepth 100000 in
set_option maxHeartbeats 1000000 in
theorem rc_0_5 (o : Nat) (nm : ByteArray) (kn : Bool) (w : World)
    (K : Hid (Calls Tryd.prog 8 #[.int .i64 (o : Int)] w fun e w' => e = .returned (.agg #[.string nm, .int .i64 0, .int .i64 5, .bool kn]) ∧ Below w.heap.size w w')) :
    Calls Tryd.prog 12 #[.int .i64 (o : Int)] w fun e w' => e = .returned (.int .i64 (rcycF (nm.toList == [74, 77, 80]) 0 5)) ∧ Below w.heap.size w w' := by
  have hix : ∀ w : World, (Instr.index 51 (.agg #[.int .i64 0, .int .i64 0, .int .i64 0, .int .i64 0, .int .i64 2, .int .i64 3, .int .i64 4, .int .i64 3, .int .i64 6, .int .i64 6, .int .i64 6, .int .i64 7, .int .i64 0]) (.int .i64 5)).run Tryd.prog w = .ok (.int .i64 3) w := fun _ => by kernel_rfl
  cases hj : (nm.toList == [74, 77, 80]) with
  | true =>
    go_enter Tryd.func12, Tryd.ntmps12
    go_wp2_with fail
    refine K.out.mono ?_
    rintro e w' ⟨rfl, hb⟩
    go_wp2_with fail
    go_ret
    exact ⟨by rfl, (((hb.alloc hb.size _).alloc (by have := hb.size; simp; omega) _).alloc (by have := hb.size; simp; omega) _).alloc (by have := hb.size; simp; omega) _⟩
  | false =>
    go_enter Tryd.func12, Tryd.ntmps12
    go_wp2_with fail
    refine K.out.mono ?_
    rintro e w' ⟨rfl, hb⟩
    go_wp2_with fail
    go_ret
    exact ⟨by rfl, (((hb.alloc hb.size _).alloc (by have := hb.size; simp; omega) _).alloc (by have := hb.size; simp; omega) _).alloc (by have := hb.size; simp; omega) _⟩
set_option maxRecDepth 100000 in
set_option maxHeartbeats 1000000 in
theorem rc_0_6 (o : Nat) (nm : ByteArray) (kn : Bool) (w : World)
    (K : Hid (Calls Tryd.prog 8 #[.int .i64 (o : Int)] w fun e w' => e = .returned (.agg #[.string nm, .int .i64 0, .int .i64 6, .bool kn]) ∧ Below w.heap.size w w')) :
    Calls Tryd.prog 12 #[.int .i64 (o : Int)] w fun e w' => e = .returned (.int .i64 (rcycF (nm.toList == [74, 77, 80]) 0 6)) ∧ Below w.heap.size w w' := by
  have hix : ∀ w : World, (Instr.index 51 (.agg #[.int .i64 0, .int .i64 0, .int .i64 0, .int .i64 0, .int .i64 2, .int .i64 3, .int .i64 4, .int .i64 3, .int .i64 6, .int .i64 6, .int .i64 6, .int .i64 7, .int .i64 0]) (.int .i64 6)).run Tryd.prog w = .ok (.int .i64 4) w := fun _ => by kernel_rfl
  cases hj : (nm.toList == [74, 77, 80]) with
  | true =>
    go_enter Tryd.func12, Tryd.ntmps12
    go_wp2_with fail
    refine K.out.mono ?_
    rintro e w' ⟨rfl, hb⟩
    go_wp2_with fail
    go_ret
    exact ⟨by rfl, (((hb.alloc hb.size _).alloc (by have := hb.size; simp; omega) _).alloc (by have := hb.size; simp; omega) _).alloc (by have := hb.size; simp; omega) _⟩
  | false =>
    go_enter Tryd.func12, Tryd.ntmps12
    go_wp2_with fail
    refine K.out.mono ?_
    rintro e w' ⟨rfl, hb⟩
    go_wp2_with fail
    go_ret
    exact ⟨by rfl, (((hb.alloc hb.size _).alloc (by have := hb.size; simp; omega) _).alloc (by have := hb.size; simp; omega) _).alloc (by have := hb.size; simp; omega) _⟩
set_option maxRecDepth 100000 in
set_option maxHeartbeats 1000000 in
theorem rc_6_7 (o : Nat) (nm : ByteArray) (kn : Bool) (w : World)
    (K : Hid (Calls Tryd.prog 8 #[.int .i64 (o : Int)] w fun e w' => e = .returned (.agg #[.string nm, .int .i64 6, .int .i64 7, .bool kn]) ∧ Below w.heap.size w w')) :
    Calls Tryd.prog 12 #[.int .i64 (o : Int)] w fun e w' => e = .returned (.int .i64 (rcycF (nm.toList == [74, 77, 80]) 6 7)) ∧ Below w.heap.size w w' := by
  have hix : ∀ w : World, (Instr.index 51 (.agg #[.int .i64 0, .int .i64 0, .int .i64 0, .int .i64 0, .int .i64 2, .int .i64 3, .int .i64 4, .int .i64 3, .int .i64 6, .int .i64 6, .int .i64 6, .int .i64 7, .int .i64 0]) (.int .i64 7)).run Tryd.prog w = .ok (.int .i64 3) w := fun _ => by kernel_rfl
  cases hj : (nm.toList == [74, 77, 80]) with
  | true =>
    go_enter Tryd.func12, Tryd.ntmps12
    go_wp2_with fail
    refine K.out.mono ?_
    rintro e w' ⟨rfl, hb⟩
    go_wp2_with fail
    go_ret
    exact ⟨by rfl, (((hb.alloc hb.size _).alloc (by have := hb.size; simp; omega) _).alloc (by have := hb.size; simp; omega) _).alloc (by have := hb.size; simp; omega) _⟩
  | false =>
    go_enter Tryd.func12, Tryd.ntmps12
    go_wp2_with fail
    refine K.out.mono ?_
    rintro e w' ⟨rfl, hb⟩
    go_wp2_with fail
    go_ret
    exact ⟨by rfl, (((hb.alloc hb.size _).alloc (by have := hb.size; simp; omega) _).alloc (by have := hb.size; simp; omega) _).alloc (by have := hb.size; simp; omega) _⟩
set_option maxRecDepth 100000 in
set_option maxHeartbeats 1000000 in
theorem rc_12_7 (o : Nat) (nm : ByteArray) (kn : Bool) (w : World)
    (K : Hid (Calls Tryd.prog 8 #[.int .i64 (o : Int)] w fun e w' => e = .returned (.agg #[.string nm, .int .i64 12, .int .i64 7, .bool kn]) ∧ Below w.heap.size w w')) :
    Calls Tryd.prog 12 #[.int .i64 (o : Int)] w fun e w' => e = .returned (.int .i64 (rcycF (nm.toList == [74, 77, 80]) 12 7)) ∧ Below w.heap.size w w' := by
  have hix : ∀ w : World, (Instr.index 51 (.agg #[.int .i64 0, .int .i64 0, .int .i64 0, .int .i64 0, .int .i64 2, .int .i64 3, .int .i64 4, .int .i64 3, .int .i64 6, .int .i64 6, .int .i64 6, .int .i64 7, .int .i64 0]) (.int .i64 7)).run Tryd.prog w = .ok (.int .i64 3) w := fun _ => by kernel_rfl
  cases hj : (nm.toList == [74, 77, 80]) with
  | true =>
    go_enter Tryd.func12, Tryd.ntmps12
    go_wp2_with fail
    refine K.out.mono ?_
    rintro e w' ⟨rfl, hb⟩
    go_wp2_with fail
    go_ret
    exact ⟨by rfl, (((hb.alloc hb.size _).alloc (by have := hb.size; simp; omega) _).alloc (by have := hb.size; simp; omega) _).alloc (by have := hb.size; simp; omega) _⟩
  | false =>
    go_enter Tryd.func12, Tryd.ntmps12
    go_wp2_with fail
    refine K.out.mono ?_
    rintro e w' ⟨rfl, hb⟩
    go_wp2_with fail
    go_ret
    exact ⟨by rfl, (((hb.alloc hb.size _).alloc (by have := hb.size; simp; omega) _).alloc (by have := hb.size; simp; omega) _).alloc (by have := hb.size; simp; omega) _⟩
end Go.Proofs.YtcchnenjfckbbaaDoor.Co
