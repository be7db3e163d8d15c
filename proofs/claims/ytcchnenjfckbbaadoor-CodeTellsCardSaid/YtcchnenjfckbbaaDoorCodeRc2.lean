/- Package code: the reference's Cycles, walked. Printed by gen/coderc.py. -/
import Derived.Test.YtcchnenjfckbbaaDoorCodeRc0
namespace Go.Proofs.YtcchnenjfckbbaaDoor.Co
open Go.RowKit Go.Maps Go.Deep Go.Proofs.Tryd
set_option linter.unusedVariables false
set_option linter.unusedSimpArgs false
set_option maxRecDepth 100000 in
set_option maxHeartbeats 1000000 in
theorem rc_8_1 (o : Nat) (nm : ByteArray) (kn : Bool) (w : World)
    (K : Hid (Calls Tryd.prog 8 #[.int .i64 (o : Int)] w fun e w' => e = .returned (.agg #[.string nm, .int .i64 8, .int .i64 1, .bool kn]) ∧ Below w.heap.size w w')) :
    Calls Tryd.prog 12 #[.int .i64 (o : Int)] w fun e w' => e = .returned (.int .i64 (rcycF (nm.toList == [74, 77, 80]) 8 1)) ∧ Below w.heap.size w w' := by
  go_enter Tryd.func12, Tryd.ntmps12
  go_wp2_with fail
  refine K.out.mono ?_
  rintro e w' ⟨rfl, hb⟩
  go_wp2_with fail
  go_ret
  exact ⟨by rfl, (((hb.alloc hb.size _).alloc (by have := hb.size; simp; omega) _).alloc (by have := hb.size; simp; omega) _).alloc (by have := hb.size; simp; omega) _⟩
set_option maxRecDepth 100000 in
set_option maxHeartbeats 1000000 in
theorem rc_9_1 (o : Nat) (nm : ByteArray) (kn : Bool) (w : World)
    (K : Hid (Calls Tryd.prog 8 #[.int .i64 (o : Int)] w fun e w' => e = .returned (.agg #[.string nm, .int .i64 9, .int .i64 1, .bool kn]) ∧ Below w.heap.size w w')) :
    Calls Tryd.prog 12 #[.int .i64 (o : Int)] w fun e w' => e = .returned (.int .i64 (rcycF (nm.toList == [74, 77, 80]) 9 1)) ∧ Below w.heap.size w w' := by
  go_enter Tryd.func12, Tryd.ntmps12
  go_wp2_with fail
  refine K.out.mono ?_
  rintro e w' ⟨rfl, hb⟩
  go_wp2_with fail
  go_ret
  exact ⟨by rfl, (((hb.alloc hb.size _).alloc (by have := hb.size; simp; omega) _).alloc (by have := hb.size; simp; omega) _).alloc (by have := hb.size; simp; omega) _⟩
set_option maxRecDepth 100000 in
set_option maxHeartbeats 1000000 in
theorem rc_10_1 (o : Nat) (nm : ByteArray) (kn : Bool) (w : World)
    (K : Hid (Calls Tryd.prog 8 #[.int .i64 (o : Int)] w fun e w' => e = .returned (.agg #[.string nm, .int .i64 10, .int .i64 1, .bool kn]) ∧ Below w.heap.size w w')) :
    Calls Tryd.prog 12 #[.int .i64 (o : Int)] w fun e w' => e = .returned (.int .i64 (rcycF (nm.toList == [74, 77, 80]) 10 1)) ∧ Below w.heap.size w w' := by
  go_enter Tryd.func12, Tryd.ntmps12
  go_wp2_with fail
  refine K.out.mono ?_
  rintro e w' ⟨rfl, hb⟩
  go_wp2_with fail
  go_ret
  exact ⟨by rfl, (((hb.alloc hb.size _).alloc (by have := hb.size; simp; omega) _).alloc (by have := hb.size; simp; omega) _).alloc (by have := hb.size; simp; omega) _⟩
set_option maxRecDepth 100000 in
set_option maxHeartbeats 1000000 in
theorem rc_3_2 (o : Nat) (nm : ByteArray) (kn : Bool) (w : World)
    (K : Hid (Calls Tryd.prog 8 #[.int .i64 (o : Int)] w fun e w' => e = .returned (.agg #[.string nm, .int .i64 3, .int .i64 2, .bool kn]) ∧ Below w.heap.size w w')) :
    Calls Tryd.prog 12 #[.int .i64 (o : Int)] w fun e w' => e = .returned (.int .i64 (rcycF (nm.toList == [74, 77, 80]) 3 2)) ∧ Below w.heap.size w w' := by
  go_enter Tryd.func12, Tryd.ntmps12
  go_wp2_with fail
  refine K.out.mono ?_
  rintro e w' ⟨rfl, hb⟩
  go_wp2_with fail
  go_ret
  exact ⟨by rfl, (((hb.alloc hb.size _).alloc (by have := hb.size; simp; omega) _).alloc (by have := hb.size; simp; omega) _).alloc (by have := hb.size; simp; omega) _⟩
set_option maxRecDepth 100000 in
set_option maxHeartbeats 1000000 in
theorem rc_4_2 (o : Nat) (nm : ByteArray) (kn : Bool) (w : World)
    (K : Hid (Calls Tryd.prog 8 #[.int .i64 (o : Int)] w fun e w' => e = .returned (.agg #[.string nm, .int .i64 4, .int .i64 2, .bool kn]) ∧ Below w.heap.size w w')) :
    Calls Tryd.prog 12 #[.int .i64 (o : Int)] w fun e w' => e = .returned (.int .i64 (rcycF (nm.toList == [74, 77, 80]) 4 2)) ∧ Below w.heap.size w w' := by
  go_enter Tryd.func12, Tryd.ntmps12
  go_wp2_with fail
  refine K.out.mono ?_
  rintro e w' ⟨rfl, hb⟩
  go_wp2_with fail
  go_ret
  exact ⟨by rfl, (((hb.alloc hb.size _).alloc (by have := hb.size; simp; omega) _).alloc (by have := hb.size; simp; omega) _).alloc (by have := hb.size; simp; omega) _⟩
set_option maxRecDepth 100000 in
set_option maxHeartbeats 1000000 in
theorem rc_5_2 (o : Nat) (nm : ByteArray) (kn : Bool) (w : World)
    (K : Hid (Calls Tryd.prog 8 #[.int .i64 (o : Int)] w fun e w' => e = .returned (.agg #[.string nm, .int .i64 5, .int .i64 2, .bool kn]) ∧ Below w.heap.size w w')) :
    Calls Tryd.prog 12 #[.int .i64 (o : Int)] w fun e w' => e = .returned (.int .i64 (rcycF (nm.toList == [74, 77, 80]) 5 2)) ∧ Below w.heap.size w w' := by
  go_enter Tryd.func12, Tryd.ntmps12
  go_wp2_with fail
  refine K.out.mono ?_
  rintro e w' ⟨rfl, hb⟩
  go_wp2_with fail
  go_ret
  exact ⟨by rfl, (((hb.alloc hb.size _).alloc (by have := hb.size; simp; omega) _).alloc (by have := hb.size; simp; omega) _).alloc (by have := hb.size; simp; omega) _⟩
set_option maxRecDepth 100000 in
set_option maxHeartbeats 1000000 in
theorem rc_6_2 (o : Nat) (nm : ByteArray) (kn : Bool) (w : World)
    (K : Hid (Calls Tryd.prog 8 #[.int .i64 (o : Int)] w fun e w' => e = .returned (.agg #[.string nm, .int .i64 6, .int .i64 2, .bool kn]) ∧ Below w.heap.size w w')) :
    Calls Tryd.prog 12 #[.int .i64 (o : Int)] w fun e w' => e = .returned (.int .i64 (rcycF (nm.toList == [74, 77, 80]) 6 2)) ∧ Below w.heap.size w w' := by
  go_enter Tryd.func12, Tryd.ntmps12
  go_wp2_with fail
  refine K.out.mono ?_
  rintro e w' ⟨rfl, hb⟩
  go_wp2_with fail
  go_ret
  exact ⟨by rfl, (((hb.alloc hb.size _).alloc (by have := hb.size; simp; omega) _).alloc (by have := hb.size; simp; omega) _).alloc (by have := hb.size; simp; omega) _⟩
end Go.Proofs.YtcchnenjfckbbaaDoor.Co
