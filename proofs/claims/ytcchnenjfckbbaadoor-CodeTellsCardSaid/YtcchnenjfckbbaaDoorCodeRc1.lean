/- Package code: the reference's Cycles, walked. Printed by gen/coderc.py. -/
import Derived.Test.YtcchnenjfckbbaaDoorCodeRc0
namespace Go.Proofs.YtcchnenjfckbbaaDoor.Co
open Go.RowKit Go.Maps Go.Deep Go.Proofs.Tryd
set_option linter.unusedVariables false
set_option linter.unusedSimpArgs false
set_option maxRecDepth 100000 in
set_option maxHeartbeats 1000000 in
theorem rc_0_0 (o : Nat) (nm : ByteArray) (kn : Bool) (w : World)
    (K : Hid (Calls Tryd.prog 8 #[.int .i64 (o : Int)] w fun e w' => e = .returned (.agg #[.string nm, .int .i64 0, .int .i64 0, .bool kn]) ∧ Below w.heap.size w w')) :
    Calls Tryd.prog 12 #[.int .i64 (o : Int)] w fun e w' => e = .returned (.int .i64 (rcycF (nm.toList == [74, 77, 80]) 0 0)) ∧ Below w.heap.size w w' := by
  go_enter Tryd.func12, Tryd.ntmps12
  go_wp2_with fail
  refine K.out.mono ?_
  rintro e w' ⟨rfl, hb⟩
  go_wp2_with fail
  go_ret
  exact ⟨by rfl, (((hb.alloc hb.size _).alloc (by have := hb.size; simp; omega) _).alloc (by have := hb.size; simp; omega) _).alloc (by have := hb.size; simp; omega) _⟩
set_option maxRecDepth 100000 in
set_option maxHeartbeats 1000000 in
theorem rc_2_1 (o : Nat) (nm : ByteArray) (kn : Bool) (w : World)
    (K : Hid (Calls Tryd.prog 8 #[.int .i64 (o : Int)] w fun e w' => e = .returned (.agg #[.string nm, .int .i64 2, .int .i64 1, .bool kn]) ∧ Below w.heap.size w w')) :
    Calls Tryd.prog 12 #[.int .i64 (o : Int)] w fun e w' => e = .returned (.int .i64 (rcycF (nm.toList == [74, 77, 80]) 2 1)) ∧ Below w.heap.size w w' := by
  go_enter Tryd.func12, Tryd.ntmps12
  go_wp2_with fail
  refine K.out.mono ?_
  rintro e w' ⟨rfl, hb⟩
  go_wp2_with fail
  go_ret
  exact ⟨by rfl, (((hb.alloc hb.size _).alloc (by have := hb.size; simp; omega) _).alloc (by have := hb.size; simp; omega) _).alloc (by have := hb.size; simp; omega) _⟩
set_option maxRecDepth 100000 in
set_option maxHeartbeats 1000000 in
theorem rc_3_1 (o : Nat) (nm : ByteArray) (kn : Bool) (w : World)
    (K : Hid (Calls Tryd.prog 8 #[.int .i64 (o : Int)] w fun e w' => e = .returned (.agg #[.string nm, .int .i64 3, .int .i64 1, .bool kn]) ∧ Below w.heap.size w w')) :
    Calls Tryd.prog 12 #[.int .i64 (o : Int)] w fun e w' => e = .returned (.int .i64 (rcycF (nm.toList == [74, 77, 80]) 3 1)) ∧ Below w.heap.size w w' := by
  go_enter Tryd.func12, Tryd.ntmps12
  go_wp2_with fail
  refine K.out.mono ?_
  rintro e w' ⟨rfl, hb⟩
  go_wp2_with fail
  go_ret
  exact ⟨by rfl, (((hb.alloc hb.size _).alloc (by have := hb.size; simp; omega) _).alloc (by have := hb.size; simp; omega) _).alloc (by have := hb.size; simp; omega) _⟩
set_option maxRecDepth 100000 in
set_option maxHeartbeats 1000000 in
theorem rc_4_1 (o : Nat) (nm : ByteArray) (kn : Bool) (w : World)
    (K : Hid (Calls Tryd.prog 8 #[.int .i64 (o : Int)] w fun e w' => e = .returned (.agg #[.string nm, .int .i64 4, .int .i64 1, .bool kn]) ∧ Below w.heap.size w w')) :
    Calls Tryd.prog 12 #[.int .i64 (o : Int)] w fun e w' => e = .returned (.int .i64 (rcycF (nm.toList == [74, 77, 80]) 4 1)) ∧ Below w.heap.size w w' := by
  go_enter Tryd.func12, Tryd.ntmps12
  go_wp2_with fail
  refine K.out.mono ?_
  rintro e w' ⟨rfl, hb⟩
  go_wp2_with fail
  go_ret
  exact ⟨by rfl, (((hb.alloc hb.size _).alloc (by have := hb.size; simp; omega) _).alloc (by have := hb.size; simp; omega) _).alloc (by have := hb.size; simp; omega) _⟩
set_option maxRecDepth 100000 in
set_option maxHeartbeats 1000000 in
theorem rc_5_1 (o : Nat) (nm : ByteArray) (kn : Bool) (w : World)
    (K : Hid (Calls Tryd.prog 8 #[.int .i64 (o : Int)] w fun e w' => e = .returned (.agg #[.string nm, .int .i64 5, .int .i64 1, .bool kn]) ∧ Below w.heap.size w w')) :
    Calls Tryd.prog 12 #[.int .i64 (o : Int)] w fun e w' => e = .returned (.int .i64 (rcycF (nm.toList == [74, 77, 80]) 5 1)) ∧ Below w.heap.size w w' := by
  go_enter Tryd.func12, Tryd.ntmps12
  go_wp2_with fail
  refine K.out.mono ?_
  rintro e w' ⟨rfl, hb⟩
  go_wp2_with fail
  go_ret
  exact ⟨by rfl, (((hb.alloc hb.size _).alloc (by have := hb.size; simp; omega) _).alloc (by have := hb.size; simp; omega) _).alloc (by have := hb.size; simp; omega) _⟩
set_option maxRecDepth 100000 in
set_option maxHeartbeats 1000000 in
theorem rc_6_1 (o : Nat) (nm : ByteArray) (kn : Bool) (w : World)
    (K : Hid (Calls Tryd.prog 8 #[.int .i64 (o : Int)] w fun e w' => e = .returned (.agg #[.string nm, .int .i64 6, .int .i64 1, .bool kn]) ∧ Below w.heap.size w w')) :
    Calls Tryd.prog 12 #[.int .i64 (o : Int)] w fun e w' => e = .returned (.int .i64 (rcycF (nm.toList == [74, 77, 80]) 6 1)) ∧ Below w.heap.size w w' := by
  go_enter Tryd.func12, Tryd.ntmps12
  go_wp2_with fail
  refine K.out.mono ?_
  rintro e w' ⟨rfl, hb⟩
  go_wp2_with fail
  go_ret
  exact ⟨by rfl, (((hb.alloc hb.size _).alloc (by have := hb.size; simp; omega) _).alloc (by have := hb.size; simp; omega) _).alloc (by have := hb.size; simp; omega) _⟩
set_option maxRecDepth 100000 in
set_option maxHeartbeats 1000000 in
theorem rc_7_1 (o : Nat) (nm : ByteArray) (kn : Bool) (w : World)
    (K : Hid (Calls Tryd.prog 8 #[.int .i64 (o : Int)] w fun e w' => e = .returned (.agg #[.string nm, .int .i64 7, .int .i64 1, .bool kn]) ∧ Below w.heap.size w w')) :
    Calls Tryd.prog 12 #[.int .i64 (o : Int)] w fun e w' => e = .returned (.int .i64 (rcycF (nm.toList == [74, 77, 80]) 7 1)) ∧ Below w.heap.size w w' := by
  go_enter Tryd.func12, Tryd.ntmps12
  go_wp2_with fail
  refine K.out.mono ?_
  rintro e w' ⟨rfl, hb⟩
  go_wp2_with fail
  go_ret
  exact ⟨by rfl, (((hb.alloc hb.size _).alloc (by have := hb.size; simp; omega) _).alloc (by have := hb.size; simp; omega) _).alloc (by have := hb.size; simp; omega) _⟩
end Go.Proofs.YtcchnenjfckbbaaDoor.Co
