/- Package code: CodeFinds, walked. -/
import Derived.Test.YtcchnenjfckbbaaDoorCodeAwake
import Derived.Test.YtcchnenjfckbbaaDoorCodeRfi
namespace Go.Proofs.YtcchnenjfckbbaaDoor.Co
open Go.RowKit Go.Maps Go.Deep Go.Proofs.Tryd
set_option linter.unusedVariables false
set_option linter.unusedSimpArgs false
set_option maxRecDepth 100000 in
set_option maxHeartbeats 2000000 in
theorem finds_any (s : ByteArray) (m : Nat) (hm : m < 256) (w : World) (hG : Gl w) : Calls Tryd.prog 4 #[.string s, .int .u8 (m : Int)] w fun e w' => e = .returned (.bool true) ∧ Below w.heap.size w w' := by
  have kF := find_any s (m : Int) w hG
  have kR := fun w => rfind_any s (m : Int) w
  have hw : IntKind.i64.wrap (m : Int) = (m : Int) := IntWalk.i64_in _ (by omega)
  cases hf : findO s (m : Int) with
  | none =>
    have hr : fR s (m : Int) (List.range 256) = -1 := by unfold fR; unfold findO at hf; rw [hf]
    rw [hf] at kF
    rw [hr] at kR
    have kF' : Calls Tryd.prog 14 #[.string s, .int .u8 (m : Int)] w fun e W' => e = .returned (.tuple #[.int .u8 0, .bool false]) ∧ Below w.heap.size w W' := kF
    have KR := Lib.hid kR
    clear kR kF hf hr
    go_enter Tryd.func4, Tryd.ntmps4
    go_wp2_with fail
    refine kF'.mono ?_
    rintro e w1 ⟨rfl, hb1⟩
    go_wp2_with fail
    refine (KR.out _).mono ?_
    rintro e w2 ⟨rfl, hb2⟩
    have hV := hb1.trans (hb2.mono hb1.size)
    go_wp2_with fail
    refine (awake_any _ (hG.below hV)).mono ?_
    rintro e w3 ⟨rfl, hb3⟩
    go_wp2_with fail
    go_ret
    exact ⟨rfl, hV.trans (hb3.mono hV.size)⟩
  | some x =>
    have hr : fR s (m : Int) (List.range 256) = (x : Int) := by unfold fR; unfold findO at hf; rw [hf]
    have hx : x < 256 := by
      rcases fR_cases s (m : Int) (List.range 256) with ⟨e, _⟩ | ⟨y, hy, e, _⟩
      · omega
      · have := List.mem_range.1 hy; omega
    rw [hf] at kF
    rw [hr] at kR
    have kF' : Calls Tryd.prog 14 #[.string s, .int .u8 (m : Int)] w fun e W' => e = .returned (.tuple #[.int .u8 (x : Int), .bool true]) ∧ Below w.heap.size w W' := kF
    have KR := Lib.hid kR
    have hx0 : (0 : Int) ≤ (x : Int) := by omega
    have hwx : IntKind.i64.wrap (x : Int) = (x : Int) := IntWalk.i64_in _ (by omega)
    clear kR kF hf hr
    go_enter Tryd.func4, Tryd.ntmps4
    go_wp2_with fail
    refine kF'.mono ?_
    rintro e w1 ⟨rfl, hb1⟩
    go_wp2_with fail
    refine (KR.out _).mono ?_
    rintro e w2 ⟨rfl, hb2⟩
    have hV := hb1.trans (hb2.mono hb1.size)
    go_wp2_with fail
    refine (awake_any _ (hG.below hV)).mono ?_
    rintro e w3 ⟨rfl, hb3⟩
    go_wp2_with fail
    go_ret
    exact ⟨rfl, hV.trans (hb3.mono hV.size)⟩
end Go.Proofs.YtcchnenjfckbbaaDoor.Co
