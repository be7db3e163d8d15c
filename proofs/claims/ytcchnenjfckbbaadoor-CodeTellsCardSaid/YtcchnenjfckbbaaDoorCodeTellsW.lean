/- Package code: CodeTells, walked. -/
import Derived.Test.YtcchnenjfckbbaaDoorCodeAwake
import Derived.Test.YtcchnenjfckbbaaDoorCodeRc
namespace Go.Proofs.YtcchnenjfckbbaaDoor.Co
open Go.RowKit Go.Maps Go.Deep Go.Proofs.Tryd
set_option linter.unusedVariables false
set_option linter.unusedSimpArgs false
set_option maxRecDepth 100000 in
set_option maxHeartbeats 2000000 in
theorem tells_any (o : Nat) (ho : o < 256) (w : World) (hG : Gl w) : Calls Tryd.prog 3 #[.int .u8 (o : Int)] w fun e w' => e = .returned (.bool true) ∧ Below w.heap.size w w' := by
  have kO := of_any o ho w hG
  have kR := fun w => ref_any o ho w
  have kL := fun w (hG : Gl w) => length_any o ho w hG
  have kM := fun w => rlength_any o ho w
  have kC := fun w (hG : Gl w) => cycles_any o ho w hG
  have kD := fun w => rcycles_any o ho w
  have hmi := modeO_in o ho
  have hki := kindC_in o ho
  unfold codeV at kO
  unfold refV at kR
  generalize cycF (modeO o) (kindC o) = cy at *
  generalize lenF (modeO o) = le at *
  generalize nameO o = nm at *
  generalize modeO o = md at *
  generalize kindC o = kd at *
  generalize knownC o = kn at *
  have o0 : (0 : Int) ≤ (o : Int) := by omega
  have o1 : (o : Int) ≤ 255 := by omega
  have hm8 : IntKind.u8.wrap md = md := by show md % 256 = md; omega
  have hk8 : IntKind.u8.wrap kd = kd := by show kd % 256 = kd; omega
  have ho8 : IntKind.i64.wrap (o : Int) = (o : Int) := IntWalk.i64_in _ (by omega)
  have hsn : (nm.toList == nm.toList) = true := beq_iff_eq.2 rfl
  have KR := Lib.hid kR
  have KL := Lib.hid kL
  have KM := Lib.hid kM
  have KC := Lib.hid kC
  have KD := Lib.hid kD
  clear kR kL kM kC kD hmi hki ho
  go_enter Tryd.func3, Tryd.ntmps3
  go_wp2_with fail
  refine kO.mono ?_
  rintro e w1 ⟨rfl, hb1⟩
  go_wp2_with fail
  refine (KR.out _).mono ?_
  rintro e w2 ⟨rfl, hb2⟩
  have hV2 : Below w.heap.size w w2 := hb1.trans (hb2.mono hb1.size)
  go_wp2_with fail
  have hV4 := (hV2.alloc hV2.size (.cells #[.string nm, .int .u8 md, .int .u8 kd, .bool kn] 25)).alloc (by have := hV2.size; simp; omega) (.cells #[.string nm, .int .i64 md, .int .i64 kd, .bool kn] 28)
  refine (KL.out _ (hG.below hV4)).mono ?_
  rintro e w3 ⟨rfl, hb3⟩
  have hV5 := hV4.trans (hb3.mono hV4.size)
  clear hb1 hb2 hb3
  go_wp2_with fail
  refine (KM.out _).mono ?_
  rintro e w5 ⟨rfl, hb5⟩
  have hV6 := hV5.trans (hb5.mono hV5.size)
  go_wp2_with fail
  refine (KC.out _ (hG.below hV6)).mono ?_
  rintro e w6 ⟨rfl, hb6⟩
  have hV7 := hV6.trans (hb6.mono hV6.size)
  go_wp2_with fail
  refine (KD.out _).mono ?_
  rintro e w7 ⟨rfl, hb7⟩
  have hV8 := hV7.trans (hb7.mono hV7.size)
  go_wp2_with fail
  refine (awake_any _ (hG.below hV8)).mono ?_
  rintro e w8 ⟨rfl, hb8⟩
  have hV9 := hV8.trans (hb8.mono hV8.size)
  go_wp2_with fail
  go_ret
  exact ⟨rfl, hV9⟩
end Go.Proofs.YtcchnenjfckbbaaDoor.Co
