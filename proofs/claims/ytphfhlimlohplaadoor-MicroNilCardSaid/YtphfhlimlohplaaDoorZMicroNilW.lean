/- Package micro: MicroNil, walked. -/
import Derived.Test.YtphfhlimlohplaaDoorZMicroAwake
namespace Go.Proofs.YtphfhlimlohplaaDoor.Mi
open Go Go.RowKit Go.Deep Go.Proofs.YtphfhlimlohplaaDoor Go.Proofs.YtphfhlimlohplaaDoor.Ex
set_option linter.unusedVariables false
set_option linter.unusedSimpArgs false
set_option maxRecDepth 100000 in
set_option maxHeartbeats 4000000 in
theorem microNil_walk (W : World) (hG : Co.Gl W) (n0 : Nat) (c0 : n0 < 256) : Calls Tryd.prog 6 #[.int .u8 (n0 : Int)] W fun e W' => e = .returned (.bool true) ∧ Below W.heap.size W W' := by
  have kk := fun w' => clock_nil (n0 : Int) w'
  have kp := fun w' => pins_nil w'
  have kr := fun w' => regs_nil w'
  have kf := fun w' => fresh_nil w'
  have kj := fun w' => jammed_nil w'
  have kc := fun w' => code_nil w'
  have ky := fun w' => copy_nil w'
  go_enter Tryd.func6, Tryd.ntmps6
  go_wp2_with fail
  refine (kk _).mono ?_
  rintro e w1 ⟨rfl, rfl⟩
  go_wp2_with fail
  refine (kp _).mono ?_
  rintro e w1 ⟨rfl, h1⟩
  go_wp2_with fail
  refine (kr _).mono ?_
  rintro e w2 ⟨rfl, h2⟩
  have hb := h1.trans (h2.mono h1.size)
  clear h1 h2
  go_wp2_with fail
  refine (kf _).mono ?_
  rintro e w3 ⟨rfl, rfl⟩
  go_wp2_with fail
  refine (kj _).mono ?_
  rintro e w3 ⟨rfl, rfl⟩
  go_wp2_with fail
  refine (kc _).mono ?_
  rintro e w3 ⟨rfl, rfl⟩
  go_wp2_with fail
  refine (ky _).mono ?_
  rintro e w3 ⟨rfl, rfl⟩
  go_wp2_with fail
  refine (awake_any _ (hG.below hb)).mono ?_
  rintro e w4 ⟨rfl, h4⟩
  go_wp2_with fail
  go_ret
  exact ⟨rfl, hb.trans (h4.mono hb.size)⟩
end Go.Proofs.YtphfhlimlohplaaDoor.Mi
