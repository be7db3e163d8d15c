/- The law of a maker that is not there: its walk. -/
import Derived.Test.YtbfdlfhidebjlaaFrAwake
namespace Go.Proofs.Ytbfdlfhidebjlaa
open Go.RowKit Go.Deep Cl
set_option linter.unusedVariables false
set_option linter.unusedSimpArgs false

set_option maxRecDepth 100000 in
theorem frameNil_walk (c : Int) (w : World) (_ : 0 ≤ c) (_ : c ≤ 255) : Calls Try.prog 5 #[.int .u8 c] w fun e w' => e = .returned (.bool true) ∧ Below w.heap.size w w' := by
  have k1 := feed_nil w c 0 false true 0 0 false 0
  unfold recV at k1
  have hf : ∀ w, (Instr.field 33 (.agg #[.slice none 0 0]) 0).run Try.prog w = .ok (.slice none 0 0) w := fun w => by kernel_rfl
  go_enter Try.func5, Try.ntmps5
  go_wp2_with fail
  refine k1.mono ?_
  rintro e w1 ⟨rfl, hb1⟩
  go_wp2_with fail
  refine (rows_nil _).mono ?_
  rintro e w2 ⟨rfl, hb2⟩
  have hs1 := hb1.size
  have hb3 := (hb1.alloc hs1 (.cells #[.slice none 0 0] 33)).trans (hb2.mono (by simp; omega))
  clear hb2
  go_wp2_with fail
  refine (awake_any _).mono ?_
  rintro e w3 ⟨rfl, hb4⟩
  have hb5 := hb3.trans (hb4.mono hb3.size)
  go_wp2
  go_ret
  exact ⟨rfl, hb5⟩
end Go.Proofs.Ytbfdlfhidebjlaa
