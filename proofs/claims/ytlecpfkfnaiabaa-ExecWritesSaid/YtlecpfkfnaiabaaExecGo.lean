/- exec.Goes for any name: what it answers is told by the name's kind. -/
import Derived.Test.YtlecpfkfnaiabaaExecSt1
namespace Go.Proofs.Ytlecpfkfnaiabaa
open Go.RowKit
set_option linter.unusedVariables false

def Ex.goK (tag : ByteArray) : Ex.GoK :=
  if tag.toList = [66, 80, 76] then .BPL
  else if tag.toList = [66, 77, 73] then .BMI
  else if tag.toList = [66, 86, 67] then .BVC
  else if tag.toList = [66, 86, 83] then .BVS
  else if tag.toList = [66, 67, 67] then .BCC
  else if tag.toList = [66, 67, 83] then .BCS
  else if tag.toList = [66, 78, 69] then .BNE
  else if tag.toList = [66, 69, 81] then .BEQ
  else .other
theorem goes_any (p : Int) (p0 : 0 ≤ p) (p1 : p ≤ 255) (tag : ByteArray) (w : World) :
    Calls Try.prog 18 #[.string tag, .int .u8 p] w fun e w' => e = .returned (.bool (Ex.goesF (Ex.goK tag) p)) ∧ w = w' := by
  by_cases h0 : tag.toList = [66, 80, 76]
  · rw [show Ex.goK tag = .BPL from by unfold Ex.goK; rw [if_pos h0]]; exact goes_BPL p p0 p1 tag h0 w
  by_cases h1 : tag.toList = [66, 77, 73]
  · rw [show Ex.goK tag = .BMI from by unfold Ex.goK; rw [if_neg h0, if_pos h1]]; exact goes_BMI p p0 p1 tag h1 w
  by_cases h2 : tag.toList = [66, 86, 67]
  · rw [show Ex.goK tag = .BVC from by unfold Ex.goK; rw [if_neg h0, if_neg h1, if_pos h2]]; exact goes_BVC p p0 p1 tag h2 w
  by_cases h3 : tag.toList = [66, 86, 83]
  · rw [show Ex.goK tag = .BVS from by unfold Ex.goK; rw [if_neg h0, if_neg h1, if_neg h2, if_pos h3]]; exact goes_BVS p p0 p1 tag h3 w
  by_cases h4 : tag.toList = [66, 67, 67]
  · rw [show Ex.goK tag = .BCC from by unfold Ex.goK; rw [if_neg h0, if_neg h1, if_neg h2, if_neg h3, if_pos h4]]; exact goes_BCC p p0 p1 tag h4 w
  by_cases h5 : tag.toList = [66, 67, 83]
  · rw [show Ex.goK tag = .BCS from by unfold Ex.goK; rw [if_neg h0, if_neg h1, if_neg h2, if_neg h3, if_neg h4, if_pos h5]]; exact goes_BCS p p0 p1 tag h5 w
  by_cases h6 : tag.toList = [66, 78, 69]
  · rw [show Ex.goK tag = .BNE from by unfold Ex.goK; rw [if_neg h0, if_neg h1, if_neg h2, if_neg h3, if_neg h4, if_neg h5, if_pos h6]]; exact goes_BNE p p0 p1 tag h6 w
  by_cases h7 : tag.toList = [66, 69, 81]
  · rw [show Ex.goK tag = .BEQ from by unfold Ex.goK; rw [if_neg h0, if_neg h1, if_neg h2, if_neg h3, if_neg h4, if_neg h5, if_neg h6, if_pos h7]]; exact goes_BEQ p p0 p1 tag h7 w
  rw [show Ex.goK tag = .other from by unfold Ex.goK; rw [if_neg h0, if_neg h1, if_neg h2, if_neg h3, if_neg h4, if_neg h5, if_neg h6, if_neg h7]]
  refine goes_other p p0 p1 tag (fun l hl => ?_) w
  rcases (by simpa only [Ex.goNames, List.mem_cons, List.not_mem_nil, or_false] using hl : l = [66, 80, 76] ∨ l = [66, 77, 73] ∨ l = [66, 86, 67] ∨ l = [66, 86, 83] ∨ l = [66, 67, 67] ∨ l = [66, 67, 83] ∨ l = [66, 78, 69] ∨ l = [66, 69, 81]) with rfl | rfl | rfl | rfl | rfl | rfl | rfl | rfl <;> assumption
end Go.Proofs.Ytlecpfkfnaiabaa
