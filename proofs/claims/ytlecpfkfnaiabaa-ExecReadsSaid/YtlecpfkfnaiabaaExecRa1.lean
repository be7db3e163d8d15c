/- Read of the reference, for any name. -/
import Derived.Test.YtlecpfkfnaiabaaExecAny
import Derived.Test.YtlecpfkfnaiabaaExecRr1
import Derived.Test.YtlecpfkfnaiabaaExecRr2
import Derived.Test.YtlecpfkfnaiabaaExecRr3
import Derived.Test.YtlecpfkfnaiabaaExecRr4
namespace Go.Proofs.Ytlecpfkfnaiabaa
open Go.RowKit
set_option linter.unusedVariables false

theorem rread_any (r : Ex.Rg) (ok : r.ok) (m : Int) (g0 : 0 ≤ m) (g1 : m ≤ 255) (tag : ByteArray) (w : World) :
    Calls Try.prog 11 #[.string tag, rgI r, .int .i64 m] w fun e w' => e = .returned (rgI (Ex.readF (Ex.rdK tag) r m)) ∧ Below w.heap.size w w' := by
  by_cases h0 : tag.toList = [79, 82, 65]
  · rw [show Ex.rdK tag = .ORA from by unfold Ex.rdK; rw [if_pos h0]]; exact rread_ORA r ok m g0 g1 tag h0 w
  by_cases h1 : tag.toList = [65, 78, 68]
  · rw [show Ex.rdK tag = .AND from by unfold Ex.rdK; rw [if_neg h0, if_pos h1]]; exact rread_AND r ok m g0 g1 tag h1 w
  by_cases h2 : tag.toList = [69, 79, 82]
  · rw [show Ex.rdK tag = .EOR from by unfold Ex.rdK; rw [if_neg h0, if_neg h1, if_pos h2]]; exact rread_EOR r ok m g0 g1 tag h2 w
  by_cases h3 : tag.toList = [65, 68, 67]
  · rw [show Ex.rdK tag = .ADC from by unfold Ex.rdK; rw [if_neg h0, if_neg h1, if_neg h2, if_pos h3]]; exact rread_ADC r ok m g0 g1 tag h3 w
  by_cases h4 : tag.toList = [83, 66, 67]
  · rw [show Ex.rdK tag = .SBC from by unfold Ex.rdK; rw [if_neg h0, if_neg h1, if_neg h2, if_neg h3, if_pos h4]]; exact rread_SBC r ok m g0 g1 tag h4 w
  by_cases h5 : tag.toList = [67, 77, 80]
  · rw [show Ex.rdK tag = .CMP from by unfold Ex.rdK; rw [if_neg h0, if_neg h1, if_neg h2, if_neg h3, if_neg h4, if_pos h5]]; exact rread_CMP r ok m g0 g1 tag h5 w
  by_cases h6 : tag.toList = [67, 80, 88]
  · rw [show Ex.rdK tag = .CPX from by unfold Ex.rdK; rw [if_neg h0, if_neg h1, if_neg h2, if_neg h3, if_neg h4, if_neg h5, if_pos h6]]; exact rread_CPX r ok m g0 g1 tag h6 w
  by_cases h7 : tag.toList = [67, 80, 89]
  · rw [show Ex.rdK tag = .CPY from by unfold Ex.rdK; rw [if_neg h0, if_neg h1, if_neg h2, if_neg h3, if_neg h4, if_neg h5, if_neg h6, if_pos h7]]; exact rread_CPY r ok m g0 g1 tag h7 w
  by_cases h8 : tag.toList = [66, 73, 84]
  · rw [show Ex.rdK tag = .BIT from by unfold Ex.rdK; rw [if_neg h0, if_neg h1, if_neg h2, if_neg h3, if_neg h4, if_neg h5, if_neg h6, if_neg h7, if_pos h8]]; exact rread_BIT r ok m g0 g1 tag h8 w
  by_cases h9 : tag.toList = [76, 65, 88]
  · rw [show Ex.rdK tag = .LAX from by unfold Ex.rdK; rw [if_neg h0, if_neg h1, if_neg h2, if_neg h3, if_neg h4, if_neg h5, if_neg h6, if_neg h7, if_neg h8, if_pos h9]]; exact rread_LAX r ok m g0 g1 tag h9 w
  by_cases h10 : tag.toList = [76, 68, 65]
  · rw [show Ex.rdK tag = .LDA from by unfold Ex.rdK; rw [if_neg h0, if_neg h1, if_neg h2, if_neg h3, if_neg h4, if_neg h5, if_neg h6, if_neg h7, if_neg h8, if_neg h9, if_pos h10]]; exact rread_LDA r ok m g0 g1 tag h10 w
  by_cases h11 : tag.toList = [76, 68, 88]
  · rw [show Ex.rdK tag = .LDX from by unfold Ex.rdK; rw [if_neg h0, if_neg h1, if_neg h2, if_neg h3, if_neg h4, if_neg h5, if_neg h6, if_neg h7, if_neg h8, if_neg h9, if_neg h10, if_pos h11]]; exact rread_LDX r ok m g0 g1 tag h11 w
  by_cases h12 : tag.toList = [76, 68, 89]
  · rw [show Ex.rdK tag = .LDY from by unfold Ex.rdK; rw [if_neg h0, if_neg h1, if_neg h2, if_neg h3, if_neg h4, if_neg h5, if_neg h6, if_neg h7, if_neg h8, if_neg h9, if_neg h10, if_neg h11, if_pos h12]]; exact rread_LDY r ok m g0 g1 tag h12 w
  by_cases h13 : tag.toList = [76, 65, 83]
  · rw [show Ex.rdK tag = .LAS from by unfold Ex.rdK; rw [if_neg h0, if_neg h1, if_neg h2, if_neg h3, if_neg h4, if_neg h5, if_neg h6, if_neg h7, if_neg h8, if_neg h9, if_neg h10, if_neg h11, if_neg h12, if_pos h13]]; exact rread_LAS r ok m g0 g1 tag h13 w
  by_cases h14 : tag.toList = [65, 78, 67]
  · rw [show Ex.rdK tag = .ANC from by unfold Ex.rdK; rw [if_neg h0, if_neg h1, if_neg h2, if_neg h3, if_neg h4, if_neg h5, if_neg h6, if_neg h7, if_neg h8, if_neg h9, if_neg h10, if_neg h11, if_neg h12, if_neg h13, if_pos h14]]; exact rread_ANC r ok m g0 g1 tag h14 w
  by_cases h15 : tag.toList = [65, 76, 82]
  · rw [show Ex.rdK tag = .ALR from by unfold Ex.rdK; rw [if_neg h0, if_neg h1, if_neg h2, if_neg h3, if_neg h4, if_neg h5, if_neg h6, if_neg h7, if_neg h8, if_neg h9, if_neg h10, if_neg h11, if_neg h12, if_neg h13, if_neg h14, if_pos h15]]; exact rread_ALR r ok m g0 g1 tag h15 w
  by_cases h16 : tag.toList = [65, 82, 82]
  · rw [show Ex.rdK tag = .ARR from by unfold Ex.rdK; rw [if_neg h0, if_neg h1, if_neg h2, if_neg h3, if_neg h4, if_neg h5, if_neg h6, if_neg h7, if_neg h8, if_neg h9, if_neg h10, if_neg h11, if_neg h12, if_neg h13, if_neg h14, if_neg h15, if_pos h16]]; exact rread_ARR r ok m g0 g1 tag h16 w
  by_cases h17 : tag.toList = [65, 78, 69]
  · rw [show Ex.rdK tag = .ANE from by unfold Ex.rdK; rw [if_neg h0, if_neg h1, if_neg h2, if_neg h3, if_neg h4, if_neg h5, if_neg h6, if_neg h7, if_neg h8, if_neg h9, if_neg h10, if_neg h11, if_neg h12, if_neg h13, if_neg h14, if_neg h15, if_neg h16, if_pos h17]]; exact rread_ANE r ok m g0 g1 tag h17 w
  by_cases h18 : tag.toList = [76, 88, 65]
  · rw [show Ex.rdK tag = .LXA from by unfold Ex.rdK; rw [if_neg h0, if_neg h1, if_neg h2, if_neg h3, if_neg h4, if_neg h5, if_neg h6, if_neg h7, if_neg h8, if_neg h9, if_neg h10, if_neg h11, if_neg h12, if_neg h13, if_neg h14, if_neg h15, if_neg h16, if_neg h17, if_pos h18]]; exact rread_LXA r ok m g0 g1 tag h18 w
  by_cases h19 : tag.toList = [83, 66, 88]
  · rw [show Ex.rdK tag = .SBX from by unfold Ex.rdK; rw [if_neg h0, if_neg h1, if_neg h2, if_neg h3, if_neg h4, if_neg h5, if_neg h6, if_neg h7, if_neg h8, if_neg h9, if_neg h10, if_neg h11, if_neg h12, if_neg h13, if_neg h14, if_neg h15, if_neg h16, if_neg h17, if_neg h18, if_pos h19]]; exact rread_SBX r ok m g0 g1 tag h19 w
  rw [show Ex.rdK tag = .other from by unfold Ex.rdK; rw [if_neg h0, if_neg h1, if_neg h2, if_neg h3, if_neg h4, if_neg h5, if_neg h6, if_neg h7, if_neg h8, if_neg h9, if_neg h10, if_neg h11, if_neg h12, if_neg h13, if_neg h14, if_neg h15, if_neg h16, if_neg h17, if_neg h18, if_neg h19]]
  refine rread_other r ok m g0 g1 tag (fun l hl => ?_) w
  rcases (by simpa only [Ex.rdNames, List.mem_cons, List.not_mem_nil, or_false] using hl : l = [79, 82, 65] ∨ l = [65, 78, 68] ∨ l = [69, 79, 82] ∨ l = [65, 68, 67] ∨ l = [83, 66, 67] ∨ l = [67, 77, 80] ∨ l = [67, 80, 88] ∨ l = [67, 80, 89] ∨ l = [66, 73, 84] ∨ l = [76, 65, 88] ∨ l = [76, 68, 65] ∨ l = [76, 68, 88] ∨ l = [76, 68, 89] ∨ l = [76, 65, 83] ∨ l = [65, 78, 67] ∨ l = [65, 76, 82] ∨ l = [65, 82, 82] ∨ l = [65, 78, 69] ∨ l = [76, 88, 65] ∨ l = [83, 66, 88]) with rfl | rfl | rfl | rfl | rfl | rfl | rfl | rfl | rfl | rfl | rfl | rfl | rfl | rfl | rfl | rfl | rfl | rfl | rfl | rfl <;> assumption
end Go.Proofs.Ytlecpfkfnaiabaa
