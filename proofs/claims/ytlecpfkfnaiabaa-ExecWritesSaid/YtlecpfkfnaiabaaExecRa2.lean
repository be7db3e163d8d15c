/- Turn, Store, Self, Goes and Unsure of the reference, for any name. -/
import Derived.Test.YtlecpfkfnaiabaaExecAny
import Derived.Test.YtlecpfkfnaiabaaExecRt
import Derived.Test.YtlecpfkfnaiabaaExecRs
import Derived.Test.YtlecpfkfnaiabaaExecRo
namespace Go.Proofs.Ytlecpfkfnaiabaa
open Go.RowKit
set_option linter.unusedVariables false

theorem rturn_any (r : Ex.Rg) (ok : r.ok) (m : Int) (g0 : 0 ≤ m) (g1 : m ≤ 255) (tag : ByteArray) (w : World) :
    Calls Try.prog 17 #[.string tag, rgI r, .int .i64 m] w fun e w' => e = .returned (.tuple #[.int .i64 (Ex.turnV (Ex.tuK tag) r.p m), rgI (Ex.turnR (Ex.tuK tag) r m)]) ∧ Below w.heap.size w w' := by
  by_cases h0 : tag.toList = [65, 83, 76]
  · rw [show Ex.tuK tag = .ASL from by unfold Ex.tuK; rw [if_pos h0]]; exact rturn_ASL r ok m g0 g1 tag h0 w
  by_cases h1 : tag.toList = [83, 76, 79]
  · rw [show Ex.tuK tag = .SLO from by unfold Ex.tuK; rw [if_neg h0, if_pos h1]]; exact rturn_SLO r ok m g0 g1 tag h1 w
  by_cases h2 : tag.toList = [82, 79, 76]
  · rw [show Ex.tuK tag = .ROL from by unfold Ex.tuK; rw [if_neg h0, if_neg h1, if_pos h2]]; exact rturn_ROL r ok m g0 g1 tag h2 w
  by_cases h3 : tag.toList = [82, 76, 65]
  · rw [show Ex.tuK tag = .RLA from by unfold Ex.tuK; rw [if_neg h0, if_neg h1, if_neg h2, if_pos h3]]; exact rturn_RLA r ok m g0 g1 tag h3 w
  by_cases h4 : tag.toList = [76, 83, 82]
  · rw [show Ex.tuK tag = .LSR from by unfold Ex.tuK; rw [if_neg h0, if_neg h1, if_neg h2, if_neg h3, if_pos h4]]; exact rturn_LSR r ok m g0 g1 tag h4 w
  by_cases h5 : tag.toList = [83, 82, 69]
  · rw [show Ex.tuK tag = .SRE from by unfold Ex.tuK; rw [if_neg h0, if_neg h1, if_neg h2, if_neg h3, if_neg h4, if_pos h5]]; exact rturn_SRE r ok m g0 g1 tag h5 w
  by_cases h6 : tag.toList = [82, 79, 82]
  · rw [show Ex.tuK tag = .ROR from by unfold Ex.tuK; rw [if_neg h0, if_neg h1, if_neg h2, if_neg h3, if_neg h4, if_neg h5, if_pos h6]]; exact rturn_ROR r ok m g0 g1 tag h6 w
  by_cases h7 : tag.toList = [82, 82, 65]
  · rw [show Ex.tuK tag = .RRA from by unfold Ex.tuK; rw [if_neg h0, if_neg h1, if_neg h2, if_neg h3, if_neg h4, if_neg h5, if_neg h6, if_pos h7]]; exact rturn_RRA r ok m g0 g1 tag h7 w
  by_cases h8 : tag.toList = [73, 78, 67]
  · rw [show Ex.tuK tag = .INC from by unfold Ex.tuK; rw [if_neg h0, if_neg h1, if_neg h2, if_neg h3, if_neg h4, if_neg h5, if_neg h6, if_neg h7, if_pos h8]]; exact rturn_INC r ok m g0 g1 tag h8 w
  by_cases h9 : tag.toList = [68, 69, 67]
  · rw [show Ex.tuK tag = .DEC from by unfold Ex.tuK; rw [if_neg h0, if_neg h1, if_neg h2, if_neg h3, if_neg h4, if_neg h5, if_neg h6, if_neg h7, if_neg h8, if_pos h9]]; exact rturn_DEC r ok m g0 g1 tag h9 w
  by_cases h10 : tag.toList = [73, 83, 67]
  · rw [show Ex.tuK tag = .ISC from by unfold Ex.tuK; rw [if_neg h0, if_neg h1, if_neg h2, if_neg h3, if_neg h4, if_neg h5, if_neg h6, if_neg h7, if_neg h8, if_neg h9, if_pos h10]]; exact rturn_ISC r ok m g0 g1 tag h10 w
  by_cases h11 : tag.toList = [68, 67, 80]
  · rw [show Ex.tuK tag = .DCP from by unfold Ex.tuK; rw [if_neg h0, if_neg h1, if_neg h2, if_neg h3, if_neg h4, if_neg h5, if_neg h6, if_neg h7, if_neg h8, if_neg h9, if_neg h10, if_pos h11]]; exact rturn_DCP r ok m g0 g1 tag h11 w
  rw [show Ex.tuK tag = .other from by unfold Ex.tuK; rw [if_neg h0, if_neg h1, if_neg h2, if_neg h3, if_neg h4, if_neg h5, if_neg h6, if_neg h7, if_neg h8, if_neg h9, if_neg h10, if_neg h11]]
  refine rturn_other r ok m g0 g1 tag (fun l hl => ?_) w
  rcases (by simpa only [Ex.tuNames, List.mem_cons, List.not_mem_nil, or_false] using hl : l = [65, 83, 76] ∨ l = [83, 76, 79] ∨ l = [82, 79, 76] ∨ l = [82, 76, 65] ∨ l = [76, 83, 82] ∨ l = [83, 82, 69] ∨ l = [82, 79, 82] ∨ l = [82, 82, 65] ∨ l = [73, 78, 67] ∨ l = [68, 69, 67] ∨ l = [73, 83, 67] ∨ l = [68, 67, 80]) with rfl | rfl | rfl | rfl | rfl | rfl | rfl | rfl | rfl | rfl | rfl | rfl <;> assumption
theorem rstore_any (r : Ex.Rg) (ok : r.ok) (m : Int) (g0 : 0 ≤ m) (g1 : m ≤ 255) (tag : ByteArray) (w : World) :
    Calls Try.prog 15 #[.string tag, rgI r, .int .i64 m] w fun e w' => e = .returned (.tuple #[.int .i64 (Ex.storeV (Ex.stK tag) r m), rgI (Ex.storeR (Ex.stK tag) r)]) ∧ Below w.heap.size w w' := by
  by_cases h0 : tag.toList = [83, 84, 65]
  · rw [show Ex.stK tag = .STA from by unfold Ex.stK; rw [if_pos h0]]; exact rstore_STA r ok m g0 g1 tag h0 w
  by_cases h1 : tag.toList = [83, 84, 88]
  · rw [show Ex.stK tag = .STX from by unfold Ex.stK; rw [if_neg h0, if_pos h1]]; exact rstore_STX r ok m g0 g1 tag h1 w
  by_cases h2 : tag.toList = [83, 84, 89]
  · rw [show Ex.stK tag = .STY from by unfold Ex.stK; rw [if_neg h0, if_neg h1, if_pos h2]]; exact rstore_STY r ok m g0 g1 tag h2 w
  by_cases h3 : tag.toList = [83, 65, 88]
  · rw [show Ex.stK tag = .SAX from by unfold Ex.stK; rw [if_neg h0, if_neg h1, if_neg h2, if_pos h3]]; exact rstore_SAX r ok m g0 g1 tag h3 w
  by_cases h4 : tag.toList = [83, 72, 65]
  · rw [show Ex.stK tag = .SHA from by unfold Ex.stK; rw [if_neg h0, if_neg h1, if_neg h2, if_neg h3, if_pos h4]]; exact rstore_SHA r ok m g0 g1 tag h4 w
  by_cases h5 : tag.toList = [83, 72, 88]
  · rw [show Ex.stK tag = .SHX from by unfold Ex.stK; rw [if_neg h0, if_neg h1, if_neg h2, if_neg h3, if_neg h4, if_pos h5]]; exact rstore_SHX r ok m g0 g1 tag h5 w
  by_cases h6 : tag.toList = [83, 72, 89]
  · rw [show Ex.stK tag = .SHY from by unfold Ex.stK; rw [if_neg h0, if_neg h1, if_neg h2, if_neg h3, if_neg h4, if_neg h5, if_pos h6]]; exact rstore_SHY r ok m g0 g1 tag h6 w
  by_cases h7 : tag.toList = [84, 65, 83]
  · rw [show Ex.stK tag = .TAS from by unfold Ex.stK; rw [if_neg h0, if_neg h1, if_neg h2, if_neg h3, if_neg h4, if_neg h5, if_neg h6, if_pos h7]]; exact rstore_TAS r ok m g0 g1 tag h7 w
  rw [show Ex.stK tag = .other from by unfold Ex.stK; rw [if_neg h0, if_neg h1, if_neg h2, if_neg h3, if_neg h4, if_neg h5, if_neg h6, if_neg h7]]
  refine rstore_other r ok m g0 g1 tag (fun l hl => ?_) w
  rcases (by simpa only [Ex.stNames, List.mem_cons, List.not_mem_nil, or_false] using hl : l = [83, 84, 65] ∨ l = [83, 84, 88] ∨ l = [83, 84, 89] ∨ l = [83, 65, 88] ∨ l = [83, 72, 65] ∨ l = [83, 72, 88] ∨ l = [83, 72, 89] ∨ l = [84, 65, 83]) with rfl | rfl | rfl | rfl | rfl | rfl | rfl | rfl <;> assumption
theorem rself_any (r : Ex.Rg) (ok : r.ok) (tag : ByteArray) (w : World) :
    Calls Try.prog 20 #[.string tag, rgI r] w fun e w' => e = .returned (rgI (Ex.selfF (Ex.seK tag) r)) ∧ Below w.heap.size w w' := by
  by_cases h0 : tag.toList = [67, 76, 67]
  · rw [show Ex.seK tag = .CLC from by unfold Ex.seK; rw [if_pos h0]]; exact rself_CLC r ok tag h0 w
  by_cases h1 : tag.toList = [83, 69, 67]
  · rw [show Ex.seK tag = .SEC from by unfold Ex.seK; rw [if_neg h0, if_pos h1]]; exact rself_SEC r ok tag h1 w
  by_cases h2 : tag.toList = [67, 76, 68]
  · rw [show Ex.seK tag = .CLD from by unfold Ex.seK; rw [if_neg h0, if_neg h1, if_pos h2]]; exact rself_CLD r ok tag h2 w
  by_cases h3 : tag.toList = [83, 69, 68]
  · rw [show Ex.seK tag = .SED from by unfold Ex.seK; rw [if_neg h0, if_neg h1, if_neg h2, if_pos h3]]; exact rself_SED r ok tag h3 w
  by_cases h4 : tag.toList = [67, 76, 73]
  · rw [show Ex.seK tag = .CLI from by unfold Ex.seK; rw [if_neg h0, if_neg h1, if_neg h2, if_neg h3, if_pos h4]]; exact rself_CLI r ok tag h4 w
  by_cases h5 : tag.toList = [83, 69, 73]
  · rw [show Ex.seK tag = .SEI from by unfold Ex.seK; rw [if_neg h0, if_neg h1, if_neg h2, if_neg h3, if_neg h4, if_pos h5]]; exact rself_SEI r ok tag h5 w
  by_cases h6 : tag.toList = [67, 76, 86]
  · rw [show Ex.seK tag = .CLV from by unfold Ex.seK; rw [if_neg h0, if_neg h1, if_neg h2, if_neg h3, if_neg h4, if_neg h5, if_pos h6]]; exact rself_CLV r ok tag h6 w
  by_cases h7 : tag.toList = [84, 65, 88]
  · rw [show Ex.seK tag = .TAX from by unfold Ex.seK; rw [if_neg h0, if_neg h1, if_neg h2, if_neg h3, if_neg h4, if_neg h5, if_neg h6, if_pos h7]]; exact rself_TAX r ok tag h7 w
  by_cases h8 : tag.toList = [84, 65, 89]
  · rw [show Ex.seK tag = .TAY from by unfold Ex.seK; rw [if_neg h0, if_neg h1, if_neg h2, if_neg h3, if_neg h4, if_neg h5, if_neg h6, if_neg h7, if_pos h8]]; exact rself_TAY r ok tag h8 w
  by_cases h9 : tag.toList = [84, 88, 65]
  · rw [show Ex.seK tag = .TXA from by unfold Ex.seK; rw [if_neg h0, if_neg h1, if_neg h2, if_neg h3, if_neg h4, if_neg h5, if_neg h6, if_neg h7, if_neg h8, if_pos h9]]; exact rself_TXA r ok tag h9 w
  by_cases h10 : tag.toList = [84, 89, 65]
  · rw [show Ex.seK tag = .TYA from by unfold Ex.seK; rw [if_neg h0, if_neg h1, if_neg h2, if_neg h3, if_neg h4, if_neg h5, if_neg h6, if_neg h7, if_neg h8, if_neg h9, if_pos h10]]; exact rself_TYA r ok tag h10 w
  by_cases h11 : tag.toList = [84, 83, 88]
  · rw [show Ex.seK tag = .TSX from by unfold Ex.seK; rw [if_neg h0, if_neg h1, if_neg h2, if_neg h3, if_neg h4, if_neg h5, if_neg h6, if_neg h7, if_neg h8, if_neg h9, if_neg h10, if_pos h11]]; exact rself_TSX r ok tag h11 w
  by_cases h12 : tag.toList = [84, 88, 83]
  · rw [show Ex.seK tag = .TXS from by unfold Ex.seK; rw [if_neg h0, if_neg h1, if_neg h2, if_neg h3, if_neg h4, if_neg h5, if_neg h6, if_neg h7, if_neg h8, if_neg h9, if_neg h10, if_neg h11, if_pos h12]]; exact rself_TXS r ok tag h12 w
  by_cases h13 : tag.toList = [73, 78, 88]
  · rw [show Ex.seK tag = .INX from by unfold Ex.seK; rw [if_neg h0, if_neg h1, if_neg h2, if_neg h3, if_neg h4, if_neg h5, if_neg h6, if_neg h7, if_neg h8, if_neg h9, if_neg h10, if_neg h11, if_neg h12, if_pos h13]]; exact rself_INX r ok tag h13 w
  by_cases h14 : tag.toList = [73, 78, 89]
  · rw [show Ex.seK tag = .INY from by unfold Ex.seK; rw [if_neg h0, if_neg h1, if_neg h2, if_neg h3, if_neg h4, if_neg h5, if_neg h6, if_neg h7, if_neg h8, if_neg h9, if_neg h10, if_neg h11, if_neg h12, if_neg h13, if_pos h14]]; exact rself_INY r ok tag h14 w
  by_cases h15 : tag.toList = [68, 69, 88]
  · rw [show Ex.seK tag = .DEX from by unfold Ex.seK; rw [if_neg h0, if_neg h1, if_neg h2, if_neg h3, if_neg h4, if_neg h5, if_neg h6, if_neg h7, if_neg h8, if_neg h9, if_neg h10, if_neg h11, if_neg h12, if_neg h13, if_neg h14, if_pos h15]]; exact rself_DEX r ok tag h15 w
  by_cases h16 : tag.toList = [68, 69, 89]
  · rw [show Ex.seK tag = .DEY from by unfold Ex.seK; rw [if_neg h0, if_neg h1, if_neg h2, if_neg h3, if_neg h4, if_neg h5, if_neg h6, if_neg h7, if_neg h8, if_neg h9, if_neg h10, if_neg h11, if_neg h12, if_neg h13, if_neg h14, if_neg h15, if_pos h16]]; exact rself_DEY r ok tag h16 w
  rw [show Ex.seK tag = .other from by unfold Ex.seK; rw [if_neg h0, if_neg h1, if_neg h2, if_neg h3, if_neg h4, if_neg h5, if_neg h6, if_neg h7, if_neg h8, if_neg h9, if_neg h10, if_neg h11, if_neg h12, if_neg h13, if_neg h14, if_neg h15, if_neg h16]]
  refine rself_other r ok tag (fun l hl => ?_) w
  rcases (by simpa only [Ex.seNames, List.mem_cons, List.not_mem_nil, or_false] using hl : l = [67, 76, 67] ∨ l = [83, 69, 67] ∨ l = [67, 76, 68] ∨ l = [83, 69, 68] ∨ l = [67, 76, 73] ∨ l = [83, 69, 73] ∨ l = [67, 76, 86] ∨ l = [84, 65, 88] ∨ l = [84, 65, 89] ∨ l = [84, 88, 65] ∨ l = [84, 89, 65] ∨ l = [84, 83, 88] ∨ l = [84, 88, 83] ∨ l = [73, 78, 88] ∨ l = [73, 78, 89] ∨ l = [68, 69, 88] ∨ l = [68, 69, 89]) with rfl | rfl | rfl | rfl | rfl | rfl | rfl | rfl | rfl | rfl | rfl | rfl | rfl | rfl | rfl | rfl | rfl <;> assumption
theorem rgoes_any (p : Int) (p0 : 0 ≤ p) (p1 : p ≤ 255) (tag : ByteArray) (w : World) :
    Calls Try.prog 21 #[.string tag, .int .i64 p] w fun e w' => e = .returned (.bool (Ex.goesF (Ex.goK tag) p)) ∧ w = w' := by
  by_cases h0 : tag.toList = [66, 80, 76]
  · rw [show Ex.goK tag = .BPL from by unfold Ex.goK; rw [if_pos h0]]; exact rgoes_BPL p p0 p1 tag h0 w
  by_cases h1 : tag.toList = [66, 77, 73]
  · rw [show Ex.goK tag = .BMI from by unfold Ex.goK; rw [if_neg h0, if_pos h1]]; exact rgoes_BMI p p0 p1 tag h1 w
  by_cases h2 : tag.toList = [66, 86, 67]
  · rw [show Ex.goK tag = .BVC from by unfold Ex.goK; rw [if_neg h0, if_neg h1, if_pos h2]]; exact rgoes_BVC p p0 p1 tag h2 w
  by_cases h3 : tag.toList = [66, 86, 83]
  · rw [show Ex.goK tag = .BVS from by unfold Ex.goK; rw [if_neg h0, if_neg h1, if_neg h2, if_pos h3]]; exact rgoes_BVS p p0 p1 tag h3 w
  by_cases h4 : tag.toList = [66, 67, 67]
  · rw [show Ex.goK tag = .BCC from by unfold Ex.goK; rw [if_neg h0, if_neg h1, if_neg h2, if_neg h3, if_pos h4]]; exact rgoes_BCC p p0 p1 tag h4 w
  by_cases h5 : tag.toList = [66, 67, 83]
  · rw [show Ex.goK tag = .BCS from by unfold Ex.goK; rw [if_neg h0, if_neg h1, if_neg h2, if_neg h3, if_neg h4, if_pos h5]]; exact rgoes_BCS p p0 p1 tag h5 w
  by_cases h6 : tag.toList = [66, 78, 69]
  · rw [show Ex.goK tag = .BNE from by unfold Ex.goK; rw [if_neg h0, if_neg h1, if_neg h2, if_neg h3, if_neg h4, if_neg h5, if_pos h6]]; exact rgoes_BNE p p0 p1 tag h6 w
  by_cases h7 : tag.toList = [66, 69, 81]
  · rw [show Ex.goK tag = .BEQ from by unfold Ex.goK; rw [if_neg h0, if_neg h1, if_neg h2, if_neg h3, if_neg h4, if_neg h5, if_neg h6, if_pos h7]]; exact rgoes_BEQ p p0 p1 tag h7 w
  rw [show Ex.goK tag = .other from by unfold Ex.goK; rw [if_neg h0, if_neg h1, if_neg h2, if_neg h3, if_neg h4, if_neg h5, if_neg h6, if_neg h7]]
  refine rgoes_other p p0 p1 tag (fun l hl => ?_) w
  rcases (by simpa only [Ex.goNames, List.mem_cons, List.not_mem_nil, or_false] using hl : l = [66, 80, 76] ∨ l = [66, 77, 73] ∨ l = [66, 86, 67] ∨ l = [66, 86, 83] ∨ l = [66, 67, 67] ∨ l = [66, 67, 83] ∨ l = [66, 78, 69] ∨ l = [66, 69, 81]) with rfl | rfl | rfl | rfl | rfl | rfl | rfl | rfl <;> assumption
def Ex.unS (tag : ByteArray) : Bool := decide (tag.toList ∈ ([[83, 72, 65], [83, 72, 88], [83, 72, 89], [84, 65, 83]] : List (List UInt8)))
theorem unsure_any (tag : ByteArray) (w : World) : Calls Try.prog 22 #[.string tag] w fun e w' => e = .returned (.bool (Ex.unS tag)) ∧ w = w' := by
  by_cases h0 : tag.toList = [83, 72, 65]
  · rw [show Ex.unS tag = true from by unfold Ex.unS; rw [h0]; decide]; exact unsure_SHA tag h0 w
  by_cases h1 : tag.toList = [83, 72, 88]
  · rw [show Ex.unS tag = true from by unfold Ex.unS; rw [h1]; decide]; exact unsure_SHX tag h1 w
  by_cases h2 : tag.toList = [83, 72, 89]
  · rw [show Ex.unS tag = true from by unfold Ex.unS; rw [h2]; decide]; exact unsure_SHY tag h2 w
  by_cases h3 : tag.toList = [84, 65, 83]
  · rw [show Ex.unS tag = true from by unfold Ex.unS; rw [h3]; decide]; exact unsure_TAS tag h3 w
  have hn : ∀ l ∈ ([[83, 72, 65], [83, 72, 88], [83, 72, 89], [84, 65, 83]] : List (List UInt8)), tag.toList ≠ l := fun l hl => by
    rcases (by simpa only [List.mem_cons, List.not_mem_nil, or_false] using hl : l = [83, 72, 65] ∨ l = [83, 72, 88] ∨ l = [83, 72, 89] ∨ l = [84, 65, 83]) with rfl | rfl | rfl | rfl <;> assumption
  rw [show Ex.unS tag = false from by unfold Ex.unS; exact decide_eq_false (fun h => hn _ h rfl)]
  exact unsure_other tag hn w
theorem runsure_any (tag : ByteArray) (w : World) : Calls Try.prog 23 #[.string tag] w fun e w' => e = .returned (.bool (Ex.unS tag)) ∧ w = w' := by
  by_cases h0 : tag.toList = [83, 72, 65]
  · rw [show Ex.unS tag = true from by unfold Ex.unS; rw [h0]; decide]; exact runsure_SHA tag h0 w
  by_cases h1 : tag.toList = [83, 72, 88]
  · rw [show Ex.unS tag = true from by unfold Ex.unS; rw [h1]; decide]; exact runsure_SHX tag h1 w
  by_cases h2 : tag.toList = [83, 72, 89]
  · rw [show Ex.unS tag = true from by unfold Ex.unS; rw [h2]; decide]; exact runsure_SHY tag h2 w
  by_cases h3 : tag.toList = [84, 65, 83]
  · rw [show Ex.unS tag = true from by unfold Ex.unS; rw [h3]; decide]; exact runsure_TAS tag h3 w
  have hn : ∀ l ∈ ([[83, 72, 65], [83, 72, 88], [83, 72, 89], [84, 65, 83]] : List (List UInt8)), tag.toList ≠ l := fun l hl => by
    rcases (by simpa only [List.mem_cons, List.not_mem_nil, or_false] using hl : l = [83, 72, 65] ∨ l = [83, 72, 88] ∨ l = [83, 72, 89] ∨ l = [84, 65, 83]) with rfl | rfl | rfl | rfl <;> assumption
  rw [show Ex.unS tag = false from by unfold Ex.unS; exact decide_eq_false (fun h => hn _ h rfl)]
  exact runsure_other tag hn w
end Go.Proofs.Ytlecpfkfnaiabaa
