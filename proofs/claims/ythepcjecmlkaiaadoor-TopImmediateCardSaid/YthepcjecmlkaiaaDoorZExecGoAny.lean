/- exec.Goes for any name: what it answers is told by the name's kind. -/
import Derived.Test.YthepcjecmlkaiaaDoorZExecSt
import Derived.Test.YthepcjecmlkaiaaDoorZExecRd12
import Derived.Test.YthepcjecmlkaiaaDoorZExecRd3
import Derived.Test.YthepcjecmlkaiaaDoorZExecRd4
import Derived.Test.YthepcjecmlkaiaaDoorZExecRd5
import Derived.Test.YthepcjecmlkaiaaDoorZExecTu1
import Derived.Test.YthepcjecmlkaiaaDoorZExecTu2
import Derived.Test.YthepcjecmlkaiaaDoorZExecTu3
import Derived.Test.YthepcjecmlkaiaaDoorZExecTu4
import Derived.Test.YthepcjecmlkaiaaDoorZExecSe
namespace Go.Proofs.YthepcjecmlkaiaaDoor
open Go.RowKit
set_option linter.unusedVariables false

def Ex.goK (tag : ByteArray) : Ex.GoK :=
  if tag.toList = [66, 80, 76] then .BPL
  else if tag.toList = [66, 77, 73] then .BMI
  else if tag.toList = [66, 86, 67] then .BVC
  else if tag.toList = [66, 86, 83] then .BVS
  else if tag.toList = [66, 67, 67] then .BCC
  else if tag.toList = [66, 67, 83] then .BCS
  else if tag.toList = [66, 78, 69] then .BNE
  else if tag.toList = [66, 69, 81] then .BEQ
  else .other
theorem goes_any (p : Int) (p0 : 0 ≤ p) (p1 : p ≤ 255) (tag : ByteArray) (w : World) :
    Calls Tryd.prog 61 #[.string tag, .int .u8 p] w fun e w' => e = .returned (.bool (Ex.goesF (Ex.goK tag) p)) ∧ w = w' := by
  by_cases h0 : tag.toList = [66, 80, 76]
  · rw [show Ex.goK tag = .BPL from by unfold Ex.goK; rw [if_pos h0]]; exact goes_BPL p p0 p1 tag h0 w
  by_cases h1 : tag.toList = [66, 77, 73]
  · rw [show Ex.goK tag = .BMI from by unfold Ex.goK; rw [if_neg h0, if_pos h1]]; exact goes_BMI p p0 p1 tag h1 w
  by_cases h2 : tag.toList = [66, 86, 67]
  · rw [show Ex.goK tag = .BVC from by unfold Ex.goK; rw [if_neg h0, if_neg h1, if_pos h2]]; exact goes_BVC p p0 p1 tag h2 w
  by_cases h3 : tag.toList = [66, 86, 83]
  · rw [show Ex.goK tag = .BVS from by unfold Ex.goK; rw [if_neg h0, if_neg h1, if_neg h2, if_pos h3]]; exact goes_BVS p p0 p1 tag h3 w
  by_cases h4 : tag.toList = [66, 67, 67]
  · rw [show Ex.goK tag = .BCC from by unfold Ex.goK; rw [if_neg h0, if_neg h1, if_neg h2, if_neg h3, if_pos h4]]; exact goes_BCC p p0 p1 tag h4 w
  by_cases h5 : tag.toList = [66, 67, 83]
  · rw [show Ex.goK tag = .BCS from by unfold Ex.goK; rw [if_neg h0, if_neg h1, if_neg h2, if_neg h3, if_neg h4, if_pos h5]]; exact goes_BCS p p0 p1 tag h5 w
  by_cases h6 : tag.toList = [66, 78, 69]
  · rw [show Ex.goK tag = .BNE from by unfold Ex.goK; rw [if_neg h0, if_neg h1, if_neg h2, if_neg h3, if_neg h4, if_neg h5, if_pos h6]]; exact goes_BNE p p0 p1 tag h6 w
  by_cases h7 : tag.toList = [66, 69, 81]
  · rw [show Ex.goK tag = .BEQ from by unfold Ex.goK; rw [if_neg h0, if_neg h1, if_neg h2, if_neg h3, if_neg h4, if_neg h5, if_neg h6, if_pos h7]]; exact goes_BEQ p p0 p1 tag h7 w
  rw [show Ex.goK tag = .other from by unfold Ex.goK; rw [if_neg h0, if_neg h1, if_neg h2, if_neg h3, if_neg h4, if_neg h5, if_neg h6, if_neg h7]]
  refine goes_other p p0 p1 tag (fun l hl => ?_) w
  rcases (by simpa only [Ex.goNames, List.mem_cons, List.not_mem_nil, or_false] using hl : l = [66, 80, 76] ∨ l = [66, 77, 73] ∨ l = [66, 86, 67] ∨ l = [66, 86, 83] ∨ l = [66, 67, 67] ∨ l = [66, 67, 83] ∨ l = [66, 78, 69] ∨ l = [66, 69, 81]) with rfl | rfl | rfl | rfl | rfl | rfl | rfl | rfl <;> assumption
end Go.Proofs.YthepcjecmlkaiaaDoor
/- Each function of package exec, for any name: what it answers is told by the name's kind. -/
namespace Go.Proofs.YthepcjecmlkaiaaDoor
open Go.RowKit
set_option linter.unusedVariables false

def Ex.rdK (tag : ByteArray) : Ex.RdK :=
  if tag.toList = [79, 82, 65] then .ORA
  else if tag.toList = [65, 78, 68] then .AND
  else if tag.toList = [69, 79, 82] then .EOR
  else if tag.toList = [65, 68, 67] then .ADC
  else if tag.toList = [83, 66, 67] then .SBC
  else if tag.toList = [67, 77, 80] then .CMP
  else if tag.toList = [67, 80, 88] then .CPX
  else if tag.toList = [67, 80, 89] then .CPY
  else if tag.toList = [66, 73, 84] then .BIT
  else if tag.toList = [76, 65, 88] then .LAX
  else if tag.toList = [76, 68, 65] then .LDA
  else if tag.toList = [76, 68, 88] then .LDX
  else if tag.toList = [76, 68, 89] then .LDY
  else if tag.toList = [76, 65, 83] then .LAS
  else if tag.toList = [65, 78, 67] then .ANC
  else if tag.toList = [65, 76, 82] then .ALR
  else if tag.toList = [65, 82, 82] then .ARR
  else if tag.toList = [65, 78, 69] then .ANE
  else if tag.toList = [76, 88, 65] then .LXA
  else if tag.toList = [83, 66, 88] then .SBX
  else .other
def Ex.tuK (tag : ByteArray) : Ex.TuK :=
  if tag.toList = [65, 83, 76] then .ASL
  else if tag.toList = [83, 76, 79] then .SLO
  else if tag.toList = [82, 79, 76] then .ROL
  else if tag.toList = [82, 76, 65] then .RLA
  else if tag.toList = [76, 83, 82] then .LSR
  else if tag.toList = [83, 82, 69] then .SRE
  else if tag.toList = [82, 79, 82] then .ROR
  else if tag.toList = [82, 82, 65] then .RRA
  else if tag.toList = [73, 78, 67] then .INC
  else if tag.toList = [68, 69, 67] then .DEC
  else if tag.toList = [73, 83, 67] then .ISC
  else if tag.toList = [68, 67, 80] then .DCP
  else .other
def Ex.stK (tag : ByteArray) : Ex.StK :=
  if tag.toList = [83, 84, 65] then .STA
  else if tag.toList = [83, 84, 88] then .STX
  else if tag.toList = [83, 84, 89] then .STY
  else if tag.toList = [83, 65, 88] then .SAX
  else if tag.toList = [83, 72, 65] then .SHA
  else if tag.toList = [83, 72, 88] then .SHX
  else if tag.toList = [83, 72, 89] then .SHY
  else if tag.toList = [84, 65, 83] then .TAS
  else .other
def Ex.seK (tag : ByteArray) : Ex.SeK :=
  if tag.toList = [67, 76, 67] then .CLC
  else if tag.toList = [83, 69, 67] then .SEC
  else if tag.toList = [67, 76, 68] then .CLD
  else if tag.toList = [83, 69, 68] then .SED
  else if tag.toList = [67, 76, 73] then .CLI
  else if tag.toList = [83, 69, 73] then .SEI
  else if tag.toList = [67, 76, 86] then .CLV
  else if tag.toList = [84, 65, 88] then .TAX
  else if tag.toList = [84, 65, 89] then .TAY
  else if tag.toList = [84, 88, 65] then .TXA
  else if tag.toList = [84, 89, 65] then .TYA
  else if tag.toList = [84, 83, 88] then .TSX
  else if tag.toList = [84, 88, 83] then .TXS
  else if tag.toList = [73, 78, 88] then .INX
  else if tag.toList = [73, 78, 89] then .INY
  else if tag.toList = [68, 69, 88] then .DEX
  else if tag.toList = [68, 69, 89] then .DEY
  else .other
theorem read_any (r : Ex.Rg) (ok : r.ok) (m : Int) (g0 : 0 ≤ m) (g1 : m ≤ 255) (tag : ByteArray) (w : World) :
    Calls Tryd.prog 8 #[.string tag, rgU r, .int .u8 m] w fun e w' => e = .returned (rgU (Ex.readF (Ex.rdK tag) r m)) ∧ Below w.heap.size w w' := by
  by_cases h0 : tag.toList = [79, 82, 65]
  · rw [show Ex.rdK tag = .ORA from by unfold Ex.rdK; rw [if_pos h0]]; exact read_ORA r ok m g0 g1 tag h0 w
  by_cases h1 : tag.toList = [65, 78, 68]
  · rw [show Ex.rdK tag = .AND from by unfold Ex.rdK; rw [if_neg h0, if_pos h1]]; exact read_AND r ok m g0 g1 tag h1 w
  by_cases h2 : tag.toList = [69, 79, 82]
  · rw [show Ex.rdK tag = .EOR from by unfold Ex.rdK; rw [if_neg h0, if_neg h1, if_pos h2]]; exact read_EOR r ok m g0 g1 tag h2 w
  by_cases h3 : tag.toList = [65, 68, 67]
  · rw [show Ex.rdK tag = .ADC from by unfold Ex.rdK; rw [if_neg h0, if_neg h1, if_neg h2, if_pos h3]]; exact read_ADC r ok m g0 g1 tag h3 w
  by_cases h4 : tag.toList = [83, 66, 67]
  · rw [show Ex.rdK tag = .SBC from by unfold Ex.rdK; rw [if_neg h0, if_neg h1, if_neg h2, if_neg h3, if_pos h4]]; exact read_SBC r ok m g0 g1 tag h4 w
  by_cases h5 : tag.toList = [67, 77, 80]
  · rw [show Ex.rdK tag = .CMP from by unfold Ex.rdK; rw [if_neg h0, if_neg h1, if_neg h2, if_neg h3, if_neg h4, if_pos h5]]; exact read_CMP r ok m g0 g1 tag h5 w
  by_cases h6 : tag.toList = [67, 80, 88]
  · rw [show Ex.rdK tag = .CPX from by unfold Ex.rdK; rw [if_neg h0, if_neg h1, if_neg h2, if_neg h3, if_neg h4, if_neg h5, if_pos h6]]; exact read_CPX r ok m g0 g1 tag h6 w
  by_cases h7 : tag.toList = [67, 80, 89]
  · rw [show Ex.rdK tag = .CPY from by unfold Ex.rdK; rw [if_neg h0, if_neg h1, if_neg h2, if_neg h3, if_neg h4, if_neg h5, if_neg h6, if_pos h7]]; exact read_CPY r ok m g0 g1 tag h7 w
  by_cases h8 : tag.toList = [66, 73, 84]
  · rw [show Ex.rdK tag = .BIT from by unfold Ex.rdK; rw [if_neg h0, if_neg h1, if_neg h2, if_neg h3, if_neg h4, if_neg h5, if_neg h6, if_neg h7, if_pos h8]]; exact read_BIT r ok m g0 g1 tag h8 w
  by_cases h9 : tag.toList = [76, 65, 88]
  · rw [show Ex.rdK tag = .LAX from by unfold Ex.rdK; rw [if_neg h0, if_neg h1, if_neg h2, if_neg h3, if_neg h4, if_neg h5, if_neg h6, if_neg h7, if_neg h8, if_pos h9]]; exact read_LAX r ok m g0 g1 tag h9 w
  by_cases h10 : tag.toList = [76, 68, 65]
  · rw [show Ex.rdK tag = .LDA from by unfold Ex.rdK; rw [if_neg h0, if_neg h1, if_neg h2, if_neg h3, if_neg h4, if_neg h5, if_neg h6, if_neg h7, if_neg h8, if_neg h9, if_pos h10]]; exact read_LDA r ok m g0 g1 tag h10 w
  by_cases h11 : tag.toList = [76, 68, 88]
  · rw [show Ex.rdK tag = .LDX from by unfold Ex.rdK; rw [if_neg h0, if_neg h1, if_neg h2, if_neg h3, if_neg h4, if_neg h5, if_neg h6, if_neg h7, if_neg h8, if_neg h9, if_neg h10, if_pos h11]]; exact read_LDX r ok m g0 g1 tag h11 w
  by_cases h12 : tag.toList = [76, 68, 89]
  · rw [show Ex.rdK tag = .LDY from by unfold Ex.rdK; rw [if_neg h0, if_neg h1, if_neg h2, if_neg h3, if_neg h4, if_neg h5, if_neg h6, if_neg h7, if_neg h8, if_neg h9, if_neg h10, if_neg h11, if_pos h12]]; exact read_LDY r ok m g0 g1 tag h12 w
  by_cases h13 : tag.toList = [76, 65, 83]
  · rw [show Ex.rdK tag = .LAS from by unfold Ex.rdK; rw [if_neg h0, if_neg h1, if_neg h2, if_neg h3, if_neg h4, if_neg h5, if_neg h6, if_neg h7, if_neg h8, if_neg h9, if_neg h10, if_neg h11, if_neg h12, if_pos h13]]; exact read_LAS r ok m g0 g1 tag h13 w
  by_cases h14 : tag.toList = [65, 78, 67]
  · rw [show Ex.rdK tag = .ANC from by unfold Ex.rdK; rw [if_neg h0, if_neg h1, if_neg h2, if_neg h3, if_neg h4, if_neg h5, if_neg h6, if_neg h7, if_neg h8, if_neg h9, if_neg h10, if_neg h11, if_neg h12, if_neg h13, if_pos h14]]; exact read_ANC r ok m g0 g1 tag h14 w
  by_cases h15 : tag.toList = [65, 76, 82]
  · rw [show Ex.rdK tag = .ALR from by unfold Ex.rdK; rw [if_neg h0, if_neg h1, if_neg h2, if_neg h3, if_neg h4, if_neg h5, if_neg h6, if_neg h7, if_neg h8, if_neg h9, if_neg h10, if_neg h11, if_neg h12, if_neg h13, if_neg h14, if_pos h15]]; exact read_ALR r ok m g0 g1 tag h15 w
  by_cases h16 : tag.toList = [65, 82, 82]
  · rw [show Ex.rdK tag = .ARR from by unfold Ex.rdK; rw [if_neg h0, if_neg h1, if_neg h2, if_neg h3, if_neg h4, if_neg h5, if_neg h6, if_neg h7, if_neg h8, if_neg h9, if_neg h10, if_neg h11, if_neg h12, if_neg h13, if_neg h14, if_neg h15, if_pos h16]]; exact read_ARR r ok m g0 g1 tag h16 w
  by_cases h17 : tag.toList = [65, 78, 69]
  · rw [show Ex.rdK tag = .ANE from by unfold Ex.rdK; rw [if_neg h0, if_neg h1, if_neg h2, if_neg h3, if_neg h4, if_neg h5, if_neg h6, if_neg h7, if_neg h8, if_neg h9, if_neg h10, if_neg h11, if_neg h12, if_neg h13, if_neg h14, if_neg h15, if_neg h16, if_pos h17]]; exact read_ANE r ok m g0 g1 tag h17 w
  by_cases h18 : tag.toList = [76, 88, 65]
  · rw [show Ex.rdK tag = .LXA from by unfold Ex.rdK; rw [if_neg h0, if_neg h1, if_neg h2, if_neg h3, if_neg h4, if_neg h5, if_neg h6, if_neg h7, if_neg h8, if_neg h9, if_neg h10, if_neg h11, if_neg h12, if_neg h13, if_neg h14, if_neg h15, if_neg h16, if_neg h17, if_pos h18]]; exact read_LXA r ok m g0 g1 tag h18 w
  by_cases h19 : tag.toList = [83, 66, 88]
  · rw [show Ex.rdK tag = .SBX from by unfold Ex.rdK; rw [if_neg h0, if_neg h1, if_neg h2, if_neg h3, if_neg h4, if_neg h5, if_neg h6, if_neg h7, if_neg h8, if_neg h9, if_neg h10, if_neg h11, if_neg h12, if_neg h13, if_neg h14, if_neg h15, if_neg h16, if_neg h17, if_neg h18, if_pos h19]]; exact read_SBX r ok m g0 g1 tag h19 w
  rw [show Ex.rdK tag = .other from by unfold Ex.rdK; rw [if_neg h0, if_neg h1, if_neg h2, if_neg h3, if_neg h4, if_neg h5, if_neg h6, if_neg h7, if_neg h8, if_neg h9, if_neg h10, if_neg h11, if_neg h12, if_neg h13, if_neg h14, if_neg h15, if_neg h16, if_neg h17, if_neg h18, if_neg h19]]
  refine read_other r ok m g0 g1 tag (fun l hl => ?_) w
  rcases (by simpa only [Ex.rdNames, List.mem_cons, List.not_mem_nil, or_false] using hl : l = [79, 82, 65] ∨ l = [65, 78, 68] ∨ l = [69, 79, 82] ∨ l = [65, 68, 67] ∨ l = [83, 66, 67] ∨ l = [67, 77, 80] ∨ l = [67, 80, 88] ∨ l = [67, 80, 89] ∨ l = [66, 73, 84] ∨ l = [76, 65, 88] ∨ l = [76, 68, 65] ∨ l = [76, 68, 88] ∨ l = [76, 68, 89] ∨ l = [76, 65, 83] ∨ l = [65, 78, 67] ∨ l = [65, 76, 82] ∨ l = [65, 82, 82] ∨ l = [65, 78, 69] ∨ l = [76, 88, 65] ∨ l = [83, 66, 88]) with rfl | rfl | rfl | rfl | rfl | rfl | rfl | rfl | rfl | rfl | rfl | rfl | rfl | rfl | rfl | rfl | rfl | rfl | rfl | rfl <;> assumption
theorem turn_any (r : Ex.Rg) (ok : r.ok) (m : Int) (g0 : 0 ≤ m) (g1 : m ≤ 255) (tag : ByteArray) (w : World) :
    Calls Tryd.prog 60 #[.string tag, rgU r, .int .u8 m] w fun e w' => e = .returned (.tuple #[.int .u8 (Ex.turnV (Ex.tuK tag) r.p m), rgU (Ex.turnR (Ex.tuK tag) r m)]) ∧ Below w.heap.size w w' := by
  by_cases h0 : tag.toList = [65, 83, 76]
  · rw [show Ex.tuK tag = .ASL from by unfold Ex.tuK; rw [if_pos h0]]; exact turn_ASL r ok m g0 g1 tag h0 w
  by_cases h1 : tag.toList = [83, 76, 79]
  · rw [show Ex.tuK tag = .SLO from by unfold Ex.tuK; rw [if_neg h0, if_pos h1]]; exact turn_SLO r ok m g0 g1 tag h1 w
  by_cases h2 : tag.toList = [82, 79, 76]
  · rw [show Ex.tuK tag = .ROL from by unfold Ex.tuK; rw [if_neg h0, if_neg h1, if_pos h2]]; exact turn_ROL r ok m g0 g1 tag h2 w
  by_cases h3 : tag.toList = [82, 76, 65]
  · rw [show Ex.tuK tag = .RLA from by unfold Ex.tuK; rw [if_neg h0, if_neg h1, if_neg h2, if_pos h3]]; exact turn_RLA r ok m g0 g1 tag h3 w
  by_cases h4 : tag.toList = [76, 83, 82]
  · rw [show Ex.tuK tag = .LSR from by unfold Ex.tuK; rw [if_neg h0, if_neg h1, if_neg h2, if_neg h3, if_pos h4]]; exact turn_LSR r ok m g0 g1 tag h4 w
  by_cases h5 : tag.toList = [83, 82, 69]
  · rw [show Ex.tuK tag = .SRE from by unfold Ex.tuK; rw [if_neg h0, if_neg h1, if_neg h2, if_neg h3, if_neg h4, if_pos h5]]; exact turn_SRE r ok m g0 g1 tag h5 w
  by_cases h6 : tag.toList = [82, 79, 82]
  · rw [show Ex.tuK tag = .ROR from by unfold Ex.tuK; rw [if_neg h0, if_neg h1, if_neg h2, if_neg h3, if_neg h4, if_neg h5, if_pos h6]]; exact turn_ROR r ok m g0 g1 tag h6 w
  by_cases h7 : tag.toList = [82, 82, 65]
  · rw [show Ex.tuK tag = .RRA from by unfold Ex.tuK; rw [if_neg h0, if_neg h1, if_neg h2, if_neg h3, if_neg h4, if_neg h5, if_neg h6, if_pos h7]]; exact turn_RRA r ok m g0 g1 tag h7 w
  by_cases h8 : tag.toList = [73, 78, 67]
  · rw [show Ex.tuK tag = .INC from by unfold Ex.tuK; rw [if_neg h0, if_neg h1, if_neg h2, if_neg h3, if_neg h4, if_neg h5, if_neg h6, if_neg h7, if_pos h8]]; exact turn_INC r ok m g0 g1 tag h8 w
  by_cases h9 : tag.toList = [68, 69, 67]
  · rw [show Ex.tuK tag = .DEC from by unfold Ex.tuK; rw [if_neg h0, if_neg h1, if_neg h2, if_neg h3, if_neg h4, if_neg h5, if_neg h6, if_neg h7, if_neg h8, if_pos h9]]; exact turn_DEC r ok m g0 g1 tag h9 w
  by_cases h10 : tag.toList = [73, 83, 67]
  · rw [show Ex.tuK tag = .ISC from by unfold Ex.tuK; rw [if_neg h0, if_neg h1, if_neg h2, if_neg h3, if_neg h4, if_neg h5, if_neg h6, if_neg h7, if_neg h8, if_neg h9, if_pos h10]]; exact turn_ISC r ok m g0 g1 tag h10 w
  by_cases h11 : tag.toList = [68, 67, 80]
  · rw [show Ex.tuK tag = .DCP from by unfold Ex.tuK; rw [if_neg h0, if_neg h1, if_neg h2, if_neg h3, if_neg h4, if_neg h5, if_neg h6, if_neg h7, if_neg h8, if_neg h9, if_neg h10, if_pos h11]]; exact turn_DCP r ok m g0 g1 tag h11 w
  rw [show Ex.tuK tag = .other from by unfold Ex.tuK; rw [if_neg h0, if_neg h1, if_neg h2, if_neg h3, if_neg h4, if_neg h5, if_neg h6, if_neg h7, if_neg h8, if_neg h9, if_neg h10, if_neg h11]]
  refine turn_other r ok m g0 g1 tag (fun l hl => ?_) w
  rcases (by simpa only [Ex.tuNames, List.mem_cons, List.not_mem_nil, or_false] using hl : l = [65, 83, 76] ∨ l = [83, 76, 79] ∨ l = [82, 79, 76] ∨ l = [82, 76, 65] ∨ l = [76, 83, 82] ∨ l = [83, 82, 69] ∨ l = [82, 79, 82] ∨ l = [82, 82, 65] ∨ l = [73, 78, 67] ∨ l = [68, 69, 67] ∨ l = [73, 83, 67] ∨ l = [68, 67, 80]) with rfl | rfl | rfl | rfl | rfl | rfl | rfl | rfl | rfl | rfl | rfl | rfl <;> assumption
theorem store_any (r : Ex.Rg) (ok : r.ok) (m : Int) (g0 : 0 ≤ m) (g1 : m ≤ 255) (tag : ByteArray) (w : World) :
    Calls Tryd.prog 57 #[.string tag, rgU r, .int .u8 m] w fun e w' => e = .returned (.tuple #[.int .u8 (Ex.storeV (Ex.stK tag) r m), rgU (Ex.storeR (Ex.stK tag) r)]) ∧ Below w.heap.size w w' := by
  by_cases h0 : tag.toList = [83, 84, 65]
  · rw [show Ex.stK tag = .STA from by unfold Ex.stK; rw [if_pos h0]]; exact store_STA r ok m g0 g1 tag h0 w
  by_cases h1 : tag.toList = [83, 84, 88]
  · rw [show Ex.stK tag = .STX from by unfold Ex.stK; rw [if_neg h0, if_pos h1]]; exact store_STX r ok m g0 g1 tag h1 w
  by_cases h2 : tag.toList = [83, 84, 89]
  · rw [show Ex.stK tag = .STY from by unfold Ex.stK; rw [if_neg h0, if_neg h1, if_pos h2]]; exact store_STY r ok m g0 g1 tag h2 w
  by_cases h3 : tag.toList = [83, 65, 88]
  · rw [show Ex.stK tag = .SAX from by unfold Ex.stK; rw [if_neg h0, if_neg h1, if_neg h2, if_pos h3]]; exact store_SAX r ok m g0 g1 tag h3 w
  by_cases h4 : tag.toList = [83, 72, 65]
  · rw [show Ex.stK tag = .SHA from by unfold Ex.stK; rw [if_neg h0, if_neg h1, if_neg h2, if_neg h3, if_pos h4]]; exact store_SHA r ok m g0 g1 tag h4 w
  by_cases h5 : tag.toList = [83, 72, 88]
  · rw [show Ex.stK tag = .SHX from by unfold Ex.stK; rw [if_neg h0, if_neg h1, if_neg h2, if_neg h3, if_neg h4, if_pos h5]]; exact store_SHX r ok m g0 g1 tag h5 w
  by_cases h6 : tag.toList = [83, 72, 89]
  · rw [show Ex.stK tag = .SHY from by unfold Ex.stK; rw [if_neg h0, if_neg h1, if_neg h2, if_neg h3, if_neg h4, if_neg h5, if_pos h6]]; exact store_SHY r ok m g0 g1 tag h6 w
  by_cases h7 : tag.toList = [84, 65, 83]
  · rw [show Ex.stK tag = .TAS from by unfold Ex.stK; rw [if_neg h0, if_neg h1, if_neg h2, if_neg h3, if_neg h4, if_neg h5, if_neg h6, if_pos h7]]; exact store_TAS r ok m g0 g1 tag h7 w
  rw [show Ex.stK tag = .other from by unfold Ex.stK; rw [if_neg h0, if_neg h1, if_neg h2, if_neg h3, if_neg h4, if_neg h5, if_neg h6, if_neg h7]]
  refine store_other r ok m g0 g1 tag (fun l hl => ?_) w
  rcases (by simpa only [Ex.stNames, List.mem_cons, List.not_mem_nil, or_false] using hl : l = [83, 84, 65] ∨ l = [83, 84, 88] ∨ l = [83, 84, 89] ∨ l = [83, 65, 88] ∨ l = [83, 72, 65] ∨ l = [83, 72, 88] ∨ l = [83, 72, 89] ∨ l = [84, 65, 83]) with rfl | rfl | rfl | rfl | rfl | rfl | rfl | rfl <;> assumption
theorem self_any (r : Ex.Rg) (ok : r.ok) (tag : ByteArray) (w : World) :
    Calls Tryd.prog 56 #[.string tag, rgU r] w fun e w' => e = .returned (rgU (Ex.selfF (Ex.seK tag) r)) ∧ Below w.heap.size w w' := by
  by_cases h0 : tag.toList = [67, 76, 67]
  · rw [show Ex.seK tag = .CLC from by unfold Ex.seK; rw [if_pos h0]]; exact self_CLC r ok tag h0 w
  by_cases h1 : tag.toList = [83, 69, 67]
  · rw [show Ex.seK tag = .SEC from by unfold Ex.seK; rw [if_neg h0, if_pos h1]]; exact self_SEC r ok tag h1 w
  by_cases h2 : tag.toList = [67, 76, 68]
  · rw [show Ex.seK tag = .CLD from by unfold Ex.seK; rw [if_neg h0, if_neg h1, if_pos h2]]; exact self_CLD r ok tag h2 w
  by_cases h3 : tag.toList = [83, 69, 68]
  · rw [show Ex.seK tag = .SED from by unfold Ex.seK; rw [if_neg h0, if_neg h1, if_neg h2, if_pos h3]]; exact self_SED r ok tag h3 w
  by_cases h4 : tag.toList = [67, 76, 73]
  · rw [show Ex.seK tag = .CLI from by unfold Ex.seK; rw [if_neg h0, if_neg h1, if_neg h2, if_neg h3, if_pos h4]]; exact self_CLI r ok tag h4 w
  by_cases h5 : tag.toList = [83, 69, 73]
  · rw [show Ex.seK tag = .SEI from by unfold Ex.seK; rw [if_neg h0, if_neg h1, if_neg h2, if_neg h3, if_neg h4, if_pos h5]]; exact self_SEI r ok tag h5 w
  by_cases h6 : tag.toList = [67, 76, 86]
  · rw [show Ex.seK tag = .CLV from by unfold Ex.seK; rw [if_neg h0, if_neg h1, if_neg h2, if_neg h3, if_neg h4, if_neg h5, if_pos h6]]; exact self_CLV r ok tag h6 w
  by_cases h7 : tag.toList = [84, 65, 88]
  · rw [show Ex.seK tag = .TAX from by unfold Ex.seK; rw [if_neg h0, if_neg h1, if_neg h2, if_neg h3, if_neg h4, if_neg h5, if_neg h6, if_pos h7]]; exact self_TAX r ok tag h7 w
  by_cases h8 : tag.toList = [84, 65, 89]
  · rw [show Ex.seK tag = .TAY from by unfold Ex.seK; rw [if_neg h0, if_neg h1, if_neg h2, if_neg h3, if_neg h4, if_neg h5, if_neg h6, if_neg h7, if_pos h8]]; exact self_TAY r ok tag h8 w
  by_cases h9 : tag.toList = [84, 88, 65]
  · rw [show Ex.seK tag = .TXA from by unfold Ex.seK; rw [if_neg h0, if_neg h1, if_neg h2, if_neg h3, if_neg h4, if_neg h5, if_neg h6, if_neg h7, if_neg h8, if_pos h9]]; exact self_TXA r ok tag h9 w
  by_cases h10 : tag.toList = [84, 89, 65]
  · rw [show Ex.seK tag = .TYA from by unfold Ex.seK; rw [if_neg h0, if_neg h1, if_neg h2, if_neg h3, if_neg h4, if_neg h5, if_neg h6, if_neg h7, if_neg h8, if_neg h9, if_pos h10]]; exact self_TYA r ok tag h10 w
  by_cases h11 : tag.toList = [84, 83, 88]
  · rw [show Ex.seK tag = .TSX from by unfold Ex.seK; rw [if_neg h0, if_neg h1, if_neg h2, if_neg h3, if_neg h4, if_neg h5, if_neg h6, if_neg h7, if_neg h8, if_neg h9, if_neg h10, if_pos h11]]; exact self_TSX r ok tag h11 w
  by_cases h12 : tag.toList = [84, 88, 83]
  · rw [show Ex.seK tag = .TXS from by unfold Ex.seK; rw [if_neg h0, if_neg h1, if_neg h2, if_neg h3, if_neg h4, if_neg h5, if_neg h6, if_neg h7, if_neg h8, if_neg h9, if_neg h10, if_neg h11, if_pos h12]]; exact self_TXS r ok tag h12 w
  by_cases h13 : tag.toList = [73, 78, 88]
  · rw [show Ex.seK tag = .INX from by unfold Ex.seK; rw [if_neg h0, if_neg h1, if_neg h2, if_neg h3, if_neg h4, if_neg h5, if_neg h6, if_neg h7, if_neg h8, if_neg h9, if_neg h10, if_neg h11, if_neg h12, if_pos h13]]; exact self_INX r ok tag h13 w
  by_cases h14 : tag.toList = [73, 78, 89]
  · rw [show Ex.seK tag = .INY from by unfold Ex.seK; rw [if_neg h0, if_neg h1, if_neg h2, if_neg h3, if_neg h4, if_neg h5, if_neg h6, if_neg h7, if_neg h8, if_neg h9, if_neg h10, if_neg h11, if_neg h12, if_neg h13, if_pos h14]]; exact self_INY r ok tag h14 w
  by_cases h15 : tag.toList = [68, 69, 88]
  · rw [show Ex.seK tag = .DEX from by unfold Ex.seK; rw [if_neg h0, if_neg h1, if_neg h2, if_neg h3, if_neg h4, if_neg h5, if_neg h6, if_neg h7, if_neg h8, if_neg h9, if_neg h10, if_neg h11, if_neg h12, if_neg h13, if_neg h14, if_pos h15]]; exact self_DEX r ok tag h15 w
  by_cases h16 : tag.toList = [68, 69, 89]
  · rw [show Ex.seK tag = .DEY from by unfold Ex.seK; rw [if_neg h0, if_neg h1, if_neg h2, if_neg h3, if_neg h4, if_neg h5, if_neg h6, if_neg h7, if_neg h8, if_neg h9, if_neg h10, if_neg h11, if_neg h12, if_neg h13, if_neg h14, if_neg h15, if_pos h16]]; exact self_DEY r ok tag h16 w
  rw [show Ex.seK tag = .other from by unfold Ex.seK; rw [if_neg h0, if_neg h1, if_neg h2, if_neg h3, if_neg h4, if_neg h5, if_neg h6, if_neg h7, if_neg h8, if_neg h9, if_neg h10, if_neg h11, if_neg h12, if_neg h13, if_neg h14, if_neg h15, if_neg h16]]
  refine self_other r ok tag (fun l hl => ?_) w
  rcases (by simpa only [Ex.seNames, List.mem_cons, List.not_mem_nil, or_false] using hl : l = [67, 76, 67] ∨ l = [83, 69, 67] ∨ l = [67, 76, 68] ∨ l = [83, 69, 68] ∨ l = [67, 76, 73] ∨ l = [83, 69, 73] ∨ l = [67, 76, 86] ∨ l = [84, 65, 88] ∨ l = [84, 65, 89] ∨ l = [84, 88, 65] ∨ l = [84, 89, 65] ∨ l = [84, 83, 88] ∨ l = [84, 88, 83] ∨ l = [73, 78, 88] ∨ l = [73, 78, 89] ∨ l = [68, 69, 88] ∨ l = [68, 69, 89]) with rfl | rfl | rfl | rfl | rfl | rfl | rfl | rfl | rfl | rfl | rfl | rfl | rfl | rfl | rfl | rfl | rfl <;> assumption
end Go.Proofs.YthepcjecmlkaiaaDoor
