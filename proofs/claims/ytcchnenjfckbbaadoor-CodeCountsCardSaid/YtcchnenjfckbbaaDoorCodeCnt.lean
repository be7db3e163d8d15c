/- Package code: how many codes are documented, how many jam. -/
import Derived.Test.YtcchnenjfckbbaaDoorCodeAwake
import Derived.Test.YtcchnenjfckbbaaDoorCodeSort
namespace Go.Proofs.YtcchnenjfckbbaaDoor.Co
set_option linter.unusedVariables false
def cntK (k : Nat) : Nat := (List.range k).countP knownC
def cntJ (k : Nat) : Nat := (List.range k).countP fun o => kindC o == 12
theorem cntK_succ (k : Nat) : cntK (k + 1) = cntK k + if knownC k then 1 else 0 := by simp [cntK, List.range_succ, List.countP_append, List.countP_cons]
theorem cntJ_succ (k : Nat) : cntJ (k + 1) = cntJ k + if (kindC k == 12) then 1 else 0 := by simp [cntJ, List.range_succ, List.countP_append, List.countP_cons]
theorem cntK_le (k : Nat) : cntK k ≤ k := by have := List.countP_le_length (p := knownC) (l := List.range k); simpa [cntK] using this
theorem cntJ_le (k : Nat) : cntJ k ≤ k := by have := List.countP_le_length (p := fun o => kindC o == 12) (l := List.range k); simpa [cntJ] using this
theorem cnts : cntK 256 = 151 ∧ cntJ 256 = 12 := by decide +kernel
theorem L76_less : ∀ i < 75, Op.bytesLess (L76.getD i []) (L76.getD (i + 1) []) = true := by decide +kernel
theorem field_nm2 (nm : ByteArray) (md kd : Int) (kn : Bool) (w : World) : (Instr.field 25 (.agg #[.string nm, .int .u8 md, .int .u8 kd, .bool kn]) 0).run Tryd.prog w = .ok (.string nm) w := by kernel_rfl
end Go.Proofs.YtcchnenjfckbbaaDoor.Co
