/- Package code: the reference's Cycles. Printed by gen/coderc.py. -/
import Derived.Test.YtcchnenjfckbbaaDoorCodeRc1
import Derived.Test.YtcchnenjfckbbaaDoorCodeRc2
import Derived.Test.YtcchnenjfckbbaaDoorCodeRc3
import Derived.Test.YtcchnenjfckbbaaDoorCodeRc4
import Derived.Test.YtcchnenjfckbbaaDoorCodeRc5
import Derived.Test.YtcchnenjfckbbaaDoorCodeRc6
namespace Go.Proofs.YtcchnenjfckbbaaDoor.Co
open Go.RowKit Go.Maps Go.Deep Go.Proofs.Tryd
set_option linter.unusedVariables false
set_option linter.unusedSimpArgs false
theorem rcycles_any (o : Nat) (ho : o < 256) (w : World) : Calls Tryd.prog 12 #[.int .i64 (o : Int)] w fun e w' => e = .returned (.int .i64 (cycF (modeO o) (kindC o))) ∧ Below w.heap.size w w' := by
  rw [← rcyc_eq o ho, ← ByteArray.toList_eq]
  have hp := pairs_all o ho
  have k := ref_any o ho w
  unfold refV at k
  generalize nameO o = nm at *
  generalize modeO o = md at *
  generalize kindC o = kd at *
  generalize knownC o = kn at *
  simp only [pairs, List.mem_cons, Prod.mk.injEq, List.not_mem_nil, or_false] at hp
  rcases hp with ⟨rfl, rfl⟩ | ⟨rfl, rfl⟩ | ⟨rfl, rfl⟩ | ⟨rfl, rfl⟩ | ⟨rfl, rfl⟩ | ⟨rfl, rfl⟩ | ⟨rfl, rfl⟩ | ⟨rfl, rfl⟩ | ⟨rfl, rfl⟩ | ⟨rfl, rfl⟩ | ⟨rfl, rfl⟩ | ⟨rfl, rfl⟩ | ⟨rfl, rfl⟩ | ⟨rfl, rfl⟩ | ⟨rfl, rfl⟩ | ⟨rfl, rfl⟩ | ⟨rfl, rfl⟩ | ⟨rfl, rfl⟩ | ⟨rfl, rfl⟩ | ⟨rfl, rfl⟩ | ⟨rfl, rfl⟩ | ⟨rfl, rfl⟩ | ⟨rfl, rfl⟩ | ⟨rfl, rfl⟩ | ⟨rfl, rfl⟩ | ⟨rfl, rfl⟩ | ⟨rfl, rfl⟩ | ⟨rfl, rfl⟩ | ⟨rfl, rfl⟩ | ⟨rfl, rfl⟩ | ⟨rfl, rfl⟩ | ⟨rfl, rfl⟩ | ⟨rfl, rfl⟩ | ⟨rfl, rfl⟩ | ⟨rfl, rfl⟩ | ⟨rfl, rfl⟩
  · exact rc_0_0 o nm kn w (Lib.hid k)
  · exact rc_2_1 o nm kn w (Lib.hid k)
  · exact rc_3_1 o nm kn w (Lib.hid k)
  · exact rc_4_1 o nm kn w (Lib.hid k)
  · exact rc_5_1 o nm kn w (Lib.hid k)
  · exact rc_6_1 o nm kn w (Lib.hid k)
  · exact rc_7_1 o nm kn w (Lib.hid k)
  · exact rc_8_1 o nm kn w (Lib.hid k)
  · exact rc_9_1 o nm kn w (Lib.hid k)
  · exact rc_10_1 o nm kn w (Lib.hid k)
  · exact rc_3_2 o nm kn w (Lib.hid k)
  · exact rc_4_2 o nm kn w (Lib.hid k)
  · exact rc_5_2 o nm kn w (Lib.hid k)
  · exact rc_6_2 o nm kn w (Lib.hid k)
  · exact rc_7_2 o nm kn w (Lib.hid k)
  · exact rc_8_2 o nm kn w (Lib.hid k)
  · exact rc_9_2 o nm kn w (Lib.hid k)
  · exact rc_10_2 o nm kn w (Lib.hid k)
  · exact rc_1_3 o nm kn w (Lib.hid k)
  · exact rc_3_3 o nm kn w (Lib.hid k)
  · exact rc_4_3 o nm kn w (Lib.hid k)
  · exact rc_6_3 o nm kn w (Lib.hid k)
  · exact rc_7_3 o nm kn w (Lib.hid k)
  · exact rc_8_3 o nm kn w (Lib.hid k)
  · exact rc_9_3 o nm kn w (Lib.hid k)
  · exact rc_10_3 o nm kn w (Lib.hid k)
  · exact rc_11_4 o nm kn w (Lib.hid k)
  · exact rc_0_5 o nm kn w (Lib.hid k)
  · exact rc_0_6 o nm kn w (Lib.hid k)
  · exact rc_6_7 o nm kn w (Lib.hid k)
  · exact rc_12_7 o nm kn w (Lib.hid k)
  · exact rc_6_8 o nm kn w (Lib.hid k)
  · exact rc_0_9 o nm kn w (Lib.hid k)
  · exact rc_0_10 o nm kn w (Lib.hid k)
  · exact rc_0_11 o nm kn w (Lib.hid k)
  · exact rc_0_12 o nm kn w (Lib.hid k)
end Go.Proofs.YtcchnenjfckbbaaDoor.Co
