/- Package code: the reference's Cycles, plainly. Printed by gen/coderc.py. -/
import Derived.Test.YtcchnenjfckbbaaDoorCodeRof
namespace Go.Proofs.YtcchnenjfckbbaaDoor.Co
open Go.RowKit Go.Maps Go.Deep Go.Proofs.Tryd
set_option linter.unusedVariables false
set_option linter.unusedSimpArgs false
def readsT : List Int := [2, 2, 2, 3, 4, 4, 4, 4, 4, 6, 5, 2, 0]
def storesT : List Int := [0, 0, 0, 3, 4, 4, 4, 5, 5, 6, 6, 0, 0]
def turnsT : List Int := [0, 2, 0, 5, 6, 6, 6, 7, 7, 8, 8, 0, 0]
def lastT : List Int := [0, 0, 0, 0, 2, 3, 4, 3, 6, 6, 6, 7, 0]
def rcycF (jmp : Bool) (md kd : Int) : Int :=
  if kd ≤ 1 then readsT.getD md.toNat 0 else if kd = 2 then storesT.getD md.toNat 0 else if kd = 3 then turnsT.getD md.toNat 0
  else if jmp = true ∧ md = 12 then 5 else lastT.getD kd.toNat 0
theorem rcyc_eq : ∀ o < 256, rcycF ((nameO o).data.toList == [74, 77, 80]) (modeO o) (kindC o) = cycF (modeO o) (kindC o) := by decide +kernel
def pairs : List (Int × Int) := [(0, 0), (2, 1), (3, 1), (4, 1), (5, 1), (6, 1), (7, 1), (8, 1), (9, 1), (10, 1), (3, 2), (4, 2), (5, 2), (6, 2), (7, 2), (8, 2), (9, 2), (10, 2), (1, 3), (3, 3), (4, 3), (6, 3), (7, 3), (8, 3), (9, 3), (10, 3), (11, 4), (0, 5), (0, 6), (6, 7), (12, 7), (6, 8), (0, 9), (0, 10), (0, 11), (0, 12)]
theorem pairs_all : ∀ o < 256, (modeO o, kindC o) ∈ pairs := by decide +kernel
end Go.Proofs.YtcchnenjfckbbaaDoor.Co
