/- The walks of exec.then. -/
import Derived.Test.YtlecpfkfnaiabaaExecFile
import Derived.Test.YtlecpfkfnaiabaaExecB
import Derived.RegionTactic
import Derived.Deep.RegionWith
import Derived.ChangeAlike
import Derived.BigRegion
namespace Go.Proofs.Ytlecpfkfnaiabaa
open Go.RowKit
set_option linter.unusedVariables false
set_option linter.unusedSimpArgs false
set_option maxRecDepth 100000 in
set_option maxHeartbeats 4000000 in
theorem then_ASL (tag : ByteArray) (hk : tag.toList = [65, 83, 76]) (w : World) :
    Calls Try.prog 44 #[.string tag] w fun e w' => e = .returned (.string ⟨#[]⟩) ∧ w = w' := by
  have e0 : (tag.toList == [83, 76, 79]) = false := by rw [hk]; rfl
  have e1 : (tag.toList == [82, 76, 65]) = false := by rw [hk]; rfl
  have e2 : (tag.toList == [83, 82, 69]) = false := by rw [hk]; rfl
  have e3 : (tag.toList == [82, 82, 65]) = false := by rw [hk]; rfl
  have e4 : (tag.toList == [68, 67, 80]) = false := by rw [hk]; rfl
  have e5 : (tag.toList == [73, 83, 67]) = false := by rw [hk]; rfl
  clear hk
  go_enter Try.func44, Try.ntmps44
  (repeat (first | (with_reducible refine inBlock_far (by decide) ?_) | (with_reducible refine then_exit ?_) | (with_reducible refine inBlock_here ?_) | ((fail_if_success (with_reducible refine calls_id ?_)); go_step)))
  go_ret
  exact ⟨rfl, rfl⟩
set_option maxRecDepth 100000 in
set_option maxHeartbeats 4000000 in
theorem then_SLO (tag : ByteArray) (hk : tag.toList = [83, 76, 79]) (w : World) :
    Calls Try.prog 44 #[.string tag] w fun e w' => e = .returned (.string ⟨#[79, 82, 65]⟩) ∧ w = w' := by
  have e0 : (tag.toList == [83, 76, 79]) = true := by rw [hk]; rfl
  have e1 : (tag.toList == [82, 76, 65]) = false := by rw [hk]; rfl
  have e2 : (tag.toList == [83, 82, 69]) = false := by rw [hk]; rfl
  have e3 : (tag.toList == [82, 82, 65]) = false := by rw [hk]; rfl
  have e4 : (tag.toList == [68, 67, 80]) = false := by rw [hk]; rfl
  have e5 : (tag.toList == [73, 83, 67]) = false := by rw [hk]; rfl
  clear hk
  go_enter Try.func44, Try.ntmps44
  (repeat (first | (with_reducible refine inBlock_far (by decide) ?_) | (with_reducible refine then_exit ?_) | (with_reducible refine inBlock_here ?_) | ((fail_if_success (with_reducible refine calls_id ?_)); go_step)))
  go_ret
  exact ⟨rfl, rfl⟩
set_option maxRecDepth 100000 in
set_option maxHeartbeats 4000000 in
theorem then_ROL (tag : ByteArray) (hk : tag.toList = [82, 79, 76]) (w : World) :
    Calls Try.prog 44 #[.string tag] w fun e w' => e = .returned (.string ⟨#[]⟩) ∧ w = w' := by
  have e0 : (tag.toList == [83, 76, 79]) = false := by rw [hk]; rfl
  have e1 : (tag.toList == [82, 76, 65]) = false := by rw [hk]; rfl
  have e2 : (tag.toList == [83, 82, 69]) = false := by rw [hk]; rfl
  have e3 : (tag.toList == [82, 82, 65]) = false := by rw [hk]; rfl
  have e4 : (tag.toList == [68, 67, 80]) = false := by rw [hk]; rfl
  have e5 : (tag.toList == [73, 83, 67]) = false := by rw [hk]; rfl
  clear hk
  go_enter Try.func44, Try.ntmps44
  (repeat (first | (with_reducible refine inBlock_far (by decide) ?_) | (with_reducible refine then_exit ?_) | (with_reducible refine inBlock_here ?_) | ((fail_if_success (with_reducible refine calls_id ?_)); go_step)))
  go_ret
  exact ⟨rfl, rfl⟩
set_option maxRecDepth 100000 in
set_option maxHeartbeats 4000000 in
theorem then_RLA (tag : ByteArray) (hk : tag.toList = [82, 76, 65]) (w : World) :
    Calls Try.prog 44 #[.string tag] w fun e w' => e = .returned (.string ⟨#[65, 78, 68]⟩) ∧ w = w' := by
  have e0 : (tag.toList == [83, 76, 79]) = false := by rw [hk]; rfl
  have e1 : (tag.toList == [82, 76, 65]) = true := by rw [hk]; rfl
  have e2 : (tag.toList == [83, 82, 69]) = false := by rw [hk]; rfl
  have e3 : (tag.toList == [82, 82, 65]) = false := by rw [hk]; rfl
  have e4 : (tag.toList == [68, 67, 80]) = false := by rw [hk]; rfl
  have e5 : (tag.toList == [73, 83, 67]) = false := by rw [hk]; rfl
  clear hk
  go_enter Try.func44, Try.ntmps44
  (repeat (first | (with_reducible refine inBlock_far (by decide) ?_) | (with_reducible refine then_exit ?_) | (with_reducible refine inBlock_here ?_) | ((fail_if_success (with_reducible refine calls_id ?_)); go_step)))
  go_ret
  exact ⟨rfl, rfl⟩
set_option maxRecDepth 100000 in
set_option maxHeartbeats 4000000 in
theorem then_LSR (tag : ByteArray) (hk : tag.toList = [76, 83, 82]) (w : World) :
    Calls Try.prog 44 #[.string tag] w fun e w' => e = .returned (.string ⟨#[]⟩) ∧ w = w' := by
  have e0 : (tag.toList == [83, 76, 79]) = false := by rw [hk]; rfl
  have e1 : (tag.toList == [82, 76, 65]) = false := by rw [hk]; rfl
  have e2 : (tag.toList == [83, 82, 69]) = false := by rw [hk]; rfl
  have e3 : (tag.toList == [82, 82, 65]) = false := by rw [hk]; rfl
  have e4 : (tag.toList == [68, 67, 80]) = false := by rw [hk]; rfl
  have e5 : (tag.toList == [73, 83, 67]) = false := by rw [hk]; rfl
  clear hk
  go_enter Try.func44, Try.ntmps44
  (repeat (first | (with_reducible refine inBlock_far (by decide) ?_) | (with_reducible refine then_exit ?_) | (with_reducible refine inBlock_here ?_) | ((fail_if_success (with_reducible refine calls_id ?_)); go_step)))
  go_ret
  exact ⟨rfl, rfl⟩
set_option maxRecDepth 100000 in
set_option maxHeartbeats 4000000 in
theorem then_SRE (tag : ByteArray) (hk : tag.toList = [83, 82, 69]) (w : World) :
    Calls Try.prog 44 #[.string tag] w fun e w' => e = .returned (.string ⟨#[69, 79, 82]⟩) ∧ w = w' := by
  have e0 : (tag.toList == [83, 76, 79]) = false := by rw [hk]; rfl
  have e1 : (tag.toList == [82, 76, 65]) = false := by rw [hk]; rfl
  have e2 : (tag.toList == [83, 82, 69]) = true := by rw [hk]; rfl
  have e3 : (tag.toList == [82, 82, 65]) = false := by rw [hk]; rfl
  have e4 : (tag.toList == [68, 67, 80]) = false := by rw [hk]; rfl
  have e5 : (tag.toList == [73, 83, 67]) = false := by rw [hk]; rfl
  clear hk
  go_enter Try.func44, Try.ntmps44
  (repeat (first | (with_reducible refine inBlock_far (by decide) ?_) | (with_reducible refine then_exit ?_) | (with_reducible refine inBlock_here ?_) | ((fail_if_success (with_reducible refine calls_id ?_)); go_step)))
  go_ret
  exact ⟨rfl, rfl⟩
set_option maxRecDepth 100000 in
set_option maxHeartbeats 4000000 in
theorem then_ROR (tag : ByteArray) (hk : tag.toList = [82, 79, 82]) (w : World) :
    Calls Try.prog 44 #[.string tag] w fun e w' => e = .returned (.string ⟨#[]⟩) ∧ w = w' := by
  have e0 : (tag.toList == [83, 76, 79]) = false := by rw [hk]; rfl
  have e1 : (tag.toList == [82, 76, 65]) = false := by rw [hk]; rfl
  have e2 : (tag.toList == [83, 82, 69]) = false := by rw [hk]; rfl
  have e3 : (tag.toList == [82, 82, 65]) = false := by rw [hk]; rfl
  have e4 : (tag.toList == [68, 67, 80]) = false := by rw [hk]; rfl
  have e5 : (tag.toList == [73, 83, 67]) = false := by rw [hk]; rfl
  clear hk
  go_enter Try.func44, Try.ntmps44
  (repeat (first | (with_reducible refine inBlock_far (by decide) ?_) | (with_reducible refine then_exit ?_) | (with_reducible refine inBlock_here ?_) | ((fail_if_success (with_reducible refine calls_id ?_)); go_step)))
  go_ret
  exact ⟨rfl, rfl⟩
set_option maxRecDepth 100000 in
set_option maxHeartbeats 4000000 in
theorem then_RRA (tag : ByteArray) (hk : tag.toList = [82, 82, 65]) (w : World) :
    Calls Try.prog 44 #[.string tag] w fun e w' => e = .returned (.string ⟨#[65, 68, 67]⟩) ∧ w = w' := by
  have e0 : (tag.toList == [83, 76, 79]) = false := by rw [hk]; rfl
  have e1 : (tag.toList == [82, 76, 65]) = false := by rw [hk]; rfl
  have e2 : (tag.toList == [83, 82, 69]) = false := by rw [hk]; rfl
  have e3 : (tag.toList == [82, 82, 65]) = true := by rw [hk]; rfl
  have e4 : (tag.toList == [68, 67, 80]) = false := by rw [hk]; rfl
  have e5 : (tag.toList == [73, 83, 67]) = false := by rw [hk]; rfl
  clear hk
  go_enter Try.func44, Try.ntmps44
  (repeat (first | (with_reducible refine inBlock_far (by decide) ?_) | (with_reducible refine then_exit ?_) | (with_reducible refine inBlock_here ?_) | ((fail_if_success (with_reducible refine calls_id ?_)); go_step)))
  go_ret
  exact ⟨rfl, rfl⟩
set_option maxRecDepth 100000 in
set_option maxHeartbeats 4000000 in
theorem then_INC (tag : ByteArray) (hk : tag.toList = [73, 78, 67]) (w : World) :
    Calls Try.prog 44 #[.string tag] w fun e w' => e = .returned (.string ⟨#[]⟩) ∧ w = w' := by
  have e0 : (tag.toList == [83, 76, 79]) = false := by rw [hk]; rfl
  have e1 : (tag.toList == [82, 76, 65]) = false := by rw [hk]; rfl
  have e2 : (tag.toList == [83, 82, 69]) = false := by rw [hk]; rfl
  have e3 : (tag.toList == [82, 82, 65]) = false := by rw [hk]; rfl
  have e4 : (tag.toList == [68, 67, 80]) = false := by rw [hk]; rfl
  have e5 : (tag.toList == [73, 83, 67]) = false := by rw [hk]; rfl
  clear hk
  go_enter Try.func44, Try.ntmps44
  (repeat (first | (with_reducible refine inBlock_far (by decide) ?_) | (with_reducible refine then_exit ?_) | (with_reducible refine inBlock_here ?_) | ((fail_if_success (with_reducible refine calls_id ?_)); go_step)))
  go_ret
  exact ⟨rfl, rfl⟩
set_option maxRecDepth 100000 in
set_option maxHeartbeats 4000000 in
theorem then_DEC (tag : ByteArray) (hk : tag.toList = [68, 69, 67]) (w : World) :
    Calls Try.prog 44 #[.string tag] w fun e w' => e = .returned (.string ⟨#[]⟩) ∧ w = w' := by
  have e0 : (tag.toList == [83, 76, 79]) = false := by rw [hk]; rfl
  have e1 : (tag.toList == [82, 76, 65]) = false := by rw [hk]; rfl
  have e2 : (tag.toList == [83, 82, 69]) = false := by rw [hk]; rfl
  have e3 : (tag.toList == [82, 82, 65]) = false := by rw [hk]; rfl
  have e4 : (tag.toList == [68, 67, 80]) = false := by rw [hk]; rfl
  have e5 : (tag.toList == [73, 83, 67]) = false := by rw [hk]; rfl
  clear hk
  go_enter Try.func44, Try.ntmps44
  (repeat (first | (with_reducible refine inBlock_far (by decide) ?_) | (with_reducible refine then_exit ?_) | (with_reducible refine inBlock_here ?_) | ((fail_if_success (with_reducible refine calls_id ?_)); go_step)))
  go_ret
  exact ⟨rfl, rfl⟩
set_option maxRecDepth 100000 in
set_option maxHeartbeats 4000000 in
theorem then_ISC (tag : ByteArray) (hk : tag.toList = [73, 83, 67]) (w : World) :
    Calls Try.prog 44 #[.string tag] w fun e w' => e = .returned (.string ⟨#[83, 66, 67]⟩) ∧ w = w' := by
  have e0 : (tag.toList == [83, 76, 79]) = false := by rw [hk]; rfl
  have e1 : (tag.toList == [82, 76, 65]) = false := by rw [hk]; rfl
  have e2 : (tag.toList == [83, 82, 69]) = false := by rw [hk]; rfl
  have e3 : (tag.toList == [82, 82, 65]) = false := by rw [hk]; rfl
  have e4 : (tag.toList == [68, 67, 80]) = false := by rw [hk]; rfl
  have e5 : (tag.toList == [73, 83, 67]) = true := by rw [hk]; rfl
  clear hk
  go_enter Try.func44, Try.ntmps44
  (repeat (first | (with_reducible refine inBlock_far (by decide) ?_) | (with_reducible refine then_exit ?_) | (with_reducible refine inBlock_here ?_) | ((fail_if_success (with_reducible refine calls_id ?_)); go_step)))
  go_ret
  exact ⟨rfl, rfl⟩
set_option maxRecDepth 100000 in
set_option maxHeartbeats 4000000 in
theorem then_DCP (tag : ByteArray) (hk : tag.toList = [68, 67, 80]) (w : World) :
    Calls Try.prog 44 #[.string tag] w fun e w' => e = .returned (.string ⟨#[67, 77, 80]⟩) ∧ w = w' := by
  have e0 : (tag.toList == [83, 76, 79]) = false := by rw [hk]; rfl
  have e1 : (tag.toList == [82, 76, 65]) = false := by rw [hk]; rfl
  have e2 : (tag.toList == [83, 82, 69]) = false := by rw [hk]; rfl
  have e3 : (tag.toList == [82, 82, 65]) = false := by rw [hk]; rfl
  have e4 : (tag.toList == [68, 67, 80]) = true := by rw [hk]; rfl
  have e5 : (tag.toList == [73, 83, 67]) = false := by rw [hk]; rfl
  clear hk
  go_enter Try.func44, Try.ntmps44
  (repeat (first | (with_reducible refine inBlock_far (by decide) ?_) | (with_reducible refine then_exit ?_) | (with_reducible refine inBlock_here ?_) | ((fail_if_success (with_reducible refine calls_id ?_)); go_step)))
  go_ret
  exact ⟨rfl, rfl⟩
set_option maxRecDepth 100000 in
set_option maxHeartbeats 4000000 in
theorem then_other (tag : ByteArray) (hk : ∀ l ∈ Ex.tuNames, tag.toList ≠ l) (w : World) :
    Calls Try.prog 44 #[.string tag] w fun e w' => e = .returned (.string ⟨#[]⟩) ∧ w = w' := by
  have e0 : (tag.toList == [83, 76, 79]) = false := beq_eq_false_iff_ne.2 (hk _ (by decide))
  have e1 : (tag.toList == [82, 76, 65]) = false := beq_eq_false_iff_ne.2 (hk _ (by decide))
  have e2 : (tag.toList == [83, 82, 69]) = false := beq_eq_false_iff_ne.2 (hk _ (by decide))
  have e3 : (tag.toList == [82, 82, 65]) = false := beq_eq_false_iff_ne.2 (hk _ (by decide))
  have e4 : (tag.toList == [68, 67, 80]) = false := beq_eq_false_iff_ne.2 (hk _ (by decide))
  have e5 : (tag.toList == [73, 83, 67]) = false := beq_eq_false_iff_ne.2 (hk _ (by decide))
  clear hk
  go_enter Try.func44, Try.ntmps44
  (repeat (first | (with_reducible refine inBlock_far (by decide) ?_) | (with_reducible refine then_exit ?_) | (with_reducible refine inBlock_here ?_) | ((fail_if_success (with_reducible refine calls_id ?_)); go_step)))
  go_ret
  exact ⟨rfl, rfl⟩
end Go.Proofs.Ytlecpfkfnaiabaa
