/- The Go law CartNil: its walk. -/
import Derived.Test.YtfdmbgmhgbhggaaCartAwake
namespace Go.Proofs.Ytfdmbgmhgbhggaa.cartNil
open Go.RowKit Go.Deep Go.Proofs.Ytfdmbgmhgbhggaa Go.Proofs.Ytfdmbgmhgbhggaa.Cl Go.Proofs.Ytfdmbgmhgbhggaa.Ca
set_option linter.unusedVariables false
set_option linter.unusedSimpArgs false
theorem same_ex (W : World) : Sem.run Try.prog (binOp .eql 22 (.agg zex) (.agg zex)) W = .ok (.bool true) W := by kernel_rfl
set_option maxRecDepth 1000000 in
set_option maxHeartbeats 2000000 in
theorem cartNil_walk (a : Int) (W : World) (a0 : 0 ≤ a) (a1 : a ≤ 65535) :
    Calls Try.prog 7 #[.int .u16 a] W fun e W' => e = .returned (.bool true) ∧ Below W.heap.size W W' := by
  have hz := zero_ex
  have hse := same_ex
  go_enter Try.func7, Try.ntmps7
  go_wp2_with fail
  refine (watch_nil W a 1 true).mono ?_
  rintro e w' ⟨rfl, rfl⟩
  go_wp2_with fail
  refine (peek_nil _ a a0 a1).mono ?_
  rintro e w' ⟨rfl, rfl⟩
  go_wp2_with fail
  refine (show_nil _).mono ?_
  rintro e w' ⟨rfl, rfl⟩
  go_wp2_with fail
  refine (where_nil _ a a0 a1).mono ?_
  rintro e w' ⟨rfl, rfl⟩
  go_wp2_with fail
  refine (extra_nil _).mono ?_
  rintro e w2 ⟨rfl, hb2⟩
  go_wp2_with fail
  refine (copy_nil _).mono ?_
  rintro e w' ⟨rfl, rfl⟩
  go_wp2_with fail
  refine (awake_any _).mono ?_
  rintro e w3 ⟨rfl, hb3⟩
  go_wp2_with fail
  go_ret
  exact ⟨rfl, hb2.trans (hb3.mono hb2.size)⟩
end Go.Proofs.Ytfdmbgmhgbhggaa.cartNil
