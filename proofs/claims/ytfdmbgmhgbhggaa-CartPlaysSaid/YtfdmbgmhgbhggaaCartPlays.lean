/- The Go law CartPlays returns true for every input, and each argument reads behind the call as it read before; no condition besides. -/
import Derived.Test.YtfdmbgmhgbhggaaCartPlaysZ
import Derived.Test.YtfdmbgmhgbhggaaOpenPlay
import Derived.Test.YtfdmbgmhgbhggaaFrame
namespace Go.Proofs.Ytfdmbgmhgbhggaa.cartPlays
open Go.ChangeShapes Go.WideShapes Go.ChangeAt Go.RowKit
open Go.ChangeMaps (open_string)
set_option linter.unusedVariables false

set_option maxRecDepth 100000 in
theorem lifted (os : Os) (started : os.Started) (H : Type) (enc : TypeId × Value → H) :
    ReturnsInHanded {} Try.checked os 5 .any (Rows.cartPlaysSpec.pre6 enc Try.prog Try.f5 Rows.cartPlaysRow.domain false) (Rows.cartPlaysSpec.post enc Try.prog Try.f5 false true false false) := by
  refine returnsInHanded_of_change (C := Try.checked) own started (by kernel_rfl) Try.func5
    (ChangeSpec.witness6 (enc := enc) (C := Try.checked) false ⟨#[], #[.agg ((.string ⟨#[]⟩ :: .int .i64 0 :: .int .u8 0 :: (List.replicate 128 (.int .u8 0) ++ [.slice none 0 0])).toArray)], []⟩ 8 (by kernel_rfl) (by kernel_rfl) (by kernel_rfl) (by kernel_rfl)) ?_
  intro W base args ds gs before hval0 hW hcnd _
  have hval : ∀ (j : Nat) t v, Try.f5.params[j]? = some t → args[j]? = some v → Value.okWide Try.prog W .any base t v := hval0
  have hW' := hW
  obtain ⟨p, q, hA0, hV, rfl, hfz, hnd⟩ := hW
  have hA : DataW.TrodAll enc Try.prog W 0 (fun _ => true) true Try.f5.params.toList args.toList ds p := hA0
  rw [Try.params5] at hA hval
  have hlt : ∀ x ∈ p, x.block < W.heap.size := fun x hx => hW'.lt x (List.mem_append_left _ hx)
  obtain ⟨v0, vs0, d0, ds0, p0, q0, hargs, rfl, rfl, h0, r0⟩ := trodAll_cons hA
  obtain ⟨rfl, rfl, rfl⟩ := trodAll_nil r0
  obtain rfl : args = #[v0] := by cases args; simp_all
  obtain ⟨rfl, rfl⟩ := trodVars_none hV
  obtain ⟨t0, l0, s0, e0, ao0, n0, c0, xs0, rfl, he0, hx0, hn0, ho0, bl0, bs0⟩ := Ca.open_play (hval 0 25 v0 rfl rfl) h0 (fun x hx => hlt x (by simp [hx]))
  clear hA0 hval0
  refine (cartPlays_walk t0 l0 s0 e0 ao0 n0 c0 xs0 W he0 hx0 hn0 ho0 bl0.1 bl0.2 bs0.1 bs0.2).mono fun e W' ⟨he, hb⟩ => ?_
  subst he
  exact ⟨_, rfl, law_post (b := 4) laidOut (by kernel_rfl) Try.underlying4 (by kernel_rfl) rfl hW' rfl hb⟩

theorem proved : Rows.CartPlaysSaid :=
  OpenClaim.holds_of_wide 5 Try.f5 rfl rfl rfl rfl rfl rfl rfl ⟨rfl, rfl, rfl, rfl, rfl⟩ rfl rfl rfl rfl rfl (by kernel_rfl) Try.func5 (by kernel_rfl)
    (of_decide_eq_true (by kernel_rfl)) (by unfold Func.isWrapper; first | (rw [if_pos (by decide +kernel)]; kernel_rfl) | (rw [if_neg (by decide +kernel)]; exact ⟨rfl, rfl⟩))
    (fun os started H enc _ => lifted os started H enc)
#print axioms proved
end Go.Proofs.Ytfdmbgmhgbhggaa.cartPlays
