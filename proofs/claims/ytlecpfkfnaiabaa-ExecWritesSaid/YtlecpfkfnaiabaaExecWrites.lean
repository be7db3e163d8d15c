/- The Go law ExecWrites returns true for every input, and each argument reads behind the call as it read before; no condition besides. -/
import Derived.Test.YtlecpfkfnaiabaaInts6
import Derived.Test.YtlecpfkfnaiabaaExecWritesW
import Derived.Test.YtlecpfkfnaiabaaFrame
namespace Go.Proofs.Ytlecpfkfnaiabaa.execWrites
open Go.ChangeShapes Go.WideShapes Go.ChangeAt Go.RowKit
open Go.ChangeMaps (open_string)
set_option linter.unusedVariables false

set_option maxRecDepth 100000 in
theorem lifted (os : Os) (started : os.Started) (H : Type) (enc : TypeId × Value → H) :
    ReturnsInHanded {} Try.checked os 4 .any (Rows.execWritesSpec.pre6 enc Try.prog Try.f4 Rows.execWritesRow.domain false) (Rows.execWritesSpec.post enc Try.prog Try.f4 false true false false) := by
  refine returnsInHanded_of_change (C := Try.checked) own started (by kernel_rfl) Try.func4
    (ChangeSpec.witness6 (enc := enc) (C := Try.checked) false ⟨#[], #[.string ⟨#[]⟩, .agg #[.int .u8 0, .int .u8 0, .int .u8 0, .int .u8 0, .int .u8 0, .int .u16 0], .int .u8 0], []⟩ 8 (by kernel_rfl) (by kernel_rfl) (by kernel_rfl) (by kernel_rfl)) ?_
  intro W base args ds gs before hval0 hW hcnd _
  have hval : ∀ (j : Nat) t v, Try.f4.params[j]? = some t → args[j]? = some v → Value.okWide Try.prog W .any base t v := hval0
  have hW' := hW
  obtain ⟨p, q, hA0, hV, rfl, hfz, hnd⟩ := hW
  have hA : DataW.TrodAll enc Try.prog W 0 (fun _ => true) true Try.f4.params.toList args.toList ds p := hA0
  rw [Try.params4] at hA hval
  obtain ⟨v0, vs0, d0, ds0, p0, q0, hargs, rfl, rfl, h0, r0⟩ := trodAll_cons hA
  obtain ⟨v1, vs1, d1, ds1, p1, q1, rfl, rfl, rfl, h1, r1⟩ := trodAll_cons r0
  obtain ⟨v2, vs2, d2, ds2, p2, q2, rfl, rfl, rfl, h2, r2⟩ := trodAll_cons r1
  obtain ⟨rfl, rfl, rfl⟩ := trodAll_nil r2
  obtain rfl : args = #[v0, v1, v2] := by cases args; simp_all
  obtain ⟨rfl, rfl⟩ := trodVars_none hV
  obtain ⟨a0, rfl, rfl, rfl, w0⟩ := open_string Try.underlying9 (hval 0 9 v0 rfl rfl) h0
  obtain ⟨a1a, a1x, a1y, a1s, a1p, a1c, rfl, w1a, w1x, w1y, w1s, w1p, w1c⟩ := open_ints6 .u8 .u16 Try.underlying24 (by kernel_rfl) (by kernel_rfl) Try.underlying5 Try.underlying5 Try.underlying5 Try.underlying5 Try.underlying5 Try.underlying22 (hval 1 24 v1 rfl rfl) h1
  have b1a := bounds_u8 w1a
  have b1x := bounds_u8 w1x
  have b1y := bounds_u8 w1y
  have b1s := bounds_u8 w1s
  have b1p := bounds_u8 w1p
  have b1c := bounds_u16 w1c
  obtain ⟨a2, rfl, rfl, rfl, w2⟩ := open_int Try.underlying5 (hval 2 5 v2 rfl rfl) h2
  have b2 := bounds_u8 w2
  clear hA0 hval0
  refine (execWrites_walk a0 ⟨a1a, a1x, a1y, a1s, a1p, a1c⟩ ⟨b1a.1, b1a.2, b1x.1, b1x.2, b1y.1, b1y.2, b1s.1, b1s.2, b1p.1, b1p.2, b1c.1, b1c.2⟩ a2 W b2.1 b2.2).mono fun e W' ⟨he, hb⟩ => ?_
  subst he
  exact ⟨_, rfl, law_post (b := 4) laidOut (by kernel_rfl) Try.underlying4 (by kernel_rfl) rfl hW' rfl hb⟩

theorem proved : Rows.ExecWritesSaid :=
  OpenClaim.holds_of_wide 4 Try.f4 rfl rfl rfl rfl rfl rfl rfl ⟨rfl, rfl, rfl, rfl, rfl⟩ rfl rfl rfl rfl rfl (by kernel_rfl) Try.func4 (by kernel_rfl)
    (of_decide_eq_true (by kernel_rfl)) (by unfold Func.isWrapper; first | (rw [if_pos (by decide +kernel)]; kernel_rfl) | (rw [if_neg (by decide +kernel)]; exact ⟨rfl, rfl⟩))
    (fun os started H enc _ => lifted os started H enc)
#print axioms proved
end Go.Proofs.Ytlecpfkfnaiabaa.execWrites
