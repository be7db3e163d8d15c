/- The Go law TopImmediate returns true for every input, and each argument reads behind the call as it read before: the row, and its tied card. -/
import Derived.Test.YthepcjecmlkaiaaDoorZMicroRow
import Derived.Test.YthepcjecmlkaiaaDoorZInts6
import Derived.Test.YthepcjecmlkaiaaDoorZTopImmW
namespace Go.Proofs.YthepcjecmlkaiaaDoor.topImmediate
open Go.ChangeShapes Go.WideShapes Go.ChangeAt Go.RowKit
open Go.ChangeMaps (open_string)
set_option linter.unusedVariables false

set_option maxRecDepth 100000 in
theorem lifted (os : Os) (started : os.Started) (H : Type) (enc : TypeId × Value → H) :
    ReturnsInHanded {} Tryd.checked os 3 .any (fun w args => (Rows.topImmediateSpec.pre enc Tryd.prog Tryd.f3 Rows.topImmediateRow.domain false w args ∧ laidMetH Tryd.prog Co.laidL w) ∧ sizedMet enc Tryd.prog Tryd.f3 (OpenSpec.ofChange Rows.topImmediateSpec) false w args) (Rows.topImmediateSpec.post enc Tryd.prog Tryd.f3 false true false false) := by
  refine Co.handed (C := Tryd.checked) (X := fun w _ => laidMetH Tryd.prog Co.laidL w) (fun _ _ _ hh h => h.of_heap hh) own started (by kernel_rfl) Tryd.func3
    (ChangeSpec.witness_shaped (enc := enc) (C := Tryd.checked) (os := os) (X := fun w _ => laidMetH Tryd.prog Co.laidL w) false (World.doorLaid Tryd.prog 33 os) #[.int .u8 0, .int .u8 0, .agg #[.int .u8 0, .int .u8 0, .int .u8 0, .int .u8 0, .int .u8 0, .int .u16 0]] 8 rfl (World.shaped_of_RefB (by kernel_rfl) (by kernel_rfl)) (by kernel_rfl) (by kernel_rfl) (by kernel_rfl) (Co.door_met os _)) ?_
  intro W base args ds gs before hval0 hW hL hsh
  have hG : Co.Gl W := ⟨Co.tab_of_laid hL, Co.mx_of_shape hsh⟩
  have hval : ∀ (j : Nat) t v, Tryd.f3.params[j]? = some t → args[j]? = some v → Value.okWide Tryd.prog W .any base t v := hval0
  have hW' := hW
  obtain ⟨p, q, hA0, hV, rfl, hfz, hnd⟩ := hW
  have hA : DataW.TrodAll enc Tryd.prog W 0 (fun _ => true) true Tryd.f3.params.toList args.toList ds p := hA0
  rw [Tryd.params3] at hA hval
  obtain ⟨v0, vs0, d0, ds0, p0, q0, hargs, rfl, rfl, h0, r0⟩ := trodAll_cons hA
  obtain ⟨v1, vs1, d1, ds1, p1, q1, rfl, rfl, rfl, h1, r1⟩ := trodAll_cons r0
  obtain ⟨v2, vs2, d2, ds2, p2, q2, rfl, rfl, rfl, h2, r2⟩ := trodAll_cons r1
  obtain ⟨rfl, rfl, rfl⟩ := trodAll_nil r2
  obtain rfl : args = #[v0, v1, v2] := by cases args; simp_all
  obtain ⟨rfl, rfl⟩ := trodVars_none hV
  obtain ⟨a0, rfl, rfl, rfl, w0⟩ := open_int Tryd.underlying5 (hval 0 5 v0 rfl rfl) h0
  have b0 := bounds_u8 w0
  obtain ⟨n0, rfl⟩ : ∃ n : Nat, a0 = (n : Int) := ⟨a0.toNat, by omega⟩
  have c0 : n0 < 256 := by omega
  obtain ⟨a1, rfl, rfl, rfl, w1⟩ := open_int Tryd.underlying5 (hval 1 5 v1 rfl rfl) h1
  have b1 := bounds_u8 w1
  obtain ⟨n1, rfl⟩ : ∃ n : Nat, a1 = (n : Int) := ⟨a1.toNat, by omega⟩
  have c1 : n1 < 256 := by omega
  obtain ⟨a2a, a2x, a2y, a2s, a2p, a2c, rfl, w2a, w2x, w2y, w2s, w2p, w2c⟩ := open_ints6 .u8 .u16 Tryd.underlying24 (by kernel_rfl) (by kernel_rfl) Tryd.underlying5 Tryd.underlying5 Tryd.underlying5 Tryd.underlying5 Tryd.underlying5 Tryd.underlying22 (hval 2 24 v2 rfl rfl) h2
  have b2a := bounds_u8 w2a
  have b2x := bounds_u8 w2x
  have b2y := bounds_u8 w2y
  have b2s := bounds_u8 w2s
  have b2p := bounds_u8 w2p
  have b2c := bounds_u16 w2c
  refine (Mi.imm_walk W hG n0 c0 n1 c1 ⟨a2a, a2x, a2y, a2s, a2p, a2c⟩ ⟨b2a.1, b2a.2, b2x.1, b2x.2, b2y.1, b2y.2, b2s.1, b2s.2, b2p.1, b2p.2, b2c.1, b2c.2⟩).mono fun e W' h => ?_
  obtain ⟨rfl, hb⟩ := h
  exact ⟨_, rfl, law_post laidOut (by kernel_rfl) Tryd.underlying4 (by kernel_rfl) (by kernel_rfl) hW' (by rfl) hb⟩

theorem said : Rows.TopImmediateSaid :=
  OpenClaim.holds_of_wide 3 Tryd.f3 rfl rfl rfl rfl rfl rfl rfl ⟨rfl, rfl, rfl, rfl, rfl⟩ rfl rfl rfl rfl rfl (by kernel_rfl) Tryd.func3 (by kernel_rfl)
    (of_decide_eq_true (by kernel_rfl)) (by unfold Func.isWrapper; first | (rw [if_pos (by decide +kernel)]; kernel_rfl) | (rw [if_neg (by decide +kernel)]; exact ⟨rfl, rfl⟩))
    (fun os started H enc _ => lifted os started H enc)
theorem proved : Rows.TopImmediateCardSaid :=
  Claim7.holds_tied_plain_at .later [] [.listed, .data] true (true, "0626e63f33f2dc1e47e5fb98ca26b2977e5e26bde410bc7d18cdf00ec14fc419") false
    said (fun _ h => by cases h) (by kernel_rfl) (fun _ h => by cases h) topImmediate_row_tie rfl ⟨rfl, rfl⟩ (by kernel_rfl) rfl
    (fun f fn hf hfn => by
      obtain rfl : f = 3 := Option.some.inj ((show Tryd.prog.funcNamed "woodgrain/woodgraintop.TopImmediate" = some 3 by kernel_rfl).symm.trans hf) |>.symm
      obtain rfl : fn = Tryd.f3 := (Option.some.inj (Tryd.func3.symm.trans hfn)).symm
      exact ⟨by kernel_rfl, fun j t ht => by
        rw [Tryd.params3] at ht
        have hm : t ∈ [5, 5, 24] := by simpa using Array.mem_of_getElem? ht
        have hall : ([5, 5, 24].all fun u => !(Tryd.prog).wantsStandIn u) = true := by kernel_rfl
        exact (show (Tryd.prog).wantsStandIn t = false by simpa using List.all_eq_true.1 hall t hm)⟩)
    (by kernel_rfl)
end Go.Proofs.YthepcjecmlkaiaaDoor.topImmediate
