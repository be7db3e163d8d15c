/- The Go law MicroCounts returns true for every input, and each argument reads behind the call as it read before: the row, and its tied card. -/
import Derived.Test.YtphfhlimlohplaaDoorZMicroRow
import Derived.Test.YtphfhlimlohplaaDoorZMicroOpen
import Derived.Test.YtphfhlimlohplaaDoorZMicroCountsW
namespace Go.Proofs.YtphfhlimlohplaaDoor.microCounts
open Go.ChangeShapes Go.WideShapes Go.ChangeAt Go.RowKit
open Go.ChangeMaps (open_string)
set_option linter.unusedVariables false

set_option maxRecDepth 100000 in
theorem lifted (os : Os) (started : os.Started) (H : Type) (enc : TypeId × Value → H) :
    ReturnsInHanded {} Tryd.checked os 7 .any (fun w args => (Rows.microCountsSpec.pre enc Tryd.prog Tryd.f7 Rows.microCountsRow.domain false w args ∧ laidMetH Tryd.prog Co.laidL w) ∧ sizedMet enc Tryd.prog Tryd.f7 (OpenSpec.ofChange Rows.microCountsSpec) false w args) (Rows.microCountsSpec.post enc Tryd.prog Tryd.f7 false true false false) := by
  refine Co.handed (C := Tryd.checked) (X := fun w _ => laidMetH Tryd.prog Co.laidL w) (fun _ _ _ hh h => h.of_heap hh) own started (by kernel_rfl) Tryd.func7
    (ChangeSpec.witness_shaped (enc := enc) (C := Tryd.checked) (os := os) (X := fun w _ => laidMetH Tryd.prog Co.laidL w) false (World.doorLaid Tryd.prog 33 os) #[.agg #[.int .u8 0, .int .u8 0, .int .u8 0, .int .u8 0, .int .u8 0, .int .u16 0, .int .u16 0, .int .u16 0, .slice none 0 0, .int .u16 0, .bool false]] 8 rfl (World.shaped_of_RefB (by kernel_rfl) (by kernel_rfl)) (by kernel_rfl) (by kernel_rfl) (by kernel_rfl) (Co.door_met os _)) ?_
  intro W base args ds gs before hval0 hW hL hsh
  have hG : Co.Gl W := ⟨Co.tab_of_laid hL, Co.mx_of_shape hsh⟩
  have hval : ∀ (j : Nat) t v, Tryd.f7.params[j]? = some t → args[j]? = some v → Value.okWide Tryd.prog W .any base t v := hval0
  have hW' := hW
  obtain ⟨p, q, hA0, hV, rfl, hfz, hnd⟩ := hW
  have hA : DataW.TrodAll enc Tryd.prog W 0 (fun _ => true) true Tryd.f7.params.toList args.toList ds p := hA0
  rw [Tryd.params7] at hA hval
  have hlt : ∀ x ∈ p, x.block < W.heap.size := fun x hx => hW'.lt x (List.mem_append_left _ hx)
  obtain ⟨v0, vs0, d0, ds0, p0, q0, hargs, rfl, rfl, h0, r0⟩ := trodAll_cons hA
  obtain ⟨rfl, rfl, rfl⟩ := trodAll_nil r0
  obtain rfl : args = #[v0] := by cases args; simp_all
  obtain ⟨rfl, rfl⟩ := trodVars_none hV
  obtain ⟨pa, px, py, ps, pp, ppc, sd, at', ao, n, cp, cy, bg, cs, rfl, ok, bs, bt, bc, hn, hx, hb8⟩ := Mi.open_mplay (hval 0 27 v0 rfl rfl) h0 (fun x hx => hlt x (by simp [hx]))
  refine (Mi.microCounts_walk W hG ok bs bt bc hn hx hb8).mono fun e W' h => ?_
  obtain ⟨rfl, hb⟩ := h
  exact ⟨_, rfl, law_post laidOut (by kernel_rfl) Tryd.underlying4 (by kernel_rfl) (by kernel_rfl) hW' (by rfl) hb⟩

theorem said : Rows.MicroCountsSaid :=
  OpenClaim.holds_of_wide 7 Tryd.f7 rfl rfl rfl rfl rfl rfl rfl ⟨rfl, rfl, rfl, rfl, rfl⟩ rfl rfl rfl rfl rfl (by kernel_rfl) Tryd.func7 (by kernel_rfl)
    (of_decide_eq_true (by kernel_rfl)) (by unfold Func.isWrapper; first | (rw [if_pos (by decide +kernel)]; kernel_rfl) | (rw [if_neg (by decide +kernel)]; exact ⟨rfl, rfl⟩))
    (fun os started H enc _ => lifted os started H enc)
theorem proved : Rows.MicroCountsCardSaid :=
  Claim7.holds_tied_plain_at .later [] [.listed, .data] true (true, "ab50187b2bfe1be9bb58c1599c65bddd7458c75584dcc292df8a7e973a375c22") false
    said (fun _ h => by cases h) (by kernel_rfl) (fun _ h => by cases h) microCounts_row_tie rfl ⟨rfl, rfl⟩ (by kernel_rfl) rfl
    (fun f fn hf hfn => by
      obtain rfl : f = 7 := Option.some.inj ((show Tryd.prog.funcNamed "woodgrain/woodgrainlaw12.MicroCounts" = some 7 by kernel_rfl).symm.trans hf) |>.symm
      obtain rfl : fn = Tryd.f7 := (Option.some.inj (Tryd.func7.symm.trans hfn)).symm
      exact ⟨by kernel_rfl, fun j t ht => by
        rw [Tryd.params7] at ht
        have hm : t ∈ [27] := by simpa using Array.mem_of_getElem? ht
        have hall : ([27].all fun u => !(Tryd.prog).wantsStandIn u) = true := by kernel_rfl
        exact (show (Tryd.prog).wantsStandIn t = false by simpa using List.all_eq_true.1 hall t hm)⟩)
    (by kernel_rfl)
end Go.Proofs.YtphfhlimlohplaaDoor.microCounts
