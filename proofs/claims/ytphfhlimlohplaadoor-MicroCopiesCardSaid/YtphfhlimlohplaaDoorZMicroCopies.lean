/- The Go law MicroCopies returns true for every input, and each argument reads behind the call as it read before: the row, and its tied card. -/
import Derived.Test.YtphfhlimlohplaaDoorZMicroRow
import Derived.Test.YtphfhlimlohplaaDoorZMicroOpen
import Derived.Test.YtphfhlimlohplaaDoorZMicroCopiesW
namespace Go.Proofs.YtphfhlimlohplaaDoor.microCopies
open Go.ChangeShapes Go.WideShapes Go.ChangeAt Go.RowKit
open Go.ChangeMaps (open_string)
set_option linter.unusedVariables false

set_option maxRecDepth 100000 in
theorem lifted (os : Os) (started : os.Started) (H : Type) (enc : TypeId × Value → H) :
    ReturnsInHanded {} Tryd.checked os 5 .any (fun w args => (Rows.microCopiesSpec.pre enc Tryd.prog Tryd.f5 Rows.microCopiesRow.domain false w args ∧ laidMetH Tryd.prog Co.laidL w) ∧ sizedMet enc Tryd.prog Tryd.f5 (OpenSpec.ofChange Rows.microCopiesSpec) false w args) (Rows.microCopiesSpec.post enc Tryd.prog Tryd.f5 false true false false) := by
  refine Co.handed (C := Tryd.checked) (X := fun w _ => laidMetH Tryd.prog Co.laidL w) (fun _ _ _ hh h => h.of_heap hh) own started (by kernel_rfl) Tryd.func5
    (ChangeSpec.witness_shaped (enc := enc) (C := Tryd.checked) (os := os) (X := fun w _ => laidMetH Tryd.prog Co.laidL w) false (World.doorLaid Tryd.prog 33 os) #[.agg #[.int .u8 0, .int .u8 0, .int .u8 0, .int .u8 0, .int .u8 0, .int .u16 0, .int .u16 0, .int .u16 0, .slice none 0 0, .int .u16 0, .bool false], .slice none 0 0] 8 rfl (World.shaped_of_RefB (by kernel_rfl) (by kernel_rfl)) (by kernel_rfl) (by kernel_rfl) (by kernel_rfl) (Co.door_met os _)) ?_
  intro W base args ds gs before hval0 hW hL hsh
  have hG : Co.Gl W := ⟨Co.tab_of_laid hL, Co.mx_of_shape hsh⟩
  have hval : ∀ (j : Nat) t v, Tryd.f5.params[j]? = some t → args[j]? = some v → Value.okWide Tryd.prog W .any base t v := hval0
  have hW' := hW
  obtain ⟨p, q, hA0, hV, rfl, hfz, hnd⟩ := hW
  have hA : DataW.TrodAll enc Tryd.prog W 0 (fun _ => true) true Tryd.f5.params.toList args.toList ds p := hA0
  rw [Tryd.params5] at hA hval
  have hlt : ∀ x ∈ p, x.block < W.heap.size := fun x hx => hW'.lt x (List.mem_append_left _ hx)
  obtain ⟨v0, vs0, d0, ds0, p0, q0, hargs, rfl, rfl, h0, r0⟩ := trodAll_cons hA
  obtain ⟨v1, vs1, d1, ds1, p1, q1, rfl, rfl, rfl, h1, r1⟩ := trodAll_cons r0
  obtain ⟨rfl, rfl, rfl⟩ := trodAll_nil r1
  obtain rfl : args = #[v0, v1] := by cases args; simp_all
  obtain ⟨rfl, rfl⟩ := trodVars_none hV
  obtain ⟨pa, px, py, ps, pp, ppc, sd, at', ao, n, cp, cy, bg, cs, rfl, ok, bs, bt, bc, hn, hx, hb8⟩ := Mi.open_mplay (hval 0 27 v0 rfl rfl) h0 (fun x hx => hlt x (by simp [hx]))
  obtain ⟨ao1, n1, c1, rfl⟩ := okWide_slice Tryd.underlying25 (hval 1 25 v1 rfl rfl)
  obtain ⟨xs1, rfl, hx1, wf1⟩ := Cl.open_lies Tryd.underlying25 Tryd.underlying5 (by kernel_rfl) h1 (fun x hx => hlt x (by simp [hx]))
  refine (Mi.microCopies_walk W hG ok bs bt bc hn hx hb8 ao1 c1 xs1 hx1 (Mi.bytes_wf wf1)).mono fun e W' h => ?_
  obtain ⟨rfl, hb⟩ := h
  exact ⟨_, rfl, law_post laidOut (by kernel_rfl) Tryd.underlying4 (by kernel_rfl) (by kernel_rfl) hW' (by rfl) hb⟩

theorem said : Rows.MicroCopiesSaid :=
  OpenClaim.holds_of_wide 5 Tryd.f5 rfl rfl rfl rfl rfl rfl rfl ⟨rfl, rfl, rfl, rfl, rfl⟩ rfl rfl rfl rfl rfl (by kernel_rfl) Tryd.func5 (by kernel_rfl)
    (of_decide_eq_true (by kernel_rfl)) (by unfold Func.isWrapper; first | (rw [if_pos (by decide +kernel)]; kernel_rfl) | (rw [if_neg (by decide +kernel)]; exact ⟨rfl, rfl⟩))
    (fun os started H enc _ => lifted os started H enc)
theorem proved : Rows.MicroCopiesCardSaid :=
  Claim7.holds_tied_plain_at .later [] [.listed, .data] true (true, "ab50187b2bfe1be9bb58c1599c65bddd7458c75584dcc292df8a7e973a375c22") false
    said (fun _ h => by cases h) (by kernel_rfl) (fun _ h => by cases h) microCopies_row_tie rfl ⟨rfl, rfl⟩ (by kernel_rfl) rfl
    (fun f fn hf hfn => by
      obtain rfl : f = 5 := Option.some.inj ((show Tryd.prog.funcNamed "woodgrain/woodgrainlaw12.MicroCopies" = some 5 by kernel_rfl).symm.trans hf) |>.symm
      obtain rfl : fn = Tryd.f5 := (Option.some.inj (Tryd.func5.symm.trans hfn)).symm
      exact ⟨by kernel_rfl, fun j t ht => by
        rw [Tryd.params5] at ht
        have hm : t ∈ [27, 25] := by simpa using Array.mem_of_getElem? ht
        have hall : ([27, 25].all fun u => !(Tryd.prog).wantsStandIn u) = true := by kernel_rfl
        exact (show (Tryd.prog).wantsStandIn t = false by simpa using List.all_eq_true.1 hall t hm)⟩)
    (by kernel_rfl)
end Go.Proofs.YtphfhlimlohplaaDoor.microCopies
