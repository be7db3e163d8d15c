/- The Go law MicroJams returns true for every input, and each argument reads behind the call as it read before: the row, and its tied card. -/
import Derived.Test.YtphfhlimlohplaaDoorZMicroRow
import Derived.Test.YtphfhlimlohplaaDoorZInts6
import Derived.Test.YtphfhlimlohplaaDoorZMicroOpen
import Derived.Test.YtphfhlimlohplaaDoorZMicroJamsW
namespace Go.Proofs.YtphfhlimlohplaaDoor.microJams
open Go.ChangeShapes Go.WideShapes Go.ChangeAt Go.RowKit
open Go.ChangeMaps (open_string)
set_option linter.unusedVariables false

set_option maxRecDepth 100000 in
theorem lifted (os : Os) (started : os.Started) (H : Type) (enc : TypeId × Value → H) :
    ReturnsInHanded {} Tryd.checked os 4 .any (fun w args => (Rows.microJamsSpec.pre enc Tryd.prog Tryd.f4 Rows.microJamsRow.domain false w args ∧ laidMetH Tryd.prog Co.laidL w) ∧ sizedMet enc Tryd.prog Tryd.f4 (OpenSpec.ofChange Rows.microJamsSpec) false w args) (Rows.microJamsSpec.post enc Tryd.prog Tryd.f4 false true false false) := by
  refine Co.handed (C := Tryd.checked) (X := fun w _ => laidMetH Tryd.prog Co.laidL w) (fun _ _ _ hh h => h.of_heap hh) own started (by kernel_rfl) Tryd.func4
    (ChangeSpec.witness_shaped (enc := enc) (C := Tryd.checked) (os := os) (X := fun w _ => laidMetH Tryd.prog Co.laidL w) false (World.doorLaid Tryd.prog 33 os) #[.agg #[.int .u8 0, .int .u8 0, .int .u8 0, .int .u8 0, .int .u8 0, .int .u16 0], .int .u8 0, .slice none 0 0] 8 rfl (World.shaped_of_RefB (by kernel_rfl) (by kernel_rfl)) (by kernel_rfl) (by kernel_rfl) (by kernel_rfl) (Co.door_met os _)) ?_
  intro W base args ds gs before hval0 hW hL hsh
  have hG : Co.Gl W := ⟨Co.tab_of_laid hL, Co.mx_of_shape hsh⟩
  have hval : ∀ (j : Nat) t v, Tryd.f4.params[j]? = some t → args[j]? = some v → Value.okWide Tryd.prog W .any base t v := hval0
  have hW' := hW
  obtain ⟨p, q, hA0, hV, rfl, hfz, hnd⟩ := hW
  have hA : DataW.TrodAll enc Tryd.prog W 0 (fun _ => true) true Tryd.f4.params.toList args.toList ds p := hA0
  rw [Tryd.params4] at hA hval
  have hlt : ∀ x ∈ p, x.block < W.heap.size := fun x hx => hW'.lt x (List.mem_append_left _ hx)
  obtain ⟨v0, vs0, d0, ds0, p0, q0, hargs, rfl, rfl, h0, r0⟩ := trodAll_cons hA
  obtain ⟨v1, vs1, d1, ds1, p1, q1, rfl, rfl, rfl, h1, r1⟩ := trodAll_cons r0
  obtain ⟨v2, vs2, d2, ds2, p2, q2, rfl, rfl, rfl, h2, r2⟩ := trodAll_cons r1
  obtain ⟨rfl, rfl, rfl⟩ := trodAll_nil r2
  obtain rfl : args = #[v0, v1, v2] := by cases args; simp_all
  obtain ⟨rfl, rfl⟩ := trodVars_none hV
  obtain ⟨a0a, a0x, a0y, a0s, a0p, a0c, rfl, w0a, w0x, w0y, w0s, w0p, w0c⟩ := open_ints6 .u8 .u16 Tryd.underlying24 (by kernel_rfl) (by kernel_rfl) Tryd.underlying5 Tryd.underlying5 Tryd.underlying5 Tryd.underlying5 Tryd.underlying5 Tryd.underlying22 (hval 0 24 v0 rfl rfl) h0
  have b0a := bounds_u8 w0a
  have b0x := bounds_u8 w0x
  have b0y := bounds_u8 w0y
  have b0s := bounds_u8 w0s
  have b0p := bounds_u8 w0p
  have b0c := bounds_u16 w0c
  obtain ⟨a1, rfl, rfl, rfl, w1⟩ := open_int Tryd.underlying5 (hval 1 5 v1 rfl rfl) h1
  have b1 := bounds_u8 w1
  obtain ⟨n1, rfl⟩ : ∃ n : Nat, a1 = (n : Int) := ⟨a1.toNat, by omega⟩
  have c1 : n1 < 256 := by omega
  obtain ⟨ao2, n2, c2, rfl⟩ := okWide_slice Tryd.underlying25 (hval 2 25 v2 rfl rfl)
  obtain ⟨xs2, rfl, hx2, wf2⟩ := Cl.open_lies Tryd.underlying25 Tryd.underlying5 (by kernel_rfl) h2 (fun x hx => hlt x (by simp [hx]))
  refine (Mi.microJams_walk W hG ⟨a0a, a0x, a0y, a0s, a0p, a0c⟩ ⟨b0a.1, b0a.2, b0x.1, b0x.2, b0y.1, b0y.2, b0s.1, b0s.2, b0p.1, b0p.2, b0c.1, b0c.2⟩ n1 c1 ao2 c2 xs2 hx2 (Mi.bytes_wf wf2)).mono fun e W' h => ?_
  obtain ⟨rfl, hb⟩ := h
  exact ⟨_, rfl, law_post laidOut (by kernel_rfl) Tryd.underlying4 (by kernel_rfl) (by kernel_rfl) hW' (by rfl) hb⟩

theorem said : Rows.MicroJamsSaid :=
  OpenClaim.holds_of_wide 4 Tryd.f4 rfl rfl rfl rfl rfl rfl rfl ⟨rfl, rfl, rfl, rfl, rfl⟩ rfl rfl rfl rfl rfl (by kernel_rfl) Tryd.func4 (by kernel_rfl)
    (of_decide_eq_true (by kernel_rfl)) (by unfold Func.isWrapper; first | (rw [if_pos (by decide +kernel)]; kernel_rfl) | (rw [if_neg (by decide +kernel)]; exact ⟨rfl, rfl⟩))
    (fun os started H enc _ => lifted os started H enc)
theorem proved : Rows.MicroJamsCardSaid :=
  Claim7.holds_tied_plain_at .later [] [.listed, .data] true (true, "ab50187b2bfe1be9bb58c1599c65bddd7458c75584dcc292df8a7e973a375c22") false
    said (fun _ h => by cases h) (by kernel_rfl) (fun _ h => by cases h) microJams_row_tie rfl ⟨rfl, rfl⟩ (by kernel_rfl) rfl
    (fun f fn hf hfn => by
      obtain rfl : f = 4 := Option.some.inj ((show Tryd.prog.funcNamed "woodgrain/woodgrainlaw12.MicroJams" = some 4 by kernel_rfl).symm.trans hf) |>.symm
      obtain rfl : fn = Tryd.f4 := (Option.some.inj (Tryd.func4.symm.trans hfn)).symm
      exact ⟨by kernel_rfl, fun j t ht => by
        rw [Tryd.params4] at ht
        have hm : t ∈ [24, 5, 25] := by simpa using Array.mem_of_getElem? ht
        have hall : ([24, 5, 25].all fun u => !(Tryd.prog).wantsStandIn u) = true := by kernel_rfl
        exact (show (Tryd.prog).wantsStandIn t = false by simpa using List.all_eq_true.1 hall t hm)⟩)
    (by kernel_rfl)
end Go.Proofs.YtphfhlimlohplaaDoor.microJams
