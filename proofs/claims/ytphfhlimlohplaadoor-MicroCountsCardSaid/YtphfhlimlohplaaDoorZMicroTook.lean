/- Package micro: took, walked; and what is known at the start. -/
import Derived.Test.YtphfhlimlohplaaDoorZMicroBeg
import Derived.Test.YtphfhlimlohplaaDoorZMicroCycW
import Derived.Test.YtphfhlimlohplaaDoorZMicroCnt
import Derived.Test.YtphfhlimlohplaaDoorZMicroAwake
namespace Go.Proofs.YtphfhlimlohplaaDoor.Mi
open Go Go.RowKit Go.Deep Go.Proofs.YtphfhlimlohplaaDoor Go.Proofs.YtphfhlimlohplaaDoor.Ex Go.Proofs.YtphfhlimlohplaaDoor.Cl
set_option linter.unusedVariables false
set_option linter.unusedSimpArgs false
theorem inv_start (r : Rg) (bg : Bool) : Inv (newC r (if bg then 0 else 2)) 0 (-1) := by
  refine .inl ⟨rfl, ?_⟩
  cases bg
  · exact .inr ⟨(by show (2 : Int) ≤ 2; decide), (by show (2 : Int) ≤ 8; decide)⟩
  · exact .inl rfl
theorem inv_cyc {q : Cp × List Int} (h : Both q) {k : Nat} {last : Int} (hi : Inv q.1 k last) : (q.1.t = 0 → Inv (cycF q).1 (k + 1) k) ∧ (q.1.t ≠ 0 → Inv (cycF q).1 (k + 1) last) := by
  have hg := h.b.get (pinsF q.1).a.toNat
  unfold cycF
  split
  · exact ⟨fun h0 => inv_fetch h.c k h0 (by decide) (by decide), fun h0 => inv_step h.c hi h0 _⟩
  · exact ⟨fun h0 => inv_fetch h.c k h0 hg.1 hg.2, fun h0 => inv_step h.c hi h0 _⟩
theorem front_in : ∀ o < 256, 0 ≤ Co.cycF (Co.modeO o) (Co.kindC o) ∧ Co.cycF (Co.modeO o) (Co.kindC o) ≤ 9 := by decide +kernel
set_option maxRecDepth 100000 in
set_option maxHeartbeats 4000000 in
theorem took_yes (o : Nat) (ho : o < 256) (n : Int) (hn : tookF (Co.kindC o) (Co.modeO o) n = true) (w : World) (hG : Co.Gl w) : Calls Tryd.prog 21 #[.int .u8 (o : Int), .int .i64 n] w fun e w' => e = .returned (.bool true) ∧ Below w.heap.size w w' := by
  have ko := fun w' (h : Co.Gl w') => Co.of_any o ho w' h
  have kc := fun w' (h : Co.Gl w') => Co.cycles_any o ho w' h
  have hr := front_in o ho
  unfold Co.codeV at ko
  unfold tookF at hn
  generalize Co.cycF (Co.modeO o) (Co.kindC o) = q at *
  generalize Co.nameO o = nm at *
  generalize Co.modeO o = md at *
  generalize Co.kindC o = kd at *
  generalize Co.knownC o = kn at *
  have w2 : IntKind.i64.wrap (q + 2) = q + 2 := IntWalk.i64_in _ (by omega)
  have w1 : IntKind.i64.wrap (q + 1) = q + 1 := IntWalk.i64_in _ (by omega)
  go_enter Tryd.func21, Tryd.ntmps21
  go_wp2_with fail
  refine (ko _ hG).mono ?_
  rintro e w3 ⟨rfl, hw⟩
  have hb1 := hw
  clear hw
  go_wp2_with fail
  refine (kc _ (hG.below hb1)).mono ?_
  rintro e w4 ⟨rfl, hw⟩
  have hb2 := hb1.trans (hw.mono hb1.size)
  clear hw hb1
  dsimp only
  repeat (first | (with_reducible refine wp_keep (fun U => U = w4.alloc (.cells #[.string nm, .int .u8 md, .int .u8 kd, .bool kn] 44)) rfl ?_) | go_step)
  rintro w5 rfl
  have f5 := RowT.new w4 #[.string nm, .int .u8 md, .int .u8 kd, .bool kn] 44
  have hb5 := hb2.alloc hb2.size (.cells #[.string nm, .int .u8 md, .int .u8 kd, .bool kn] 44)
  generalize w4.alloc (.cells #[.string nm, .int .u8 md, .int .u8 kd, .bool kn] 44) = w5 at *
  generalize w4.heap.size = E at *
  have z1 : w5.cell? ⟨E, 1, none⟩ = some (.int .u8 md) := by rw [cell_of_row w5 E 1 _ _ _ f5]; rfl
  have z2 : w5.cell? ⟨E, 2, none⟩ = some (.int .u8 kd) := by rw [cell_of_row w5 E 2 _ _ _ f5]; rfl
  clear ko kc hG f5 hb2
  by_cases h4 : kd = 4
  · rw [if_pos h4] at hn
    have hn := of_decide_eq_true hn
    obtain ⟨h1, h2⟩ := hn
    subst h4
    go_wp2_with fail
    go_ret
    exact ⟨rfl, hb5⟩
  · rw [if_neg h4] at hn
    have q4 : (kd == 4) = false := beq_false_of_ne h4
    by_cases h1 : kd = 1 ∧ (md = 7 ∨ md = 8 ∨ md = 10)
    · rw [if_pos h1] at hn
      have hn := of_decide_eq_true hn
      obtain ⟨rfl, h1⟩ := h1
      rcases h1 with rfl | rfl | rfl
      all_goals rcases hn with rfl | rfl
      all_goals go_wp2_with fail
      all_goals go_ret
      all_goals exact ⟨by first | rfl | simp, hb5⟩
    · rw [if_neg h1] at hn
      obtain rfl := of_decide_eq_true hn
      by_cases hk : kd = 1
      · subst hk
        have m7 : (md == 7) = false := beq_false_of_ne (fun h => h1 ⟨rfl, .inl h⟩)
        have m8 : (md == 8) = false := beq_false_of_ne (fun h => h1 ⟨rfl, .inr (.inl h)⟩)
        have m10 : (md == 10) = false := beq_false_of_ne (fun h => h1 ⟨rfl, .inr (.inr h)⟩)
        clear h1
        go_wp2_with fail
        go_ret
        exact ⟨by first | rfl | simp, hb5⟩
      · have q1 : (kd == 1) = false := beq_false_of_ne hk
        clear h1
        go_wp2_with fail
        go_ret
        exact ⟨by first | rfl | simp, hb5⟩
end Go.Proofs.YtphfhlimlohplaaDoor.Mi
