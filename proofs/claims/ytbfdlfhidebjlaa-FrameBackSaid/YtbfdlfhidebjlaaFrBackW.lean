/- The law of a picture that is read from its bytes as it was: its walk. -/
import Derived.Test.YtbfdlfhidebjlaaFrAwake
import Derived.Test.YtbfdlfhidebjlaaFrLight
import Derived.Test.YtbfdlfhidebjlaaFrBackP
import Derived.Test.YtbfdlfhidebjlaaFrUnW
namespace Go.Proofs.Ytbfdlfhidebjlaa
open Go.RowKit Go.Deep Cl
set_option linter.unusedVariables false
set_option linter.unusedSimpArgs false

theorem packR_items {l : List Int} : ∀ p ∈ packR l, p.1 ∈ l := by
  induction l using snoc_ind with
  | h0 => simp [packR]
  | h1 l x ih =>
    rw [packR_snoc]
    cases hp : packR l with
    | nil =>
      intro p h
      have h' : p ∈ [(x, (1 : Int))] := h
      rw [List.mem_singleton.1 h']; simp
    | cons q t =>
      obtain ⟨y, c⟩ := q
      rw [hp] at ih
      rw [step_cons]
      split
      · intro p h
        rcases List.mem_cons.1 h with rfl | h
        · have := ih (y, c) (by simp)
          simp only at this ⊢
          exact List.mem_append_left _ this
        · exact List.mem_append_left _ (ih p (List.mem_cons_of_mem _ h))
      · intro p h
        rcases List.mem_cons.1 h with rfl | h
        · simp
        · exact List.mem_append_left _ (ih p h)
theorem packF_byt {A : List (List Int)} (hA : ∀ r ∈ A, Byt r) (hn : A.length ≤ 320) : Byt (packF A).1 ∧ (packF A).1.length ≤ 200000 := by
  unfold packF
  rw [if_neg (by omega)]
  by_cases h : ∀ row ∈ A, row.length = 160
  · rw [if_pos h]
    refine ⟨fun x hx => ?_, ?_⟩
    · have hx' : x ∈ headB A.length ++ bodyB A := hx
      rcases List.mem_append.1 hx' with h1 | h1
      · simp only [headB, List.mem_cons, List.not_mem_nil, or_false] at h1
        rcases h1 with rfl | rfl <;> omega
      · obtain ⟨row, hr, hxr⟩ := List.mem_flatMap.1 h1
        have hl := h row hr
        have hpl := pack_length row
        rcases List.mem_cons.1 hxr with rfl | h2
        · omega
        · obtain ⟨p, hp, hxp⟩ := List.mem_flatMap.1 h2
          have hpp : p ∈ packR row := by simpa [pack] using hp
          have g1 := packR_pos row p hpp
          have g2 := packR_count row p hpp
          have g3 := hA row hr p.1 (packR_items p hpp)
          simp only [List.mem_cons, List.not_mem_nil, or_false] at hxp
          rcases hxp with rfl | rfl <;> omega
    · have := bodyB_length A h
      show (headB A.length ++ bodyB A).length ≤ _
      rw [List.length_append]
      have : (headB A.length).length = 2 := rfl
      omega
  · rw [if_neg h]
    exact ⟨fun x hx => by (cases hx), by decide⟩
theorem picF_all' {b : List Int} (hb : Byt b) : (∀ r ∈ (picF b).1, Byt r) ∧ (picF b).1.length ≤ 320 ∧ ∀ r ∈ (picF b).1, r.length ≤ 1000000 := by
  unfold picF
  split
  · exact ⟨fun r h => by (cases h), by decide, fun r h => by (cases h)⟩
  · split
    · exact ⟨fun r h => by (cases h), by decide, fun r h => by (cases h)⟩
    · rename_i h1 h2
      have hp0 := pix_byt hb 0
      have hp1 := pix_byt hb 1
      split
      · rename_i A hA
        have := rowsF_all (b := b.drop 2) (fun x hx => hb x (List.mem_of_mem_drop hx)) hA
        exact ⟨fun r h => (this.2.1 r h).2, by rw [this.1]; omega, fun r h => by rw [(this.2.1 r h).1]; decide⟩
      · exact ⟨fun r h => by (cases h), by decide, fun r h => by (cases h)⟩
set_option maxRecDepth 1000000 in
set_option maxHeartbeats 2000000 in
theorem back_core (ao bo : Option Addr) (n m ca cb : Nat) (A : List (List Int)) (xs : List Int) (w : World) (hA : Pic w (.slice ao n ca) A) (bA : ∀ r ∈ A, Byt r) (hL : Lies w 1 (.slice bo m cb) xs.length (xs.map (Value.int .u8))) (hb : Byt xs) :
    Calls Try.prog 9 #[.slice ao n ca, .slice bo m cb] w fun e w' => e = .returned (.bool true) ∧ Below w.heap.size w w' := by
  have k0 := light_core w ao n ca A hA
  have hm := (bytesAt hL).1
  have HA := hideR hA
  have HbA := hideR bA
  have HL := hideR hL
  have HB := hideR hb
  have HM := hideR hm
  clear hA bA hL hb hm
  cases hl : lightF A with
  | false =>
    rw [hl] at k0
    clear hl
    go_enter Try.func9, Try.ntmps9
    go_wp2_with fail
    refine k0.mono ?_
    rintro e w' ⟨rfl, he⟩
    rw [he]
    go_wp2
    go_ret
    exact ⟨rfl, Below.refl _ _⟩
  | true =>
  rw [hl] at k0
  have hlt := of_decide_eq_true hl
  have HLT := hideR hlt
  clear hl hlt
  by_cases hbig : (4000 : Int) < m
  · go_enter Try.func9, Try.ntmps9
    go_wp2_with fail
    refine k0.mono ?_
    rintro e w' ⟨rfl, he⟩
    rw [he]
    go_wp2
    go_ret
    exact ⟨rfl, Below.refl _ _⟩
  have hxl : xs.length ≤ 4000 := by have := HM.out; omega
  have k1 := pack_pic w (.slice ao n ca) A HA.out (fun r h => by have := HLT.out.2 r h; omega)
  have hpb := packF_byt (A := A) HbA.out (by have := HLT.out.1; omega)
  have hpp := pic_pack A
  have hpa := pack_pic_again (b := xs) HB.out
  have hall := picF_all' HB.out
  generalize hq : packF A = q at *
  obtain ⟨pb, pe⟩ := q
  generalize hq2 : picF xs = q2 at *
  obtain ⟨B, ie⟩ := q2
  have HPB := hideR hpb
  have HPP := hideR hpp
  have HPA := hideR hpa
  have HALL := hideR hall
  have HQ2 := hideR hq2
  clear hq hpb hpp hpa hall hq2
  go_enter Try.func9, Try.ntmps9
  go_wp2_with fail
  refine k0.mono ?_
  rintro e w' ⟨rfl, he⟩
  rw [he]
  clear he k0
  go_wp2_with fail
  refine k1.mono ?_
  rintro e w1 ⟨r, rfl, hown, hb1⟩
  obtain ⟨aoR, capR, rfl⟩ := shapeOf hown
  have k2 := unpack_any w1 _ pb (Lies.of_owns hown) HPB.out.1 (by have := HPB.out.2; omega)
  clear k1 hown
  go_wp2_with fail
  refine k2.mono ?_
  rintro e w2 ⟨v, rfl, hT, hb2⟩
  obtain ⟨aoT, nT, capT, rfl⟩ : ∃ ao n c, v = .slice ao n c := by obtain ⟨vs, _, h, _⟩ := hT; obtain ⟨ao, cap, rfl⟩ := shapeOf h; exact ⟨_, _, _, rfl⟩
  have hb3 := hb1.trans (hb2.mono hb1.size)
  have hAl := (Below.refl _ w2).alloc (Nat.le_refl _) (.cells #[.slice aoT nT capT] 33)
  have hb4 := hb3.trans (hAl.mono hb3.size)
  have hT4 := hT.below hAl
  have hcf := heap_alloc_new w2 (.cells #[.slice aoT nT capT] 33)
  clear k2 hT hb1 hb2 hb3 hAl
  by_cases hpe : pe = 0
  · have hpic := HPP.out hpe
    have e1 : (picF pb).1 = A := by rw [hpic]
    have e2 : (picF pb).2 = 0 := by rw [hpic]
    rw [e1] at hT4
    rw [e2]
    subst hpe
    have HT4 := hideR hT4
    clear hpic hT4 e1 e2
    go_wp2_with fail
    have cf : (w2.alloc (.cells #[.slice aoT nT capT] 33)).cell? ⟨w2.heap.size, 0, none⟩ = some (.slice aoT nT capT) := by rw [cell_of_row _ _ 0 _ _ _ hcf]; rfl
    generalize (w2.alloc (.cells #[.slice aoT nT capT] 33)) = V at *
    have k3 := same_pic V _ _ A A HT4.out.pic (HA.out.below hb4) HbA.out HbA.out (by have := HLT.out.1; omega)
    rw [decide_eq_true rfl] at k3
    refine k3.mono ?_
    rintro e w3 ⟨rfl, hbs⟩
    have hbW := hb4.trans (hbs.mono hb4.size)
    clear k3 hbs hb4 cf hcf
    have k4 := unpack_any w3 (.slice bo m cb) xs (HL.out.below hbW) HB.out (by omega)
    rw [HQ2.out] at k4
    go_wp2_with fail
    refine k4.mono ?_
    rintro e w4 ⟨v2, rfl, hT2, hb5⟩
    obtain ⟨aoU, nU, capU, rfl⟩ : ∃ ao n c, v2 = .slice ao n c := by obtain ⟨vs, _, h, _⟩ := hT2; obtain ⟨ao, cap, rfl⟩ := shapeOf h; exact ⟨_, _, _, rfl⟩
    have hb6 := hbW.trans (hb5.mono hbW.size)
    have hAl2 := (Below.refl _ w4).alloc (Nat.le_refl _) (.cells #[.slice aoU nU capU] 33)
    have hb7 := hb6.trans (hAl2.mono hb6.size)
    have k5 := pack_pic _ _ B (hT2.below hAl2).pic HALL.out.2.2
    clear k4 hT2 hb5 hb6 hAl2
    by_cases hie : ie = 0
    · have hpB := HPA.out hie
      rw [hpB] at k5
      subst hie
      clear hpB
      go_wp2_with fail
      refine k5.mono ?_
      rintro e w6 ⟨r2, rfl, hown2, hbp⟩
      obtain ⟨aoQ, capQ, rfl⟩ := shapeOf hown2
      have hb8 := hb7.trans (hbp.mono hb7.size)
      have c1 : (convert 45 9 (.slice aoQ xs.length capQ)).run Try.prog w6 = .ok (.string (strOfNums xs)) w6 := conv_lies w6 aoQ xs.length capQ xs (Lies.of_owns hown2)
      have c2 := conv_lies w6 bo m cb xs (HL.out.below hb8)
      generalize strOfNums xs = ss at *
      clear k5 hown2 hbp hb7
      go_wp2_with fail
      refine (awake_any _).mono ?_
      rintro e w9 ⟨rfl, hb9⟩
      have hb10 := hb8.trans (hb9.mono hb8.size)
      go_wp2
      go_ret
      exact ⟨rfl, hb10⟩
    · go_wp2_with fail
      refine k5.mono ?_
      rintro e w6 ⟨r2, rfl, hown2, hbp⟩
      have hb8 := hb7.trans (hbp.mono hb7.size)
      clear k5 hown2 hbp hb7
      go_wp2_with fail
      refine (awake_any _).mono ?_
      rintro e w9 ⟨rfl, hb9⟩
      have hb10 := hb8.trans (hb9.mono hb8.size)
      go_wp2
      go_ret
      exact ⟨rfl, hb10⟩
  · have hpe' : (pe == 0) = false := by simpa using hpe
    clear hT4
    generalize hV : (w2.alloc (.cells #[.slice aoT nT capT] 33)) = V at *
    have k4 := unpack_any V (.slice bo m cb) xs (HL.out.below hb4) HB.out (by omega)
    rw [HQ2.out] at k4
    go_wp2_with fail
    refine k4.mono ?_
    rintro e w4 ⟨v2, rfl, hT2, hb5⟩
    obtain ⟨aoU, nU, capU, rfl⟩ : ∃ ao n c, v2 = .slice ao n c := by obtain ⟨vs, _, h, _⟩ := hT2; obtain ⟨ao, cap, rfl⟩ := shapeOf h; exact ⟨_, _, _, rfl⟩
    have hb6 := hb4.trans (hb5.mono hb4.size)
    have hAl2 := (Below.refl _ w4).alloc (Nat.le_refl _) (.cells #[.slice aoU nU capU] 33)
    have hb7 := hb6.trans (hAl2.mono hb6.size)
    have k5 := pack_pic _ _ B (hT2.below hAl2).pic HALL.out.2.2
    clear k4 hT2 hb5 hb6 hAl2
    by_cases hie : ie = 0
    · have hpB := HPA.out hie
      rw [hpB] at k5
      subst hie
      clear hpB
      go_wp2_with fail
      refine k5.mono ?_
      rintro e w6 ⟨r2, rfl, hown2, hbp⟩
      obtain ⟨aoQ, capQ, rfl⟩ := shapeOf hown2
      have hb8 := hb7.trans (hbp.mono hb7.size)
      have c1 : (convert 45 9 (.slice aoQ xs.length capQ)).run Try.prog w6 = .ok (.string (strOfNums xs)) w6 := conv_lies w6 aoQ xs.length capQ xs (Lies.of_owns hown2)
      have c2 := conv_lies w6 bo m cb xs (HL.out.below hb8)
      generalize strOfNums xs = ss at *
      clear k5 hown2 hbp hb7
      go_wp2_with fail
      refine (awake_any _).mono ?_
      rintro e w9 ⟨rfl, hb9⟩
      have hb10 := hb8.trans (hb9.mono hb8.size)
      go_wp2
      go_ret
      exact ⟨rfl, hb10⟩
    · go_wp2_with fail
      refine k5.mono ?_
      rintro e w6 ⟨r2, rfl, hown2, hbp⟩
      have hb8 := hb7.trans (hbp.mono hb7.size)
      clear k5 hown2 hbp hb7
      go_wp2_with fail
      refine (awake_any _).mono ?_
      rintro e w9 ⟨rfl, hb9⟩
      have hb10 := hb8.trans (hb9.mono hb8.size)
      go_wp2
      go_ret
      exact ⟨rfl, hb10⟩
theorem frameBack_walk (va : Value) (A : List (List Int)) (v : Value) (xs : List Int) (W : World) (ha : Pic W va A ∧ (∀ r ∈ A, Byt r) ∧ ∃ ao n c, va = .slice ao n c ∧ n ≤ 9223372036854775807) (hx : Lies W 1 v xs.length (xs.map (Value.int .u8)) ∧ Byt xs) :
    Calls Try.prog 9 #[va, v] W fun e w' => e = .returned (.bool true) ∧ Below W.heap.size W w' := by
  obtain ⟨h1, h2, ao, n, ca, rfl, h3⟩ := ha
  obtain ⟨hx, hb⟩ := hx
  obtain ⟨m, bo, cb, rfl⟩ : ∃ n ao cap, v = .slice ao n cap := by obtain ⟨_, ao, cap, h, _⟩ := hx; exact ⟨_, _, _, h⟩
  exact back_core ao bo n m ca cb A xs W h1 h2 hx hb
end Go.Proofs.Ytbfdlfhidebjlaa
