/- Package code: CodeBack, walked. -/
import Derived.Test.YtcchnenjfckbbaaDoorCodeAwake
namespace Go.Proofs.YtcchnenjfckbbaaDoor.Co
open Go.RowKit Go.Maps Go.Deep Go.Proofs.Tryd
set_option linter.unusedVariables false
set_option linter.unusedSimpArgs false
/-- Every code's name and mode find a code of that name, mode and kind; a documented one finds itself. -/
theorem back_plain : ∀ o < 256, ∃ x, findO (nameO o) (modeO o) = some x ∧ x < 256 ∧ nameO x = nameO o ∧ modeO x = modeO o ∧ kindC x = kindC o ∧ (knownC o = true → x = o) := by
  intro o ho
  have h : (match findO (nameO o) (modeO o) with | some x => decide (x < 256) && decide (nameO x = nameO o) && decide (modeO x = modeO o) && decide (kindC x = kindC o) && (!(knownC o) || decide (x = o)) | none => false) = true := by
    revert o; decide +kernel
  cases hx : findO (nameO o) (modeO o) with
  | none => rw [hx] at h; cases h
  | some x =>
    rw [hx] at h
    simp only [Bool.and_eq_true, Bool.or_eq_true, decide_eq_true_eq, Bool.not_eq_true'] at h
    obtain ⟨⟨⟨⟨h1, h2⟩, h3⟩, h4⟩, h5⟩ := h
    exact ⟨x, rfl, h1, h2, h3, h4, fun hk => h5.resolve_left (by rw [hk]; decide)⟩
set_option maxRecDepth 100000 in
set_option maxHeartbeats 2000000 in
theorem back_any (o : Nat) (ho : o < 256) (w : World) (hG : Gl w) : Calls Tryd.prog 5 #[.int .u8 (o : Int)] w fun e w' => e = .returned (.bool true) ∧ Below w.heap.size w w' := by
  obtain ⟨x, hf, hx, e1, e2, e3, e4⟩ := back_plain o ho
  have kO := of_any o ho w hG
  have kX : ∀ w, Gl w → Calls Tryd.prog 7 #[.int .u8 (x : Int)] w fun e w' => e = .returned (codeV x) ∧ Below w.heap.size w w' := fun w h => of_any x hx w h
  have kF : ∀ w, Gl w → Calls Tryd.prog 14 #[.string (nameO o), .int .u8 (modeO o)] w fun e w' => e = .returned (.tuple #[.int .u8 (x : Int), .bool true]) ∧ Below w.heap.size w w' := fun w hG => by
    have h := find_any (nameO o) (modeO o) w hG
    rw [hf] at h
    exact h
  unfold codeV at kO kX
  rw [e1, e2, e3] at kX
  clear hf e1 e2 e3
  generalize knownC x = q at *
  generalize hno : nameO o = nm at *
  generalize modeO o = md at *
  generalize kindC o = kd at *
  generalize knownC o = kn at *
  have KX := Lib.hid kX
  have KF := Lib.hid kF
  have E4 := Lib.hid e4
  clear kX kF hno e4
  go_enter Tryd.func5, Tryd.ntmps5
  go_wp2_with fail
  refine kO.mono ?_
  rintro e w1 ⟨rfl, hb1⟩
  go_wp2_with fail
  have hb1' := hb1.alloc hb1.size (.cells #[.string nm, .int .u8 md, .int .u8 kd, .bool kn] 25)
  have hR := heap_alloc_new w1 (.cells #[.string nm, .int .u8 md, .int .u8 kd, .bool kn] 25)
  refine (KF.out _ (hG.below hb1')).mono ?_
  rintro e w2 ⟨rfl, hb2⟩
  have hV : Below w.heap.size w w2 := hb1'.trans (hb2.mono hb1'.size)
  have hR2 := (hb2.block w1.heap.size (by simp)).trans hR
  have hCl : w1.heap.size < w2.heap.size := by have := hb2.size; simp at this; omega
  generalize w1.heap.size = C at *
  have hGV := hG.below hV
  have hz := hV.size
  clear hb1 hb1' hR hb2 kO
  go_wp2_with fail
  refine (KX.out _ hGV).mono ?_
  rintro e w3 ⟨rfl, hb3⟩
  have hV3 : Below w.heap.size w w3 := hV.trans (hb3.mono hz)
  have hR3 := (hb3.block C hCl).trans hR2
  have hz3 := hV3.size
  have hG3 := hGV.below hb3
  have hC3 : C < w3.heap.size := Nat.lt_of_lt_of_le hCl hb3.size
  have c0 : w3.cell? ⟨C, 0, none⟩ = some (.string nm) := by rw [cell_of_row w3 C 0 _ _ _ hR3]; rfl
  have c1 : w3.cell? ⟨C, 1, none⟩ = some (.int .u8 md) := by rw [cell_of_row w3 C 1 _ _ _ hR3]; rfl
  have c2 : w3.cell? ⟨C, 2, none⟩ = some (.int .u8 kd) := by rw [cell_of_row w3 C 2 _ _ _ hR3]; rfl
  have c3 : w3.cell? ⟨C, 3, none⟩ = some (.bool kn) := by rw [cell_of_row w3 C 3 _ _ _ hR3]; rfl
  have hn3 : ¬ w3.heap.size = C := by omega
  have ka := fun w' (h : Below w3.heap.size w3 w') => awake_any w' (hG3.below h)
  clear hR2 hR3 hV hGV hCl hb3 hG3 KX KF
  have hsn : (nm.toList == nm.toList) = true := beq_iff_eq.2 rfl
  cases kn with
  | true =>
    have hxo : (x : Int) = (o : Int) := by rw [E4.out rfl]
    clear E4
    have hxb : ((x : Int) == (o : Int)) = true := beq_iff_eq.2 hxo
    clear hxo
    go_wp2_with fail
    have hba : Below w3.heap.size w3 (w3.alloc (.cells #[.string nm, .int .u8 md, .int .u8 kd, .bool q] 25)) := (Below.refl _ _).alloc (Nat.le_refl _) _
    refine (ka _ hba).mono ?_
    rintro e w4 ⟨rfl, hb4⟩
    go_wp2_with fail
    go_ret
    exact ⟨rfl, (hV3.trans (hba.mono hz3)).trans (hb4.mono (Nat.le_trans hz3 hba.size))⟩
  | false =>
    go_wp2_with fail
    have hba : Below w3.heap.size w3 (w3.alloc (.cells #[.string nm, .int .u8 md, .int .u8 kd, .bool q] 25)) := (Below.refl _ _).alloc (Nat.le_refl _) _
    refine (ka _ hba).mono ?_
    rintro e w4 ⟨rfl, hb4⟩
    go_wp2_with fail
    go_ret
    exact ⟨rfl, (hV3.trans (hba.mono hz3)).trans (hb4.mono (Nat.le_trans hz3 hba.size))⟩
end Go.Proofs.YtcchnenjfckbbaaDoor.Co
