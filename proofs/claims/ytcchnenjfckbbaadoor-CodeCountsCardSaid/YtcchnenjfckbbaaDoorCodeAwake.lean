/- Package code: what the chapter's examples say. -/
import Derived.Test.YtcchnenjfckbbaaDoorCodeFind
import Derived.Test.YtcchnenjfckbbaaDoorCodeLen
namespace Go.Proofs.YtcchnenjfckbbaaDoor.Co
open Go.RowKit Go.Maps Go.Deep Go.Proofs.Tryd
set_option linter.unusedVariables false
set_option linter.unusedSimpArgs false
theorem n169 : nameO 169 = ⟨#[76, 68, 65]⟩ := by decide +kernel
theorem m169 : modeO 169 = 2 := by decide +kernel
theorem k169 : kindC 169 = 1 := by decide +kernel
theorem o169 : knownC 169 = true := by decide +kernel
theorem n2 : nameO 2 = ⟨#[74, 65, 77]⟩ := by decide +kernel
theorem fNOP : findO ⟨#[78, 79, 80]⟩ 0 = some 234 := by decide +kernel
theorem field_nm (nm : ByteArray) (md kd : Int) (kn : Bool) (w : World) : (Instr.field 25 (.agg #[.string nm, .int .u8 md, .int .u8 kd, .bool kn]) 0).run Tryd.prog w = .ok (.string nm) w := by kernel_rfl
set_option maxRecDepth 100000 in
set_option maxHeartbeats 2000000 in
theorem awake_any (w : World) (hG : Gl w) : Calls Tryd.prog 13 #[] w fun e w' => e = .returned (.bool true) ∧ Below w.heap.size w w' := by
  have kO : Calls Tryd.prog 7 #[.int .u8 169] w fun e w' => e = .returned (.agg #[.string ⟨#[76, 68, 65]⟩, .int .u8 2, .int .u8 1, .bool true]) ∧ Below w.heap.size w w' := by
    have h := of_any 169 (by decide) w hG
    unfold codeV at h
    rw [n169, m169, k169, o169] at h
    exact h
  have kF : ∀ w, Gl w → Calls Tryd.prog 14 #[.string ⟨#[78, 79, 80]⟩, .int .u8 0] w fun e w' => e = .returned (.tuple #[.int .u8 234, .bool true]) ∧ Below w.heap.size w w' := fun w hG => by
    have h := find_any ⟨#[78, 79, 80]⟩ 0 w hG
    rw [fNOP] at h
    exact h
  have kL : ∀ w, Gl w → Calls Tryd.prog 9 #[.int .u8 169] w fun e w' => e = .returned (.int .i64 2) ∧ Below w.heap.size w w' := fun w hG => by
    have h := length_any 169 (by decide) w hG
    rw [m169] at h
    exact h
  have kC : ∀ w, Gl w → Calls Tryd.prog 11 #[.int .u8 169] w fun e w' => e = .returned (.int .i64 2) ∧ Below w.heap.size w w' := fun w hG => by
    have h := cycles_any 169 (by decide) w hG
    rw [m169, k169] at h
    exact h
  obtain ⟨m2, h2⟩ : ∃ m, modeO 2 = m := ⟨_, rfl⟩
  obtain ⟨d2, h3⟩ : ∃ m, kindC 2 = m := ⟨_, rfl⟩
  obtain ⟨q2, h4⟩ : ∃ m, knownC 2 = m := ⟨_, rfl⟩
  have kJ : ∀ w, Gl w → Calls Tryd.prog 7 #[.int .u8 2] w fun e w' => e = .returned (.agg #[.string ⟨#[74, 65, 77]⟩, .int .u8 m2, .int .u8 d2, .bool q2]) ∧ Below w.heap.size w w' := fun w hG => by
    have h := of_any 2 (by decide) w hG
    unfold codeV at h
    rw [n2, h2, h3, h4] at h
    exact h
  clear h2 h3 h4
  have hfd := fun w => field_nm ⟨#[74, 65, 77]⟩ m2 d2 q2 w
  go_enter Tryd.func13, Tryd.ntmps13
  go_wp2_with fail
  refine kO.mono ?_
  rintro e w1 ⟨rfl, hb1⟩
  go_wp2_with fail
  have hb1' := hb1.alloc hb1.size (.cells #[.string ⟨#[76, 68, 65]⟩, .int .u8 2, .int .u8 1, .bool true] 25)
  have hR := heap_alloc_new w1 (.cells #[.string ⟨#[76, 68, 65]⟩, .int .u8 2, .int .u8 1, .bool true] 25)
  refine (kF _ (hG.below hb1')).mono ?_
  rintro e w2 ⟨rfl, hb2⟩
  have hV : Below w.heap.size w w2 := hb1'.trans (hb2.mono hb1'.size)
  have hR2 := (hb2.block w1.heap.size (by simp)).trans hR
  have hCl : w1.heap.size < w2.heap.size := by have := hb2.size; simp at this; omega
  generalize w1.heap.size = C at *
  have c0 : w2.cell? ⟨C, 0, none⟩ = some (.string ⟨#[76, 68, 65]⟩) := by rw [cell_of_row w2 C 0 _ _ _ hR2]; rfl
  have c1 : w2.cell? ⟨C, 1, none⟩ = some (.int .u8 2) := by rw [cell_of_row w2 C 1 _ _ _ hR2]; rfl
  have c2 : w2.cell? ⟨C, 2, none⟩ = some (.int .u8 1) := by rw [cell_of_row w2 C 2 _ _ _ hR2]; rfl
  have c3 : w2.cell? ⟨C, 3, none⟩ = some (.bool true) := by rw [cell_of_row w2 C 3 _ _ _ hR2]; rfl
  have hGV := hG.below hV
  have hV0 : Below w2.heap.size w2 w2.drew := (Below.refl _ _).drew
  clear hb1 hb1' hR hb2 hR2 kO kF hG
  have hz : w.heap.size ≤ w2.heap.size := hV.size
  go_wp2_with fail
  refine (kL _ hGV).mono ?_
  rintro e w3 ⟨rfl, hb3⟩
  go_wp2_with fail
  have hG3 := hGV.below hb3
  refine (kC _ hG3).mono ?_
  rintro e w4 ⟨rfl, hb4⟩
  go_wp2_with fail
  have hG4 := hG3.below hb4
  refine (kJ _ hG4).mono ?_
  rintro e w5 ⟨rfl, hb5⟩
  go_wp2_with fail
  go_ret
  exact ⟨rfl, ((hV.trans (hb3.mono hz)).trans (hb4.mono (Nat.le_trans hz hb3.size))).trans (hb5.mono (Nat.le_trans (Nat.le_trans hz hb3.size) hb4.size))⟩
end Go.Proofs.YtcchnenjfckbbaaDoor.Co
