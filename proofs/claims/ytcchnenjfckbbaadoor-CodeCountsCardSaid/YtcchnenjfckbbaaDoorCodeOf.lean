/- Package code: Of. -/
import Derived.Test.YtcchnenjfckbbaaDoorCodeTab
import Derived.Deep.RegionHeld3
import Derived.IntWalk
namespace Go.Proofs.YtcchnenjfckbbaaDoor.Co
open Go.RowKit Go.Maps Go.WideMaps Go.Deep Go.Proofs.Tryd
set_option linter.unusedVariables false
set_option linter.unusedSimpArgs false
def signs : List UInt8 := [112, 99, 109, 122, 120, 121, 97, 88, 89, 105, 106, 114, 110]
def nmB (r c : Nat) : ByteArray := (rowsB r).extract (3 * c) (3 * (c + 1))
def mdI (r c : Nat) : Int := Lib.indexByte signs ((modesB r).data.toList.getD c 0)
/-- What a code is. -/
def nameO (o : Nat) : ByteArray := nmB (o / 16) (o % 16)
def modeO (o : Nat) : Int := mdI (o / 16) (o % 16)
def kindF (nm : List UInt8) (md : Int) : Int := match kindO nm with | some k => k | none => if md = 11 then 4 else if md = 0 then 0 else 1
def kindC (o : Nat) : Int := kindF (nameO o).data.toList (modeO o)
def knownC (o : Nat) : Bool := knownF o (nameO o).toList
def codeV (o : Nat) : Value := .agg #[.string (nameO o), .int .u8 (modeO o), .int .u8 (kindC o), .bool (knownC o)]
theorem mdI_in : ∀ r < 16, ∀ c < 16, 0 ≤ mdI r c ∧ mdI r c ≤ 12 := by decide +kernel
theorem nmB_size : ∀ r < 16, ∀ c < 16, (nmB r c).size = 3 := by decide +kernel
theorem bcell {W w1 : World} (hb : Below W.heap.size W w1) : (∀ b o, b < W.heap.size → w1.cell? ⟨b, o, none⟩ = W.cell? ⟨b, o, none⟩) ∧ (∀ b o, b < W.heap.size → w1.frozen? ⟨b, o, none⟩ = W.frozen? ⟨b, o, none⟩) :=
  ⟨fun b o h => hb.cell (p := ⟨b, o, none⟩) h, fun b o h => hb.frozen (p := ⟨b, o, none⟩) h⟩
set_option maxRecDepth 1000000 in
set_option maxHeartbeats 2000000 in
theorem of_rc (r c o : Nat) (ho : o = 16 * r + c) (hr : r < 16) (hc : c < 16) (w : World) (hG : Gl w) (nm : ByteArray) (md : Int) (kn : Bool) (HNM : Hid ((rowsB r).extract (3 * c) (3 * (c + 1)) = nm)) (HMD : Hid (mdI r c = md)) (HKN : Hid (knownF o nm.toList = kn)) :
    Calls Tryd.prog 7 #[.int .u8 (o : Int)] w fun e w' => e = .returned (.agg #[.string nm, .int .u8 md, .int .u8 (kindF nm.data.toList md), .bool kn]) ∧ Below w.heap.size w w' := by
  have q1 : (o : Int) / 16 = (r : Int) := by omega
  have q2 : (o : Int) % 16 = (c : Int) := by omega
  have o0 : (0 : Int) ≤ (o : Int) := by omega
  have o1 : (o : Int) ≤ 255 := by omega
  have r0 : (0 : Int) ≤ (r : Int) := by omega
  have r1 : (r : Int) < 16 := by omega
  have c0 : (0 : Int) ≤ (c : Int) := by omega
  have c1 : (c : Int) < 16 := by omega
  have hs := rowsB_size r hr
  have hm := modesB_size r hr
  have hix := fun w => rows_at w r hr
  have hiy := fun w => modes_at w r hr
  have m1 : IntKind.i64.wrap (3 * (c : Int)) = 3 * (c : Int) := IntWalk.i64_in _ (by omega)
  have m2 : IntKind.i64.wrap ((c : Int) + 1) = (c : Int) + 1 := IntWalk.i64_in _ (by omega)
  have m3 : IntKind.i64.wrap (3 * ((c : Int) + 1)) = 3 * ((c : Int) + 1) := IntWalk.i64_in _ (by omega)
  obtain ⟨d0, d1⟩ := mdI_in r hr c hc
  have hnz : nm.size = 3 := by rw [← HNM.out]; exact nmB_size r hr c hc
  rw [HMD.out] at d0 d1
  have hib : ∀ (h : c < (modesB r).size), Lib.indexByte signs ((((modesB r)[c]).toNat : Int).toNat.toUInt8) = md := fun h => by
    rw [← HMD.out]
    unfold mdI
    congr 1
    rw [Int.toNat_natCast]
    have hh : c < (modesB r).data.toList.length := h
    rw [List.getD_eq_getElem?_getD, List.getElem?_eq_getElem hh]
    show UInt8.ofNat (UInt8.toNat _) = _
    rw [UInt8.ofNat_toNat]
    rfl
  have w8 : IntKind.u8.wrap md = md := by show md % 256 = md; omega
  have HN := Lib.hid hnz
  have HIB := Lib.hid hib
  clear ho hib
  go_enter Tryd.func7, Tryd.ntmps7
  go_wp2_with fail
  refine (rows_any _).mono ?_
  rintro e w1 ⟨rfl, hb1⟩
  obtain ⟨hc1, hf1⟩ := bcell hb1
  have hz1 : w.heap.size + 1 ≤ w1.heap.size := by have := hb1.size; simpa using this
  have hbw1 : Below w.heap.size w w1 := ((Below.refl _ _).alloc (Nat.le_refl _) _).trans (hb1.mono (by simp))
  go_wp2_with fail
  rw [HNM.out]
  clear hs hix
  refine (modes_any _).mono ?_
  rintro e w2 ⟨rfl, hb2⟩
  obtain ⟨hc2, hf2⟩ := bcell hb2
  have hz2 : w1.heap.size + 1 ≤ w2.heap.size := by have := hb2.size; simpa using this
  have hbw2 : Below w.heap.size w w2 := (hbw1.alloc (by omega) _).trans (hb2.mono (by simp; omega))
  go_wp2_with fail
  refine ((strings_IndexByte _ _ _).mono fun e w' h => And.intro h.1 h.2.symm).mono ?_
  rintro e w' ⟨rfl, rfl⟩
  have hsg : (⟨#[112, 99, 109, 122, 120, 121, 97, 88, 89, 105, 106, 114, 110]⟩ : ByteArray).data.toList = signs := rfl
  rw [hsg, HIB.out]
  clear hsg hiy HIB
  go_wp2_with fail
  have hbw3 : Below w.heap.size w (w2.setCell ⟨w1.heap.size, 1, none⟩ (.int .u8 md)) := hbw2.setCell (show w.heap.size ≤ w1.heap.size by omega) _
  have kk := known_any o nm _ (hG.below hbw3)
  rw [HKN.out] at kk
  refine kk.mono ?_
  rintro e w' ⟨rfl, rfl⟩
  go_wp2_with fail
  have hC2 : w2.heap[w1.heap.size]? = some (.cells #[.string nm, .int .u8 0, .int .u8 0, .bool false] 25 (0, 0)) := (hb2.block _ (by simp)).trans (heap_alloc_new w1 _)
  have hB1 : w1.heap[w.heap.size]? = some (.cells #[.string ⟨#[]⟩, .int .u8 0, .int .u8 0, .bool false] 25 (0, 0)) := (hb1.block _ (by simp)).trans (heap_alloc_new w _)
  have hB2 : w2.heap[w.heap.size]? = some (.cells #[.string ⟨#[]⟩, .int .u8 0, .int .u8 0, .bool false] 25 (0, 0)) := (hb2.block _ (by simp; omega)).trans ((heap_alloc_old w1 _ (by omega)).trans hB1)
  have hC5 : ((w2.setCell ⟨w1.heap.size, 1, none⟩ (.int .u8 md)).setCell ⟨w1.heap.size, 3, none⟩ (.bool kn)).heap[w1.heap.size]? = some (.cells #[.string nm, .int .u8 md, .int .u8 0, .bool kn] 25 (0, 0)) := by
    rw [heap_setCell_same _ _ _ _ _ _ (heap_setCell_same _ _ _ _ _ _ hC2)]; simp
  have hB5 : ((w2.setCell ⟨w1.heap.size, 1, none⟩ (.int .u8 md)).setCell ⟨w1.heap.size, 3, none⟩ (.bool kn)).heap[w.heap.size]? = some (.cells #[.string ⟨#[]⟩, .int .u8 0, .int .u8 0, .bool false] 25 (0, 0)) := by
    rw [heap_setCell_other _ ⟨w1.heap.size, 3, none⟩ _ _ (by show w.heap.size ≠ w1.heap.size; omega), heap_setCell_other _ ⟨w1.heap.size, 1, none⟩ _ _ (by show w.heap.size ≠ w1.heap.size; omega)]; exact hB2
  have hbw5 : Below w.heap.size w ((w2.setCell ⟨w1.heap.size, 1, none⟩ (.int .u8 md)).setCell ⟨w1.heap.size, 3, none⟩ (.bool kn)) := hbw3.setCell (show w.heap.size ≤ w1.heap.size by omega) _
  have hCB : w.heap.size ≠ w1.heap.size := by omega
  have hCl : w.heap.size ≤ w1.heap.size := by omega
  generalize (w2.setCell ⟨w1.heap.size, 1, none⟩ (.int .u8 md)).setCell ⟨w1.heap.size, 3, none⟩ (.bool kn) = w5 at *
  clear kk
  generalize w1.heap.size = C at *
  clear hc1 hf1 hc2 hf2 hbw1 hbw2 hbw3 hb1 hb2 hz1 hz2 hC2 hB1 hB2
  have hC0 : w5.cell? ⟨C, 0, none⟩ = some (.string nm) := by rw [cell_of_row w5 C 0 _ _ _ hC5]; rfl
  have hCw : C < w5.heap.size := (Array.getElem?_eq_some_iff.1 hC5).1
  have hBw : w.heap.size < w5.heap.size := (Array.getElem?_eq_some_iff.1 hB5).1
  have hsz : nm.size ≤ maxLen := by rw [HN.out]; unfold maxLen; omega
  have HC5 := Lib.hid hC5
  have HB5 := Lib.hid hB5
  clear hC5 hB5
  go_region_held3 (fun w' => w'.cell? ⟨C, 0, none⟩ = some (.string nm)) (go_keep) ((go_at_call 21; refine (kinds_any _ (hG.below hbw5.drew)).mono ?_; rintro e w6 ⟨bm, rfl, hb6, D, n, hoD, hOD⟩; have z0 := (hb6.cell (p := ⟨C, 0, none⟩) hCw).trans hC0; have hl := kinds_look hoD hOD nm hsz))
  have hC6 := (hb6.block C hCw).trans HC5.out
  have hB6 := (hb6.block w.heap.size hBw).trans HB5.out
  have hbw6 : Below w.heap.size w w6 := hbw5.drew.trans (hb6.mono (Nat.le_of_lt hBw))
  have e0 : w6.cell? ⟨C, 0, none⟩ = some (.string nm) := by rw [cell_of_row w6 C 0 _ _ _ hC6]; rfl
  have e1 : w6.cell? ⟨C, 1, none⟩ = some (.int .u8 md) := by rw [cell_of_row w6 C 1 _ _ _ hC6]; rfl
  have e2 : w6.cell? ⟨C, 2, none⟩ = some (.int .u8 0) := by rw [cell_of_row w6 C 2 _ _ _ hC6]; rfl
  have e3 : w6.cell? ⟨C, 3, none⟩ = some (.bool kn) := by rw [cell_of_row w6 C 3 _ _ _ hC6]; rfl
  have g2 : w6.frozen? ⟨C, 2, none⟩ = false := frozen_of_row w6 C 2 _ _ hC6
  have b0 : w6.cell? ⟨w.heap.size, 0, none⟩ = some (.string ⟨#[]⟩) := by rw [cell_of_row w6 _ 0 _ _ _ hB6]; rfl
  have b1 : w6.cell? ⟨w.heap.size, 1, none⟩ = some (.int .u8 0) := by rw [cell_of_row w6 _ 1 _ _ _ hB6]; rfl
  have b2 : w6.cell? ⟨w.heap.size, 2, none⟩ = some (.int .u8 0) := by rw [cell_of_row w6 _ 2 _ _ _ hB6]; rfl
  have b3 : w6.cell? ⟨w.heap.size, 3, none⟩ = some (.bool false) := by rw [cell_of_row w6 _ 3 _ _ _ hB6]; rfl
  have fb0 : w6.frozen? ⟨w.heap.size, 0, none⟩ = false := frozen_of_row w6 _ 0 _ _ hB6
  have fb1 : w6.frozen? ⟨w.heap.size, 1, none⟩ = false := frozen_of_row w6 _ 1 _ _ hB6
  have fb2 : w6.frozen? ⟨w.heap.size, 2, none⟩ = false := frozen_of_row w6 _ 2 _ _ hB6
  have fb3 : w6.frozen? ⟨w.heap.size, 3, none⟩ = false := frozen_of_row w6 _ 3 _ _ hB6
  have nCB : ¬ C = w.heap.size := fun h => hCB h.symm
  have nBC : ¬ w.heap.size = C := hCB
  clear hC0 z0 hl hC6 hB6 hoD hOD hCw hBw hsz hb6 hbw5 HC5 HB5 hG
  cases hK : kindO nm.data.toList with
  | some k =>
    have HKF := Lib.hid (show kindF nm.data.toList md = k by unfold kindF; rw [hK])
    clear hK
    go_wp2_with fail
    exact bodyPost_ret (v := .agg #[.string nm, .int .u8 md, .int .u8 k, .bool kn]) (by simp [results, results7, go_sem, b0, b1, b2, b3, nCB, nBC]) rfl ⟨by rw [HKF.out], ((((hbw6.setCell hCl _).setCell (Nat.le_refl _) _).setCell (Nat.le_refl _) _).setCell (Nat.le_refl _) _).setCell (Nat.le_refl _) _⟩
  | none =>
    by_cases m11 : md = 11
    · have HKF := Lib.hid (show kindF nm.data.toList 11 = 4 by unfold kindF; rw [hK]; rfl)
      clear hK
      obtain rfl := m11
      go_wp2_with fail
      exact bodyPost_ret (v := .agg #[.string nm, .int .u8 11, .int .u8 4, .bool kn]) (by simp [results, results7, go_sem, b0, b1, b2, b3, nCB, nBC]) rfl ⟨by rw [HKF.out], ((((hbw6.setCell hCl _).setCell (Nat.le_refl _) _).setCell (Nat.le_refl _) _).setCell (Nat.le_refl _) _).setCell (Nat.le_refl _) _⟩
    · by_cases m0 : md = 0
      · have HKF := Lib.hid (show kindF nm.data.toList 0 = 0 by unfold kindF; rw [hK]; rfl)
        clear hK
        obtain rfl := m0
        go_wp2_with fail
        exact bodyPost_ret (v := .agg #[.string nm, .int .u8 0, .int .u8 0, .bool kn]) (by simp [results, results7, go_sem, b0, b1, b2, b3, nCB, nBC]) rfl ⟨by rw [HKF.out], (((hbw6.setCell (Nat.le_refl _) _).setCell (Nat.le_refl _) _).setCell (Nat.le_refl _) _).setCell (Nat.le_refl _) _⟩
      · have HKF := Lib.hid (show kindF nm.data.toList md = 1 by unfold kindF; rw [hK]; simp [m11, m0])
        have x11 : (md == 11) = false := beq_false_of_ne m11
        have x0 : (md == 0) = false := beq_false_of_ne m0
        have y0 : (md != 0) = true := by simp [m0]
        clear hK
        go_wp2_with fail
        exact bodyPost_ret (v := .agg #[.string nm, .int .u8 md, .int .u8 1, .bool kn]) (by simp [results, results7, go_sem, b0, b1, b2, b3, nCB, nBC]) rfl ⟨by rw [HKF.out], ((((hbw6.setCell hCl _).setCell (Nat.le_refl _) _).setCell (Nat.le_refl _) _).setCell (Nat.le_refl _) _).setCell (Nat.le_refl _) _⟩
theorem of_any (o : Nat) (ho : o < 256) (w : World) (hG : Gl w) : Calls Tryd.prog 7 #[.int .u8 (o : Int)] w fun e w' => e = .returned (codeV o) ∧ Below w.heap.size w w' :=
  of_rc (o / 16) (o % 16) o (by omega) (by omega) (by omega) w hG _ _ _ (Lib.hid rfl) (Lib.hid rfl) (Lib.hid rfl)
end Go.Proofs.YtcchnenjfckbbaaDoor.Co
