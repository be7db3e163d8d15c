/- Package frame: a record fed. -/
import Derived.Test.YtbfdlfhidebjlaaFrBegin
import Derived.Deep.RegionHeld3
namespace Go.Proofs.Ytbfdlfhidebjlaa.Cl
open Go.RowKit Go.Deep
set_option linter.unusedVariables false
set_option linter.unusedSimpArgs false

/-- A record's value. -/
def recV (c p : Int) (bl sy : Bool) (au ad : Int) (wr : Bool) (d : Int) : Value := .agg #[.int .u8 c, .int .u8 p, .bool bl, .bool sy, .int .u8 au, .int .u16 ad, .bool wr, .int .u8 d]
def FSt.feed (s : FSt) (c p : Int) (sy : Bool) : FSt :=
  if c = 0 then s.begin sy else if 68 ≤ c ∧ s.lost = false ∧ 0 < s.rows ∧ c < 228 then { s with M := setM s.M (s.rows - 1) (c - 68).toNat p } else s
def FSt.told (s : FSt) (c : Int) (sy : Bool) : Bool := if c = 0 then s.tell sy else false
def FSt.pic (s : FSt) (c : Int) (sy : Bool) : List (List Int) := if c = 0 then s.shown sy else []
theorem feed_nil (w : World) (c p : Int) (bl sy : Bool) (au ad : Int) (wr : Bool) (d : Int) : Calls Try.prog 16 #[.pointer none, recV c p bl sy au ad wr d] w fun e w' => e = .returned (.tuple #[.agg #[.slice none 0 0], .bool false]) ∧ Below w.heap.size w w' := by
  unfold recV
  go_enter Try.func16, Try.ntmps16
  go_wp2
  refine bodyPost_ret (v := .tuple #[.agg #[.slice none 0 0], .bool false]) (by simp [results, Try.results16, go_sem]) rfl ⟨rfl, ?_⟩
  exact ((Below.refl _ w).alloc (Nat.le_refl _) _).alloc (by simp) _
section
variable (w : World) (base P : Nat) (s : FSt) (p : Int) (bl sy : Bool) (au ad : Int) (wr : Bool) (d : Int) (hM : MkF w base P s) (hb : base ≤ w.heap.size)
include hM hb
theorem feed_zero : Calls Try.prog 16 #[.pointer (some ⟨P, 0, none⟩), recV 0 p bl sy au ad wr d] w fun e w' =>
    ∃ v, e = .returned (.tuple #[.agg #[v], .bool (s.tell sy)]) ∧ TPic w' v (s.shown sy) ∧ MkF w' base P (s.begin sy) ∧ Below base w w' := by
  unfold recV
  have hR := (Below.refl _ w).alloc (Nat.le_refl _) (.cells #[.int .u8 0, .int .u8 p, .bool bl, .bool sy, .int .u8 au, .int .u16 ad, .bool wr, .int .u8 d] 40)
  have hR2 := hR.alloc (by simp) (.cells #[.slice none 0 0] 33)
  have hM1 : MkF _ base P s := hM.below hR2
  have hPl := MkS.lt hM
  have hbP : base ≤ P := by obtain ⟨b, gr, capr, rs, h⟩ := hM; exact h.bP
  have k1 := begin_any _ base P s sy hM1 (by simp; omega)
  go_enter Try.func16, Try.ntmps16
  go_wp2_with fail
  refine k1.mono ?_
  rintro e w1 ⟨v, rfl, hP1, hMw, hN⟩
  have hF1 : w1.heap[w.heap.size + 1]? = some (Obj.cells #[.slice none 0 0] 33 (0, 0)) := (hN.block (w.heap.size + 1) (by simp) (by omega)).trans (by have := heap_alloc_new (w.alloc (.cells #[.int .u8 0, .int .u8 p, .bool bl, .bool sy, .int .u8 au, .int .u16 ad, .bool wr, .int .u8 d] 40)) (.cells #[.slice none 0 0] 33); rwa [World.size_alloc] at this)
  have hR1 : w1.heap[w.heap.size]? = some (Obj.cells #[.int .u8 0, .int .u8 p, .bool bl, .bool sy, .int .u8 au, .int .u16 ad, .bool wr, .int .u8 d] 40 (0, 0)) := (hN.block w.heap.size (by simp; omega) (by omega)).trans ((Below.heap_alloc _ _ _ (by simp)).trans (heap_alloc_new w _))
  have hB1 : Below base w w1 := (hR2.mono hb).trans (hN.below hbP (by simp; omega))
  obtain ⟨b, gr, capr, rs, hMw⟩ := hMw
  obtain ⟨ao, n, cap, rfl⟩ : ∃ ao n cap, v = .slice ao n cap := by obtain ⟨vs, _, h, _⟩ := hP1; obtain ⟨ao, cap, rfl⟩ := shapeOf h; exact ⟨_, _, _, rfl⟩
  have hP2 := hP1.set (p := ⟨w.heap.size + 1, 0, none⟩) hF1 (by decide) (by decide) (.slice ao n cap)
  have hM2 := hMw.box (u := .slice ao n cap) hF1
  have hB2 := hB1.setCell (p := ⟨w.heap.size + 1, 0, none⟩) (by show base ≤ w.heap.size + 1; omega) (.slice ao n cap)
  have hF2 : (w1.setCell ⟨w.heap.size + 1, 0, none⟩ (.slice ao n cap)).heap[w.heap.size + 1]? = some (Obj.cells #[.slice ao n cap] 33 (0, 0)) := by rw [heap_setCell_same _ _ _ _ _ _ hF1]; rfl
  have hP3 := hP2.set (p := ⟨w.heap.size + 1, 0, none⟩) hF2 (by decide) (by decide) (.slice ao n cap)
  have hM3 := hM2.box (u := .slice ao n cap) hF2
  have hB3 := hB2.setCell (p := ⟨w.heap.size + 1, 0, none⟩) (by show base ≤ w.heap.size + 1; omega) (.slice ao n cap)
  have cf : w1.cell? ⟨w.heap.size + 1, 0, none⟩ = some (.slice none 0 0) := by rw [cell_of_row w1 _ 0 _ _ _ hF1]; rfl
  have ff : w1.frozen? ⟨w.heap.size + 1, 0, none⟩ = false := frozen_of_row w1 _ 0 _ _ hF1
  have cr : w1.cell? ⟨w.heap.size, 0, none⟩ = some (.int .u8 0) := by rw [cell_of_row w1 _ 0 _ _ _ hR1]; rfl
  have hne : ¬ w.heap.size = w.heap.size + 1 := by omega
  clear hF1 hR1 hP1 hMw hN hB1 k1 hM1 hR hR2 hF2 hP2 hM2 hB2
  go_wp2
  refine bodyPost_ret (v := .tuple #[.agg #[.slice ao n cap], .bool (s.tell sy)]) (by simp [results, Try.results16, go_sem, cf, ff]) rfl ⟨_, rfl, hP3, ⟨_, _, _, _, hM3⟩, hB3⟩
theorem feed_low (c : Int) (h0 : c ≠ 0) (h1 : c < 68) : Calls Try.prog 16 #[.pointer (some ⟨P, 0, none⟩), recV c p bl sy au ad wr d] w fun e w' =>
    ∃ v, e = .returned (.tuple #[.agg #[v], .bool false]) ∧ TPic w' v [] ∧ MkF w' base P s ∧ Below base w w' := by
  unfold recV
  have hR := (Below.refl _ w).alloc (Nat.le_refl _) (.cells #[.int .u8 c, .int .u8 p, .bool bl, .bool sy, .int .u8 au, .int .u16 ad, .bool wr, .int .u8 d] 40)
  have hR2 := hR.alloc (by simp) (.cells #[.slice none 0 0] 33)
  have hM1 : MkF _ base P s := hM.below hR2
  have hPl := MkS.lt hM
  have hPn : ¬ P = w.heap.size := by omega
  have hPn1 : ¬ P = w.heap.size + 1 := by omega
  have h0' : ¬ c = 0 := h0
  have hb3 := hR2.mono hb
  have hge : ¬ 68 ≤ c := by omega
  go_enter Try.func16, Try.ntmps16
  go_wp2
  refine bodyPost_ret (v := .tuple #[.agg #[.slice none 0 0], .bool false]) (by simp [results, Try.results16, go_sem]) rfl ⟨_, rfl, TPic.nil _, hM1, hb3⟩
theorem feed_lost (c : Int) (h1 : 68 ≤ c) (hl : s.lost = true) : Calls Try.prog 16 #[.pointer (some ⟨P, 0, none⟩), recV c p bl sy au ad wr d] w fun e w' =>
    ∃ v, e = .returned (.tuple #[.agg #[v], .bool false]) ∧ TPic w' v [] ∧ MkF w' base P s ∧ Below base w w' := by
  have h0 : c ≠ 0 := by omega
  unfold recV
  have hR := (Below.refl _ w).alloc (Nat.le_refl _) (.cells #[.int .u8 c, .int .u8 p, .bool bl, .bool sy, .int .u8 au, .int .u16 ad, .bool wr, .int .u8 d] 40)
  have hR2 := hR.alloc (by simp) (.cells #[.slice none 0 0] 33)
  have hM1 : MkF _ base P s := hM.below hR2
  have hPl := MkS.lt hM
  have hPn : ¬ P = w.heap.size := by omega
  have hPn1 : ¬ P = w.heap.size + 1 := by omega
  have h0' : ¬ c = 0 := h0
  have hb3 := hR2.mono hb
  obtain ⟨b, gr, capr, rs, hMw⟩ := hM
  have c2 := hMw.c2
  rw [hl] at c2
  clear hMw
  go_enter Try.func16, Try.ntmps16
  go_wp2
  refine bodyPost_ret (v := .tuple #[.agg #[.slice none 0 0], .bool false]) (by simp [results, Try.results16, go_sem]) rfl ⟨_, rfl, TPic.nil _, hM1, hb3⟩
theorem feed_in (c : Int) (h1 : 68 ≤ c) (h2 : c < 228) (hl : s.lost = false) (hr : 0 < s.rows) (s' : FSt) (hs' : s' = { s with M := setM s.M (s.rows - 1) (c - 68).toNat p }) : Calls Try.prog 16 #[.pointer (some ⟨P, 0, none⟩), recV c p bl sy au ad wr d] w fun e w' =>
    ∃ v, e = .returned (.tuple #[.agg #[v], .bool false]) ∧ TPic w' v [] ∧ MkF w' base P s' ∧ Below base w w' := by
  have h0 : c ≠ 0 := by omega
  unfold recV
  have hR := (Below.refl _ w).alloc (Nat.le_refl _) (.cells #[.int .u8 c, .int .u8 p, .bool bl, .bool sy, .int .u8 au, .int .u16 ad, .bool wr, .int .u8 d] 40)
  have hR2 := hR.alloc (by simp) (.cells #[.slice none 0 0] 33)
  have hM1 : MkF _ base P s := hM.below hR2
  have hPl := MkS.lt hM
  have hPn : ¬ P = w.heap.size := by omega
  have hPn1 : ¬ P = w.heap.size + 1 := by omega
  have h0' : ¬ c = 0 := h0
  have hb3 := hR2.mono hb
  obtain ⟨b, gr, capr, rs, hMw⟩ := hM
  obtain ⟨M, rows, lost, sync⟩ := s
  simp only at hl hr hMw hM1
  subst hl
  have hrows := hMw.hrows
  have c0 := hMw.c0
  have c1 := hMw.c1
  have c2 := hMw.c2
  obtain ⟨x, hx⟩ : ∃ x : Nat, c - 68 = x := ⟨(c - 68).toNat, by omega⟩
  obtain ⟨y, hy⟩ : ∃ y : Nat, rows = y + 1 := ⟨rows - 1, by omega⟩
  have hs2 : s' = ⟨setM M y x p, rows, false, sync⟩ := by rw [hs', hx, hy]; simp
  rw [hs2]
  clear hs' hs2
  have hwc : IntKind.i64.wrap c = c := IntWalk.i64_in _ (by omega)
  have hw1 : IntKind.i64.wrap (c - 68) = x := by rw [IntWalk.i64_in _ (by omega)]; exact hx
  have hw2 : IntKind.i64.wrap ((rows : Int) - 1) = y := by rw [IntWalk.i64_in _ (by omega)]; omega
  have hMb := hMw.below hR2
  have hyr : y < rs.length := by rw [hMb.len]; omega
  have k := set_in _ base b gr capr 160 rs M hMb.g.drew x y p (by omega) hyr
  go_enter Try.func16, Try.ntmps16
  go_wp2_with fail
  have hF1 : ((w.alloc (.cells #[.int .u8 c, .int .u8 p, .bool bl, .bool sy, .int .u8 au, .int .u16 ad, .bool wr, .int .u8 d] 40)).alloc (.cells #[.slice none 0 0] 33)).heap[w.heap.size + 1]? = some (Obj.cells #[.slice none 0 0] 33 (0, 0)) := by have := heap_alloc_new (w.alloc (.cells #[.int .u8 c, .int .u8 p, .bool bl, .bool sy, .int .u8 au, .int .u16 ad, .bool wr, .int .u8 d] 40)) (.cells #[.slice none 0 0] 33); rwa [World.size_alloc] at this
  have hR1 : ((w.alloc (.cells #[.int .u8 c, .int .u8 p, .bool bl, .bool sy, .int .u8 au, .int .u16 ad, .bool wr, .int .u8 d] 40)).alloc (.cells #[.slice none 0 0] 33)).heap[w.heap.size]? = some (Obj.cells #[.int .u8 c, .int .u8 p, .bool bl, .bool sy, .int .u8 au, .int .u16 ad, .bool wr, .int .u8 d] 40 (0, 0)) := (Below.heap_alloc _ _ _ (by simp)).trans (heap_alloc_new w _)
  have hlts := hMw.lts
  have HX := hideR hx
  clear hM1 hMw hR hR2 c0 c1 c2 hx
  have HY := hideR hy
  clear hy
  generalize ((w.alloc (.cells #[.int .u8 c, .int .u8 p, .bool bl, .bool sy, .int .u8 au, .int .u16 ad, .bool wr, .int .u8 d] 40)).alloc (.cells #[.slice none 0 0] 33)) = V at *
  have c0 := hMb.c0
  have c1 := hMb.c1
  have c2 := hMb.c2
  have cr0 : V.cell? ⟨w.heap.size, 0, none⟩ = some (.int .u8 c) := by rw [cell_of_row V _ 0 _ _ _ hR1]; rfl
  have cr1 : V.cell? ⟨w.heap.size, 1, none⟩ = some (.int .u8 p) := by rw [cell_of_row V _ 1 _ _ _ hR1]; rfl
  have HF := hideR hF1
  have hry : rs[y]? = some rs[y] := List.getElem?_eq_getElem hyr
  have hrlt := hlts.2.2.2 _ (List.getElem_mem hyr)
  have hrP : ¬ P = rs[y] := hMb.ner _ (List.getElem_mem hyr)
  generalize rs[y] = r at *
  have hrw : ¬ w.heap.size = r := by omega
  have hrw1 : ¬ w.heap.size + 1 = r := by omega
  have hrP' : ¬ r = P := fun e => hrP e.symm
  have hrw' : ¬ r = w.heap.size := by omega
  clear hR1 hF1
  go_region_held3 (fun w' => w'.cell? ⟨P, 0, none⟩ = some (.pointer (some ⟨b, 0, none⟩)) ∧ w'.cell? ⟨P, 1, none⟩ = some (.int .i64 rows) ∧ w'.cell? ⟨w.heap.size, 0, none⟩ = some (.int .u8 c) ∧ w'.cell? ⟨w.heap.size, 1, none⟩ = some (.int .u8 p)) (go_keep) ((go_at_call 36; refine k.mono ?_; rintro e w' ⟨rfl, hg, hw'⟩))
  have m : MkB (V.setCell ⟨r, x, none⟩ (.int .u8 p)).drew base P (setM M y x p) rows false sync b gr capr rs := ⟨(heap_setCell_other V ⟨r, x, none⟩ P _ hrP).trans hMb.hP, (hMb.g.set y x p r hry).drew, hMb.len, hMb.bP, hMb.neb, hMb.neg, hMb.ner, hMb.hrows⟩
  have hbr : base ≤ r := (hMb.g.above r (List.mem_of_getElem? hry)).1
  have b4 : Below base w (V.setCell ⟨r, x, none⟩ (.int .u8 p)).drew := (hb3.setCell (p := ⟨r, x, none⟩) hbr _).drew
  have cf : (V.setCell ⟨r, x, none⟩ (.int .u8 p)).drew.cell? ⟨w.heap.size + 1, 0, none⟩ = some (.slice none 0 0) := by
    show (V.setCell ⟨r, x, none⟩ (.int .u8 p)).cell? ⟨w.heap.size + 1, 0, none⟩ = _
    rw [World.cell?_of_block (heap_setCell_other V ⟨r, x, none⟩ (w.heap.size + 1) _ hrw1), cell_of_row V _ 0 _ _ _ HF.out]; rfl
  have fF : (V.setCell ⟨r, x, none⟩ (.int .u8 p)).drew.heap[w.heap.size + 1]? = some (Obj.cells #[.slice none 0 0] 33 (0, 0)) := (heap_setCell_other V ⟨r, x, none⟩ (w.heap.size + 1) _ hrw1).trans HF.out
  have ff : (V.setCell ⟨r, x, none⟩ (.int .u8 p)).drew.frozen? ⟨w.heap.size + 1, 0, none⟩ = false := frozen_of_row _ _ 0 _ _ fF
  have m2 := m.box (u := .slice none 0 0) fF
  have b5 := b4.setCell (p := ⟨w.heap.size + 1, 0, none⟩) (by show base ≤ w.heap.size + 1; omega) (.slice none 0 0)
  clear m b4 fF hMb k hg
  generalize (V.setCell ⟨r, x, none⟩ (.int .u8 p)).drew = V2 at *
  go_wp2
  refine bodyPost_ret (v := .tuple #[.agg #[.slice none 0 0], .bool false]) (by simp [results, Try.results16, go_sem, cf, ff]) rfl ⟨_, rfl, TPic.nil _, ⟨_, _, _, _, m2⟩, b5⟩
theorem feed_out (c : Int) (h1 : 68 ≤ c) (h2 : c ≤ 255) (hl : s.lost = false) (hr : s.rows = 0 ∨ 228 ≤ c) : Calls Try.prog 16 #[.pointer (some ⟨P, 0, none⟩), recV c p bl sy au ad wr d] w fun e w' =>
    ∃ v, e = .returned (.tuple #[.agg #[v], .bool false]) ∧ TPic w' v [] ∧ MkF w' base P s ∧ Below base w w' := by
  have h0 : c ≠ 0 := by omega
  unfold recV
  have hR := (Below.refl _ w).alloc (Nat.le_refl _) (.cells #[.int .u8 c, .int .u8 p, .bool bl, .bool sy, .int .u8 au, .int .u16 ad, .bool wr, .int .u8 d] 40)
  have hR2 := hR.alloc (by simp) (.cells #[.slice none 0 0] 33)
  have hM1 : MkF _ base P s := hM.below hR2
  have hPl := MkS.lt hM
  have hPn : ¬ P = w.heap.size := by omega
  have hPn1 : ¬ P = w.heap.size + 1 := by omega
  have h0' : ¬ c = 0 := h0
  have hb3 := hR2.mono hb
  obtain ⟨b, gr, capr, rs, hMw⟩ := hM
  obtain ⟨M, rows, lost, sync⟩ := s
  simp only at hl hr hMw hM1
  subst hl
  have hrows := hMw.hrows
  have c0 := hMw.c0
  have c1 := hMw.c1
  have c2 := hMw.c2
  have hwc : IntKind.i64.wrap c = c := IntWalk.i64_in _ (by omega)
  have hw1 : IntKind.i64.wrap (c - 68) = c - 68 := IntWalk.i64_in _ (by omega)
  have hw2 : IntKind.i64.wrap ((rows : Int) - 1) = rows - 1 := IntWalk.i64_in _ (by omega)
  have hMb := hMw.below hR2
  have k := set_out _ base b gr capr 160 rs M hMb.g.drew (c - 68) ((rows : Int) - 1) p (by rw [hMb.len]; omega)
  go_enter Try.func16, Try.ntmps16
  go_wp2_with fail
  have hF1 : ((w.alloc (.cells #[.int .u8 c, .int .u8 p, .bool bl, .bool sy, .int .u8 au, .int .u16 ad, .bool wr, .int .u8 d] 40)).alloc (.cells #[.slice none 0 0] 33)).heap[w.heap.size + 1]? = some (Obj.cells #[.slice none 0 0] 33 (0, 0)) := by have := heap_alloc_new (w.alloc (.cells #[.int .u8 c, .int .u8 p, .bool bl, .bool sy, .int .u8 au, .int .u16 ad, .bool wr, .int .u8 d] 40)) (.cells #[.slice none 0 0] 33); rwa [World.size_alloc] at this
  have hR1 : ((w.alloc (.cells #[.int .u8 c, .int .u8 p, .bool bl, .bool sy, .int .u8 au, .int .u16 ad, .bool wr, .int .u8 d] 40)).alloc (.cells #[.slice none 0 0] 33)).heap[w.heap.size]? = some (Obj.cells #[.int .u8 c, .int .u8 p, .bool bl, .bool sy, .int .u8 au, .int .u16 ad, .bool wr, .int .u8 d] 40 (0, 0)) := (Below.heap_alloc _ _ _ (by simp)).trans (heap_alloc_new w _)
  have hlts := hMw.lts
  clear hM1 hMw hR hR2 c0 c1 c2
  generalize ((w.alloc (.cells #[.int .u8 c, .int .u8 p, .bool bl, .bool sy, .int .u8 au, .int .u16 ad, .bool wr, .int .u8 d] 40)).alloc (.cells #[.slice none 0 0] 33)) = V at *
  have c0 := hMb.c0
  have c1 := hMb.c1
  have c2 := hMb.c2
  have cr0 : V.cell? ⟨w.heap.size, 0, none⟩ = some (.int .u8 c) := by rw [cell_of_row V _ 0 _ _ _ hR1]; rfl
  have cr1 : V.cell? ⟨w.heap.size, 1, none⟩ = some (.int .u8 p) := by rw [cell_of_row V _ 1 _ _ _ hR1]; rfl
  have HF := hideR hF1
  clear hR1 hF1
  go_region_held3 (fun w' => w'.cell? ⟨P, 0, none⟩ = some (.pointer (some ⟨b, 0, none⟩)) ∧ w'.cell? ⟨P, 1, none⟩ = some (.int .i64 rows) ∧ w'.cell? ⟨w.heap.size, 0, none⟩ = some (.int .u8 c) ∧ w'.cell? ⟨w.heap.size, 1, none⟩ = some (.int .u8 p)) (go_keep) ((go_at_call 36; refine k.mono ?_; rintro e w' ⟨rfl, hw'⟩; rw [hw']))
  have m : MkB V.drew base P M rows false sync b gr capr rs := ⟨hMb.hP, hMb.g.drew, hMb.len, hMb.bP, hMb.neb, hMb.neg, hMb.ner, hMb.hrows⟩
  have cf : V.drew.cell? ⟨w.heap.size + 1, 0, none⟩ = some (.slice none 0 0) := by
    show V.cell? ⟨w.heap.size + 1, 0, none⟩ = _
    rw [cell_of_row V _ 0 _ _ _ HF.out]; rfl
  have fF : V.drew.heap[w.heap.size + 1]? = some (Obj.cells #[.slice none 0 0] 33 (0, 0)) := HF.out
  have ff : V.drew.frozen? ⟨w.heap.size + 1, 0, none⟩ = false := frozen_of_row _ _ 0 _ _ fF
  have m2 := m.box (u := .slice none 0 0) fF
  have b5 := hb3.drew.setCell (p := ⟨w.heap.size + 1, 0, none⟩) (by show base ≤ w.heap.size + 1; omega) (.slice none 0 0)
  clear m fF hMb k
  generalize V.drew = V2 at *
  go_wp2
  refine bodyPost_ret (v := .tuple #[.agg #[.slice none 0 0], .bool false]) (by simp [results, Try.results16, go_sem, cf, ff]) rfl ⟨_, rfl, TPic.nil _, ⟨_, _, _, _, m2⟩, b5⟩
theorem feed_any (c : Int) (h0 : 0 ≤ c) (h1 : c ≤ 255) : Calls Try.prog 16 #[.pointer (some ⟨P, 0, none⟩), recV c p bl sy au ad wr d] w fun e w' =>
    ∃ v, e = .returned (.tuple #[.agg #[v], .bool (s.told c sy)]) ∧ TPic w' v (s.pic c sy) ∧ MkF w' base P (s.feed c p sy) ∧ Below base w w' := by
  by_cases hc : c = 0
  · subst hc
    exact feed_zero w base P s p bl sy au ad wr d hM hb
  have e1 : s.told c sy = false := if_neg hc
  have e2 : s.pic c sy = [] := if_neg hc
  rw [e1, e2]
  by_cases h68 : c < 68
  · rw [show s.feed c p sy = s from by unfold FSt.feed; rw [if_neg hc, if_neg (by omega)]]
    exact feed_low w base P s p bl sy au ad wr d hM hb c hc h68
  cases hl : s.lost with
  | true =>
    rw [show s.feed c p sy = s from by unfold FSt.feed; rw [if_neg hc, hl, if_neg (by simp)]]
    exact feed_lost w base P s p bl sy au ad wr d hM hb c (by omega) hl
  | false =>
    by_cases hr : 0 < s.rows ∧ c < 228
    · exact feed_in w base P s p bl sy au ad wr d hM hb c (by omega) hr.2 hl hr.1 _ (by unfold FSt.feed; rw [if_neg hc, if_pos ⟨by omega, hl, hr.1, hr.2⟩])
    · rw [show s.feed c p sy = s from by unfold FSt.feed; rw [if_neg hc, if_neg (fun h => hr ⟨h.2.2.1, h.2.2.2⟩)]]
      exact feed_out w base P s p bl sy au ad wr d hM hb c (by omega) h1 hl (by omega)
end
end Go.Proofs.Ytbfdlfhidebjlaa.Cl
