/- Package frame: a maker of pictures: its memory, a new one. -/
import Derived.Test.YtbfdlfhidebjlaaFrGridG
namespace Go.Proofs.Ytbfdlfhidebjlaa.Cl
open Go.RowKit Go.Deep
set_option linter.unusedVariables false
set_option linter.unusedSimpArgs false

/-- A grid of no colour. -/
def blankM : List (List Int) := List.replicate 320 (List.replicate 160 0)
theorem recInfo : (Try.prog.info? 40).map (fun i => (i.zero, i.size)) = some (some (.agg #[.int .u8 0, .int .u8 0, .bool false, .bool false, .int .u8 0, .int .u16 0, .bool false, .int .u8 0]), 8) := by kernel_rfl
theorem frInfo : (Try.prog.info? 33).map (fun i => (i.zero, i.size)) = some (some (.agg #[.slice none 0 0]), 1) := by kernel_rfl
/-- A maker at block P: its grid's things M, how many rows, whether the row begun last is let go, whether the last record of a clock 0 had sync. -/
structure MkB (W : World) (base P : Nat) (M : List (List Int)) (rows : Nat) (lost sync : Bool) (b gr capr : Nat) (rs : List Nat) : Prop where
  hP : W.heap[P]? = some (.cells #[.pointer (some ⟨b, 0, none⟩), .int .i64 rows, .bool lost, .bool sync] 76 (0, 0))
  g : GridS W base b gr capr 160 rs M
  len : rs.length = 320
  bP : base ≤ P
  neb : P ≠ b
  neg : P ≠ gr
  ner : ∀ r ∈ rs, P ≠ r
  hrows : rows ≤ 320
def MkS (W : World) (base P : Nat) (M : List (List Int)) (rows : Nat) (lost sync : Bool) : Prop := ∃ b gr capr rs, MkB W base P M rows lost sync b gr capr rs
section
variable {W : World} {base P rows b gr capr : Nat} {M : List (List Int)} {lost sync : Bool} {rs : List Nat}
theorem MkB.lt (h : MkB W base P M rows lost sync b gr capr rs) : P < W.heap.size := (Array.getElem?_eq_some_iff.1 h.hP).1
theorem MkB.c0 (h : MkB W base P M rows lost sync b gr capr rs) : W.cell? ⟨P, 0, none⟩ = some (.pointer (some ⟨b, 0, none⟩)) := by rw [cell_of_row W P 0 _ _ _ h.hP]; rfl
theorem MkB.c1 (h : MkB W base P M rows lost sync b gr capr rs) : W.cell? ⟨P, 1, none⟩ = some (.int .i64 rows) := by rw [cell_of_row W P 1 _ _ _ h.hP]; rfl
theorem MkB.c2 (h : MkB W base P M rows lost sync b gr capr rs) : W.cell? ⟨P, 2, none⟩ = some (.bool lost) := by rw [cell_of_row W P 2 _ _ _ h.hP]; rfl
theorem MkB.c3 (h : MkB W base P M rows lost sync b gr capr rs) : W.cell? ⟨P, 3, none⟩ = some (.bool sync) := by rw [cell_of_row W P 3 _ _ _ h.hP]; rfl
theorem MkB.f (h : MkB W base P M rows lost sync b gr capr rs) (i : Nat) : W.frozen? ⟨P, i, none⟩ = false := frozen_of_row W P i _ _ h.hP
theorem MkB.below {W' : World} (h : MkB W base P M rows lost sync b gr capr rs) (hb : Below W.heap.size W W') : MkB W' base P M rows lost sync b gr capr rs :=
  ⟨(hb.block _ h.lt).trans h.hP, h.g.below (by rw [h.len]; decide) hb, h.len, h.bP, h.neb, h.neg, h.ner, h.hrows⟩
theorem MkS.below {W' : World} (h : MkS W base P M rows lost sync) (hb : Below W.heap.size W W') : MkS W' base P M rows lost sync := by
  obtain ⟨b, gr, capr, rs, h⟩ := h; exact ⟨b, gr, capr, rs, h.below hb⟩
theorem MkS.lt (h : MkS W base P M rows lost sync) : P < W.heap.size := by obtain ⟨b, gr, capr, rs, h⟩ := h; exact h.lt
theorem GridS.other (g : GridS W base b gr capr 160 rs M) (p : Addr) (u : Value) (h1 : p.block ≠ b) (h2 : p.block ≠ gr) (h3 : ∀ r ∈ rs, p.block ≠ r) : GridS (W.setCell p u) base b gr capr 160 rs M :=
  ⟨(heap_setCell_other W p b u (fun e => h1 e.symm)).trans g.hb, fun y r hy => (World.cell?_of_block (heap_setCell_other W p gr u (fun e => h2 e.symm))).trans (g.hr y r hy), fun y r row hy hrow => ⟨(heap_setCell_other W p r u (fun e => h3 r (List.mem_of_getElem? hy) e.symm)).trans (g.hm y r row hy hrow).1, (g.hm y r row hy hrow).2⟩, g.len, g.nodup, g.above, g.ne, g.bb, g.bg⟩
theorem MkB.setRows (h : MkB W base P M rows lost sync b gr capr rs) (n : Nat) (hn : n ≤ 320) : MkB (W.setCell ⟨P, 1, none⟩ (.int .i64 n)) base P M n lost sync b gr capr rs :=
  ⟨by rw [heap_setCell_same W P 1 _ _ _ h.hP]; rfl, h.g.other _ _ h.neb h.neg h.ner, h.len, h.bP, h.neb, h.neg, h.ner, hn⟩
theorem MkB.setLost (h : MkB W base P M rows lost sync b gr capr rs) (l : Bool) : MkB (W.setCell ⟨P, 2, none⟩ (.bool l)) base P M rows l sync b gr capr rs :=
  ⟨by rw [heap_setCell_same W P 2 _ _ _ h.hP]; rfl, h.g.other _ _ h.neb h.neg h.ner, h.len, h.bP, h.neb, h.neg, h.ner, h.hrows⟩
theorem MkB.setSync (h : MkB W base P M rows lost sync b gr capr rs) (l : Bool) : MkB (W.setCell ⟨P, 3, none⟩ (.bool l)) base P M rows lost l b gr capr rs :=
  ⟨by rw [heap_setCell_same W P 3 _ _ _ h.hP]; rfl, h.g.other _ _ h.neb h.neg h.ner, h.len, h.bP, h.neb, h.neg, h.ner, h.hrows⟩
end
theorem blank_any (w : World) : Calls Try.prog 34 #[] w fun e w' => ∃ (gr capr : Nat) (rs : List Nat), e = .returned (.pointer (some ⟨w.heap.size, 0, none⟩)) ∧ rs.length = 320 ∧
      GridS w' w.heap.size w.heap.size gr capr 160 rs blankM ∧ gr < w'.heap.size ∧ Below w.heap.size w w' := by
  go_enter Try.func34, Try.ntmps34
  go_wp2_with fail
  refine (newgrid_int w 160 320 0 (by decide) (by decide) (by decide) (by decide)).mono ?_
  rintro e w' ⟨gr, capr, rs, rfl, hl, hg, hgr, hb⟩
  go_wp2_with fail
  go_ret
  exact ⟨gr, capr, rs, rfl, hl, hg, hgr, hb⟩
theorem GridS.lts {W : World} {base b gr capr : Nat} {rs : List Nat} {M : List (List Int)} (g : GridS W base b gr capr 160 rs M) : b < W.heap.size ∧ ∀ r ∈ rs, r < W.heap.size := by
  refine ⟨(Array.getElem?_eq_some_iff.1 g.hb).1, fun r hr => ?_⟩
  obtain ⟨y, hy, rfl⟩ := List.mem_iff_getElem.1 hr
  obtain ⟨r, row, hr, hM, _, _, hh⟩ := g.row y hy
  rw [List.getElem?_eq_getElem hy] at hr
  obtain rfl := Option.some.inj hr
  exact (Array.getElem?_eq_some_iff.1 hh).1
theorem new_any (w : World) : Calls Try.prog 15 #[] w fun e w' => ∃ P, e = .returned (.pointer (some ⟨P, 0, none⟩)) ∧ w.heap.size ≤ P ∧ MkS w' w.heap.size P blankM 0 false false ∧ Below w.heap.size w w' := by
  go_enter Try.func15, Try.ntmps15
  go_wp2_with fail
  refine (blank_any w).mono ?_
  rintro e w1 ⟨gr, capr, rs, rfl, hl, hg, hgr, hb⟩
  go_wp2_with fail
  go_ret
  have hs := hb.size
  have hlt := hg.lts
  have hB := (Below.refl w1.heap.size w1).alloc (Nat.le_refl _) (.cells #[.pointer (some ⟨w.heap.size, 0, none⟩), .int .i64 0, .bool false, .bool false] 76)
  exact ⟨w1.heap.size, rfl, hs, ⟨_, _, _, _, ⟨heap_alloc_new w1 _, hg.below (by omega) hB, hl, hs, by omega, by omega, fun r hr => by have := hlt.2 r hr; omega, by decide⟩⟩, hb.alloc hs _⟩
end Go.Proofs.Ytbfdlfhidebjlaa.Cl
