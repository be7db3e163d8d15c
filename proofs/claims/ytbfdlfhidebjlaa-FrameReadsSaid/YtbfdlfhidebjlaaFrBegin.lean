/- Package frame: a row begun. -/
import Derived.Test.YtbfdlfhidebjlaaFrRowsT
namespace Go.Proofs.Ytbfdlfhidebjlaa.Cl
open Go.RowKit Go.Deep
set_option linter.unusedVariables false
set_option linter.unusedSimpArgs false

/-- What a maker holds. -/
structure FSt where
  M : List (List Int)
  rows : Nat
  lost : Bool
  sync : Bool
def FSt.tell (s : FSt) (sy : Bool) : Bool := sy && !s.sync && decide (0 < s.rows)
def FSt.begin (s : FSt) (sy : Bool) : FSt :=
  let M := if s.tell sy then blankM else s.M
  let r := if s.tell sy then 0 else s.rows
  ⟨M, if r = 320 then r else r + 1, decide (r = 320), sy⟩
def FSt.shown (s : FSt) (sy : Bool) : List (List Int) := if s.tell sy then s.M.take s.rows else []
def MkF (W : World) (base P : Nat) (s : FSt) : Prop := MkS W base P s.M s.rows s.lost s.sync
/-- Of what there was nothing is another one but block P. -/
structure NB (P : Nat) (w w' : World) : Prop where
  os : w'.os = w.os
  tape : w'.tape = w.tape
  output : w'.output = w.output
  size : w.heap.size ≤ w'.heap.size
  block : ∀ k, k < w.heap.size → k ≠ P → w'.heap[k]? = w.heap[k]?
theorem NB.refl (P : Nat) (w : World) : NB P w w := ⟨rfl, rfl, rfl, Nat.le_refl _, fun _ _ _ => rfl⟩
theorem NB.then {P : Nat} {w w' w'' : World} (h : NB P w w') (k : Below w.heap.size w' w'') : NB P w w'' :=
  ⟨k.os.trans h.os, k.tape.trans h.tape, k.output.trans h.output, Nat.le_trans h.size k.size, fun i hi hp => (k.block i hi).trans (h.block i hi hp)⟩
theorem NB.set {P : Nat} {w w' : World} (h : NB P w w') (i : Nat) (u : Value) : NB P w (w'.setCell ⟨P, i, none⟩ u) :=
  ⟨h.os, h.tape, h.output, by simpa using h.size, fun k hk hp => (heap_setCell_other _ _ _ _ hp).trans (h.block k hk hp)⟩
theorem NB.below {P base : Nat} {w w' : World} (h : NB P w w') (h1 : base ≤ P) (h2 : base ≤ w.heap.size) : Below base w w' :=
  ⟨h.os, h.tape, h.output, h.size, fun k hk => h.block k (by omega) (by omega)⟩
section
variable {W : World} {base P rows b gr capr : Nat} {M : List (List Int)} {lost sync : Bool} {rs : List Nat}
theorem GridS.far {N : Nat} (g : GridS W base b gr capr 160 rs M) (hN : b < N ∧ gr < N ∧ ∀ r ∈ rs, r < N) (p : Addr) (hp : N ≤ p.block) (u : Value) : GridS (W.setCell p u) base b gr capr 160 rs M :=
  g.other p u (by omega) (by omega) (fun r hr => by have := hN.2.2 r hr; omega)
theorem MkB.lts (h : MkB W base P M rows lost sync b gr capr rs) : P < W.heap.size ∧ b < W.heap.size ∧ gr < W.heap.size ∧ ∀ r ∈ rs, r < W.heap.size := by
  obtain ⟨r0, _, _, _, _, hc, _⟩ := h.g.row 0 (by rw [h.len]; decide)
  exact ⟨h.lt, h.g.lts.1, block_lt_of_cell hc, h.g.lts.2⟩
theorem MkB.far {N : Nat} (h : MkB W base P M rows lost sync b gr capr rs) (hN : P < N ∧ b < N ∧ gr < N ∧ ∀ r ∈ rs, r < N) (p : Addr) (hp : N ≤ p.block) (u : Value) : MkB (W.setCell p u) base P M rows lost sync b gr capr rs :=
  ⟨(heap_setCell_other W p P u (by omega)).trans h.hP, h.g.far hN.2 p hp u, h.len, h.bP, h.neb, h.neg, h.ner, h.hrows⟩
theorem MkB.other (h : MkB W base P M rows lost sync b gr capr rs) (p : Addr) (u : Value) (h0 : p.block ≠ P) (h1 : p.block ≠ b) (h2 : p.block ≠ gr) (h3 : ∀ r ∈ rs, p.block ≠ r) : MkB (W.setCell p u) base P M rows lost sync b gr capr rs :=
  ⟨(heap_setCell_other W p P u (fun e => h0 e.symm)).trans h.hP, h.g.other p u h1 h2 h3, h.len, h.bP, h.neb, h.neg, h.ner, h.hrows⟩
theorem MkB.pic {v u : Value} {rows' : List (List Int)} {i : Nat} (h : MkB W base P M rows lost sync b gr capr rs) (hp : TPic W v rows') : TPic (W.setCell ⟨P, i, none⟩ u) v rows' := hp.set (p := ⟨P, i, none⟩) h.hP (by decide) (by decide) u
theorem MkB.box {B : Nat} {v u : Value} (h : MkB W base P M rows lost sync b gr capr rs) (hb : W.heap[B]? = some (Obj.cells #[v] 33 (0, 0))) : MkB (W.setCell ⟨B, 0, none⟩ u) base P M rows lost sync b gr capr rs := by
  refine h.other _ u (fun e => ?_) (fun e => ?_) (fun e => ?_) (fun r hr e => ?_)
  · have e' : B = P := e
    subst e'
    have := h.hP; rw [hb] at this; simp at this
  · have e' : B = b := e
    subst e'
    have := h.g.hb; rw [hb] at this; simp at this
  · have e' : B = gr := e
    subst e'
    have := h.g.hr 1 (rs[1]'(by rw [h.len]; decide)) (List.getElem?_eq_getElem _)
    rw [cell_of_row W B 1 _ _ _ hb] at this
    simp at this
  · have e' : B = r := e
    subst e'
    obtain ⟨y, hy, hyr⟩ := List.mem_iff_getElem.1 hr
    have hyM : y < M.length := by rw [h.g.len]; exact hy
    have := (h.g.hm y B M[y] (by rw [List.getElem?_eq_getElem hy, hyr]) (List.getElem?_eq_getElem hyM)).1
    rw [hb] at this
    simp at this
theorem MkB.setRowsZ (h : MkB W base P M rows lost sync b gr capr rs) (n : Nat) (hn : n ≤ 320) (z : Int) (hz : z = n) : MkB (W.setCell ⟨P, 1, none⟩ (.int .i64 z)) base P M n lost sync b gr capr rs := by rw [hz]; exact h.setRows n hn
theorem GridS.mono {B : Nat} (g : GridS W B b gr capr 160 rs M) (h : base ≤ B) : GridS W base b gr capr 160 rs M :=
  ⟨g.hb, g.hr, g.hm, g.len, g.nodup, fun r hr => ⟨by have := (g.above r hr).1; omega, (g.above r hr).2⟩, g.ne, by have := g.bb; omega, by have := g.bg; omega⟩
theorem MkB.setGrid {B b' gr' capr' : Nat} {rs' : List Nat} {M' : List (List Int)} (h : MkB W base P M rows lost sync b gr capr rs) (g : GridS W B b' gr' capr' 160 rs' M') (hl : rs'.length = 320) (hB : P < B) :
    MkB (W.setCell ⟨P, 0, none⟩ (.pointer (some ⟨b', 0, none⟩))) base P M' rows lost sync b' gr' capr' rs' := by
  have h0 := h.bP
  have h1 := g.bb
  have h2 := g.bg
  have h3 : ∀ r ∈ rs', P ≠ r := fun r hr => by have := (g.above r hr).1; omega
  exact ⟨by rw [heap_setCell_same W P 0 _ _ _ h.hP]; rfl, (g.mono (base := base) (by omega)).other _ _ (by show P ≠ b'; omega) (by show P ≠ gr'; omega) h3, hl, h.bP, by omega, by omega, h3, h.hrows⟩
end
theorem tell_no {M : List (List Int)} {rows : Nat} {lost sync sy : Bool} (ht : (⟨M, rows, lost, sync⟩ : FSt).tell sy = false) : (⟨M, rows, lost, sync⟩ : FSt).begin sy = ⟨M, if rows = 320 then rows else rows + 1, decide (rows = 320), sy⟩ := by
  unfold FSt.begin; rw [ht]; rfl
theorem begin_on (w : World) (base P : Nat) (s : FSt) (sy : Bool) (hM : MkF w base P s) (hb : base ≤ w.heap.size) (ht : s.tell sy = false) : Calls Try.prog 35 #[.pointer (some ⟨P, 0, none⟩), .bool sy] w fun e w' =>
    ∃ v, e = .returned (.tuple #[.agg #[v], .bool (s.tell sy)]) ∧ TPic w' v (s.shown sy) ∧ MkF w' base P (s.begin sy) ∧ NB P w w' := by
  obtain ⟨M, rows, lost, sync⟩ := s
  obtain ⟨b, gr, capr, rs, hM⟩ := hM
  simp only at hM
  have hlts := hM.lts
  have hbP := hM.bP
  have hrows := hM.hrows
  have c1 := hM.c1
  have c2 := hM.c2
  have c3 := hM.c3
  have f1 := hM.f 1
  have f2 := hM.f 2
  have f3 := hM.f 3
  have hPn : ¬ P = w.heap.size := by have := hlts.1; omega
  have hs : (⟨M, rows, lost, sync⟩ : FSt).shown sy = [] := by simp only [FSt.shown, ht]; rfl
  have he := tell_no ht
  have hor : sy = false ∨ sy = true ∧ sync = true ∨ sy = true ∧ sync = false ∧ rows = 0 := by
    cases sy <;> cases sync <;> simp [FSt.tell] at ht ⊢ <;> omega
  rw [hs, ht, he]
  clear hs he ht
  rcases hor with rfl | ⟨rfl, rfl⟩ | ⟨rfl, rfl, rfl⟩
  · by_cases hr : rows = 320
    · have hr' : (rows : Int) = 320 := by omega
      have hr0 : (0 : Int) < rows := by omega
      rw [if_pos hr, decide_eq_true hr]
      go_enter Try.func35, Try.ntmps35
      go_wp2
      have hE := ((hM.setSync false).setLost true).below ((Below.refl _ _).alloc (Nat.le_refl _) (.cells #[.slice none 0 0] 33))
      refine bodyPost_ret (v := .tuple #[.agg #[.slice none 0 0], .bool false]) (by simp [results, Try.results35, go_sem]) rfl ⟨_, rfl, TPic.nil _, ⟨_, _, _, _, hE⟩, ?_⟩
      exact (((NB.refl P w).set _ _).set _ _).then ((Below.refl _ _).alloc (by simp) _)
    · have hr' : ¬ (rows : Int) = 320 := by omega
      have hr2 : ((rows : Int) == 320) = false := by simpa using hr'
      have hw : IntKind.i64.wrap ((rows : Int) + 1) = rows + 1 := IntWalk.i64_in _ (by omega)
      rw [if_neg hr, decide_eq_false hr]
      go_enter Try.func35, Try.ntmps35
      go_wp2
      have hE := (((hM.setSync false).setLost false).setRows (rows + 1) (by omega)).below ((Below.refl _ _).alloc (Nat.le_refl _) (.cells #[.slice none 0 0] 33))
      refine bodyPost_ret (v := .tuple #[.agg #[.slice none 0 0], .bool false]) (by simp [results, Try.results35, go_sem]) rfl ⟨_, rfl, TPic.nil _, ⟨_, _, _, _, hE⟩, ?_⟩
      exact ((((NB.refl P w).set _ _).set _ _).set _ _).then ((Below.refl _ _).alloc (by simp) _)
  · by_cases hr : rows = 320
    · have hr' : (rows : Int) = 320 := by omega
      have hr0 : (0 : Int) < rows := by omega
      rw [if_pos hr, decide_eq_true hr]
      go_enter Try.func35, Try.ntmps35
      go_wp2
      have hE := ((hM.setSync true).setLost true).below ((Below.refl _ _).alloc (Nat.le_refl _) (.cells #[.slice none 0 0] 33))
      refine bodyPost_ret (v := .tuple #[.agg #[.slice none 0 0], .bool false]) (by simp [results, Try.results35, go_sem]) rfl ⟨_, rfl, TPic.nil _, ⟨_, _, _, _, hE⟩, ?_⟩
      exact (((NB.refl P w).set _ _).set _ _).then ((Below.refl _ _).alloc (by simp) _)
    · have hr' : ¬ (rows : Int) = 320 := by omega
      have hr2 : ((rows : Int) == 320) = false := by simpa using hr'
      have hw : IntKind.i64.wrap ((rows : Int) + 1) = rows + 1 := IntWalk.i64_in _ (by omega)
      rw [if_neg hr, decide_eq_false hr]
      go_enter Try.func35, Try.ntmps35
      go_wp2
      have hE := (((hM.setSync true).setLost false).setRows (rows + 1) (by omega)).below ((Below.refl _ _).alloc (Nat.le_refl _) (.cells #[.slice none 0 0] 33))
      refine bodyPost_ret (v := .tuple #[.agg #[.slice none 0 0], .bool false]) (by simp [results, Try.results35, go_sem]) rfl ⟨_, rfl, TPic.nil _, ⟨_, _, _, _, hE⟩, ?_⟩
      exact ((((NB.refl P w).set _ _).set _ _).set _ _).then ((Below.refl _ _).alloc (by simp) _)
  · have hr' : ¬ ((0 : Nat) : Int) = 320 := by decide
    rw [if_neg (by decide), decide_eq_false (by decide)]
    go_enter Try.func35, Try.ntmps35
    go_wp2
    have hE := (((hM.setSync true).setLost false).setRows (0 + 1) (by decide)).below ((Below.refl _ _).alloc (Nat.le_refl _) (.cells #[.slice none 0 0] 33))
    refine bodyPost_ret (v := .tuple #[.agg #[.slice none 0 0], .bool false]) (by simp [results, Try.results35, go_sem]) rfl ⟨_, rfl, TPic.nil _, ⟨_, _, _, _, hE⟩, ?_⟩
    exact ((((NB.refl P w).set _ _).set _ _).set _ _).then ((Below.refl _ _).alloc (by simp) _)
set_option maxHeartbeats 400000 in
theorem begin_new (w : World) (base P : Nat) (s : FSt) (sy : Bool) (hM : MkF w base P s) (hb : base ≤ w.heap.size) (ht : s.tell sy = true) : Calls Try.prog 35 #[.pointer (some ⟨P, 0, none⟩), .bool sy] w fun e w' =>
    ∃ v, e = .returned (.tuple #[.agg #[v], .bool (s.tell sy)]) ∧ TPic w' v (s.shown sy) ∧ MkF w' base P (s.begin sy) ∧ NB P w w' := by
  obtain ⟨M, rows, lost, sync⟩ := s
  obtain ⟨b, gr, capr, rs, hM⟩ := hM
  simp only at hM
  have hlts := hM.lts
  have hbP := hM.bP
  have hrows := hM.hrows
  have hor : sy = true ∧ sync = false ∧ 0 < rows := by
    cases sy <;> cases sync <;> simp [FSt.tell] at ht ⊢ <;> omega
  have hs : (⟨M, rows, lost, sync⟩ : FSt).shown sy = M.take rows := by simp only [FSt.shown, ht]; rfl
  have he : (⟨M, rows, lost, sync⟩ : FSt).begin sy = ⟨blankM, 1, false, sy⟩ := by simp only [FSt.begin, ht]; rfl
  rw [hs, ht, he]
  obtain ⟨rfl, rfl, hr0⟩ := hor
  clear hs he ht
  have hr0' : (0 : Int) < rows := by omega
  have c1 := hM.c1
  have c3 := hM.c3
  have hPn : ¬ P = w.heap.size := by have := hlts.1; omega
  have hM1 := hM.below ((Below.refl _ w).alloc (Nat.le_refl _) (.cells #[.slice none 0 0] 33))
  have k1 := rows_mk _ base P rows b gr capr M lost false rs hM1
  go_enter Try.func35, Try.ntmps35
  go_wp2_with fail
  refine k1.mono ?_
  rintro e w1 ⟨v, rfl, hP1, hB1⟩
  have hM2 := hM1.below hB1
  have hs1 := hB1.size
  have hB1' : Below w.heap.size w w1 := ((Below.refl _ w).alloc (Nat.le_refl _) (.cells #[.slice none 0 0] 33)).trans (hB1.mono (by simp))
  simp only [World.size_alloc] at hs1
  have cf : w1.cell? ⟨w.heap.size, 0, none⟩ = some (.slice none 0 0) := (hB1.cell (p := ⟨w.heap.size, 0, none⟩) (by simp)).trans (World.cell?_alloc_at _ _ _ _ rfl)
  have ff : w1.frozen? ⟨w.heap.size, 0, none⟩ = false := (hB1.frozen (p := ⟨w.heap.size, 0, none⟩) (by simp)).trans (World.frozen?_alloc_at _ _ _ _ rfl)
  obtain ⟨ao, n, cap, rfl⟩ : ∃ ao n cap, v = .slice ao n cap := by obtain ⟨vs, _, h, _⟩ := hP1; obtain ⟨ao, cap, rfl⟩ := shapeOf h; exact ⟨_, _, _, rfl⟩
  clear k1 hM1 c1 c3
  have hbx : w1.heap[w.heap.size]? = some (Obj.cells #[.slice none 0 0] 33 (0, 0)) := (hB1.block _ (by simp)).trans (heap_alloc_new w _)
  have hP2 := hP1.set (p := ⟨w.heap.size, 0, none⟩) hbx (by decide) (by decide) (.slice ao n cap)
  have hM3 := hM2.far hlts ⟨w.heap.size, 0, none⟩ (Nat.le_refl _) (.slice ao n cap)
  have hbx2 : (w1.setCell ⟨w.heap.size, 0, none⟩ (.slice ao n cap)).heap[w.heap.size]? = some (Obj.cells #[.slice ao n cap] 33 (0, 0)) := by rw [heap_setCell_same _ _ _ _ _ _ hbx]; rfl
  have hB2 : Below w.heap.size w (w1.setCell ⟨w.heap.size, 0, none⟩ (.slice ao n cap)) := hB1'.setCell (Nat.le_refl _) _
  have hs2 : (w1.setCell ⟨w.heap.size, 0, none⟩ (.slice ao n cap)).heap.size = w1.heap.size := by simp
  go_wp2_with fail
  generalize hW2 : w1.setCell ⟨w.heap.size, 0, none⟩ (.slice ao n cap) = W2 at *
  clear hP1 hM2 hM cf ff hB1 hB1'
  refine (blank_any W2).mono ?_
  rintro e w3 ⟨gr', capr', rs', rfl, hl, hg, hgr, hb3⟩
  have hM4 := hM3.below hb3
  have hP4 := hP2.below hb3
  have hbx4 := (hb3.block w.heap.size (by omega)).trans hbx2
  have c0 := hM4.c0
  have c1 := hM4.c1
  have c2 := hM4.c2
  have c3 := hM4.c3
  have f0 := hM4.f 0
  have f1 := hM4.f 1
  have f2 := hM4.f 2
  have f3 := hM4.f 3
  have hs3 := hb3.size
  have hB3 := hB2.trans (hb3.mono (by omega))
  have cf : w3.cell? ⟨w.heap.size, 0, none⟩ = some (.slice ao n cap) := by rw [cell_of_row w3 _ 0 _ _ _ hbx4]; rfl
  have ff : w3.frozen? ⟨w.heap.size, 0, none⟩ = false := frozen_of_row w3 _ 0 _ _ hbx4
  have hPn' : ¬ w.heap.size = P := fun e => hPn e.symm
  have hs2l : w.heap.size < W2.heap.size := by omega
  clear hbx hbx2 hb3 hP2 hM3 hs2
  go_wp2
  have m1 := hM4.setGrid hg hl (by omega)
  have p1 := hM4.pic (i := 0) (u := .pointer (some ⟨W2.heap.size, 0, none⟩)) hP4
  have m2 := m1.setRowsZ 0 (by decide) 0 rfl
  have p2 := m1.pic (i := 1) (u := .int .i64 0) p1
  have m3 := m2.setSync true
  have p3 := m2.pic (i := 3) (u := .bool true) p2
  have m4 := m3.setLost false
  have p4 := m3.pic (i := 2) (u := .bool false) p3
  have m5 := m4.setRowsZ 1 (by decide) 1 rfl
  have p5 := m4.pic (i := 1) (u := .int .i64 1) p4
  have hne : ∀ r ∈ rs', w.heap.size ≠ r := fun r hr => by have := (hg.above r hr).1; omega
  have hgb := hg.bg
  have m6 := m5.other ⟨w.heap.size, 0, none⟩ (.slice ao n cap) hPn' (by show w.heap.size ≠ W2.heap.size; omega) (by show w.heap.size ≠ gr'; omega) hne
  have hb5 : ((((((w3.setCell ⟨P, 0, none⟩ (.pointer (some ⟨W2.heap.size, 0, none⟩))).setCell ⟨P, 1, none⟩ (.int .i64 0)).setCell ⟨P, 3, none⟩ (.bool true)).setCell ⟨P, 2, none⟩ (.bool false)).setCell ⟨P, 1, none⟩ (.int .i64 1))).heap[w.heap.size]? = some (Obj.cells #[.slice ao n cap] 33 (0, 0)) := by
    rw [heap_setCell_other _ _ _ _ hPn', heap_setCell_other _ _ _ _ hPn', heap_setCell_other _ _ _ _ hPn', heap_setCell_other _ _ _ _ hPn', heap_setCell_other _ _ _ _ hPn']; exact hbx4
  have p6 := TPic.set (p := ⟨w.heap.size, 0, none⟩) p5 hb5 (by decide) (by decide) (.slice ao n cap)
  have b6 := (((((((NB.refl P w).then hB3).set 0 (.pointer (some ⟨W2.heap.size, 0, none⟩))).set 1 (.int .i64 0)).set 3 (.bool true)).set 2 (.bool false)).set 1 (.int .i64 1)).then ((Below.refl _ _).setCell (p := ⟨w.heap.size, 0, none⟩) (Nat.le_refl _) (.slice ao n cap))
  refine bodyPost_ret (v := .tuple #[.agg #[.slice ao n cap], .bool true]) (by simp [results, Try.results35, go_sem, hPn', cf, ff]) rfl ⟨_, rfl, p6, ⟨_, _, _, _, m6⟩, b6⟩
theorem begin_any (w : World) (base P : Nat) (s : FSt) (sy : Bool) (hM : MkF w base P s) (hb : base ≤ w.heap.size) : Calls Try.prog 35 #[.pointer (some ⟨P, 0, none⟩), .bool sy] w fun e w' =>
    ∃ v, e = .returned (.tuple #[.agg #[v], .bool (s.tell sy)]) ∧ TPic w' v (s.shown sy) ∧ MkF w' base P (s.begin sy) ∧ NB P w w' := by
  cases ht : s.tell sy with
  | false => have h := begin_on w base P s sy hM hb ht; rw [ht] at h; exact h
  | true => have h := begin_new w base P s sy hM hb ht; rw [ht] at h; exact h
end Go.Proofs.Ytbfdlfhidebjlaa.Cl
