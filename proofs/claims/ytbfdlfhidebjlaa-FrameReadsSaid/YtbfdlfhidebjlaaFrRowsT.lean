/- Package frame: the rows so far, as a picture. -/
import Derived.Test.YtbfdlfhidebjlaaFrRows
namespace Go.Proofs.Ytbfdlfhidebjlaa.Cl
open Go.RowKit Go.Shelf Go.Deep
attribute [local go_sem] Oper.semAt_some
set_option linter.unusedVariables false
set_option linter.unusedSimpArgs false

/-- A picture: its rows lie somewhere, and in each its colours. -/
def Pic (W : World) (v : Value) (rows : List (List Int)) : Prop := ∃ vs : List Value, Lies W 1 v vs.length vs ∧ vs.length = rows.length ∧ ∀ (y : Nat) u row, vs[y]? = some u → rows[y]? = some row → Lies W 1 u row.length (row.map (Value.int .u8))
theorem Pic.below {W W' : World} {v : Value} {rows : List (List Int)} (h : Pic W v rows) (hb : Below W.heap.size W W') : Pic W' v rows := by
  obtain ⟨vs, h1, h2, h3⟩ := h
  exact ⟨vs, h1.below hb, h2, fun y u row a b => (h3 y u row a b).below hb⟩
theorem Pic.nil (W : World) : Pic W (.slice none 0 0) [] := ⟨[], ⟨rfl, none, 0, rfl, ⟨Nat.le_refl _, fun _ => rfl⟩, .inl rfl⟩, rfl, fun y u row h => by simp at h⟩
/-- A picture in memory of its own. -/
def TPic (W : World) (v : Value) (rows : List (List Int)) : Prop := ∃ (vs : List Value) (base : Nat), W.ownsRow base 45 1 v vs.length vs ∧ vs.length = rows.length ∧ ∀ (y : Nat) u row, vs[y]? = some u → rows[y]? = some row → URow W u row
theorem TPic.pic {W : World} {v : Value} {rows : List (List Int)} (h : TPic W v rows) : Pic W v rows := by
  obtain ⟨vs, base, h1, h2, h3⟩ := h
  exact ⟨vs, Lies.of_owns h1, h2, fun y u row a b => (h3 y u row a b).lies⟩
theorem TPic.nil (W : World) : TPic W (.slice none 0 0) [] := ⟨[], 0, World.ownsRow_nil _ _ _ _, rfl, fun y u row h => by simp at h⟩
theorem TPic.below {W W' : World} {v : Value} {rows : List (List Int)} (h : TPic W v rows) (hb : Below W.heap.size W W') : TPic W' v rows := by
  obtain ⟨vs, base, h1, h2, h3⟩ := h
  exact ⟨vs, base, owns_below h1 hb, h2, fun y u row a b => (h3 y u row a b).below hb⟩
theorem TPic.set {W : World} {v : Value} {rows : List (List Int)} (h : TPic W v rows) {p : Addr} {cs : Array Value} {T : TypeId} {fr : Nat × Nat} (hp : W.heap[p.block]? = some (Obj.cells cs T fr)) (h1 : T ≠ 45) (h2 : T ≠ 5) (u : Value) : TPic (W.setCell p u) v rows := by
  obtain ⟨vs, base, hr, hl, hy⟩ := h
  have hg : W.grownBy (W.setCell p u) (some p.block) := ⟨rfl, rfl, rfl, by simp, fun k hk hne => heap_setCell_other W p k u (fun e => hne (by rw [e]))⟩
  refine ⟨vs, base, hr.kept hg (.inr fun e => ?_), hl, fun y w row a b => ?_⟩
  · obtain ⟨_, ⟨rfl, _⟩ | ⟨g, cap, cur, rfl, _, hh, _⟩⟩ := hr
    · simp [Value.ownBlock] at e
    · simp only [Value.ownBlock, Option.some.injEq] at e
      rw [e, hp] at hh
      simp only [Option.some.injEq, Obj.cells.injEq] at hh
      exact h1 hh.2.1
  · obtain ⟨g, cap, cur, fr', hv, hc, hh, ht⟩ := hy y w row a b
    refine ⟨g, cap, cur, fr', hv, hc, (heap_setCell_other _ _ _ _ (fun e => ?_)).trans hh, ht⟩
    rw [e, hp] at hh
    simp only [Option.some.injEq, Obj.cells.injEq] at hh
    exact h2 hh.2.1
theorem info_sl : (Try.prog.info? 45).map (fun i => (i.zero, i.size, i.bytes)) = some (some (.slice none 0 0), 1, 24) := by kernel_rfl
theorem tells_own (B rows : Nat) (M : List (List Int)) : OwnFrom B (fun (ys : List Sl) W => ys.length = rows ∧ ∀ (y : Nat) v row, ys[y]? = some v → M[y]? = some row → URow W (.slice v.1 v.2.1 v.2.2) row) := by
  rintro ys W W' r ⟨h1, h2⟩ hg hr
  refine ⟨h1, fun y v row a b => ?_⟩
  obtain ⟨g, cap, cur, fr, hv, hc, hh, ht⟩ := h2 y v row a b
  refine ⟨g, cap, cur, fr, hv, hc, (hg.block g (Array.getElem?_eq_some_iff.1 hh).1 (fun e => ?_)).trans hh, ht⟩
  obtain ⟨_, o, ho, hoc⟩ := hr g e.symm
  rw [hh] at ho; cases ho; cases hoc

theorem rows_nil (w : World) : Calls Try.prog 18 #[.pointer none] w fun e W' => e = .returned (.agg #[.slice none 0 0]) ∧ Below w.heap.size w W' := by
  go_enter Try.func18, Try.ntmps18
  go_wp2
  refine bodyPost_ret (v := .agg #[.slice none 0 0]) (by simp [results, Try.results18, go_sem]) rfl ⟨rfl, ?_⟩
  exact ((Below.refl _ w).alloc (Nat.le_refl _) _).alloc (by simp) _

set_option maxRecDepth 100000 in
set_option maxHeartbeats 1000000 in
theorem rows_mk (w : World) (base P rows b gr capr : Nat) (M : List (List Int)) (lost sync : Bool) (rs : List Nat) (hM : MkB w base P M rows lost sync b gr capr rs) :
    Calls Try.prog 18 #[.pointer (some ⟨P, 0, none⟩)] w fun e W' => ∃ v, e = .returned (.agg #[v]) ∧ TPic W' v (M.take rows) ∧ Below w.heap.size w W' := by
  obtain ⟨i0, hi, hz0, hz1, hz2⟩ := info_parts info_sl
  have hrows := hM.hrows
  have hML : M.length = 320 := by rw [hM.g.len, hM.len]
  refine (callsIn_wide (n := 5)).1 ?_
  refine callsIn_of_wp_marks Try.func18 rfl trivial ?_ rfl
  simp only [Try.ntmps18, List.size_toArray, List.length_cons, List.length_nil, Nat.reduceAdd, Nat.reduceSub, Array.replicate_succ, Array.replicate_zero, List.push_toArray, List.append_toArray, List.nil_append, List.cons_append]
  gi_wp2_with fail
  refine ⟨trivial, (all_mk Fence.wide _ trivial rfl _ _).mono ?_⟩
  rintro e w' ⟨rfl, rfl⟩
  gi_wp2_with fail
  have bR := Boxed.new w 33 (.slice none 0 0)
  have bO := Boxed.new (w.alloc (.cells #[.slice none 0 0] 33)) 33 (.slice none 0 0)
  have bN := Boxed.new ((w.alloc (.cells #[.slice none 0 0] 33)).alloc (.cells #[.slice none 0 0] 33)) 30 (.pointer (some ⟨P, 0, none⟩))
  simp only [World.size_alloc] at bO bN
  have hB0 : Below w.heap.size w (((w.alloc (.cells #[.slice none 0 0] 33)).alloc (.cells #[.slice none 0 0] 33)).alloc (.cells #[.pointer (some ⟨P, 0, none⟩)] 30)) := (((Below.refl _ w).alloc (Nat.le_refl _) _).alloc (by simp) _).alloc (by simp; omega) _
  have hs3 : (((w.alloc (.cells #[.slice none 0 0] 33)).alloc (.cells #[.slice none 0 0] 33)).alloc (.cells #[.pointer (some ⟨P, 0, none⟩)] 30)).heap.size = w.heap.size + 3 := by simp
  refine range_on rfl (by decide) (gf := 52) (lb := #[.pointer (some ⟨w.heap.size + 1 + 1, 0, none⟩)]) rfl trivial (enters_of Try.func52 (by kernel_rfl) rfl)
    rows (fun x : Sl => #[.slice x.1 x.2.1 x.2.2]) (fun _ => rfl) (fun ys W => ys.length = rows ∧ ∀ (y : Nat) v row, ys[y]? = some v → M[y]? = some row → URow W (.slice v.1 v.2.1 v.2.2) row)
    (fun pre W => (((∃ v, Boxed W (w.heap.size + 1) 33 v ∧ W.ownsRow w.heap.size 45 1 v pre.length (pre.map fun x => Value.slice x.1 x.2.1 x.2.2) ∧ True) ∧ Boxed W (w.heap.size + 1 + 1) 30 (.pointer (some ⟨P, 0, none⟩))) ∧ Boxed W w.heap.size 33 (.slice none 0 0)) ∧ Below w.heap.size w W)
    (KpU w.heap.size (w.heap.size + 1 + 1) (.pointer (some ⟨P, 0, none⟩)))
    (tells_own _ _ _)
    (OwnFrom.and (OwnFrom.and (OwnFrom.and (Own.from (holdsRow_own w.heap.size (w.heap.size + 1) 33 45 1 (fun pre : List Sl => pre.length) (fun pre => pre.map fun x => Value.slice x.1 x.2.1 x.2.2) (fun _ _ => True)) _) (Own.from (boxed_own _ _ (fun _ => .pointer (some ⟨P, 0, none⟩))) _)) (Own.from (boxed_own _ _ (fun _ => .slice none 0 0)) _)) (ownFrom_below (Nat.le_refl _) (by simp; omega)))
    ⟨⟨⟨⟨_, bO.alloc _, World.ownsRow_nil _ _ _ _, trivial⟩, bN⟩, (bR.alloc _).alloc _⟩, hB0⟩
    (fun h k => KpU.t h k) (fun W l o o' hl ho hc => KpU.b (by rw [hs3]; omega) W l o o' hl ho hc)
    (fun l J W hW hJ hY h0 => all1_mk _ (by decide) l (w.heap.size + 1 + 1) w base P rows b gr capr M lost sync rs hM J hJ hY W (hB0.trans (hW.mono (by rw [hs3]; omega))) ((hW.cell (p := ⟨w.heap.size + 1 + 1, 0, none⟩) (by rw [hs3]; show w.heap.size + 1 + 1 < _; omega)).trans bN.cell) h0)
    (fun x => { tmps := #[.pointer (some ⟨P, 0, none⟩), undef, .pointer (some ⟨w.heap.size, 0, none⟩), .pointer (some ⟨w.heap.size + 1, 0, none⟩), .slice x.1 x.2.1 x.2.2, .pointer (some ⟨P, 0, none⟩), .bool false, undef, .pointer (some ⟨P, 0, none⟩), .func (.func 52) #[] #[.pointer (some ⟨w.heap.size + 1 + 1, 0, none⟩)], .slice x.1 x.2.1 x.2.2, undef, undef, undef, undef, undef, undef, undef], defers := [] }) ?assign ?body ?done
  case assign =>
    intro l x W K hK
    gi_wp2
    exact hK
  case body =>
    rintro l pre x W ⟨⟨⟨⟨v, hv, hrow, _⟩, hbn⟩, hbr⟩, hB⟩ hlt'
    have hc := hv.cell
    gi_wp2_with (gi_at_builtin; refine wpListIn_append_own _ rfl _ _ 27 rfl w.heap.size 45 i0 (.slice none 0 0) 1 24 Try.underlying27 hi hz0 hz1 hz2 rfl (by decide) _ _ _ rfl (hrow.alloc _) ⟨W.heap.size, 0, none⟩ 1 1 [.slice x.1 x.2.1 x.2.2] rfl rfl (cell_one_new _ _ _) (by simp [Value.oneCell']) (by simp only [maxLen]; omega) (by omega) (by have := hB.size; simp; omega) ?_; intro v' w1 hown' hgrow _; obtain ⟨g', cap', rfl⟩ := ownsRow_succ hown'; obtain ⟨hv1, hv2, hr2, hk2, hb2⟩ := hv.appended (by decide) hrow hB.size (by omega) hown' hgrow; have hc1 := hv1.cell; have hf1 := hv1.frozen)
    have hbn1 := ((hbn.alloc (.cells #[.slice x.1 x.2.1 x.2.2] 45)).kept hgrow (hbn.not_row (by decide) hrow)).other (B' := w.heap.size + 1) (by omega) (.slice (some ⟨g', 0, none⟩) (pre.length + 1) cap')
    have hbr1 := ((hbr.alloc (.cells #[.slice x.1 x.2.1 x.2.2] 45)).kept hgrow (hbr.not_row (by decide) hrow)).other (B' := w.heap.size + 1) (by omega) (.slice (some ⟨g', 0, none⟩) (pre.length + 1) cap')
    have hku : ∀ (k : Nat) (cs : Array Value) (fr : Nat × Nat), W.heap[k]? = some (Obj.cells cs 5 fr) → (w1.setCell ⟨w.heap.size + 1, 0, none⟩ (.slice (some ⟨g', 0, none⟩) (pre.length + 1) cap')).heap[k]? = some (Obj.cells cs 5 fr) := by
      intro k cs fr e
      have hkl : k < W.heap.size := (Array.getElem?_eq_some_iff.1 e).1
      have k1 : some k ≠ v.ownBlock := by
        obtain ⟨_, ⟨rfl, _⟩ | ⟨g, cap, cur, rfl, _, hh, _⟩⟩ := hrow
        · simp [Value.ownBlock]
        · intro he
          simp only [Value.ownBlock, Option.some.injEq] at he
          subst he
          rw [e] at hh
          simp at hh
      have k2 : k ≠ w.heap.size + 1 := by
        intro he
        subst he
        rw [show W.heap[w.heap.size + 1]? = _ from hv] at e
        simp at e
      rw [heap_setCell_other _ _ _ _ k2, hgrow.block k (by simp; omega) k1, Below.heap_alloc _ _ _ hkl]
      exact e
    exact ⟨hk2.from _, ⟨hb2, fun _ => hbn1.cell, hku⟩, ⟨⟨⟨_, hv2, by simpa using hr2, trivial⟩, hbn1⟩, hbr1⟩, hB.trans hb2⟩
  case done =>
    rintro D ys W hD ⟨hyl, hys⟩ ⟨⟨⟨⟨v, hv, hrow, _⟩, hbn⟩, hbr⟩, hB⟩ hK
    have hc := hv.cell
    have hcr := hbr.cell
    have hfr := hbr.frozen
    have hDs : w.heap.size + 3 ≤ D := by rw [hs3] at hD; exact hD
    have hK2 : (W.setCell ⟨w.heap.size, 0, none⟩ v).heap[D]? = some (.deferred (some [])) := (heap_setCell_other _ _ _ _ (by show D ≠ w.heap.size; omega)).trans hK
    have hcv : (W.setCell ⟨w.heap.size, 0, none⟩ v).cell? ⟨w.heap.size, 0, none⟩ = some v := (hbr.set v).cell
    have hne := hbr.not_row (by decide) hrow
    have hrow2 := hrow.kept (grownBy_setCell' W w.heap.size v) (.inr (fun e => hne e.symm))
    have hrow3 := ownsRow_putObj hrow2 (.deferred none) hK2 rfl
    have hys2 : ∀ (y : Nat) x row, ys[y]? = some x → M[y]? = some row → URow ((W.setCell ⟨w.heap.size, 0, none⟩ v).putObj D (.deferred none)) (.slice x.1 x.2.1 x.2.2) row := by
      intro y x row hy hr
      obtain ⟨g, cap, cur, fr, hv', hc', hh, ht⟩ := hys y x row hy hr
      refine ⟨g, cap, cur, fr, hv', hc', ?_, ht⟩
      have k2 : g ≠ w.heap.size := fun he => by subst he; rw [show W.heap[w.heap.size]? = _ from hbr] at hh; simp at hh
      have hg2 : (W.setCell ⟨w.heap.size, 0, none⟩ v).heap[g]? = some (Obj.cells cur 5 fr) := (heap_setCell_other _ _ _ _ k2).trans hh
      rw [World.putObj_heap_other (fun he => by subst he; rw [hg2] at hK2; cases hK2)]
      exact hg2
    have hP : TPic ((W.setCell ⟨w.heap.size, 0, none⟩ v).putObj D (.deferred none)) v (M.take rows) := by
      refine ⟨ys.map fun x => Value.slice x.1 x.2.1 x.2.2, w.heap.size, by simpa using hrow3, by simp; omega, fun y u row hy hr => ?_⟩
      rw [List.getElem?_map] at hy
      cases hyy : ys[y]? with
      | none => rw [hyy] at hy; simp at hy
      | some x =>
        rw [hyy] at hy
        simp only [Option.map_some, Option.some.injEq] at hy
        subst hy
        have hyr : y < rows := by have := (List.getElem?_eq_some_iff.1 hyy).1; omega
        rw [List.getElem?_take, if_pos hyr] at hr
        exact hys2 y x row hyy hr
    clear hrow2 hrow3 hys2
    obtain ⟨ao, cap, rfl⟩ := shapeOf hrow
    rw [hyl] at hK2 hcv hP
    gi_wp2
    refine ⟨by simp, .inl ⟨_, _, rfl, run_takeDeferred hK2, ?_⟩⟩
    have hcv2 : ((W.setCell ⟨w.heap.size, 0, none⟩ (.slice ao rows cap)).putObj D (.deferred none)).cell? ⟨w.heap.size, 0, none⟩ = some (.slice ao rows cap) := cell_kept hcv (grownBy_putObj' _ D _) (fun r hr => by cases hr; exact ⟨_, hK2, rfl⟩)
    refine ⟨.agg #[.slice ao rows cap], by simp [results, Try.results18, go_sem, hcv2], _, rfl, ?_, ?_⟩
    · exact hP
    · exact (hB.setCell (Nat.le_refl _) _).trans (belowK_b (w := w) (Nat.le_refl _) _ D _ _ (by omega) hK2 rfl rfl)
end Go.Proofs.Ytbfdlfhidebjlaa.Cl
