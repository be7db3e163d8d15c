/- Package frame: the rows so far: the iterator, and the picture that is gathered of it. -/
import Derived.Test.YtbfdlfhidebjlaaFrRange
import Derived.Test.YtbfdlfhidebjlaaFrMk
namespace Go.Proofs.Ytbfdlfhidebjlaa.Cl
open Go.RowKit Go.Shelf Go.Deep
attribute [local go_sem] Oper.semAt_some
set_option linter.unusedVariables false
set_option linter.unusedSimpArgs false

/-- A row of colours in a block of its own. -/
def URow (W : World) (v : Value) (row : List Int) : Prop := ∃ g cap cur fr, v = .slice (some ⟨g, 0, none⟩) row.length cap ∧ row.length ≤ cap ∧ W.heap[g]? = some (.cells cur 5 fr) ∧ cur.toList.take row.length = row.map (Value.int .u8)
/-- A slice's three words. -/
abbrev Sl := Option Addr × Nat × Nat
/-- What a round keeps: whatever lay below n₀, the iterator's own box, and each block of colours. -/
def KpU (n₀ Bn : Nat) (v : Value) (A B : World) : Prop := Below n₀ A B ∧ (A.cell? ⟨Bn, 0, none⟩ = some v → B.cell? ⟨Bn, 0, none⟩ = some v) ∧ ∀ (k : Nat) (cs : Array Value) (fr : Nat × Nat), A.heap[k]? = some (Obj.cells cs 5 fr) → B.heap[k]? = some (Obj.cells cs 5 fr)
theorem KpU.t {n₀ Bn : Nat} {v : Value} {A B C : World} (h : KpU n₀ Bn v A B) (k : KpU n₀ Bn v B C) : KpU n₀ Bn v A C := ⟨h.1.trans k.1, fun e => k.2.1 (h.2.1 e), fun i cs fr e => k.2.2 i cs fr (h.2.2 i cs fr e)⟩
theorem KpU.b {n₀ Bn : Nat} {v : Value} {w : World} (hn : n₀ ≤ w.heap.size) (W : World) (l : Nat) (o o' : Obj) (hl : w.heap.size ≤ l) (h : W.heap[l]? = some o) (hc : o.isCells = false) : KpU n₀ Bn v W (W.putObj l o') := by
  refine ⟨(Below.refl n₀ W).grown (grownBy_putObj' W l o') (by have := (Array.getElem?_eq_some_iff.1 h).1; omega) (fun k e => by cases e; omega), fun e => cell_kept e (grownBy_putObj' W l o') (fun r hr => by cases hr; exact ⟨o, h, hc⟩), fun k cs fr e => ?_⟩
  rw [World.putObj_heap_other (fun he => by subst he; rw [h] at e; cases e; cases hc)]; exact e
theorem URow.kept {n₀ Bn : Nat} {u v : Value} {A B : World} {row : List Int} (h : URow A v row) (k : KpU n₀ Bn u A B) : URow B v row := by
  obtain ⟨g, cap, cur, fr, rfl, hc, hh, ht⟩ := h
  exact ⟨g, cap, cur, fr, rfl, hc, k.2.2 _ _ _ hh, ht⟩
theorem URow.below {A B : World} {v : Value} {row : List Int} (h : URow A v row) (k : Below A.heap.size A B) : URow B v row := by
  obtain ⟨g, cap, cur, fr, rfl, hc, hh, ht⟩ := h
  exact ⟨g, cap, cur, fr, rfl, hc, (k.block _ (Array.getElem?_eq_some_iff.1 hh).1).trans hh, ht⟩
theorem URow.lies {W : World} {v : Value} {row : List Int} (h : URow W v row) : Lies W 1 v row.length (row.map (Value.int .u8)) := by
  obtain ⟨g, cap, cur, fr, rfl, hc, hh, ht⟩ := h
  refine ⟨by simp, _, _, rfl, ⟨hc, fun h => by cases h⟩, .inr ⟨g, 0, rfl, (Array.getElem?_eq_some_iff.1 hh).1, fun i u hu => ?_⟩⟩
  rw [cell_of_row W g (0 + i) _ _ fr hh, Nat.zero_add]
  rw [← ht] at hu
  rw [List.getElem?_take] at hu
  split at hu
  · simpa using hu
  · cases hu
theorem URow.of_owns {w : World} {base n : Nat} {v : Value} {row : List Int} (hn : row.length = n) (h0 : 0 < n) (h : w.ownsRow base 5 1 v n (row.map (Value.int .u8))) : URow w v row := by
  subst hn
  obtain ⟨hl, ⟨rfl, h1⟩ | ⟨g, cap, cur, rfl, hg, hh, hn, hm, hsz, htake⟩⟩ := h
  · omega
  · exact ⟨g, cap, cur, _, rfl, hn, hh, by simpa using htake⟩

theorem all_mk (F : Fence) (n : Nat) (hF : F.fn 37) (hro : F.round = none) (p0 : Option Addr) (w : World) :
    CallsIn F n Try.prog 37 #[.pointer p0] w fun e w' => e = .returned (.func (.func 52) #[] #[.pointer (some ⟨w.heap.size, 0, none⟩)]) ∧ w' = w.alloc (.cells #[.pointer p0] 30) := by
  refine callsIn_of_wp Try.func37 rfl hF ?_ hro
  simp only [Try.ntmps37, List.size_toArray, List.length_cons, List.length_nil, Nat.reduceAdd, Nat.reduceSub, Array.replicate_succ, Array.replicate_zero, List.push_toArray, List.append_toArray, List.nil_append, List.cons_append]
  gi_wp2
  go_ret
  exact ⟨rfl, rfl⟩

set_option maxRecDepth 100000 in
set_option maxHeartbeats 400000 in
theorem all1_mk (n : Nat) (hn : 2 ≤ n) (l Bn : Nat) (w : World) (base P rows b gr capr : Nat) (M : List (List Int)) (lost sync : Bool) (rs : List Nat) (hM : MkB w base P M rows lost sync b gr capr rs)
    (J : List Sl → World → Prop) (hJ : ∀ s A B, J s A → A.grownBy B none → J s B)
    (hY : ∀ pre x W, J pre W → pre.length < rows → YieldAt Fence.wide (n - 1) Try.prog l #[.slice x.1 x.2.1 x.2.2] W fun e W' => e = .returned (.bool true) ∧ J (pre ++ [x]) W' ∧ KpU w.heap.size Bn (.pointer (some ⟨P, 0, none⟩)) W W')
    (W : World) (hB : Below w.heap.size w W) (hBn : W.cell? ⟨Bn, 0, none⟩ = some (.pointer (some ⟨P, 0, none⟩))) (h0 : J [] W) :
    CallsIn Fence.wide n Try.prog 52 #[.func (.yield l) #[] #[], .pointer (some ⟨Bn, 0, none⟩)] W fun e W' => (∃ v, e = .returned v) ∧
      ∃ ys, (ys.length = rows ∧ ∀ (y : Nat) v row, ys[y]? = some v → M[y]? = some row → URow W' (.slice v.1 v.2.1 v.2.2) row) ∧ J ys W' := by
  have hrows := hM.hrows
  have hML : M.length = 320 := by rw [hM.g.len, hM.len]
  refine callsIn_of_wp Try.func52 rfl trivial ?_ rfl
  simp only [Try.ntmps52, List.size_toArray, List.length_cons, List.length_nil, Nat.reduceAdd, Nat.reduceSub, Array.replicate_succ, Array.replicate_zero, List.push_toArray, List.append_toArray, List.nil_append, List.cons_append]
  have hW := hM.below hB
  have c1 := hW.c1
  clear hW
  gi_wp2
  gi_loopw [8] (fun i wr => ∃ (k : Nat) (ys : List Sl), k ≤ rows ∧ i = .int .i64 k ∧ ys.length = k ∧ J ys wr ∧ Below w.heap.size w wr ∧ wr.cell? ⟨Bn, 0, none⟩ = some (.pointer (some ⟨P, 0, none⟩)) ∧ ∀ (y : Nat) v row, ys[y]? = some v → M[y]? = some row → URow wr (.slice v.1 v.2.1 v.2.2) row) (fun i _ => rows - (intOf i).toNat)
  case atStart => exact ⟨0, [], Nat.zero_le _, rfl, rfl, h0, hB, hBn, fun y v row h => by simp at h⟩
  case round =>
    obtain ⟨k, ys, hk, rfl, hyl, hJs, hnx, hbx, hys⟩ := hrel
    by_cases hkl : k < rows
    · have hMr := hM.below hnx
      have c0 := hMr.c0
      have hkM : k < M.length := by omega
      have hMk : M[k]? = some M[k] := List.getElem?_eq_getElem hkM
      have hrl : (M[k]).length = 160 := (hMr.g.hm k _ _ (List.getElem?_eq_getElem (by rw [hM.len]; omega)) hMk).2
      have k2 := (callsIn_wide (n := n - 1)).2 (row_in wr base b gr capr 160 rs M hMr.g k (by decide) (by decide) (by rw [hM.len]; omega) M[k] hMk)
      generalize hrow : M[k] = row at *
      clear hMr
      gi_wp2_with fail
      refine ⟨trivial, fun _ => by omega, k2.mono ?_⟩
      rintro e w1 ⟨v, rfl, hown, hb1⟩
      have hgr : wr.grownBy w1 none := ⟨hb1.os, hb1.tape, hb1.output, hb1.size, fun k hk _ => hb1.block k hk⟩
      have hU : URow w1 v row := URow.of_owns rfl (by omega) hown
      obtain ⟨x, rfl⟩ : ∃ x : Sl, v = .slice x.1 x.2.1 x.2.2 := by obtain ⟨g, cap, cur, fr, hv, _⟩ := hU; exact ⟨(_, _, _), hv⟩
      obtain ⟨fn, tmps, assign, body, hy, hRd⟩ := hY ys x w1 (hJ _ _ _ hJs hgr) (by omega)
      have hRd' := hRd.mono (R' := fun e W' => ∃ t, e = .returned (.bool t) ∧ t = true ∧ J (ys ++ [x]) W' ∧ KpU w.heap.size Bn (.pointer (some ⟨P, 0, none⟩)) w1 W') (fun e W' h => ⟨true, h.1, rfl, h.2⟩)
      gi_wp2_with fail
      refine ⟨fun _ => by omega, hRd'.mono ?_⟩
      rintro e W3 ⟨t, rfl, rfl, hJ3, hk3⟩
      gi_wp2
      go_roundw
      case rel =>
        refine ⟨k + 1, ys ++ [x], hkl, by go_num, by simp [hyl], hJ3, (hnx.trans (hb1.mono hnx.size)).trans hk3.1, hk3.2.1 ((hb1.cell (p := ⟨Bn, 0, none⟩) (block_lt_of_cell hbx)).trans hbx), fun y u r hy hr => ?_⟩
        by_cases hyk : y < ys.length
        · rw [List.getElem?_append_left hyk] at hy
          exact ((hys y u r hy hr).below hb1).kept hk3
        · rw [List.getElem?_append_right (by omega)] at hy
          have : y = k := by have := (List.getElem?_eq_some_iff.1 hy).1; simp at this; omega
          subst this
          rw [hyl, Nat.sub_self] at hy
          obtain rfl := Option.some.inj hy
          obtain rfl := Option.some.inj (hMk.symm.trans hr)
          exact hU.kept hk3
      case measure => simp [intOf]; omega
    · obtain rfl : k = rows := by omega
      gi_wp2
      go_end0
      exact ⟨⟨_, rfl⟩, ys, ⟨hyl, hys⟩, hJs⟩
end Go.Proofs.Ytbfdlfhidebjlaa.Cl
