/- The reference's Put. -/
import Derived.Test.YtcaffmkghllmgaaCellRingD
import Derived.Test.YtcaffmkghllmgaaAppendOf
import Derived.Deep.AppendLies
import Derived.Deep.RegionHeld3
namespace Go.Proofs.Ytcaffmkghllmgaa.Cl
open Go.RowKit Go.Deep
set_option linter.unusedVariables false
set_option linter.unusedSimpArgs false
/-- The slice v holds just these numbers, in a block that is not below base. -/
def LiesA (w : World) (base : Nat) (v : Value) (D : List Int) : Prop :=
  (v = .slice none 0 0 ∧ D = []) ∨ ∃ b off cap, v = .slice (some ⟨b, off, none⟩) D.length cap ∧ D.length ≤ cap ∧ base ≤ b ∧ b < w.heap.size ∧ ∀ i x, D[i]? = some x → w.cell? ⟨b, off + i, none⟩ = some (.int .i64 x)
theorem LiesA.lies {w : World} {base : Nat} {v : Value} {D : List Int} (h : LiesA w base v D) : Lies w 1 v D.length (D.map (Value.int .i64)) := by
  rcases h with ⟨rfl, rfl⟩ | ⟨b, off, cap, rfl, hc, hb, hlt, hx⟩
  · exact ⟨rfl, none, 0, rfl, ⟨Nat.le_refl _, fun _ => rfl⟩, .inl rfl⟩
  · refine ⟨by simp, _, cap, rfl, ⟨hc, fun h => by cases h⟩, .inr ⟨b, off, rfl, hlt, fun i u hu => ?_⟩⟩
    rw [List.getElem?_map] at hu
    cases hd : D[i]? with
    | none => rw [hd] at hu; cases hu
    | some y => rw [hd] at hu; rw [← Option.some.inj hu]; exact hx i y hd
theorem LiesA.below {w w' : World} {base : Nat} {v : Value} {D : List Int} (h : LiesA w base v D) (hb : Below w.heap.size w w') : LiesA w' base v D := by
  rcases h with h | ⟨b, off, cap, rfl, hc, hbb, hlt, hx⟩
  · exact .inl h
  · exact .inr ⟨b, off, cap, rfl, hc, hbb, Nat.lt_of_lt_of_le hlt hb.size, fun i x h => (hb.cell (p := ⟨b, off + i, none⟩) hlt).trans (hx i x h)⟩
theorem LiesA.oth {w w' : World} {base b0 g0 : Nat} {v : Value} {D : List Int} (h : LiesA w base v D) (ho : Oth b0 g0 w w') (h1 : b0 < base) (h2 : g0 < base) : LiesA w' base v D := by
  rcases h with h | ⟨b, off, cap, rfl, hc, hbb, hlt, hx⟩
  · exact .inl h
  · exact .inr ⟨b, off, cap, rfl, hc, hbb, by rw [ho.size]; exact hlt, fun i x h => (World.cell?_of_block (ho.block b (by omega) (by omega))).trans (hx i x h)⟩
theorem LiesA.form {w : World} {base : Nat} {v : Value} {D : List Int} (h : LiesA w base v D) : ∃ ao cap, v = .slice ao D.length cap := by
  rcases h with ⟨rfl, rfl⟩ | ⟨b, off, cap, rfl, _⟩
  · exact ⟨_, _, rfl⟩
  · exact ⟨_, _, rfl⟩
theorem cells_of_owns {w : World} {base e g n cap : Nat} {D : List Int} (h : w.ownsRow base e 1 (.slice (some ⟨g, 0, none⟩) n cap) n (D.map (Value.int .i64))) (i : Nat) (x : Int) (hx : D[i]? = some x) : w.cell? ⟨g, i, none⟩ = some (.int .i64 x) := by
  have hl := h.1
  have hi : i < n * 1 := by rw [← hl]; simpa using (List.getElem?_eq_some_iff.1 hx).1
  rw [h.cellAt i hi, List.getElem?_map, hx]; rfl

set_option maxRecDepth 1000000 in
theorem put_refR (w : World) (base : Nat) (vm : Value) (room : Nat) (D : List Int) (x : Int) (h : LiesA w base vm D) (hbase : base ≤ w.heap.size) (h0 : 0 < room) (hr : room ≤ 65536) (hn : D.length ≤ room) :
    Calls Try.prog 21 #[vm, .int .i64 room, .int .i64 x] w fun e w' => ∃ v, e = .returned (.tuple #[v, .int .i64 (putO room D x), .bool (putB room D)]) ∧ LiesA w' base v (putL room D x) ∧ Below w.heap.size w w' := by
  have HX := hideR h.lies
  obtain ⟨ao, cap, rfl⟩ := h.form
  obtain ⟨i0, hi, hz0, hz1, hz2⟩ := info_parts info_int
  have hown0 := World.ownsRow_lit (base := w.heap.size) (e := 3) (size := 1) w #[] 0 (Nat.le_refl _) (by decide) rfl
  have hb0 : Below w.heap.size w (w.alloc (.cells #[] 3)) := (Below.refl _ _).alloc (Nat.le_refl _) _
  clear h
  go_enter Try.func21, Try.ntmps21
  go_wp2_with (at_builtin; refine wpList_append_of rfl (.tmp 10) (.tmp 11) 22 rfl w.heap.size 3 i0 (.int .i64 0) 1 8 Try.underlying22 hi hz0 hz1 hz2 rfl (by decide) _ _ _ rfl hown0 _ _ _ rfl (HX.out.below ((Below.refl _ _).alloc (Nat.le_refl _) _)) (ints_oneCell _ _) (by simp only [maxLen]; omega) (by omega) hb0.size ?_)
  intro v1 w1 hown1 hgrow1
  have hb1 : Below w.heap.size w w1 := hb0.grown hgrow1 hb0.size (fun k hk => by cases hk; exact Nat.le_refl _)
  have hs1 := hb1.size
  clear hown0 hgrow1 hb0
  go_wp2_with (at_builtin; refine wpList_append_lies _ rfl (.tmp 12) (.tmp 14) 22 rfl w.heap.size 3 i0 (.int .i64 0) 1 8 Try.underlying22 hi hz0 hz1 hz2 rfl (by decide) _ _ _ rfl (hown1.alloc _) ⟨w1.heap.size, 0, none⟩ 1 1 [.int .i64 x] rfl rfl (World.news_of_block (heap_alloc_new w1 _)) (by simp [Value.oneCell']) (by decide) (by simp only [maxLen]; omega) (by omega) (by simp only [World.size_alloc]; exact Nat.le_succ_of_le hs1) (w1.heap.size + 1) (by simp) ?_)
  intro g cap' w2 hown2 hgrow2 hat2 hlt2
  have hg : w.heap.size ≤ g := by
    obtain ⟨_, ⟨h', _⟩ | ⟨g', cap'', cur, h', hg', _⟩⟩ := hown2
    · cases h'
    · simp only [Value.slice.injEq, Option.some.injEq, Addr.mk.injEq, true_and, and_true] at h'
      rw [h'.1]; exact hg'
  have hb2 : Below w.heap.size w w2 := (hb1.alloc hs1 (.cells #[.int .i64 x] 3)).grown hgrow2 (by simp only [World.size_alloc]; exact Nat.le_succ_of_le hs1) (fun k hk => (hown1.lt k hk).1)
  have hcells := fun i y (hy : (D ++ [x])[i]? = some y) => cells_of_owns (D := D ++ [x]) (by simpa using hown2) i y hy
  have hcap : D.length + 1 ≤ cap' := by
    obtain ⟨_, ⟨h', _⟩ | ⟨g', cap'', cur, h', hg', _, hle, _⟩⟩ := hown2
    · cases h'
    · simp only [Value.slice.injEq, Option.some.injEq, Addr.mk.injEq, true_and, and_true] at h'
      rw [h'.2]; exact hle
  have HC := hideR hcells
  clear hown1 hgrow2 hat2 hown2 hcells
  by_cases hlr : D.length < room
  · have hgt : ¬ (room : Int) < (D.length : Int) + 1 := by omega
    have e1 : putL room D x = D ++ [x] := by rw [putL, if_pos hlr]
    have e2 : putO room D x = 0 := by rw [putO, if_pos hlr]
    have e3 : putB room D = false := by rw [putB]; exact decide_eq_false (by simpa using hlr)
    have E := hideR (And.intro e1 (And.intro e2 e3))
    clear e1 e2 e3
    go_wp2_with fail
    go_ret3
    rw [E.out.1, E.out.2.1, E.out.2.2]
    exact ⟨_, rfl, .inr ⟨g, 0, cap', by simp, by simpa using hcap, by omega, hlt2, fun i y hy => by rw [Nat.zero_add]; exact HC.out i y hy⟩, hb2⟩
  · have hgt : (room : Int) < (D.length : Int) + 1 := by omega
    have hne : D ≠ [] := by intro e; rw [e] at hlr; simp at hlr; omega
    obtain ⟨d, D', rfl⟩ := List.exists_cons_of_ne_nil hne
    have e1 : putL room (d :: D') x = D' ++ [x] := by rw [putL, if_neg hlr]; rfl
    have e2 : putO room (d :: D') x = d := by rw [putO, if_neg hlr]; rfl
    have e3 : putB room (d :: D') = true := by rw [putB]; exact decide_eq_true hlr
    have E := hideR (And.intro e1 (And.intro e2 e3))
    clear e1 e2 e3
    have c0 : w2.cell? ⟨g, 0, none⟩ = some (.int .i64 d) := HC.out 0 d rfl
    simp only [List.length_cons] at *
    have hc1 : ¬ cap' = 1 := by omega
    have hc2 : (1 : Int) ≤ (D'.length : Int) + 1 + 1 := by omega
    have hc3 : (0 : Int) < (D'.length : Int) + 1 + 1 := by omega
    go_wp2_with fail
    go_region
    all_goals go_wp2
    all_goals go_ret3
    all_goals rw [E.out.1, E.out.2.1, E.out.2.2]
    all_goals exact ⟨_, rfl, .inr ⟨g, 1, cap' - 1, by simp, by simp; omega, by omega, hlt2, fun i y hy => by rw [Nat.add_comm]; exact HC.out (i + 1) y (by simpa using hy)⟩, hb2.drew⟩
end Go.Proofs.Ytcaffmkghllmgaa.Cl
