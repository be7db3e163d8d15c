/- Package cell: a grid of whole numbers: its memory, and a new one. -/
import Derived.Test.YtbfdlfhidebjlaaFrKit
import Derived.Test.YtbfdlfhidebjlaaFrRp
import Derived.Test.YtbfdlfhidebjlaaAppendOf
import Derived.Deep.AppendLies
import Derived.Deep.RegionHeld3
namespace Go.Proofs.Ytbfdlfhidebjlaa.Cl
open Go.RowKit Go.Deep
set_option linter.unusedVariables false
set_option linter.unusedSimpArgs false

/-- The value of a row that lies in a block of its own. -/
def rowV (w : Nat) (r : Nat) : Value := .slice (some ⟨r, 0, none⟩) w w
/-- A grid at block b, its rows' values in block gr, its rows in blocks rs, no two alike, each of w things: M. -/
structure GridS (W : World) (base b gr capr w : Nat) (rs : List Nat) (M : List (List Int)) : Prop where
  hb : W.heap[b]? = some (.cells #[.slice (some ⟨gr, 0, none⟩) rs.length capr] 111 (0, 0))
  hr : ∀ y r, rs[y]? = some r → W.cell? ⟨gr, y, none⟩ = some (rowV w r)
  hm : ∀ (y r : Nat) (row : List Int), rs[y]? = some r → M[y]? = some row → W.heap[r]? = some (Obj.cells (row.map (Value.int .u8)).toArray 5 (0, 0)) ∧ row.length = w
  len : M.length = rs.length
  nodup : rs.Nodup
  above : ∀ r ∈ rs, base ≤ r ∧ r ≠ b ∧ r ≠ gr
  ne : b ≠ gr
  bb : base ≤ b
  bg : base ≤ gr
theorem info_row : (Try.prog.info? 45).map (fun i => (i.zero, i.size, i.bytes)) = some (some (.slice none 0 0), 1, 24) := by kernel_rfl
theorem grid_step {w wr w3 w4 : World} {G n k cap4 g4 : Nat} {v : Value} {rs : List Nat} {rowc : Array Value} {GT RT IT : TypeId} {o o2 : Obj}
    (hG : wr.heap[G]? = some (.cells #[v] GT (0, 0))) (hRS : ∀ r ∈ rs, wr.heap[r]? = some (.cells rowc IT (0, 0)) ∧ G < r ∧ some r ≠ v.ownBlock) (hnd : rs.Nodup)
    (hown : wr.ownsRow (G + 1) RT 1 v k (rs.map (rowV n))) (hnx : Below G w wr)
    (hb3 : Below (wr.heap.size + 1) (wr.alloc o).drew w3) (hG3 : w3.heap[wr.heap.size + 1]? = some (.cells rowc IT (0, 0)))
    (hown4 : w4.ownsRow (G + 1) RT 1 (.slice (some ⟨g4, 0, none⟩) (k + 1) cap4) (k + 1) (rs.map (rowV n) ++ [rowV n (wr.heap.size + 1)])) (hgrow4 : (w3.alloc o2).grownBy w4 v.ownBlock) (hat4 : v.ownBlock = some g4 ∨ g4 = w3.heap.size + 1) :
    (w4.setCell ⟨G, 0, none⟩ (.slice (some ⟨g4, 0, none⟩) (k + 1) cap4)).heap[G]? = some (.cells #[.slice (some ⟨g4, 0, none⟩) (k + 1) cap4] GT (0, 0)) ∧
    (w4.setCell ⟨G, 0, none⟩ (.slice (some ⟨g4, 0, none⟩) (k + 1) cap4)).ownsRow (G + 1) RT 1 (.slice (some ⟨g4, 0, none⟩) (k + 1) cap4) (k + 1) ((rs ++ [wr.heap.size + 1]).map (rowV n)) ∧
    (∀ r ∈ rs ++ [wr.heap.size + 1], (w4.setCell ⟨G, 0, none⟩ (.slice (some ⟨g4, 0, none⟩) (k + 1) cap4)).heap[r]? = some (.cells rowc IT (0, 0)) ∧ G < r ∧ some r ≠ (Value.slice (some ⟨g4, 0, none⟩) (k + 1) cap4).ownBlock) ∧
    (rs ++ [wr.heap.size + 1]).Nodup ∧ Below G w (w4.setCell ⟨G, 0, none⟩ (.slice (some ⟨g4, 0, none⟩) (k + 1) cap4)) ∧ G < (w4.setCell ⟨G, 0, none⟩ (.slice (some ⟨g4, 0, none⟩) (k + 1) cap4)).heap.size := by
  have hsz : G < wr.heap.size := (Array.getElem?_eq_some_iff.1 hG).1
  have hvlt := fun j (hj : v.ownBlock = some j) => hown.lt j hj
  have hr3 : wr.heap.size + 1 < w3.heap.size := (Array.getElem?_eq_some_iff.1 hG3).1
  have hrlt : ∀ r ∈ rs, r < wr.heap.size := fun r hr => (Array.getElem?_eq_some_iff.1 (hRS r hr).1).1
  -- a block of wr that is not v's own is in w4 as it was
  have old : ∀ j, j < wr.heap.size → some j ≠ v.ownBlock → w4.heap[j]? = wr.heap[j]? := fun j hj hne => by
    rw [hgrow4.block j (by simp only [World.size_alloc]; omega) hne, heap_alloc_old _ _ (by omega), hb3.block j (by omega)]
    exact heap_alloc_old _ _ hj
  have hGv : some G ≠ v.ownBlock := fun e => by have := (hvlt G e.symm).1; omega
  have hg4 : ∀ j, j < w3.heap.size + 1 → some j ≠ v.ownBlock → j ≠ g4 := fun j hj hne e => by
    rcases hat4 with h | h
    · exact hne (by rw [h, e])
    · omega
  have hnew : w4.heap[wr.heap.size + 1]? = some (.cells rowc IT (0, 0)) := by
    rw [hgrow4.block _ (by simp only [World.size_alloc]; omega) (fun e => by have := (hvlt _ e.symm).2; omega), heap_alloc_old _ _ hr3]
    exact hG3
  refine ⟨one_setCell ((old G hsz hGv).trans hG), ?_, ?_, ?_, ?_, ?_⟩
  · rw [List.map_append]
    exact ownsRow_setCell_below hown4 (by show G < G + 1; omega) _
  · intro r hr
    rcases List.mem_append.1 hr with hr | hr
    · obtain ⟨h1, h2, h3⟩ := hRS r hr
      have hl := hrlt r hr
      refine ⟨?_, h2, ?_⟩
      · rw [heap_setCell_other _ _ _ _ (by show r ≠ G; omega), old r hl h3]; exact h1
      · intro e
        simp only [Value.ownBlock, Option.some.injEq] at e
        exact hg4 r (by omega) h3 e
    · obtain rfl : r = wr.heap.size + 1 := by simpa using hr
      refine ⟨?_, by omega, ?_⟩
      · rw [heap_setCell_other _ _ _ _ (by show wr.heap.size + 1 ≠ G; omega)]; exact hnew
      · intro e
        simp only [Value.ownBlock, Option.some.injEq] at e
        exact hg4 _ (by omega) (fun e => by have := (hvlt _ e.symm).2; omega) e
  · rw [List.nodup_append]
    refine ⟨hnd, by simp, fun a ha b hb => ?_⟩
    have := hrlt a ha
    have : b = wr.heap.size + 1 := by simpa using hb
    omega
  · have h1 : Below G w (w3.alloc o2) := ((hnx.alloc (by omega) o).drew.trans (hb3.mono (by omega))).alloc (by omega) o2
    exact (h1.grown hgrow4 (by simp only [World.size_alloc]; omega) (fun j hj => by have := (hvlt j hj).1; omega)).setCell (Nat.le_refl _) _
  · have := hgrow4.size
    simp only [World.size_alloc] at this
    simp only [World.size_setCell]
    omega
set_option maxRecDepth 1000000 in
set_option maxHeartbeats 400000 in
theorem newgrid_int (w : World) (n h : Nat) (fill : Int) (n0 : 1 ≤ n) (n1 : n ≤ 1024) (h0 : 1 ≤ h) (h1 : h ≤ 1024) :
    Calls Try.prog 50 #[.int .i64 n, .int .i64 h, .int .u8 fill] w fun e w' => ∃ (gr capr : Nat) (rs : List Nat), e = .returned (.pointer (some ⟨w.heap.size, 0, none⟩)) ∧ rs.length = h ∧
      GridS w' w.heap.size w.heap.size gr capr n rs (List.replicate h (List.replicate n fill)) ∧ gr < w'.heap.size ∧ Below w.heap.size w w' := by
  obtain ⟨i0, hi, hz0, hz1, hz2⟩ := info_parts info_row
  have a0 : ¬ (n : Int) < 1 := by omega
  have a1 : ¬ (h : Int) < 1 := by omega
  have a2 : ¬ (1024 : Int) < n := by omega
  have a3 : ¬ (1024 : Int) < h := by omega
  go_enter Try.func50, Try.ntmps50
  go_wp2
  go_loopw [25] (fun i wr => ∃ (k : Nat) (v : Value) (rs : List Nat), k ≤ h ∧ i = .int .i64 k ∧ wr.heap[w.heap.size]? = some (.cells #[v] 111 (0, 0)) ∧ rs.length = k ∧
      wr.ownsRow (w.heap.size + 1) 45 1 v k (rs.map (rowV n)) ∧ (∀ r ∈ rs, wr.heap[r]? = some (.cells (List.replicate n (Value.int .u8 fill)).toArray 5 (0, 0)) ∧ w.heap.size < r ∧ some r ≠ v.ownBlock) ∧ rs.Nodup ∧ Below w.heap.size w wr ∧ w.heap.size < wr.heap.size)
    (fun i _ => h - (intOf i).toNat)
  case atStart =>
    refine ⟨0, .slice none 0 0, [], Nat.zero_le _, rfl, heap_alloc_new w _, rfl, World.ownsRow_nil _ _ _ _, (fun r h => by cases h), List.nodup_nil, (Below.refl _ w).alloc (Nat.le_refl _) _, by simp⟩
  case round =>
    obtain ⟨k, v, rs, hk, rfl, hG, hrl, hown, hrs, hnd, hnx, hsz⟩ := hrel
    by_cases hkl : k < h
    · have cG : wr.cell? ⟨w.heap.size, 0, none⟩ = some v := cell_of_one hG
      have fG : wr.frozen? ⟨w.heap.size, 0, none⟩ = false := free_of_one hG
      have neG := World.new_ne wr _ cG
      have hne : some w.heap.size ≠ v.ownBlock := fun e => by have := (hown.lt _ e.symm).1; omega
      obtain ⟨aoV, capV, rfl⟩ := shapeOf hown
      have HRS := hideR hrs
      have HO := hideR hown
      clear hrs hown
      have cG1 : (wr.alloc (.cells #[.int .u8 fill] 5)).drew.cell? ⟨w.heap.size, 0, none⟩ = some (.slice aoV k capV) := past cG _
      have fG1 : (wr.alloc (.cells #[.int .u8 fill] 5)).drew.frozen? ⟨w.heap.size, 0, none⟩ = false := (World.frozen?_alloc_past _ _ _ hsz).trans fG
      have hx1 : (wr.alloc (.cells #[.int .u8 fill] 5)).drew.cell? ⟨wr.heap.size, 0, none⟩ = some (.int .u8 fill) := World.cell?_alloc_at _ _ _ _ rfl
      have hs1 : (wr.alloc (.cells #[.int .u8 fill] 5)).drew.heap.size = wr.heap.size + 1 := World.size_alloc _ _
      have hl1 : wr.heap.size < (wr.alloc (.cells #[.int .u8 fill] 5)).drew.heap.size := by rw [hs1]; omega
      have kR := repeat_int (wr.alloc (.cells #[.int .u8 fill] 5)).drew wr.heap.size 1 fill n (by omega) hl1 hx1
      rw [hs1] at kR
      have HO1 : Hid ((wr.alloc (.cells #[.int .u8 fill] 5)).drew.ownsRow (w.heap.size + 1) 45 1 (.slice aoV k capV) k (rs.map (rowV n))) := (HO.out.alloc _).drew
      have hk63 : k + 1 ≤ maxLen := by simp only [maxLen]; omega
      have hkby : (k + 1) * 24 ≤ 140737488355328 := by omega
      have one1 : ∀ u ∈ [rowV n (wr.heap.size + 1)], u.oneCell' = true := by simp [rowV, Value.oneCell']
      go_wp2_with fail
      go_region_law (first
        | (go_simp; go_at_call 57; refine kR.mono ?_; rintro e w3 ⟨rfl, hG3, hb3⟩; have cG3 := (hb3.cell (p := ⟨w.heap.size, 0, none⟩) (by show w.heap.size < wr.heap.size + 1; omega)).trans cG1; have fG3 := (hb3.frozen (p := ⟨w.heap.size, 0, none⟩) (by show w.heap.size < wr.heap.size + 1; omega)).trans fG1; have ne3 := World.new_ne w3 _ cG3; have ne4 : ¬ w.heap.size = w3.heap.size := fun e => ne3 e.symm; have cG5 := past cG3 (.cells #[.slice (some ⟨wr.heap.size + 1, 0, none⟩) n n] 45); have hs3 := hb3.size; have hO3 := owns_below HO1.out (by rw [hs1]; exact hb3); dsimp only)
        | (refine step_append_lies _ (by rfl) (.tmp 31) (.tmp 36) 27 (by rfl) (w.heap.size + 1) 45 i0 (.slice none 0 0) 1 24 Try.underlying27 hi hz0 hz1 hz2 rfl (by decide) (.slice aoV k capV) k (rs.map (rowV n)) rfl (hO3.alloc _) ⟨w3.heap.size, 0, none⟩ 1 1 [rowV n (wr.heap.size + 1)] rfl rfl (World.news_of_block (heap_alloc_new w3 _)) one1 (by decide) hk63 hkby (by simp only [World.size_alloc]; omega) (w3.heap.size + 1) (by simp) ?_; intro g4 cap4 w4 hown4 hgrow4 hat4 hlt4; have cG4 := hgrow4.cell (past cG3 (.cells #[rowV n (wr.heap.size + 1)] 45)) hne; have fG4 := (hgrow4.frozen_far ⟨w.heap.size, 0, none⟩ (by simp only [World.size_alloc]; omega) hne).trans ((World.frozen?_alloc_past _ _ _ (by omega)).trans fG3)))
      all_goals have hst := grid_step hG HRS.out hnd HO.out hnx hb3 hG3 hown4 hgrow4 hat4
      all_goals have HS := hideR hst
      all_goals clear hst hgrow4 hown4 hO3 hb3
      all_goals go_wp2
      all_goals go_roundw
      all_goals first
        | (show _ < _; simp [intOf]; omega)
        | exact ⟨k + 1, _, rs ++ [wr.heap.size + 1], hkl, by go_num, HS.out.1, by simp [hrl], HS.out.2.1, HS.out.2.2.1, HS.out.2.2.2.1, HS.out.2.2.2.2.1, HS.out.2.2.2.2.2⟩
    · obtain rfl : k = h := by omega
      have hlt0 : 0 < k := by omega
      obtain ⟨gr, capr, rfl, hgr⟩ : ∃ gr capr, v = .slice (some ⟨gr, 0, none⟩) k capr ∧ w.heap.size + 1 ≤ gr := by
        obtain ⟨_, ⟨_, h0⟩ | ⟨g, cap', cur, rfl, hg, _⟩⟩ := hown
        · omega
        · exact ⟨g, cap', rfl, hg⟩
      have hgl := (hown.lt gr rfl).2
      go_wp2_with fail
      go_ret
      refine ⟨gr, capr, rs, rfl, hrl, ⟨by rw [hrl]; exact hG, fun y r hy => ?_, fun y r row hy hrow => ?_, by simp [hrl], hnd, fun r hr => ?_, by omega, Nat.le_refl _, by omega⟩, hgl, hnx⟩
      · have hyk : y < k := by rw [← hrl]; exact (List.getElem?_eq_some_iff.1 hy).1
        rw [hown.cellAt y (by omega), List.getElem?_map, hy]; rfl
      · have hyk : y < k := by rw [← hrl]; exact (List.getElem?_eq_some_iff.1 hy).1
        rw [List.getElem?_replicate, if_pos hyk] at hrow
        obtain rfl := Option.some.inj hrow
        refine ⟨?_, by simp⟩
        rw [(hrs r (List.mem_of_getElem? hy)).1, List.map_replicate]
      · obtain ⟨_, h2, h3⟩ := hrs r hr
        exact ⟨by omega, by omega, fun e => h3 (by rw [e]; rfl)⟩
end Go.Proofs.Ytbfdlfhidebjlaa.Cl
