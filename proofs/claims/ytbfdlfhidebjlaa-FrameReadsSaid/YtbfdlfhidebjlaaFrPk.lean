/- Package cell: the runs of a row. -/
import Derived.Test.YtbfdlfhidebjlaaCell
import Derived.Deep.AppendLies
namespace Go.Proofs.Ytbfdlfhidebjlaa.Cl
open Go.RowKit
set_option linter.unusedVariables false
set_option linter.unusedSimpArgs false

theorem rcs_length (k : IntKind) (L : List Rn) : (rcs k L).length = L.length * 2 := by
  induction L with
  | nil => rfl
  | cons p t ih => simp only [rcs, List.flatMap_cons, List.length_append, List.length_cons, List.length_nil] at ih ⊢; omega
theorem rcs_snoc (k : IntKind) (L : List Rn) (y c : Int) : rcs k (L ++ [(y, c)]) = rcs k L ++ [.int k y, .int .i64 c] := by simp [rcs]
theorem lastCells {w : World} {base e g m cap : Nat} {C : List Value} {a b : Value} (hC : C.length = m * 2) (h : w.ownsRow base e 2 (.slice (some ⟨g, 0, none⟩) (m + 1) cap) (m + 1) (C ++ [a, b])) :
    w.cell? ⟨g, m * 2, none⟩ = some a ∧ w.cell? ⟨g, m * 2 + 1, none⟩ = some b ∧ w.frozen? ⟨g, m * 2 + 1, none⟩ = false := by
  refine ⟨?_, ?_, h.frozenAt _⟩
  · rw [h.cellAt _ (by omega), List.getElem?_append_right (by omega), hC]; simp
  · rw [h.cellAt _ (by omega), List.getElem?_append_right (by omega), hC, show m * 2 + 1 - m * 2 = 1 from by omega]; rfl
theorem lastStored {w : World} {base e g m cap : Nat} {C : List Value} {a b : Value} (hC : C.length = m * 2) (h : w.ownsRow base e 2 (.slice (some ⟨g, 0, none⟩) (m + 1) cap) (m + 1) (C ++ [a, b])) (u : Value) :
    (w.setCell ⟨g, m * 2 + 1, none⟩ u).ownsRow base e 2 (.slice (some ⟨g, 0, none⟩) (m + 1) cap) (m + 1) (C ++ [a, u]) := by
  have := (h.stored (m * 2 + 1) u).1
  rwa [List.set_append_right _ _ (by omega), hC, show m * 2 + 1 - m * 2 = 1 from by omega] at this
theorem formOf {w : World} {base e size m : Nat} {v : Value} {C : List Value} (h : w.ownsRow base e size v (m + 1) C) : ∃ g cap, v = .slice (some ⟨g, 0, none⟩) (m + 1) cap ∧ base ≤ g := by
  obtain ⟨_, ⟨_, h0⟩ | ⟨g, cap', cur, rfl, hg, _⟩⟩ := h
  · omega
  · exact ⟨g, cap', rfl, hg⟩
theorem runInfo_byte : (Try.prog.info? 91).map (fun i => (i.zero, i.size, i.bytes)) = some (some (.agg #[.int .u8 0, .int .i64 0]), 2, 16) := by kernel_rfl
set_option maxRecDepth 1000000 in
set_option maxRecDepth 1000000 in
theorem pack_byte (w : World) (v : Value) (xs : List Int) (hx : Lies w 1 v xs.length (xs.map (Value.int .u8))) (hs : xs.length ≤ 1000000) :
    Calls Try.prog 41 #[v] w fun e w' => ∃ r, e = .returned r ∧ w'.ownsRow w.heap.size 91 2 r (pack xs).length (rcs .u8 (pack xs)) ∧ Below w.heap.size w w' := by
  obtain ⟨i0, hi, hz0, hz1, hz2⟩ := info_parts runInfo_byte
  obtain ⟨_, ao, cap, rfl, hcap, hcs⟩ := hx
  go_enter Try.func41, Try.ntmps41
  go_wp2
  go_loopw [3, 9] (fun v i wr => ∃ k : Nat, k ≤ xs.length ∧ i = .int .i64 k ∧ wr.ownsRow w.heap.size 91 2 v (packR (xs.take k)).length (rcs .u8 (packR (xs.take k)).reverse) ∧ Below w.heap.size w wr ∧ (packR (xs.take k) = [] → v = .slice none 0 0))
    (fun _ i _ => xs.length - (intOf i).toNat)
  case atStart => exact ⟨0, Nat.zero_le _, rfl, World.ownsRow_nil _ _ _ _, Below.refl _ _, fun _ => rfl⟩
  case round =>
    obtain ⟨k, hk, rfl, hown, hnx, hnil⟩ := hrel
    by_cases hkl : k < xs.length
    · obtain ⟨b, off, rfl, hb, hc⟩ := hcs.resolve_left (by omega)
      have hcx : wr.cell? ⟨b, off + k, none⟩ = some (.int .u8 xs[k]) := (hnx.cell hb).trans (hc k _ (by simp [hkl]))
      have hsz := hnx.size
      have hlr := packR_length (xs.take k)
      have hpk := packR_take xs k hkl
      cases hR : packR (xs.take k) with
      | nil =>
        rw [hR] at hown hnil hpk
        obtain rfl := hnil rfl
        clear hnil
        go_wp2_with (at_builtin; refine wpList_append_lies _ rfl _ _ 88 rfl w.heap.size 91 i0 (.agg #[.int .u8 0, .int .i64 0]) 2 16 Try.underlying88 hi hz0 hz1 hz2 rfl (by decide) _ _ _ rfl (hown.alloc _) ⟨wr.heap.size, 0, none⟩ 1 1 [.int .u8 xs[k], .int .i64 1] rfl rfl (World.news_of_block (heap_alloc_new wr _)) (by simp [Value.oneCell']) (by decide) (by decide) (by decide) (by simp; omega) (wr.heap.size + 1) (by simp) ?_)
        intro g cap' w1 hown1 hgrow1 hat1 hlt1
        obtain rfl : g = wr.heap.size + 1 := by rcases hat1 with h | h; cases h; exact h
        have hb1 := (hnx.alloc hsz (.cells #[.int .u8 xs[k], .int .i64 1] 91)).grown hgrow1 (by simp; omega) (fun k hk => by cases hk)
        clear hgrow1 hcx hcs
        go_wp2
        go_roundw
        case rel => exact ⟨k + 1, hkl, by go_num, by rw [hpk]; exact hown1, hb1, fun h => by rw [hpk] at h; cases h⟩
        case measure => simp [intOf]; omega
      | cons q t =>
        obtain ⟨y, c⟩ := q
        have hcn : c ≤ (xs.take k).length := packR_count (xs.take k) (y, c) (by rw [hR]; exact List.mem_cons_self)
        have hc1 : 1 ≤ c := packR_pos (xs.take k) (y, c) (by rw [hR]; exact List.mem_cons_self)
        have hcn' : c ≤ 1000000 := by simp only [List.length_take] at hcn; omega
        have htl : t.length < 1000000 := by rw [hR] at hlr; simp at hlr; omega
        rw [hR] at hown hnil hpk
        clear hnil hlr
        have hown' := hown
        rw [List.reverse_cons, rcs_snoc] at hown'
        obtain ⟨g, cap', rfl, hg⟩ := formOf hown'
        have hC : (rcs .u8 t.reverse).length = t.length * 2 := by rw [rcs_length]; simp
        obtain ⟨hA, hB, hF⟩ := lastCells hC hown'
        by_cases hxy : xs[k] = y
        · rw [step_cons, if_pos hxy] at hpk
          have hst := lastStored hC hown' (.int .i64 (c + 1))
          have hb1 : Below w.heap.size w (wr.setCell ⟨g, t.length * 2 + 1, none⟩ (.int .i64 (c + 1))) := hnx.setCell hg _
          clear hcs hown hown'
          go_wp2
          go_roundw
          case rel => exact ⟨k + 1, hkl, by go_num, by rw [hpk, List.reverse_cons, rcs_snoc]; exact hst, hb1, fun h => by rw [hpk] at h; cases h⟩
          case measure => simp [intOf]; omega
        · rw [step_cons, if_neg hxy] at hpk
          have hyx : ¬ y = xs[k] := fun h => hxy h.symm
          go_wp2_with (at_builtin; refine wpList_append_lies _ rfl _ _ 88 rfl w.heap.size 91 i0 (.agg #[.int .u8 0, .int .i64 0]) 2 16 Try.underlying88 hi hz0 hz1 hz2 rfl (by decide) _ _ _ rfl (hown.alloc _) ⟨wr.heap.size, 0, none⟩ 1 1 [.int .u8 xs[k], .int .i64 1] rfl rfl (World.news_of_block (heap_alloc_new wr _)) (by simp [Value.oneCell']) (by decide) (by simp only [List.length_cons, List.length_reverse, List.length_append, maxLen]; omega) (by simp only [List.length_cons]; omega) (by simp; omega) (wr.heap.size + 1) (by simp) ?_)
          intro g' cap'' w1 hown1 hgrow1 hat1 hlt1
          have hg' : w.heap.size ≤ g' := by rcases hat1 with h | h; cases h; exact hg; omega
          have hb1 := (hnx.alloc hsz (.cells #[.int .u8 xs[k], .int .i64 1] 91)).grown hgrow1 (by simp; omega) (fun k hk => by cases hk; exact hg)
          clear hgrow1 hcx hcs
          go_wp2
          go_roundw
          case rel => exact ⟨k + 1, hkl, by go_num, by rw [hpk, List.reverse_cons, rcs_snoc, List.reverse_cons]; exact hown1, hb1, fun h => by rw [hpk] at h; cases h⟩
          case measure => simp [intOf]; omega
    · obtain rfl : k = xs.length := by omega
      rw [List.take_length] at hown
      go_wp2_with fail
      go_ret
      exact ⟨_, rfl, by simpa [pack] using hown, hnx⟩
end Go.Proofs.Ytbfdlfhidebjlaa.Cl
