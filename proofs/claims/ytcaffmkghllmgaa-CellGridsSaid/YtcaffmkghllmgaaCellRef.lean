/- The reference's Pack: the runs of a row. -/
import Derived.Test.YtcaffmkghllmgaaCellPk
import Derived.BigQuiet
namespace Go.Proofs.Ytcaffmkghllmgaa.Cl
open Go.RowKit
set_option linter.unusedVariables false
set_option linter.unusedSimpArgs false
theorem step_head (R : List Rn) (x : Int) : ∃ c t, step R x = (x, c) :: t := by
  cases R with
  | nil => exact ⟨_, _, rfl⟩
  | cons q t =>
    obtain ⟨y, c⟩ := q
    rw [step_cons]
    split
    · rename_i h; subst h; exact ⟨_, _, rfl⟩
    · exact ⟨_, _, rfl⟩
theorem packR_head (xs : List Int) (k : Nat) (h : k < xs.length) : ∃ c t, packR (xs.take (k + 1)) = (xs[k], c) :: t := by
  rw [packR_take xs k h]; exact step_head _ _
theorem below_drewN {B : Nat} {a w : World} (h : Below B a w) (n : Nat) : Below B a (w.drewN n) := ⟨h.os, h.tape, h.output, h.size, h.block⟩
theorem runInfo_ref : (Try.prog.info? 29).map (fun i => (i.zero, i.size, i.bytes)) = some (some (.agg #[.int .i64 0, .int .i64 0]), 2, 16) := by kernel_rfl
set_option maxRecDepth 1000000 in
theorem pack_ref (w : World) (v : Value) (xs : List Int) (hx : Lies w 1 v xs.length (xs.map (Value.int .i64))) (hs : xs.length ≤ 1000000) :
    Calls Try.prog 10 #[v] w fun e w' => ∃ r, e = .returned r ∧ w'.ownsRow w.heap.size 29 2 r (pack xs).length (rcs .i64 (pack xs)) ∧ Below w.heap.size w w' := by
  obtain ⟨i0, hi, hz0, hz1, hz2⟩ := info_parts runInfo_ref
  obtain ⟨_, ao, cap, rfl, hcap, hcs⟩ := hx
  go_enter Try.func10, Try.ntmps10
  go_wp2
  go_loopw [3, 4] (fun v i wr => ∃ k : Nat, k ≤ xs.length ∧ i = .int .i64 k ∧ wr.ownsRow w.heap.size 29 2 v (packR (xs.take k)).length (rcs .i64 (packR (xs.take k)).reverse) ∧ Below w.heap.size w wr ∧ (packR (xs.take k) = [] → v = .slice none 0 0))
    (fun _ i _ => xs.length - (intOf i).toNat)
  case atStart => exact ⟨0, Nat.zero_le _, rfl, World.ownsRow_nil _ _ _ _, Below.refl _ _, fun _ => rfl⟩
  case round =>
    obtain ⟨k, hk, rfl, hown, hnx, hnil⟩ := hrel
    by_cases hkl : k < xs.length
    · obtain ⟨b, off, rfl, hb, hc⟩ := hcs.resolve_left (by omega)
      have hcx : wr.cell? ⟨b, off + k, none⟩ = some (.int .i64 xs[k]) := (hnx.cell hb).trans (hc k _ (by simp [hkl]))
      have hsz := hnx.size
      have hbr : b < wr.heap.size := by omega
      have hlr := packR_length (xs.take k)
      have hpk := packR_take xs k hkl
      cases k with
      | zero =>
        simp only [List.take_zero] at hown hnil hpk
        have hp0 : packR [] = [] := rfl
        rw [hp0] at hown hnil hpk
        obtain rfl := hnil rfl
        clear hnil hlr hp0
        generalize xs[0] = X at *
        have e0 : ((0 : Nat) : Int) = 0 := rfl
        simp only [e0, Nat.add_zero] at hcx ⊢
        go_wp2_with fail
        go_quiet (fail)
        go_wp2_with (at_builtin; refine wpList_append_lies _ rfl _ _ 23 rfl w.heap.size 29 i0 (.agg #[.int .i64 0, .int .i64 0]) 2 16 Try.underlying23 hi hz0 hz1 hz2 rfl (by decide) _ _ _ rfl (hown.drew.alloc _) ⟨wr.heap.size, 0, none⟩ 1 1 [.int .i64 X, .int .i64 1] rfl rfl (World.news_of_block (heap_alloc_new _ _)) (by simp [Value.oneCell']) (by decide) (by decide) (by decide) (by simp only [World.size_alloc]; exact Nat.le_succ_of_le hsz) (wr.heap.size + 1) (by simp) ?_)
        intro g cap' w1 hown1 hgrow1 hat1 hlt1
        obtain rfl : g = wr.heap.size + 1 := by rcases hat1 with h | h; cases h; exact h
        have hb1 := ((below_drewN hnx nq).alloc hsz (.cells #[.int .i64 X, .int .i64 1] 29)).grown hgrow1 (by simp; exact Nat.le_succ_of_le hsz) (fun k hk => by cases hk)
        clear hgrow1 hcx hcs
        go_wp2
        go_roundw
        case rel => exact ⟨0 + 1, hkl, by go_num, by rw [hpk]; exact hown1, hb1, fun h => by rw [hpk] at h; cases h⟩
        case measure => simp [intOf]; omega
      | succ j =>
        obtain ⟨c, t, hR⟩ := packR_head xs j (by omega)
        have hcy : wr.cell? ⟨b, off + j, none⟩ = some (.int .i64 xs[j]) := (hnx.cell hb).trans (hc j _ (by rw [List.getElem?_map, List.getElem?_eq_getElem (by omega)]; rfl))
        have hcn : c ≤ (xs.take (j + 1)).length := packR_count (xs.take (j + 1)) (xs[j], c) (by rw [hR]; exact List.mem_cons_self)
        have hc1 : 1 ≤ c := packR_pos (xs.take (j + 1)) (xs[j], c) (by rw [hR]; exact List.mem_cons_self)
        have hcn' : c ≤ 1000000 := by simp only [List.length_take] at hcn; omega
        have htl : t.length < 1000000 := by rw [hR] at hlr; simp at hlr; omega
        rw [hR] at hown hnil hpk
        clear hnil hlr hR
        generalize xs[j] = y at *
        generalize xs[j + 1] = X at *
        have hown' := hown
        rw [List.reverse_cons, rcs_snoc] at hown'
        obtain ⟨g, cap', rfl, hg⟩ := formOf hown'
        have hC : (rcs .i64 t.reverse).length = t.length * 2 := by rw [rcs_length]; simp
        obtain ⟨hA, hB, hF⟩ := lastCells hC hown'
        have hj0 : (0 : Int) ≤ (j : Int) := by omega
        have hj1 : (j : Int) < xs.length := by omega
        have hj2 : (0 : Int) < (j : Int) + 1 := by omega
        have hj3 : (0 : Int) ≤ (j : Int) + 1 := by omega
        have hj4 : (j : Int) + 1 < xs.length := by omega
        have hw : IntKind.i64.wrap (j : Int) = j := IntWalk.i64_in _ (by omega)
        by_cases hxy : X = y
        · rw [step_cons, if_pos hxy] at hpk
          have hb1 : (X == y) = true := by rw [hxy]; simp
          clear hcs hc hown
          go_wp2_with fail
          go_quiet (fail)
          go_wp2
          go_roundw
          case rel => exact ⟨j + 1 + 1, hkl, by go_num, by rw [hpk, List.reverse_cons, rcs_snoc]; exact lastStored (w := wr.drewN nq) hC hown' (.int .i64 (c + 1)), (below_drewN hnx nq).setCell hg _, fun h => by rw [hpk] at h; cases h⟩
          case measure => simp [intOf]; omega
        · rw [step_cons, if_neg hxy] at hpk
          have hb1 : (X == y) = false := beq_false_of_ne hxy
          clear hcs hc
          go_wp2_with fail
          go_quiet (fail)
          go_wp2_with (at_builtin; refine wpList_append_lies _ rfl _ _ 23 rfl w.heap.size 29 i0 (.agg #[.int .i64 0, .int .i64 0]) 2 16 Try.underlying23 hi hz0 hz1 hz2 rfl (by decide) _ _ _ rfl (hown.drew.alloc _) ⟨wr.heap.size, 0, none⟩ 1 1 [.int .i64 X, .int .i64 1] rfl rfl (World.news_of_block (heap_alloc_new _ _)) (by simp [Value.oneCell']) (by decide) (by simp only [List.length_cons, List.length_reverse, List.length_append, maxLen]; omega) (by simp only [List.length_cons]; omega) (by simp only [World.size_alloc]; exact Nat.le_succ_of_le hsz) (wr.heap.size + 1) (by simp) ?_)
          intro g' cap'' w1 hown1 hgrow1 hat1 hlt1
          have hg' : w.heap.size ≤ g' := by rcases hat1 with h | h; cases h; exact hg; omega
          have hb1 := ((below_drewN hnx nq).alloc hsz (.cells #[.int .i64 X, .int .i64 1] 29)).grown hgrow1 (by simp; exact Nat.le_succ_of_le hsz) (fun k hk => by cases hk; exact hg)
          clear hgrow1 hcx
          go_wp2
          go_roundw
          case rel => exact ⟨j + 1 + 1, hkl, by go_num, by rw [hpk, List.reverse_cons, rcs_snoc, List.reverse_cons]; exact hown1, hb1, fun h => by rw [hpk] at h; cases h⟩
          case measure => simp [intOf]; omega
    · obtain rfl : k = xs.length := by omega
      rw [List.take_length] at hown
      go_wp2_with fail
      go_ret
      exact ⟨_, rfl, by simpa [pack] using hown, hnx⟩
end Go.Proofs.Ytcaffmkghllmgaa.Cl
