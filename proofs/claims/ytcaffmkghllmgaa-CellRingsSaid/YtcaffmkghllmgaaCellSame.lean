/- Are two rows alike? -/
import Derived.Test.YtcaffmkghllmgaaCell
namespace Go.Proofs.Ytcaffmkghllmgaa.Cl
open Go.RowKit
set_option linter.unusedVariables false
set_option linter.unusedSimpArgs false
theorem take_step {xs ys : List Int} {k : Nat} (h : xs.take k = ys.take k) (hx : k < xs.length) (hy : k < ys.length) (e : xs[k] = ys[k]) : xs.take (k + 1) = ys.take (k + 1) := by
  rw [List.take_succ_eq_append_getElem hx, List.take_succ_eq_append_getElem hy, h, e]
set_option maxRecDepth 1000000 in
theorem same_any (w : World) (va vb : Value) (xs ys : List Int) (hx : Lies w 1 va xs.length (xs.map (Value.int .i64))) (hy : Lies w 1 vb ys.length (ys.map (Value.int .i64))) (hs : xs.length ≤ 1000000) (hs' : ys.length ≤ 1000000) :
    Calls Try.prog 13 #[va, vb] w fun e w' => e = .returned (.bool (decide (xs = ys))) ∧ Below w.heap.size w w' := by
  obtain ⟨_, ao, cap, rfl, hcap, hcs⟩ := hx
  obtain ⟨_, ao', cap', rfl, hcap', hcs'⟩ := hy
  have HR : Hid (∀ r, r = decide (xs = ys) → r = decide (xs = ys)) := fun _ h => h
  generalize hr : decide (xs = ys) = r at *
  have Hr := hideR hr
  clear hr HR
  by_cases hl : xs.length = ys.length
  · go_enter Try.func13, Try.ntmps13
    go_wp2
    go_loopw [5] (fun i wr => ∃ k : Nat, k ≤ xs.length ∧ i = .int .i64 k ∧ xs.take k = ys.take k ∧ Below w.heap.size w wr) (fun i _ => xs.length - (intOf i).toNat)
    case atStart => exact ⟨0, Nat.zero_le _, rfl, rfl, Below.refl _ _⟩
    case round =>
      obtain ⟨k, hk, rfl, ht, hnx⟩ := hrel
      by_cases hkl : k < xs.length
      · obtain ⟨b, off, rfl, hb, hc⟩ := hcs.resolve_left (by omega)
        obtain ⟨b', off', rfl, hb', hc'⟩ := hcs'.resolve_left (by omega)
        have hkl' : k < ys.length := by omega
        have hcx : wr.cell? ⟨b, off + k, none⟩ = some (.int .i64 xs[k]) := (hnx.cell hb).trans (hc k _ (by simp [hkl]))
        have hcy : wr.cell? ⟨b', off' + k, none⟩ = some (.int .i64 ys[k]) := (hnx.cell hb').trans (hc' k _ (by simp [hkl']))
        have hk0 : (0 : Int) ≤ (k : Int) := by omega
        have hk1 : (k : Int) < xs.length := by omega
        have hk2 : (k : Int) < ys.length := by omega
        have hts := fun e => take_step ht hkl hkl' e
        have hts' := hideR hts
        have hne := fun (e : ¬ xs[k] = ys[k]) => show ¬ xs = ys from fun h => e (by subst h; rfl)
        have hne' := hideR hne
        generalize xs[k] = X at *
        generalize ys[k] = Y at *
        clear hc hc' hcs hcs' hts hne
        by_cases hXY : X = Y
        · go_wp2_with fail
          go_region
          all_goals go_wp2
          all_goals go_roundw
          case rel => exact ⟨k + 1, hkl, by go_num, hts'.out hXY, hnx.drew⟩
          case measure => simp [intOf]; omega
        · have hd : r = false := Hr.out.symm.trans (decide_eq_false (hne'.out hXY))
          subst hd
          go_wp2_with fail
          go_region
          all_goals go_wp2
          all_goals go_ret
          exact ⟨rfl, hnx.drew⟩
      · obtain rfl : k = xs.length := by omega
        rw [List.take_length, hl, List.take_length] at ht
        have hd : r = true := Hr.out.symm.trans (decide_eq_true ht)
        subst hd
        go_wp2_with fail
        go_ret
        exact ⟨rfl, hnx⟩
  · have hd : r = false := Hr.out.symm.trans (decide_eq_false fun h => hl (by rw [h]))
    subst hd
    go_enter Try.func13, Try.ntmps13
    go_wp2_with fail
    go_ret
    exact ⟨rfl, Below.refl _ _⟩
end Go.Proofs.Ytcaffmkghllmgaa.Cl
