/- Package cell: all things of a ring of whole numbers, the eldest first: the iterator, and the list that is gathered of it. -/
import Derived.RangeFuncNested
import Derived.RangeFuncBound
import Derived.RangeFuncCalls
import Derived.RangeFuncLeaves
import Derived.RangeFuncBox
import Derived.Shelf.Abstract
import Derived.Shelf.RegionOpen
import Derived.WalkKit
import Derived.OwnWalkIn
import Derived.TacticsInMore
import Derived.LoopNIn
import Derived.LoopIn
import Derived.Maps.AppendAt
import Derived.Test.YtcaffmkghllmgaaCellRing
import Derived.Test.YtcaffmkghllmgaaCellRp
namespace Go.Proofs.Ytcaffmkghllmgaa.Cl
open Go.RowKit Go.Shelf Go.Deep
attribute [local go_sem] Oper.semAt_some
set_option linter.unusedVariables false
set_option linter.unusedSimpArgs false

/-- What a round keeps: whatever lay below n₀, and the iterator's own box. -/
def KpB (n₀ Bn : Nat) (v : Value) (A B : World) : Prop := Below n₀ A B ∧ (A.cell? ⟨Bn, 0, none⟩ = some v → B.cell? ⟨Bn, 0, none⟩ = some v)
theorem KpB.t {n₀ Bn : Nat} {v : Value} {A B C : World} (h : KpB n₀ Bn v A B) (k : KpB n₀ Bn v B C) : KpB n₀ Bn v A C := ⟨h.1.trans k.1, fun e => k.2 (h.2 e)⟩
theorem KpB.b {n₀ Bn : Nat} {v : Value} {w : World} (hn : n₀ ≤ w.heap.size) (W : World) (l : Nat) (o o' : Obj) (hl : w.heap.size ≤ l) (h : W.heap[l]? = some o) (hc : o.isCells = false) (hw : o.isWalk = false) : KpB n₀ Bn v W (W.putObj l o') :=
  ⟨belowK_b hn W l o o' hl h hc hw, fun e => cell_kept e (grownBy_putObj' W l o') (fun r hr => by cases hr; exact ⟨o, h, hc⟩)⟩
theorem drawnBy (W : World) : W.grownBy W.drew none := ⟨rfl, rfl, rfl, Nat.le_refl _, fun _ _ _ => rfl⟩

set_option maxRecDepth 100000 in
theorem all_int (F : Fence) (n : Nat) (hF : F.fn 34) (hro : F.round = none) (p0 : Option Addr) (w : World) :
    CallsIn F n Try.prog 34 #[.pointer p0] w fun e w' => e = .returned (.func (.func 40) #[] #[.pointer (some ⟨w.heap.size, 0, none⟩)]) ∧ w' = w.alloc (.cells #[.pointer p0] 39) := by
  refine callsIn_of_wp Try.func34 rfl hF ?_ hro
  simp only [Try.ntmps34, List.size_toArray, List.length_cons, List.length_nil, Nat.reduceAdd, Nat.reduceSub, Array.replicate_succ, Array.replicate_zero, List.push_toArray, List.append_toArray, List.nil_append, List.cons_append]
  gi_wp2
  go_ret
  exact ⟨rfl, rfl⟩

set_option maxRecDepth 100000 in
set_option maxHeartbeats 400000 in
theorem all1_int (n : Nat) (hn : 2 ≤ n) (l Bn n₀ b g room first m : Nat) (cs : List Value) (vs : List Int) (hlen : vs.length = m) (hvs : ∀ i x, vs[i]? = some x → cs[(first + i) % room]? = some (.int .i64 x)) (hb : b < n₀) (hg : g < n₀)
    (J Jx : List Int → World → Prop)
    (hY : ∀ pre x W, J pre W → pre.length < m → YieldAt Fence.wide (n - 1) Try.prog l #[.int .i64 x] W fun e W' =>
      (e = .returned (.bool true) ∧ J (pre ++ [x]) W' ∧ KpB n₀ Bn (.pointer (some ⟨b, 0, none⟩)) W W') ∨ (e = .returned (.bool false) ∧ Jx (pre ++ [x]) W'))
    (hJ : ∀ s W, J s W → J s W.drew) (W : World) (hBn : W.cell? ⟨Bn, 0, none⟩ = some (.pointer (some ⟨b, 0, none⟩))) (hR : RingS 77 3 W b g room first m cs) (h0 : J [] W) :
    CallsIn Fence.wide n Try.prog 40 #[.func (.yield l) #[] #[], .pointer (some ⟨Bn, 0, none⟩)] W fun e W' => (∃ v, e = .returned v) ∧
      ((∃ ys, ys = vs ∧ J ys W') ∨ (∃ pre, pre <+: vs ∧ Jx pre W')) := by
  have k1 := fun W' (h' : RingS 77 3 W' b g room first m cs) => (callsIn_wide (n := n - 1)).2 (len_int W' b g room first m cs h')
  have k2 := fun W' (h' : RingS 77 3 W' b g room first m cs) i hi => (callsIn_wide (n := n - 1)).2 (place_int W' b g room first m cs h' i hi)
  have hm := hR.most
  have hmn := hR.n
  have hf := hR.first
  refine callsIn_of_wp Try.func40 rfl trivial ?_ rfl
  simp only [Try.ntmps40, List.size_toArray, List.length_cons, List.length_nil, Nat.reduceAdd, Nat.reduceSub, Array.replicate_succ, Array.replicate_zero, List.push_toArray, List.append_toArray, List.nil_append, List.cons_append]
  gi_wp2_with fail
  refine ⟨trivial, fun _ => by omega, (k1 _ hR).mono ?_⟩
  rintro e w' ⟨rfl, he⟩
  rw [he]
  clear he
  gi_wp2
  gi_loopw [6] (fun i wr => ∃ k : Nat, k ≤ m ∧ i = .int .i64 k ∧ J (vs.take k) wr ∧ Below n₀ W wr ∧ wr.cell? ⟨Bn, 0, none⟩ = some (.pointer (some ⟨b, 0, none⟩))) (fun i _ => m - (intOf i).toNat)
  case atStart => exact ⟨0, Nat.zero_le _, rfl, h0, Below.refl _ _, hBn⟩
  case round =>
    obtain ⟨k, hk, rfl, hJs, hnx, hbx⟩ := hrel
    by_cases hkl : k < m
    · have hRr : RingS 77 3 wr b g room first m cs := hR.moved (hnx.block b hb) (hnx.block g hg)
      have hkv : k < vs.length := by omega
      obtain ⟨fn, tmps, assign, body, hy, hRd⟩ := hY (vs.take k) vs[k] wr.drew.drew (hJ _ _ (hJ _ _ hJs)) (by simp; omega)
      have hp : (first + k) % room < room := Nat.mod_lt _ (by omega)
      have hcg : wr.cell? ⟨g, (first + k) % room, none⟩ = some (.int .i64 vs[k]) := by
        rw [cell_of_row wr g _ _ _ _ hRr.hg, List.getElem?_toArray]; exact hvs k _ (List.getElem?_eq_getElem hkv)
      have k3 := k2 _ hRr.drew k (by omega)
      have c0 := hRr.c0
      generalize hP : (first + k) % room = P at *
      have hP0 : (0 : Int) ≤ (P : Int) := by omega
      have hP1 : (P : Int) < room := by omega
      have hmx : (Try.prog).follows .mixedOrders = true := by kernel_rfl
      gi_wp2_with fail
      have hRd' := hRd.mono (R' := fun e W' => ∃ t, e = .returned (.bool t) ∧ (t = true ∧ J (vs.take k ++ [vs[k]]) W' ∧ KpB n₀ Bn (.pointer (some ⟨b, 0, none⟩)) wr.drew.drew W' ∨ t = false ∧ Jx (vs.take k ++ [vs[k]]) W')) (fun e W' h => by
        rcases h with ⟨rfl, h⟩ | ⟨rfl, h⟩
        · exact ⟨true, rfl, .inl ⟨rfl, h⟩⟩
        · exact ⟨false, rfl, .inr ⟨rfl, h⟩⟩)
      gi_region_with_o (first | (refine ⟨trivial, fun _ => by omega, k3.mono ?_⟩; rintro e w' ⟨rfl, rfl⟩) | (refine ⟨fun _ => by omega, hRd'.mono ?_⟩; rintro e W3 ⟨t, rfl, h3⟩))
      all_goals rcases h3 with ⟨rfl, hJ3, hk3⟩ | ⟨rfl, hJx3⟩
      all_goals gi_wp2
      all_goals first
        | (refine bodyPost_ret (results_none rfl _ _ _) rfl ?_
           exact ⟨⟨_, rfl⟩, .inr ⟨_, by rw [← List.take_succ_eq_append_getElem hkv]; exact List.take_prefix _ _, hJx3⟩⟩)
        | (go_roundw
           case rel => exact ⟨k + 1, hkl, by go_num, by rw [List.take_succ_eq_append_getElem hkv]; exact hJ3, hnx.drew.drew.trans hk3.1, hk3.2 hbx⟩
           case measure => simp [intOf]; omega)
    · obtain rfl : k = m := by omega
      gi_wp2
      go_end0
      exact ⟨⟨_, rfl⟩, .inl ⟨_, rfl, by rw [List.take_of_length_le (by omega)] at hJs; exact hJs⟩⟩
end Go.Proofs.Ytcaffmkghllmgaa.Cl
