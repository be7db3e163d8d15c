/- Package code: all codes, one by one. -/
import Derived.RangeFuncNested
import Derived.RangeFuncBound
import Derived.RangeFuncCalls
import Derived.RangeFuncLeaves
import Derived.RangeFuncBox
import Derived.Shelf.Abstract
import Derived.Shelf.RegionOpen
import Derived.WalkKit
import Derived.OwnWalkIn
import Derived.TacticsInMore
import Derived.LoopNIn
import Derived.LoopIn
import Derived.Test.YtcchnenjfckbbaaDoorCodeOf
namespace Go.Proofs.YtcchnenjfckbbaaDoor.Co
open Go.RowKit Go.Shelf Go.Deep
attribute [local go_sem] Oper.semAt_some
set_option linter.unusedVariables false
set_option linter.unusedSimpArgs false
theorem grown_of_below {A B : World} (h : Below A.heap.size A B) : A.grownBy B none := ⟨h.os, h.tape, h.output, h.size, fun k hk _ => h.block k hk⟩
theorem drawnBy (W : World) : W.grownBy W.drew none := ⟨rfl, rfl, rfl, Nat.le_refl _, fun _ _ _ => rfl⟩
def encO (x : Nat) : Array Value := #[.int .u8 (x : Int), codeV x]

theorem range_pre (k n : Nat) (h : k < n) : List.range (k + 1) <+: List.range n := by
  obtain ⟨d, rfl⟩ : ∃ d, n = (k + 1) + d := ⟨n - (k + 1), by omega⟩
  exact ⟨_, (List.range_add (n := k + 1) (m := d)).symm⟩
set_option maxRecDepth 100000 in
theorem all_any (F : Fence) (n : Nat) (hF : F.fn 27) (hro : F.round = none) (w : World) :
    CallsIn F n Tryd.prog 27 #[] w fun e w' => e = .returned (.func (.func 33) #[] #[]) ∧ w' = w := by
  refine callsIn_of_wp Tryd.func27 rfl hF ?_ hro
  simp only [Tryd.ntmps27, List.size_toArray, List.length_cons, List.length_nil, Nat.reduceAdd, Nat.reduceSub, Array.replicate_succ, Array.replicate_zero, List.push_toArray, List.append_toArray, List.nil_append, List.cons_append]
  gi_wp2
  go_ret
  exact ⟨rfl, rfl⟩

set_option maxRecDepth 100000 in
set_option maxHeartbeats 1000000 in
theorem all1_any (n : Nat) (hn : 2 ≤ n) (l : Nat) (w0 : World) (hG : Gl w0)
    (J Jx : List Nat → World → Prop)
    (hY : ∀ pre x W, J pre W → pre.length < 256 → YieldAt Fence.wide (n - 1) Tryd.prog l (encO x) W fun e W' =>
      (e = .returned (.bool true) ∧ J (pre ++ [x]) W' ∧ Below w0.heap.size W W') ∨ (e = .returned (.bool false) ∧ Jx (pre ++ [x]) W'))
    (hJ : ∀ s A B, J s A → A.grownBy B none → J s B) (W : World) (hW : Below w0.heap.size w0 W) (h0 : J [] W) :
    CallsIn Fence.wide n Tryd.prog 33 #[.func (.yield l) #[] #[]] W fun e W' => (∃ v, e = .returned v) ∧
      ((∃ ys, ys = List.range 256 ∧ J ys W') ∨ (∃ pre, pre <+: List.range 256 ∧ Jx pre W')) := by
  have k1 := fun (k : Nat) hk W' (h' : Gl W') => (callsIn_wide (n := n - 1)).2 (of_any k hk W' h')
  have hmx : (Tryd.prog).follows .mixedOrders = true := by kernel_rfl
  refine callsIn_of_wp Tryd.func33 rfl trivial ?_ rfl
  simp only [Tryd.ntmps33, List.size_toArray, List.length_cons, List.length_nil, Nat.reduceAdd, Nat.reduceSub, Array.replicate_succ, Array.replicate_zero, List.push_toArray, List.append_toArray, List.nil_append, List.cons_append]
  gi_wp2
  gi_loopw [3] (fun i wr => ∃ k : Nat, k ≤ 256 ∧ i = .int .i64 k ∧ J (List.range k) wr ∧ Below w0.heap.size w0 wr) (fun i _ => 256 - (intOf i).toNat)
  case atStart => exact ⟨0, Nat.zero_le _, rfl, h0, hW⟩
  case round =>
    obtain ⟨k, hk, rfl, hJs, hnx⟩ := hrel
    by_cases hkl : k < 256
    · have hGr : Gl wr := hG.below hnx
      have k2 := k1 k hkl
      have hk0 : (0 : Int) ≤ (k : Int) := by omega
      have hk1 : (k : Int) < 256 := by omega
      have hk8 : IntKind.u8.wrap (k : Int) = (k : Int) := by show (k : Int) % 256 = k; omega
      have kJ := fun W' (hb : Below wr.heap.size wr W') => hY (List.range k) k W' (hJ _ _ _ hJs (grown_of_below hb)) (by simpa using hkl)
      gi_wp2_with fail
      refine ⟨trivial, fun _ => by omega, (k2 _ hGr).mono ?_⟩
      rintro e w6 ⟨rfl, hb6⟩
      obtain ⟨fn, tmps, assign, body, hy, hRd⟩ := kJ _ hb6
      have hnx6 : Below w0.heap.size w0 w6 := hnx.trans (hb6.mono hnx.size)
      have hRd' := hRd.mono (R' := fun e W' => ∃ t, e = .returned (.bool t) ∧ (t = true ∧ J (List.range k ++ [k]) W' ∧ Below w0.heap.size w6 W' ∨ t = false ∧ Jx (List.range k ++ [k]) W')) (fun e W' h => h.elim (fun h => ⟨true, h.1, .inl ⟨rfl, h.2⟩⟩) (fun h => ⟨false, h.1, .inr ⟨rfl, h.2⟩⟩))
      simp only [encO] at hy
      clear kJ k2 k1 hRd
      gi_wp2_with fail
      refine ⟨fun _ => by omega, hRd'.mono ?_⟩
      rintro e W3 ⟨t, rfl, h3⟩
      all_goals rcases h3 with ⟨rfl, hJ3, hk3⟩ | ⟨rfl, hJx3⟩
      all_goals gi_wp2
      · refine ⟨⟨k + 1, hkl, by go_num, by rw [List.range_succ]; exact hJ3, hnx6.trans hk3⟩, ?_⟩
        simp only [intOf]
        omega
      · refine bodyPost_ret (results_none rfl _ _ _) rfl ?_
        refine ⟨⟨_, rfl⟩, .inr ⟨_, ?_, hJx3⟩⟩
        rw [← List.range_succ]
        exact range_pre _ _ hkl
    · obtain rfl : k = 256 := by omega
      gi_wp2
      go_end0
      exact ⟨⟨_, rfl⟩, .inl ⟨_, rfl, hJs⟩⟩
theorem all_stops (n : Nat) (hn : 2 ≤ n) (w0 : World) (hG : Gl w0) (w : World) (hw : Below w0.heap.size w0 w) :
    SeqStopsK Fence.wide n Tryd.prog 33 #[] encO (Below w0.heap.size) (fun ys => ys = List.range 256) (fun pre => pre <+: List.range 256) 256 w := fun l J Jx W hW hJ _ hY h0 =>
  all1_any n hn l w0 hG J Jx hY (fun s A B h hg => hJ s A B none h hg (by simp)) W (hw.trans (hW.mono hw.size)) h0
end Go.Proofs.YtcchnenjfckbbaaDoor.Co
