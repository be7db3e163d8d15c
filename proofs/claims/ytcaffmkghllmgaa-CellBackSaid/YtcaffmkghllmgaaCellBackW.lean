/- The Go law CellBack: its walk. -/
import Derived.Test.YtcaffmkghllmgaaCellAwake
import Derived.Test.YtcaffmkghllmgaaCellSame
import Derived.BigQuiet
namespace Go.Proofs.Ytcaffmkghllmgaa.cellBack
open Go.RowKit Go.Deep Go.Proofs.Ytcaffmkghllmgaa.Cl
set_option linter.unusedVariables false
set_option linter.unusedSimpArgs false
theorem below_drewN {B : Nat} {a w : World} (h : Below B a w) (n : Nat) : Below B a (w.drewN n) := ⟨h.os, h.tape, h.output, h.size, h.block⟩
set_option maxRecDepth 1000000 in
theorem cellBack_walk (v : Value) (xs : List Int) (m : Int) (W : World) (hx : Lies W 1 v xs.length (xs.map (Value.int .i64))) (m0 : -9223372036854775808 ≤ m) (m1 : m ≤ 9223372036854775807) :
    Calls Try.prog 4 #[v, .int .i64 m] W fun e W' => e = .returned (.bool true) ∧ Below W.heap.size W W' := by
  have hx0 := hx
  obtain ⟨_, ao, cap, rfl, hcap, hcs⟩ := hx
  clear hcs
  by_cases hlen : (300 : Int) < xs.length
  · clear hx0
    go_enter Try.func4, Try.ntmps4
    go_wp2_with fail
    go_ret
    exact ⟨rfl, Below.refl _ _⟩
  have hlen' : xs.length ≤ 300 := by omega
  have hX := hideR hx0
  clear hx0
  go_enter Try.func4, Try.ntmps4
  go_wp2_with fail
  refine (pack_int W _ xs hX.out (by omega)).mono ?_
  rintro e w1 ⟨p, rfl, hown1, hb1⟩
  obtain ⟨R, hR, hap, hpos, htot, hpl, hup⟩ : ∃ R, R = pack xs ∧ (∀ i (h : i + 1 < R.length), (R[i]).1 ≠ (R[i + 1]).1) ∧ (∀ p ∈ R, 1 ≤ p.2) ∧ total R = xs.length ∧ R.length ≤ xs.length ∧ unp m [] R = (if xs ≠ [] ∧ m < xs.length then ([], 13) else (xs, 0)) :=
    ⟨pack xs, rfl, pack_apart xs, pack_pos xs, total_pack xs, pack_length xs, unp_pack m xs⟩
  rw [← hR] at hown1
  clear hR
  have hL1 := Lies.of_owns hown1
  obtain ⟨ao1, cap1, rfl⟩ := shapeOf hown1
  have HL1 := hideR hL1
  have HP := hideR hpos
  have HA := hideR hap
  have HT := hideR htot
  have HU := hideR hup
  obtain ⟨_, _, _, hv, hc1, hcs1⟩ := hL1
  simp only [Value.slice.injEq, true_and] at hv
  obtain ⟨rfl, rfl⟩ := hv
  clear hown1 hpos hap htot hup
  go_wp2
  go_loopw [6] (fun i wr => ∃ k : Nat, 1 ≤ k ∧ k ≤ 1000 ∧ i = .int .i64 k ∧ Below w1.heap.size w1 wr) (fun i _ => R.length - (intOf i).toNat)
  case atStart => exact ⟨1, by decide, by decide, rfl, Below.refl _ _⟩
  case round =>
    obtain ⟨k, hk0, hk1, rfl, hnx⟩ := hrel
    by_cases hkl : k < R.length
    · obtain ⟨k, rfl⟩ : ∃ j, k = j + 1 := ⟨k - 1, by omega⟩
      obtain ⟨b, off, rfl, hb, hc⟩ := hcs1.resolve_left (by omega)
      have h1 := rcs_at .i64 R (k + 1) hkl
      have h2 := rcs_at .i64 R k (by omega)
      have c1 : wr.cell? ⟨b, off + (k + 1) * 2, none⟩ = some (.int .i64 R[k + 1].1) := (hnx.cell hb).trans (hc _ _ h1.1)
      have c2 : wr.cell? ⟨b, off + (k + 1) * 2 + 1, none⟩ = some (.int .i64 R[k + 1].2) := (hnx.cell hb).trans (hc ((k + 1) * 2 + 1) _ h1.2)
      have c3 : wr.cell? ⟨b, off + k * 2, none⟩ = some (.int .i64 R[k].1) := (hnx.cell hb).trans (hc _ _ h2.1)
      have ha := HA.out k hkl
      have hp1 := HP.out _ (List.getElem_mem hkl)
      have hk2 : (0 : Int) ≤ (k : Int) := by omega
      have hk3 : (k : Int) < R.length := by omega
      have hk4 : (k : Int) + 1 < R.length := by omega
      have hw : IntKind.i64.wrap (k : Int) = k := IntWalk.i64_in _ (by omega)
      clear h1 h2 hc hcs1
      generalize R[k + 1].1 = X1 at *
      generalize R[k + 1].2 = C1 at *
      generalize R[k].1 = X0 at *
      have hk5 : (0 : Int) ≤ (k : Int) + 1 := by omega
      have hd1 : (X1 == X0) = false := beq_false_of_ne fun e => ha e.symm
      have hd2 : decide (C1 < 1) = false := decide_eq_false (by omega)
      go_wp2_with fail
      go_quiet (fail)
      all_goals go_wp2
      all_goals go_roundw
      case rel => exact ⟨k + 1 + 1, by omega, by omega, by go_num, below_drewN hnx _⟩
      case measure => simp [intOf]; omega
    · clear hcs1 hc1 HA
      have hb1r := hb1.trans (hnx.mono hb1.size)
      go_wp2_with fail
      refine (unpack_int wr _ R m (HL1.out.below hnx) (by omega) m0 m1 (.inr ⟨HP.out, by rw [HT.out]; omega⟩)).mono ?_
      rintro e w2 ⟨u, rfl, hown2, hb2⟩
      have hb20 := hb1r.trans (hb2.mono hb1r.size)
      have hU := HU.out
      by_cases hcase : xs ≠ [] ∧ m < xs.length
      · rw [if_pos hcase] at hU
        rw [hU] at hown2 ⊢
        obtain ⟨ao2, cap2, rfl⟩ := shapeOf hown2
        have hx1 : (0 : Int) < xs.length := by have := List.length_pos_iff.2 hcase.1; omega
        have hx2 := hcase.2
        clear hown2 hU HU hcase
        go_wp2_with fail
        refine (awake_any _).mono ?_
        rintro e w3 ⟨rfl, hb3⟩
        go_wp2_with fail
        go_ret
        exact ⟨rfl, hb20.trans (hb3.mono hb20.size)⟩
      · rw [if_neg hcase] at hU
        rw [hU] at hown2 ⊢
        have hL2 := Lies.of_owns hown2
        obtain ⟨ao2, cap2, rfl⟩ := shapeOf hown2
        have hor : (xs.length : Int) = 0 ∨ (xs.length : Int) ≤ m := by
          by_cases h : xs = []
          · left; subst h; rfl
          · right
            have : ¬ m < xs.length := fun hm => hcase ⟨h, hm⟩
            omega
        have hs2 := (same_any w2 _ _ xs xs hL2 ((hX.out.below hb1r).below hb2) (by omega) (by omega))
        rw [decide_eq_true rfl] at hs2
        clear hown2 hU HU hcase hL2
        by_cases hz : xs.length = 0
        · obtain rfl : R = [] := List.eq_nil_of_length_eq_zero (by omega)
          obtain rfl : xs = [] := List.eq_nil_of_length_eq_zero hz
          go_wp2_with fail
          refine hs2.mono ?_
          rintro e w3 ⟨rfl, hb3⟩
          have hb30 := hb20.trans (hb3.mono hb20.size)
          go_wp2_with fail
          refine (awake_any _).mono ?_
          rintro e w4 ⟨rfl, hb4⟩
          go_wp2_with fail
          go_ret
          exact ⟨rfl, hb30.trans (hb4.mono hb30.size)⟩
        · have hz0 : (0 : Int) < xs.length := by omega
          have hz1 : ¬ m < (xs.length : Int) := by omega
          have hz2 : (R.length : Int) ≤ xs.length := by omega
          clear hor
          go_wp2_with fail
          refine hs2.mono ?_
          rintro e w3 ⟨rfl, hb3⟩
          have hb30 := hb20.trans (hb3.mono hb20.size)
          go_wp2_with fail
          refine (awake_any _).mono ?_
          rintro e w4 ⟨rfl, hb4⟩
          go_wp2_with fail
          go_ret
          exact ⟨rfl, hb30.trans (hb4.mono hb30.size)⟩
end Go.Proofs.Ytcaffmkghllmgaa.cellBack
