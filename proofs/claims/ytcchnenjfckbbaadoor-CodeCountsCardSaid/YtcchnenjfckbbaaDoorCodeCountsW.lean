/- Package code: CodeCounts, walked. -/
import Derived.Test.YtcchnenjfckbbaaDoorCodeAwake
import Derived.Test.YtcchnenjfckbbaaDoorCodeCnt
namespace Go.Proofs.YtcchnenjfckbbaaDoor.Co
open Go.RowKit Go.Maps Go.Deep Go.Proofs.Tryd
set_option linter.unusedVariables false
set_option linter.unusedSimpArgs false
set_option maxRecDepth 100000 in
set_option maxHeartbeats 2000000 in
theorem counts_any (a : Nat) (ha : a < 256) (w : World) (hG : Gl w) : Calls Tryd.prog 6 #[.int .u8 (a : Int)] w fun e w' => e = .returned (.bool true) ∧ Below w.heap.size w w' := by
  go_enter Tryd.func6, Tryd.ntmps6
  go_wp2_with fail
  go_loopw [3, 4, 5] (fun x y i wr => ∃ k : Nat, k ≤ 256 ∧ i = .int .i64 (k : Int) ∧ x = .int .i64 (cntK k : Nat) ∧ y = .int .i64 (cntJ k : Nat) ∧ Below w.heap.size w wr) (fun _ _ i _ => 256 - (intOf i).toNat)
  case atStart => exact ⟨0, Nat.zero_le _, rfl, rfl, rfl, Below.refl _ _⟩
  case round =>
    obtain ⟨k, hk, rfl, rfl, rfl, hB⟩ := hrel
    have hGr := hG.below hB
    have hz := hB.size
    by_cases hkl : k < 256
    · have k0 := of_any k hkl wr hGr
      unfold codeV at k0
      have hK := cntK_succ k
      have hJ := cntJ_succ k
      have hKl := cntK_le k
      have hJl := cntJ_le k
      have hk8 : IntKind.u8.wrap (k : Int) = (k : Int) := by show (k : Int) % 256 = k; omega
      have hk1 : IntKind.i64.wrap ((k : Int) + 1) = (k : Int) + 1 := IntWalk.i64_in _ (by omega)
      have hk2 : IntKind.i64.wrap ((cntK k : Int) + 1) = (cntK k : Int) + 1 := IntWalk.i64_in _ (by omega)
      have hk3 : IntKind.i64.wrap ((cntJ k : Int) + 1) = (cntJ k : Int) + 1 := IntWalk.i64_in _ (by omega)
      have hkI : (k : Int) < 256 := by omega
      have HK := Lib.hid hK
      have HJ := Lib.hid hJ
      have K0 := Lib.hid k0
      clear hK hJ k0 hKl hJl
      generalize nameO k = nm at *
      generalize modeO k = md at *
      generalize kindC k = kd at *
      generalize knownC k = kn at *
      cases kn <;> cases hj : (kd == 12)
      all_goals
        rw [hj] at HJ
        go_wp2_with fail
        refine K0.out.mono ?_
        rintro e w1 ⟨rfl, hb1⟩
        have hB1 : Below w.heap.size w w1 := hB.trans (hb1.mono hz)
        go_wp2_with fail
        exact ⟨⟨k + 1, hkl, by go_num, by rw [HK.out]; simp, by rw [HJ.out]; simp, hB1.alloc hB1.size _⟩, by simp only [intOf]; omega⟩
    · obtain rfl : k = 256 := by omega
      have c1 : ((cntK 256 : Nat) : Int) = 151 := by rw [cnts.1]; rfl
      have c2 : ((cntJ 256 : Nat) : Int) = 12 := by rw [cnts.2]; rfl
      rw [c1, c2]
      clear c1 c2
      have kN := names_any wr hGr
      rw [compact_eq] at kN
      obtain ⟨hL, hinc, hany⟩ := L76_facts
      rw [hL] at kN
      have KN := Lib.hid kN
      clear kN
      go_wp2_with fail
      refine KN.out.mono ?_
      rintro e w1 ⟨g, cap, rfl, hgl, hb1, hcell⟩
      have hB1 : Below w.heap.size w w1 := hB.trans (hb1.mono hz)
      have hcl : ∀ i, i < 76 → w1.cell? ⟨g, i, none⟩ = some (.string ⟨(L76.getD i []).toArray⟩) := fun i hi => by
        have hi' : i < L76.length := by omega
        refine hcell i _ ?_
        rw [List.getD_eq_getElem?_getD, List.getElem?_eq_getElem hi']; rfl
      clear hcell KN
      go_wp2_with fail
      go_loopw [8] (fun i wq => ∃ k : Nat, 1 ≤ k ∧ k ≤ 76 ∧ i = .int .i64 (k : Int) ∧ ∃ q, wq = w1.drewN q) (fun i _ => 76 - (intOf i).toNat)
      case atStart => exact ⟨1, by decide, by decide, rfl, 0, rfl⟩
      case round =>
        obtain ⟨j, hj1, hj2, rfl, q, rfl⟩ := hrel
        by_cases hjl : j < 76
        · have e1 : IntKind.i64.wrap ((j : Int) - 1) = (j : Int) - 1 := IntWalk.i64_in _ (by omega)
          have e2 : IntKind.i64.wrap ((j : Int) + 1) = (j : Int) + 1 := IntWalk.i64_in _ (by omega)
          have d0 := hcl j hjl
          have d1 := hcl (j - 1) (by omega)
          have hjI : (j : Int) < 76 := by omega
          have hj0 : (0 : Int) ≤ (j : Int) - 1 := by omega
          have hd := L76_less (j - 1) (by omega)
          rw [show j - 1 + 1 = j by omega] at hd
          have e3 : ((j : Int) - 1).toNat = j - 1 := by omega
          generalize L76.getD j [] = A at *
          generalize L76.getD (j - 1) [] = B at *
          clear hcl hinc hany
          have hmx : (Tryd.prog).follows .mixedOrders = true := by kernel_rfl
          go_wp2_with fail
          go_region
          all_goals go_wp2_with fail
          all_goals exact ⟨⟨j + 1, by omega, hjl, by go_num, q + 1, rfl⟩, by simp only [intOf]; omega⟩
        · obtain rfl : j = 76 := by omega
          obtain ⟨r, hr⟩ : ∃ r : Nat, a % 76 = r := ⟨_, rfl⟩
          have hrl : r < 76 := by omega
          have hrI : (a : Int) % 76 = (r : Int) := by omega
          have ha0 : (0 : Int) ≤ (a : Int) := by omega
          have hai : IntKind.i64.wrap (a : Int) = (a : Int) := IntWalk.i64_in _ (by omega)
          have hr0 : (0 : Int) ≤ (r : Int) := by omega
          have hr1 : (r : Int) < 76 := by omega
          have d := hcl r hrl
          have hl := hany r hrl
          have dq : (w1.drewN q).cell? ⟨g, r, none⟩ = some (.string ⟨(L76.getD r []).toArray⟩) := d
          obtain ⟨sA, hsA⟩ : ∃ sA : ByteArray, (⟨(L76.getD r []).toArray⟩ : ByteArray) = sA := ⟨_, rfl⟩
          have hAl : L76.getD r [] = sA.toList := by rw [ByteArray.toList_eq, ← hsA]
          rw [hsA] at dq
          rw [hAl] at hl
          have hl' : (List.range 256).any (fun o => (nameO o).toList == sA.toList) = true := by
            rw [← hl]; congr 1; funext o; unfold nmL; rw [ByteArray.toList_eq (nameO o)]
          have HL := Lib.hid hl'
          clear hl hr hcl hinc hany hL d hsA hAl hl'
          have hB2 : Below w.heap.size w (w1.drewN q) := ⟨hB1.os, hB1.tape, hB1.output, hB1.size, hB1.block⟩
          generalize w1.drewN q = w2 at *
          simp only [show ((76 : Nat) : Int) = 76 from rfl]
          go_wp2_with fail
          clear hrI
          go_loopw [10, 11] (fun b i wr => ∃ k : Nat, k ≤ 256 ∧ i = .int .i64 (k : Int) ∧ b = .bool ((List.range k).any fun o => (nameO o).toList == sA.toList) ∧ Below w.heap.size w wr) (fun _ i _ => 256 - (intOf i).toNat)
          case atStart => exact ⟨0, Nat.zero_le _, rfl, rfl, hB2⟩
          case round =>
            obtain ⟨k, hk, rfl, rfl, hB⟩ := hrel
            have hGq := hG.below hB
            have hz := hB.size
            by_cases hkl : k < 256
            · have k0 := of_any k hkl wr hGq
              unfold codeV at k0
              have hN : ((List.range (k + 1)).any fun o => (nameO o).toList == sA.toList) = (((List.range k).any fun o => (nameO o).toList == sA.toList) || ((nameO k).toList == sA.toList)) := by
                rw [List.range_succ, List.any_append]; simp
              have hk8 : IntKind.u8.wrap (k : Int) = (k : Int) := by show (k : Int) % 256 = k; omega
              have hk1 : IntKind.i64.wrap ((k : Int) + 1) = (k : Int) + 1 := IntWalk.i64_in _ (by omega)
              have hkI : (k : Int) < 256 := by omega
              have hfd := fun w => field_nm2 (nameO k) (modeO k) (kindC k) (knownC k) w
              generalize ((List.range k).any fun o => (nameO o).toList == sA.toList) = fb at *
              generalize nameO k = nm at *
              generalize modeO k = md at *
              generalize kindC k = kd at *
              generalize knownC k = kn at *
              have HN := Lib.hid hN
              have K0 := Lib.hid k0
              clear hN k0 HL
              cases fb with
              | true =>
                go_wp2_with fail
                exact ⟨⟨k + 1, hkl, by go_num, by rw [HN.out]; rfl, hB⟩, by simp only [intOf]; omega⟩
              | false =>
                go_wp2_with fail
                refine K0.out.mono ?_
                rintro e w3 ⟨rfl, hb3⟩
                have hB3 : Below w.heap.size w w3 := hB.trans (hb3.mono hz)
                go_wp2_with fail
                exact ⟨⟨k + 1, hkl, by go_num, by rw [HN.out]; simp, hB3⟩, by simp only [intOf]; omega⟩
            · obtain rfl : k = 256 := by omega
              rw [HL.out]
              have ka := awake_any wr hGq
              have KA := Lib.hid ka
              clear ka HL
              go_wp2_with fail
              refine KA.out.mono ?_
              rintro e w3 ⟨rfl, hb3⟩
              go_wp2_with fail
              go_ret
              exact ⟨rfl, hB.trans (hb3.mono hz)⟩
end Go.Proofs.YtcchnenjfckbbaaDoor.Co
