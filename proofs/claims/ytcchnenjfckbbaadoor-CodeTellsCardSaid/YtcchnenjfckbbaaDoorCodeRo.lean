/- Package code: the reference's lines, kind, Of, Length, Cycles. -/
import Derived.Test.YtcchnenjfckbbaaDoorCodeRw
namespace Go.Proofs.YtcchnenjfckbbaaDoor.Co
open Go.RowKit Go.Maps Go.Deep Go.Proofs.Tryd
set_option linter.unusedVariables false
set_option linter.unusedSimpArgs false
set_option maxRecDepth 100000 in
set_option maxHeartbeats 1000000 in
theorem lines_any (r : Nat) (hr : r < 16) (w : World) : Calls Tryd.prog 23 #[.int .i64 (r : Int)] w fun e w' => e = .returned (.string (linesB r)) ∧ w = w' := by
  have h : r = 0 ∨ r = 1 ∨ r = 2 ∨ r = 3 ∨ r = 4 ∨ r = 5 ∨ r = 6 ∨ r = 7 ∨ r = 8 ∨ r = 9 ∨ r = 10 ∨ r = 11 ∨ r = 12 ∨ r = 13 ∨ r = 14 ∨ r = 15 := by omega
  clear hr
  rcases h with rfl | rfl | rfl | rfl | rfl | rfl | rfl | rfl | rfl | rfl | rfl | rfl | rfl | rfl | rfl | rfl
  all_goals
    go_enter Tryd.func23, Tryd.ntmps23
    go_wp2_with fail
    go_ret
    exact ⟨by kernel_rfl, rfl⟩
theorem wordG_len (sg : UInt8) : ∀ (l : List UInt8) (n : Int), (wordG sg l n).length ≤ l.length
  | [], _ => Nat.le_refl _
  | b :: t, n => by
    unfold wordG
    split
    · exact Nat.le_trans (wordG_len sg t _) (Nat.le_succ _)
    · split
      · exact Nat.succ_le_succ (wordG_len sg t _)
      · exact Nat.le_trans (wordG_len sg t _) (Nat.le_succ _)
theorem placeG_in (l w : List UInt8) : ∀ (f n : Nat), -1 ≤ placeG l w n f ∧ placeG l w n f ≤ n + f
  | 0, n => by unfold placeG; omega
  | f + 1, n => by
    unfold placeG
    have := placeG_in l w f (n + 1)
    split
    · omega
    · split
      · omega
      · omega
theorem placeF_in (l w : List UInt8) : -1 ≤ placeF l w ∧ placeF l w ≤ 40 := by
  have := placeG_in l w 40 0
  unfold placeF; omega
theorem bl (x : ByteArray) : x.toList = x.data.toList := ByteArray.toList_eq x
theorem b_eq {x : ByteArray} {l : List UInt8} (h : x.data.toList = l) : (x.toList == l) = true := by rw [bl, h]; exact beq_iff_eq.2 rfl
theorem b_ne {x : ByteArray} {l : List UInt8} (h : ¬ x.data.toList = l) : (x.toList == l) = false := by rw [bl]; exact beq_false_of_ne h
set_option maxRecDepth 100000 in
set_option maxHeartbeats 2000000 in
theorem kind_any (x y : ByteArray) (w : World) : Calls Tryd.prog 25 #[.string x, .string y] w fun e w' => e = .returned (.int .i64 (kindR x.data.toList y.data.toList)) ∧ w = w' := by
  have k1 := fun w => place_any ⟨turnB.toArray⟩ x (by decide) w
  have k2 := fun w => place_any ⟨storeB.toArray⟩ x (by decide) w
  have k3 := fun w => place_any ⟨jumpB.toArray⟩ x (by decide) w
  rw [show (⟨turnB.toArray⟩ : ByteArray).data.toList = turnB from rfl] at k1
  rw [show (⟨storeB.toArray⟩ : ByteArray).data.toList = storeB from rfl] at k2
  rw [show (⟨jumpB.toArray⟩ : ByteArray).data.toList = jumpB from rfl] at k3
  have i3 := placeF_in jumpB x.data.toList
  have hk : kindR x.data.toList y.data.toList = _ := rfl
  unfold kindR at hk ⊢
  clear hk
  generalize placeF turnB x.data.toList = p1 at *
  generalize placeF storeB x.data.toList = p2 at *
  generalize placeF jumpB x.data.toList = p3 at *
  have hw3 : IntKind.i64.wrap (7 + p3) = 7 + p3 := IntWalk.i64_in _ (by omega)
  have K1 := Lib.hid k1
  have K2 := Lib.hid k2
  have K3 := Lib.hid k3
  clear k1 k2 k3 i3
  by_cases h1 : 0 ≤ p1
  · rw [if_pos h1]
    go_enter Tryd.func25, Tryd.ntmps25
    go_wp2_with fail
    refine (K1.out _).mono ?_
    rintro e w' ⟨rfl, rfl⟩
    go_wp2_with fail
    go_ret
    exact ⟨rfl, rfl⟩
  rw [if_neg h1]
  by_cases h2 : 0 ≤ p2
  · rw [if_pos h2]
    go_enter Tryd.func25, Tryd.ntmps25
    go_wp2_with fail
    refine (K1.out _).mono ?_
    rintro e w' ⟨rfl, rfl⟩
    go_wp2_with fail
    refine (K2.out _).mono ?_
    rintro e w' ⟨rfl, rfl⟩
    go_wp2_with fail
    go_ret
    exact ⟨rfl, rfl⟩
  rw [if_neg h2]
  by_cases h3 : y.data.toList = [114, 101, 108]
  · rw [if_pos h3]
    have th3 : (y.toList == [114, 101, 108]) = true := b_eq h3
    clear h3
    go_enter Tryd.func25, Tryd.ntmps25
    go_wp2_with fail
    refine (K1.out _).mono ?_
    rintro e w' ⟨rfl, rfl⟩
    go_wp2_with fail
    refine (K2.out _).mono ?_
    rintro e w' ⟨rfl, rfl⟩
    go_wp2_with fail
    go_ret
    exact ⟨rfl, rfl⟩
  have th3 : (y.toList == [114, 101, 108]) = false := b_ne h3
  rw [if_neg h3]
  clear h3
  by_cases h4 : x.data.toList = [80, 72, 65]
  · rw [if_pos (.inl h4)]
    have th4 : (x.toList == [80, 72, 65]) = true := b_eq h4
    clear h4
    go_enter Tryd.func25, Tryd.ntmps25
    go_wp2_with fail
    refine (K1.out _).mono ?_
    rintro e w' ⟨rfl, rfl⟩
    go_wp2_with fail
    refine (K2.out _).mono ?_
    rintro e w' ⟨rfl, rfl⟩
    go_wp2_with fail
    go_ret
    exact ⟨rfl, rfl⟩
  have th4 : (x.toList == [80, 72, 65]) = false := b_ne h4
  by_cases h5 : x.data.toList = [80, 72, 80]
  · rw [if_pos (.inr h5)]
    have th5 : (x.toList == [80, 72, 80]) = true := b_eq h5
    clear h5
    go_enter Tryd.func25, Tryd.ntmps25
    go_wp2_with fail
    refine (K1.out _).mono ?_
    rintro e w' ⟨rfl, rfl⟩
    go_wp2_with fail
    refine (K2.out _).mono ?_
    rintro e w' ⟨rfl, rfl⟩
    go_wp2_with fail
    go_ret
    exact ⟨rfl, rfl⟩
  have th5 : (x.toList == [80, 72, 80]) = false := b_ne h5
  rw [if_neg (fun h => h.elim h4 h5)]
  clear h4 h5
  by_cases h6 : x.data.toList = [80, 76, 65]
  · rw [if_pos (.inl h6)]
    have th6 : (x.toList == [80, 76, 65]) = true := b_eq h6
    clear h6
    go_enter Tryd.func25, Tryd.ntmps25
    go_wp2_with fail
    refine (K1.out _).mono ?_
    rintro e w' ⟨rfl, rfl⟩
    go_wp2_with fail
    refine (K2.out _).mono ?_
    rintro e w' ⟨rfl, rfl⟩
    go_wp2_with fail
    go_ret
    exact ⟨rfl, rfl⟩
  have th6 : (x.toList == [80, 76, 65]) = false := b_ne h6
  by_cases h7 : x.data.toList = [80, 76, 80]
  · rw [if_pos (.inr h7)]
    have th7 : (x.toList == [80, 76, 80]) = true := b_eq h7
    clear h7
    go_enter Tryd.func25, Tryd.ntmps25
    go_wp2_with fail
    refine (K1.out _).mono ?_
    rintro e w' ⟨rfl, rfl⟩
    go_wp2_with fail
    refine (K2.out _).mono ?_
    rintro e w' ⟨rfl, rfl⟩
    go_wp2_with fail
    go_ret
    exact ⟨rfl, rfl⟩
  have th7 : (x.toList == [80, 76, 80]) = false := b_ne h7
  rw [if_neg (fun h => h.elim h6 h7)]
  clear h6 h7
  by_cases h8 : 0 ≤ p3
  · rw [if_pos h8]
    go_enter Tryd.func25, Tryd.ntmps25
    go_wp2_with fail
    refine (K1.out _).mono ?_
    rintro e w' ⟨rfl, rfl⟩
    go_wp2_with fail
    refine (K2.out _).mono ?_
    rintro e w' ⟨rfl, rfl⟩
    go_wp2_with fail
    refine (K3.out _).mono ?_
    rintro e w' ⟨rfl, rfl⟩
    go_wp2_with fail
    go_ret
    exact ⟨rfl, rfl⟩
  rw [if_neg h8]
  by_cases h9 : y.data.toList = [105, 109, 112]
  · rw [if_pos h9]
    have th9 : (y.toList == [105, 109, 112]) = true := b_eq h9
    clear h9
    go_enter Tryd.func25, Tryd.ntmps25
    go_wp2_with fail
    refine (K1.out _).mono ?_
    rintro e w' ⟨rfl, rfl⟩
    go_wp2_with fail
    refine (K2.out _).mono ?_
    rintro e w' ⟨rfl, rfl⟩
    go_wp2_with fail
    refine (K3.out _).mono ?_
    rintro e w' ⟨rfl, rfl⟩
    go_wp2_with fail
    go_ret
    exact ⟨rfl, rfl⟩
  have th9 : (y.toList == [105, 109, 112]) = false := b_ne h9
  rw [if_neg h9]
  clear h9
  go_enter Tryd.func25, Tryd.ntmps25
  go_wp2_with fail
  refine (K1.out _).mono ?_
  rintro e w' ⟨rfl, rfl⟩
  go_wp2_with fail
  refine (K2.out _).mono ?_
  rintro e w' ⟨rfl, rfl⟩
  go_wp2_with fail
  refine (K3.out _).mono ?_
  rintro e w' ⟨rfl, rfl⟩
  go_wp2_with fail
  go_ret
  exact ⟨rfl, rfl⟩
end Go.Proofs.YtcchnenjfckbbaaDoor.Co
