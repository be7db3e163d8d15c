/- The Go law CellLast: its walk. -/
import Derived.Test.YtcaffmkghllmgaaCellAwake
import Derived.Test.YtcaffmkghllmgaaCellSame
import Derived.Test.YtcaffmkghllmgaaCellRingD
import Derived.Deep.RegionHeld3
namespace Go.Proofs.Ytcaffmkghllmgaa.cellLast
open Go.RowKit Go.Deep Go.Proofs.Ytcaffmkghllmgaa.Cl
set_option linter.unusedVariables false
set_option linter.unusedSimpArgs false

theorem same_self (w : World) (va vb : Value) (xs : List Int) (hx : Lies w 1 va xs.length (xs.map (Value.int .i64))) (hy : Lies w 1 vb xs.length (xs.map (Value.int .i64))) (hs : xs.length ≤ 1000000) :
    Calls Try.prog 13 #[va, vb] w fun e w' => e = .returned (.bool true) ∧ Below w.heap.size w w' := by
  have := same_any w va vb xs xs hx hy hs hs
  rwa [decide_eq_true rfl] at this
theorem putnil (W : World) (x : Int) : Calls Try.prog 16 #[.pointer none, .int .i64 x] W fun e w' => e = .returned (.tuple #[.int .i64 0, .bool false]) ∧ w' = W := by
  go_enter Try.func16, Try.ntmps16
  go_wp2_with fail
  refine (none_int W).mono ?_
  rintro e w' ⟨rfl, rfl⟩
  go_wp2_with fail
  go_ret2
  exact ⟨rfl, rfl⟩
/-- The last so many of the first k things. -/
def lastOf (xs : List Int) (room k : Nat) : List Int := (xs.take k).drop (k - room)
theorem lastOf_length {xs : List Int} {room k : Nat} (h : k ≤ xs.length) : (lastOf xs room k).length = k - (k - room) := by simp [lastOf]; omega
theorem lastOf_lt {xs : List Int} {room k : Nat} (h : k < xs.length) (hr : k < room) : putL room (lastOf xs room k) xs[k] = lastOf xs room (k + 1) ∧ putB room (lastOf xs room k) = false := by
  have hl := lastOf_length (room := room) (Nat.le_of_lt h)
  have hlt : (lastOf xs room k).length < room := by omega
  refine ⟨?_, by simp [putB, hlt]⟩
  rw [putL, if_pos hlt]
  unfold lastOf
  rw [show k - room = 0 from by omega, show k + 1 - room = 0 from by omega, List.drop_zero, List.drop_zero, List.take_succ_eq_append_getElem h]
theorem lastOf_ge {xs : List Int} {room k : Nat} (h : k < xs.length) (h0 : 0 < room) (hr : ¬ k < room) : putL room (lastOf xs room k) xs[k] = lastOf xs room (k + 1) ∧ putB room (lastOf xs room k) = true := by
  have hl := lastOf_length (room := room) (Nat.le_of_lt h)
  have hlt : ¬ (lastOf xs room k).length < room := by omega
  refine ⟨?_, decide_eq_true hlt⟩
  rw [putL, if_neg hlt]
  unfold lastOf
  rw [show k + 1 - room = (k - room) + 1 from by omega, List.take_succ_eq_append_getElem h, ← List.drop_drop, List.drop_append_of_le_length (by simp; omega)]
  rw [List.drop_one]

set_option maxRecDepth 1000000 in
theorem cellLast_zero (v : Value) (xs : List Int) (W : World) (hx : Lies W 1 v xs.length (xs.map (Value.int .i64))) :
    Calls Try.prog 5 #[.int .u8 0, v] W fun e W' => e = .returned (.bool true) ∧ Below W.heap.size W W' := by
  obtain ⟨_, ao, cap, rfl, _, hcs⟩ := hx
  by_cases g1 : (300 : Int) < xs.length
  · go_enter Try.func5, Try.ntmps5
    go_wp2_with fail
    go_ret
    exact ⟨rfl, Below.refl _ _⟩
  go_enter Try.func5, Try.ntmps5
  go_wp2_with fail
  refine (newring_int_nil W 0 (.inl (by decide))).mono ?_
  rintro e w' ⟨rfl, he⟩
  rw [he]
  clear he w'
  go_wp2
  go_loopw [6, 7] (fun gn i wr => ∃ k : Nat, k ≤ xs.length ∧ i = .int .i64 k ∧ gn = .int .i64 0 ∧ wr = W) (fun _ i _ => xs.length - (intOf i).toNat)
  case atStart => exact ⟨0, Nat.zero_le _, rfl, rfl, rfl⟩
  case round =>
    obtain ⟨k, hk, rfl, rfl, rfl⟩ := hrel
    by_cases hkl : k < xs.length
    · obtain ⟨b, off, rfl, hb, hc⟩ := hcs.resolve_left (by omega)
      have c1 : wr.cell? ⟨b, off + k, none⟩ = some (.int .i64 xs[k]) := hc k _ (by simp [hkl])
      go_wp2_with fail
      refine (putnil wr _).mono ?_
      rintro e w' ⟨rfl, he⟩
      rw [he]
      go_wp2
      go_roundw
      case rel => exact ⟨k + 1, hkl, by go_num, rfl, trivial⟩
      case measure => simp [intOf]; omega
    · go_wp2_with fail
      refine (awake_any _).mono ?_
      rintro e w3 ⟨rfl, hb3⟩
      go_wp2_with fail
      go_ret
      exact ⟨rfl, hb3⟩
set_option maxRecDepth 1000000 in
theorem cellLast_pos (room : Nat) (v : Value) (xs : List Int) (W : World) (h0 : 0 < room) (h1 : room ≤ 255) (hx : Lies W 1 v xs.length (xs.map (Value.int .i64))) :
    Calls Try.prog 5 #[.int .u8 room, v] W fun e W' => e = .returned (.bool true) ∧ Below W.heap.size W W' := by
  have HX := hideR hx
  obtain ⟨_, ao, cap, rfl, hcap, hcs⟩ := hx
  by_cases g1 : (300 : Int) < xs.length
  · go_enter Try.func5, Try.ntmps5
    go_wp2_with fail
    go_ret
    exact ⟨rfl, Below.refl _ _⟩
  have hxl : xs.length ≤ 300 := by omega
  have hcv : IntKind.i64.wrap (room : Int) = room := IntWalk.i64_in _ (by omega)
  have hr0 : ¬ (room : Int) = 0 := by omega
  go_enter Try.func5, Try.ntmps5
  go_wp2_with fail
  refine (newring_int W room (by omega) (by omega)).mono ?_
  rintro e w1 ⟨rfl, hr1, hb1, hs1⟩
  have hD1 := RingD.zero hr1
  clear hr1
  generalize hB : W.heap.size + 1 = B at *
  go_wp2
  go_loopw [6, 7] (fun gn i wr => ∃ k : Nat, k ≤ xs.length ∧ i = .int .i64 k ∧ gn = .int .i64 ((k - room : Nat) : Int) ∧ RingD wr B W.heap.size room (lastOf xs room k) ∧ Below W.heap.size W wr) (fun _ i _ => xs.length - (intOf i).toNat)
  case atStart => exact ⟨0, Nat.zero_le _, rfl, by simp, by simpa [lastOf] using hD1, hb1⟩
  case round =>
    obtain ⟨k, hk, rfl, rfl, hD, hnx⟩ := hrel
    by_cases hkl : k < xs.length
    · obtain ⟨b, off, rfl, hb, hc⟩ := hcs.resolve_left (by omega)
      have c1 : wr.cell? ⟨b, off + k, none⟩ = some (.int .i64 xs[k]) := (hnx.cell hb).trans (hc k _ (by simp [hkl]))
      have hput := put_ring wr B W.heap.size room _ hD xs[k]
      by_cases hkr : k < room
      · obtain ⟨e1, e2⟩ := lastOf_lt hkl hkr
        rw [e1, e2] at hput
        have hz : (k + 1 - room : Nat) = k - room := by omega
        clear hcs hc hD1 e1 e2
        go_wp2_with fail
        refine hput.mono ?_
        rintro e w2 ⟨rfl, hD2, ho2⟩
        have hb2 := ho2.below hnx (by omega) (Nat.le_refl _)
        go_wp2
        go_roundw
        case rel => exact ⟨k + 1, hkl, by go_num, by rw [hz], hD2, hb2⟩
        case measure => simp [intOf]; omega
      · obtain ⟨e1, e2⟩ := lastOf_ge hkl h0 hkr
        rw [e1, e2] at hput
        have hz : (k + 1 - room : Nat) = k - room + 1 := by omega
        have hkn : k - room ≤ 300 := by omega
        generalize hkq : k - room = q at *
        clear hcs hc hD1 e1 e2
        go_wp2_with fail
        refine hput.mono ?_
        rintro e w2 ⟨rfl, hD2, ho2⟩
        have hb2 := ho2.below hnx (by omega) (Nat.le_refl _)
        go_wp2
        go_roundw
        case rel => exact ⟨k + 1, hkl, by go_num, by rw [hz]; go_num, hD2, hb2⟩
        case measure => simp [intOf]; omega
    · obtain rfl : k = xs.length := by omega
      clear hD1
      by_cases hxe : xs = []
      · subst hxe
        have hDe : lastOf [] room ([] : List Int).length = [] := by simp [lastOf]
        rw [hDe] at hD
        have hDl : ([] : List Int).length ≤ 1000000 := by simp
        have hneg : (0 : Int) - room < 0 := by omega
        simp only [List.length_nil] at *
        have hz : 0 - room = 0 := by omega
        have HC := hideR hcap
        clear hcs
        go_wp2_with fail
        go_region_held3 (fun _ => True) (trivial) (first | (go_at_call 17; refine (list_ring wr.drew B W.heap.size room _ hD.drew).mono ?_; rintro e w5 ⟨u, rfl, hown5, hb5⟩) | (go_at_call 13; refine (same_self w5 _ (.slice ao 0 cap) [] (Lies.of_owns hown5) ⟨rfl, ao, cap, rfl, HC.out, .inl rfl⟩ hDl).mono ?_; rintro e w6 ⟨rfl, hb6⟩) | (go_at_call 14; refine (awake_any w6).mono ?_; rintro e w7 ⟨rfl, hb7⟩))
        all_goals go_wp2
        all_goals go_ret
        all_goals exact ⟨rfl, ((hnx.drew.trans (hb5.mono hnx.size)).trans (hb6.mono (Nat.le_trans hnx.size hb5.size))).trans (hb7.mono (Nat.le_trans hnx.size (Nat.le_trans hb5.size hb6.size)))⟩
      · have hx0 : 0 < xs.length := List.length_pos_iff.2 hxe
        obtain ⟨b, off, rfl, hb, hc⟩ := hcs.resolve_left (by omega)
        obtain ⟨q, hq⟩ : ∃ q, xs.length - room = q := ⟨_, rfl⟩
        have hDe : lastOf xs room xs.length = xs.drop q := by simp [lastOf, hq]
        rw [hDe] at hD
        have hDl : (xs.drop q).length ≤ 1000000 := by simp; omega
        have hLd : ∀ w5, Below wr.heap.size wr w5 → Lies w5 1 (.slice (some ⟨b, off + q, none⟩) (xs.length - q) (cap - q)) (xs.drop q).length ((xs.drop q).map (Value.int .i64)) := fun w5 h5 =>
          ⟨by simp, _, cap - q, by simp, ⟨by simp; omega, fun h => by cases h⟩, .inr ⟨b, off + q, rfl, by have := h5.size; have := hnx.size; omega, fun i u hu => by
            rw [List.getElem?_map, List.getElem?_drop, ← List.getElem?_map] at hu
            rw [Nat.add_assoc]
            exact (h5.cell (p := ⟨b, off + (q + i), none⟩) (by have := hnx.size; simp; omega)).trans ((hnx.cell (p := ⟨b, off + (q + i), none⟩) hb).trans (hc (q + i) u hu))⟩⟩
        have hqc : ¬ cap = q := by omega
        have hq0 : (0 : Int) ≤ (q : Int) := by omega
        have hq1 : (q : Int) ≤ xs.length := by omega
        have HL := hideR hLd
        clear hcs hc hLd
        by_cases hle : room ≤ xs.length
        · have hq2 : (xs.length : Int) - room = q := by omega
          go_wp2_with fail
          go_region_held3 (fun _ => True) (trivial) (first | (go_at_call 17; refine (list_ring wr.drew B W.heap.size room _ hD.drew).mono ?_; rintro e w5 ⟨u, rfl, hown5, hb5⟩) | (go_at_call 13; refine (same_self w5 _ (.slice (some ⟨b, off + q, none⟩) (xs.length - q) (cap - q)) (xs.drop q) (Lies.of_owns hown5) (HL.out _ (((Below.refl _ wr).drew).trans hb5)) hDl).mono ?_; rintro e w6 ⟨rfl, hb6⟩) | (go_at_call 14; refine (awake_any w6).mono ?_; rintro e w7 ⟨rfl, hb7⟩))
          all_goals go_wp2
          all_goals go_ret
          all_goals exact ⟨rfl, ((hnx.drew.trans (hb5.mono hnx.size)).trans (hb6.mono (Nat.le_trans hnx.size hb5.size))).trans (hb7.mono (Nat.le_trans hnx.size (Nat.le_trans hb5.size hb6.size)))⟩
        · have hneg : (xs.length : Int) - room < 0 := by omega
          obtain rfl : q = 0 := by omega
          go_wp2_with fail
          go_region_held3 (fun _ => True) (trivial) (first | (go_at_call 17; refine (list_ring wr.drew B W.heap.size room _ hD.drew).mono ?_; rintro e w5 ⟨u, rfl, hown5, hb5⟩) | (go_at_call 13; refine (same_self w5 _ (.slice (some ⟨b, off + 0, none⟩) (xs.length - 0) (cap - 0)) (xs.drop 0) (Lies.of_owns hown5) (HL.out _ (((Below.refl _ wr).drew).trans hb5)) hDl).mono ?_; rintro e w6 ⟨rfl, hb6⟩) | (go_at_call 14; refine (awake_any w6).mono ?_; rintro e w7 ⟨rfl, hb7⟩))
          all_goals go_wp2
          all_goals go_ret
          all_goals exact ⟨rfl, ((hnx.drew.trans (hb5.mono hnx.size)).trans (hb6.mono (Nat.le_trans hnx.size hb5.size))).trans (hb7.mono (Nat.le_trans hnx.size (Nat.le_trans hb5.size hb6.size)))⟩
theorem cellLast_walk (r : Int) (v : Value) (xs : List Int) (W : World) (r0 : 0 ≤ r) (r1 : r ≤ 255) (hx : Lies W 1 v xs.length (xs.map (Value.int .i64))) :
    Calls Try.prog 5 #[.int .u8 r, v] W fun e W' => e = .returned (.bool true) ∧ Below W.heap.size W W' := by
  obtain ⟨room, rfl⟩ : ∃ n : Nat, r = n := ⟨r.toNat, by omega⟩
  by_cases h : room = 0
  · subst h; exact cellLast_zero v xs W hx
  · exact cellLast_pos room v xs W (by omega) (by omega) hx
end Go.Proofs.Ytcaffmkghllmgaa.cellLast
