/- Package code: the reference's Find. -/
import Derived.Test.YtcchnenjfckbbaaDoorCodeRof
import Derived.Test.YtcchnenjfckbbaaDoorCodeFind
namespace Go.Proofs.YtcchnenjfckbbaaDoor.Co
open Go.RowKit Go.Maps Go.Deep Go.Proofs.Tryd
set_option linter.unusedVariables false
set_option linter.unusedSimpArgs false
/-- What is found among a list's codes; -1: nothing. -/
def fR (s : ByteArray) (md : Int) (l : List Nat) : Int := match (sure s md l).or (fst s md l) with
  | some x => (x : Int)
  | none => -1
theorem fR_cases (s : ByteArray) (md : Int) (l : List Nat) : (fR s md l = -1 ∧ sure s md l = none ∧ fst s md l = none) ∨ ∃ y, y ∈ l ∧ fR s md l = (y : Int) ∧ ((sure s md l = some y ∧ knownC y = true) ∨ (sure s md l = none ∧ fst s md l = some y ∧ knownC y = false)) := by
  unfold fR
  cases h1 : sure s md l with
  | some y =>
    have h := List.find?_some h1
    simp only [Bool.and_eq_true] at h
    exact .inr ⟨y, List.mem_of_find?_eq_some h1, rfl, .inl ⟨rfl, h.2⟩⟩
  | none =>
    cases h2 : fst s md l with
    | none => exact .inl ⟨rfl, rfl, rfl⟩
    | some y =>
      have hy := List.mem_of_find?_eq_some h2
      have hh := List.find?_some h2
      have hn := List.find?_eq_none.1 h1 y hy
      have hk : knownC y = false := by
        cases hk : knownC y with
        | false => rfl
        | true => rw [hh, hk] at hn; exact absurd rfl hn
      exact .inr ⟨y, hy, rfl, .inr ⟨rfl, rfl, hk⟩⟩
theorem fR_miss (s : ByteArray) (md : Int) (l : List Nat) (x : Nat) (h : hit s md x = false) : fR s md (x :: l) = fR s md l := by
  unfold fR sure fst; simp [List.find?_cons, h]
theorem fR_known (s : ByteArray) (md : Int) (l : List Nat) (x : Nat) (h : hit s md x = true) (hk : knownC x = true) : fR s md (x :: l) = (x : Int) := by
  unfold fR sure fst; simp [List.find?_cons, h, hk]
theorem fR_none (s : ByteArray) (md : Int) (l : List Nat) (x : Nat) (h : hit s md x = true) (hn : fR s md l = -1) : fR s md (x :: l) = (x : Int) := by
  rcases fR_cases s md l with ⟨_, h1, h2⟩ | ⟨y, _, e, _⟩
  · cases hk : knownC x with
    | true => exact fR_known s md l x h hk
    | false =>
      unfold sure at h1
      unfold fR sure fst
      rw [List.find?_cons, h, hk]
      simp only [Bool.and_false]
      rw [h1, List.find?_cons, h]; rfl
  · omega
theorem fR_keep (s : ByteArray) (md : Int) (l : List Nat) (x y : Nat) (h : hit s md x = true) (hk : knownC x = false) (hy : fR s md l = (y : Int)) : fR s md (x :: l) = if knownC y then (y : Int) else (x : Int) := by
  rcases fR_cases s md l with ⟨e, _⟩ | ⟨z, _, e, h1 | h1⟩
  · omega
  · obtain rfl : z = y := by omega
    have h2 := h1.1
    unfold sure at h2
    unfold fR sure fst
    rw [List.find?_cons, h, hk]
    simp only [Bool.and_false]
    rw [h2, h1.2]; rfl
  · obtain rfl : z = y := by omega
    have h2 := h1.1
    unfold sure at h2
    unfold fR sure fst
    rw [List.find?_cons, h, hk]
    simp only [Bool.and_false]
    rw [h2, h1.2.2, List.find?_cons, h]; rfl
theorem field_rk (nm : ByteArray) (md kd : Int) (kn : Bool) (w : World) : (Instr.field 28 (.agg #[.string nm, .int .i64 md, .int .i64 kd, .bool kn]) 3).run Tryd.prog w = .ok (.bool kn) w := by kernel_rfl
set_option maxRecDepth 100000 in
set_option maxHeartbeats 2000000 in
theorem rfind_any (s : ByteArray) (md : Int) (w : World) :
    Calls Tryd.prog 15 #[.string s, .int .i64 md] w fun e w' => e = .returned (.int .i64 (fR s md (List.range 256))) ∧ Below w.heap.size w w' := by
  have hfd := field_rk
  go_enter Tryd.func15, Tryd.ntmps15
  go_wp2_with fail
  go_loopw [5, 6] (fun a i wr => ∃ k : Nat, k ≤ 256 ∧ i = .int .i64 ((k : Int) - 1) ∧ a = .int .i64 (fR s md (List.range' k (256 - k))) ∧ Below w.heap.size w wr) (fun _ i _ => ((intOf i) + 1).toNat)
  case atStart => exact ⟨256, Nat.le_refl _, rfl, rfl, Below.refl _ _⟩
  case round =>
    obtain ⟨k, hk, rfl, rfl, hB⟩ := hrel
    cases k with
    | zero =>
      go_wp2_with fail
      go_ret
      exact ⟨by rw [List.range_eq_range']; rfl, hB⟩
    | succ k =>
      have hk' : k < 256 := hk
      have hkk : ((k + 1 : Nat) : Int) - 1 = (k : Int) := by omega
      rw [hkk]
      have hl : List.range' k (256 - k) = k :: List.range' (k + 1) (256 - (k + 1)) := by
        rw [show 256 - k = (256 - (k + 1)) + 1 by omega, List.range'_succ]
      have hcs := fR_cases s md (List.range' (k + 1) (256 - (k + 1)))
      have hmis := fR_miss s md (List.range' (k + 1) (256 - (k + 1))) k
      have hkno := fR_known s md (List.range' (k + 1) (256 - (k + 1))) k
      have hnon := fR_none s md (List.range' (k + 1) (256 - (k + 1))) k
      have hkee := fun y => fR_keep s md (List.range' (k + 1) (256 - (k + 1))) k y
      rw [← hl] at hmis hkno hnon hkee
      have hmem : ∀ y, y ∈ List.range' (k + 1) (256 - (k + 1)) → y < 256 := fun y hy => by have := List.mem_range'_1.1 hy; omega
      clear hl
      generalize fR s md (List.range' (k + 1) (256 - (k + 1))) = out at *
      generalize hgn : fR s md (List.range' k (256 - k)) = nxt at *
      have HGN := Lib.hid hgn
      clear hgn
      have hz := hB.size
      have k0 := ref_any k hk' wr
      unfold refV at k0
      have K0 := Lib.hid k0
      clear k0
      have w1 : IntKind.i64.wrap ((k : Int) - 1) = (k : Int) - 1 := IntWalk.i64_in _ (by omega)
      have k0' : (0 : Int) ≤ (k : Int) := by omega
      have hit_eq : hit s md k = ((nameO k).toList == s.toList && modeO k == md) := rfl
      have hki := kindC k
      generalize nameO k = nm at *
      generalize modeO k = mk at *
      generalize kindC k = kd at *
      generalize hkn : knownC k = kn at *
      generalize hit s md k = hh at *
      cases hb1 : (nm.toList == s.toList) with
      | false =>
        have NX : nxt = out := hmis (by rw [hit_eq, hb1]; rfl)
        have HNX := Lib.hid NX
        clear hit_eq hmis hkno hnon hkee hcs NX
        go_wp2_with fail
        refine K0.out.mono ?_
        rintro e w1 ⟨rfl, hb1⟩
        have hB1 : Below w.heap.size w w1 := hB.trans (hb1.mono hz)
        go_wp2_with fail
        exact ⟨⟨k, by omega, rfl, by rw [HGN.out, HNX.out], hB1.alloc hB1.size _⟩, by simp only [intOf]; omega⟩
      | true =>
      cases hb2 : (mk == md) with
      | false =>
        have NX : nxt = out := hmis (by rw [hit_eq, hb1, hb2]; rfl)
        have HNX := Lib.hid NX
        clear hit_eq hmis hkno hnon hkee hcs NX
        go_wp2_with fail
        refine K0.out.mono ?_
        rintro e w1 ⟨rfl, hb1⟩
        have hB1 : Below w.heap.size w w1 := hB.trans (hb1.mono hz)
        go_wp2_with fail
        exact ⟨⟨k, by omega, rfl, by rw [HGN.out, HNX.out], hB1.alloc hB1.size _⟩, by simp only [intOf]; omega⟩
      | true =>
      have hH : hh = true := by rw [hit_eq, hb1, hb2]; rfl
      rcases hcs with ⟨ho, _⟩ | ⟨y, hy, ho, hor⟩
      · have NX : nxt = (k : Int) := hnon hH ho
        have HNX := Lib.hid NX
        subst ho
        clear hit_eq hmis hkno hnon hkee NX hH
        go_wp2_with fail
        refine K0.out.mono ?_
        rintro e w1 ⟨rfl, hb1⟩
        have hB1 : Below w.heap.size w w1 := hB.trans (hb1.mono hz)
        go_wp2_with fail
        exact ⟨⟨k, by omega, rfl, by rw [HGN.out, HNX.out], hB1.alloc hB1.size _⟩, by simp only [intOf]; omega⟩
      · have hy0 : (0 : Int) ≤ (y : Int) := by omega
        have hy1 := hmem y hy
        cases kn with
        | true =>
          have NX : nxt = (k : Int) := hkno hH rfl
          have HNX := Lib.hid NX
          subst ho
          clear hit_eq hmis hkno hnon hkee NX hH hor
          go_wp2_with fail
          refine K0.out.mono ?_
          rintro e w1 ⟨rfl, hb1⟩
          have hB1 : Below w.heap.size w w1 := hB.trans (hb1.mono hz)
          go_wp2_with fail
          exact ⟨⟨k, by omega, rfl, by rw [HGN.out, HNX.out], hB1.alloc hB1.size _⟩, by simp only [intOf]; omega⟩
        | false =>
          have NX := hkee y hH rfl ho
          have HNX := Lib.hid NX
          subst ho
          have ky := fun w => ref_any y hy1 w
          unfold refV at ky
          have KY := Lib.hid ky
          clear hit_eq hmis hkno hnon hkee NX hH hor ky
          cases hky : knownC y with
          | true =>
            rw [hky] at KY HNX
            have HX := Lib.hid (show nxt = (y : Int) from HNX.out)
            clear HNX
            go_wp2_with fail
            refine K0.out.mono ?_
            rintro e w1 ⟨rfl, hb1⟩
            have hB1 : Below w.heap.size w w1 := hB.trans (hb1.mono hz)
            go_wp2_with fail
            have hB2 := hB1.alloc hB1.size (.cells #[.string nm, .int .i64 mk, .int .i64 kd, .bool false] 28)
            refine (KY.out _).mono ?_
            rintro e w2 ⟨rfl, hb2'⟩
            have hB3 := hB2.trans (hb2'.mono hB2.size)
            go_wp2_with fail
            exact ⟨⟨k, by omega, rfl, by rw [HGN.out, HX.out], hB3⟩, by simp only [intOf]; omega⟩
          | false =>
            rw [hky] at KY HNX
            have HX := Lib.hid (show nxt = (k : Int) from HNX.out)
            clear HNX
            go_wp2_with fail
            refine K0.out.mono ?_
            rintro e w1 ⟨rfl, hb1⟩
            have hB1 : Below w.heap.size w w1 := hB.trans (hb1.mono hz)
            go_wp2_with fail
            have hB2 := hB1.alloc hB1.size (.cells #[.string nm, .int .i64 mk, .int .i64 kd, .bool false] 28)
            refine (KY.out _).mono ?_
            rintro e w2 ⟨rfl, hb2'⟩
            have hB3 := hB2.trans (hb2'.mono hB2.size)
            go_wp2_with fail
            exact ⟨⟨k, by omega, rfl, by rw [HGN.out, HX.out], hB3⟩, by simp only [intOf]; omega⟩
end Go.Proofs.YtcchnenjfckbbaaDoor.Co
