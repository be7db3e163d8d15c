/- Package cell: the row of runs of whole numbers. -/
import Derived.Test.YtbfdlfhidebjlaaFrPk
import Derived.Test.YtbfdlfhidebjlaaFrRp
namespace Go.Proofs.Ytbfdlfhidebjlaa.Cl
open Go.RowKit
set_option linter.unusedVariables false
set_option linter.unusedSimpArgs false

theorem rcs_at (k : IntKind) (R : List Rn) (i : Nat) (h : i < R.length) : (rcs k R)[i * 2]? = some (.int k R[i].1) ∧ (rcs k R)[i * 2 + 1]? = some (.int .i64 R[i].2) := by
  induction R generalizing i with
  | nil => simp at h
  | cons p t ih =>
    cases i with
    | zero => simp [rcs]
    | succ i =>
      have := ih i (by simpa using h)
      rw [show (i + 1) * 2 = i * 2 + 2 from by omega]
      simpa [rcs] using this
theorem drop_cons {R : List Rn} {k : Nat} (h : k < R.length) : R.drop k = R[k] :: R.drop (k + 1) := List.drop_eq_getElem_cons h
theorem total_cons (p : Rn) (t : List Rn) : total (p :: t) = p.2 + total t := by simp [total]
theorem pos_drop {R : List Rn} (h : ∀ p ∈ R, 1 ≤ p.2) (k : Nat) : 0 ≤ total (R.drop k) := by
  have := total_ge (R := R.drop k) fun p hp => h p (List.mem_of_mem_drop hp)
  omega

set_option maxRecDepth 1000000 in
theorem unpack_int (w : World) (v : Value) (R : List Rn) (most : Int) (hx : Lies w 2 v R.length (rcs .u8 R)) (hs : R.length ≤ 1000000) (hm0 : -9223372036854775808 ≤ most) (hm1 : most ≤ 9223372036854775807)
    (hM : most ≤ 100000 ∨ (∀ p ∈ R, 1 ≤ p.2) ∧ total R ≤ 100000) :
    Calls Try.prog 54 #[v, .int .i64 most] w fun e w' => ∃ r, e = .returned (.tuple #[r, .int .i64 (unp most [] R).2]) ∧
      w'.ownsRow w.heap.size 5 1 r (unp most [] R).1.length ((unp most [] R).1.map (Value.int .u8)) ∧ Below w.heap.size w w' := by
  obtain ⟨i0, hi, hz0, hz1, hz2⟩ := info_parts info_int
  obtain ⟨_, ao, cap, rfl, hcap, hcs⟩ := hx
  go_enter Try.func54, Try.ntmps54
  go_wp2
  go_loopw [6, 11] (fun v i wr => ∃ (k : Nat) (out : List Int), k ≤ R.length ∧ i = .int .i64 k ∧ wr.ownsRow w.heap.size 5 1 v out.length (out.map (Value.int .u8)) ∧ Below w.heap.size w wr ∧ unp most [] R = unp most out (R.drop k) ∧
      out.length ≤ 100000 ∧ (most ≤ 100000 ∨ (∀ p ∈ R, 1 ≤ p.2) ∧ out.length + total (R.drop k) ≤ 100000))
    (fun _ i _ => R.length - (intOf i).toNat)
  case atStart => exact ⟨0, [], Nat.zero_le _, rfl, World.ownsRow_nil _ _ _ _, Below.refl _ _, rfl, by simp, by simpa using hM⟩
  case round =>
    obtain ⟨k, out, hk, rfl, hown, hnx, hun, hol, hM'⟩ := hrel
    by_cases hkl : k < R.length
    · obtain ⟨b, off, rfl, hb, hc⟩ := hcs.resolve_left (by omega)
      have hat := rcs_at .u8 R k hkl
      have hc0 : wr.cell? ⟨b, off + k * 2, none⟩ = some (.int .u8 R[k].1) := (hnx.cell hb).trans (hc _ _ hat.1)
      have hc1 : wr.cell? ⟨b, off + k * 2 + 1, none⟩ = some (.int .i64 R[k].2) := (hnx.cell hb).trans (hc (k * 2 + 1) _ hat.2)
      have hsz := hnx.size
      have hbr : b < wr.heap.size := by omega
      rw [drop_cons hkl] at hun hM'
      generalize hp : R[k] = p at *
      obtain ⟨x, c⟩ := p
      obtain ⟨ao', cap', rfl⟩ := shapeOf hown
      have hb0 : Below w.heap.size w (wr.alloc (.cells #[.int .u8 x, .int .i64 c] 91)) := hnx.alloc hsz _
      by_cases hc1' : c < 1
      · have hu : unp most out ((x, c) :: R.drop (k + 1)) = ([], 6) := by rw [unp, if_pos hc1']
        rw [hu] at hun
        clear hM' hM hown hcs hat hc hu
        go_wp2_with fail
        go_ret2
        exact ⟨_, rfl, World.ownsRow_nil _ _ _ _, hb0⟩
      · by_cases hlong : most < c + out.length
        · have hu : unp most out ((x, c) :: R.drop (k + 1)) = ([], 13) := by rw [unp, if_neg hc1', if_pos hlong]
          rw [hu] at hun
          clear hM' hM hown hcs hat hc hu
          by_cases hneg : most < 0
          · go_wp2_with fail
            go_ret2
            exact ⟨_, rfl, World.ownsRow_nil _ _ _ _, hb0⟩
          · have hsub : IntKind.i64.wrap (most - (out.length : Int)) = most - out.length := IntWalk.i64_in _ (by omega)
            have hgt : most - (out.length : Int) < c := by omega
            go_wp2_with fail
            go_ret2
            exact ⟨_, rfl, World.ownsRow_nil _ _ _ _, hb0⟩
        · obtain ⟨n, rfl⟩ : ∃ n : Nat, c = n := ⟨c.toNat, by omega⟩
          have hu : unp most out ((x, (n : Int)) :: R.drop (k + 1)) = unp most (out ++ List.replicate n x) (R.drop (k + 1)) := by rw [unp, if_neg hc1', if_neg hlong, Int.toNat_natCast]
          rw [hu] at hun
          have hneg : ¬ most < 0 := by omega
          have hsub : IntKind.i64.wrap (most - (out.length : Int)) = most - out.length := IntWalk.i64_in _ (by omega)
          have hgt : ¬ most - (out.length : Int) < n := by omega
          have hn0 : 0 < n := by omega
          have hcM : out.length + n ≤ 100000 ∧ (most ≤ 100000 ∨ (∀ p ∈ R, 1 ≤ p.2) ∧ ((out.length + n : Nat) : Int) + total (R.drop (k + 1)) ≤ 100000) := by
            rcases hM' with h | ⟨h, h'⟩
            · exact ⟨by omega, .inl h⟩
            · rw [total_cons] at h'
              have := pos_drop h (k + 1)
              simp only at h'
              exact ⟨by omega, .inr ⟨h, by push_cast; omega⟩⟩
          obtain ⟨hcM, hM''⟩ := hcM
          have hM3 := hideR hM''
          have hown2 := (hown.alloc (.cells #[.int .u8 x, .int .i64 n] 91)).alloc (.cells #[.int .u8 x] 5)
          have hb1 := hb0.alloc (by simp; omega) (.cells #[.int .u8 x] 5)
          clear hcs hat hc hu hM' hM'' hM hown
          go_wp2_with fail
          refine (repeat_int _ _ _ x n (by omega) (by simp) (World.cell?_alloc_at _ _ _ _ (by simp))).mono ?_
          rintro e w3 ⟨rfl, hG, hw3⟩
          have hown3 := owns_below hown2 hw3
          have hb3 := hb1.trans (hw3.mono (by simp; omega))
          have hb3s := hb3.size
          have hlt3 := hw3.size
          simp only [World.size_alloc] at hG hlt3
          have hnews := newsOf hG
          clear hown2 hb1 hb0 hw3 hc0 hc1 hG
          go_wp2_with (at_builtin; refine wpList_append_lies _ rfl _ _ 45 rfl w.heap.size 5 i0 (.int .u8 0) 1 1 Try.underlying45 hi hz0 hz1 hz2 rfl (by decide) _ _ _ rfl hown3 ⟨wr.heap.size + 1 + 1, 0, none⟩ n n (List.replicate n (.int .u8 x)) rfl (by simp) hnews (oneAll rfl) hn0 (by simp only [maxLen]; omega) (by omega) hb3s w3.heap.size rfl ?_)
          intro g' cap'' w1 hown1 hgrow1 hat1 hlt1
          have hb4 := hb3.grown hgrow1 hb3s (fun k hk => (hown3.lt k hk).1)
          clear hgrow1 hnews hown3 hb3
          go_wp2
          go_roundw
          case rel => exact ⟨k + 1, out ++ List.replicate n x, hkl, by go_num, by simpa [List.map_append] using hown1, hb4, hun, by simp; omega, by have := hM3.out; simpa using this⟩
          case measure => simp [intOf]; omega
    · obtain rfl : k = R.length := by omega
      rw [List.drop_length, unp] at hun
      clear hM hM'
      go_wp2_with fail
      go_ret2
      rw [hun]
      exact ⟨_, rfl, hown, hnx⟩
end Go.Proofs.Ytbfdlfhidebjlaa.Cl
