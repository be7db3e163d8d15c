/- The reference's Unpack: the row of runs. -/
import Derived.Test.YtcaffmkghllmgaaCellUp
namespace Go.Proofs.Ytcaffmkghllmgaa.Cl
open Go.RowKit
set_option linter.unusedVariables false
set_option linter.unusedSimpArgs false
set_option maxRecDepth 1000000 in
theorem unpack_ref (w : World) (v : Value) (R : List Rn) (most : Int) (hx : Lies w 2 v R.length (rcs .i64 R)) (hs : R.length ≤ 1000000) (hm0 : -9223372036854775808 ≤ most) (hm1 : most ≤ 100000) :
    Calls Try.prog 12 #[v, .int .i64 most] w fun e w' => ∃ r, e = .returned (.tuple #[r, .int .i64 (unp most [] R).2]) ∧
      w'.ownsRow w.heap.size 3 1 r (unp most [] R).1.length ((unp most [] R).1.map (Value.int .i64)) ∧ Below w.heap.size w w' := by
  obtain ⟨i0, hi, hz0, hz1, hz2⟩ := info_parts info_int
  obtain ⟨_, ao, cap, rfl, hcap, hcs⟩ := hx
  go_enter Try.func12, Try.ntmps12
  go_wp2
  go_loopw [6, 7] (fun v i wr => ∃ (k : Nat) (out : List Int), k ≤ R.length ∧ i = .int .i64 k ∧ wr.ownsRow w.heap.size 3 1 v out.length (out.map (Value.int .i64)) ∧ Below w.heap.size w wr ∧ unp most [] R = unp most out (R.drop k) ∧ out.length ≤ 100000)
    (fun _ i _ => R.length - (intOf i).toNat)
  case atStart => exact ⟨0, [], Nat.zero_le _, rfl, World.ownsRow_nil _ _ _ _, Below.refl _ _, rfl, by simp⟩
  case round =>
    obtain ⟨k, out, hk, rfl, hown, hnx, hun, hol⟩ := hrel
    by_cases hkl : k < R.length
    · obtain ⟨b, off, rfl, hb, hc⟩ := hcs.resolve_left (by omega)
      have hat := rcs_at .i64 R k hkl
      have hc0 := hideR (hc _ _ hat.1)
      have hc1 := hideR (hc (k * 2 + 1) _ hat.2)
      have hc1r : wr.cell? ⟨b, off + k * 2 + 1, none⟩ = some (.int .i64 R[k].2) := (hnx.cell hb).trans hc1.out
      have hsz := hnx.size
      rw [drop_cons hkl] at hun
      generalize hp : R[k] = p at *
      obtain ⟨x, c⟩ := p
      by_cases hc1' : c < 1
      · have hu : unp most out ((x, c) :: R.drop (k + 1)) = ([], 6) := by rw [unp, if_pos hc1']
        rw [hu] at hun
        clear hown hcs hat hc hu
        go_wp2_with fail
        go_ret2
        exact ⟨_, rfl, World.ownsRow_nil _ _ _ _, hnx⟩
      · obtain ⟨n, rfl⟩ : ∃ n : Nat, c = n := ⟨c.toNat, by omega⟩
        have hUn := hideR hun
        have hun0 : True := trivial
        clear hun hat hcs hc
        go_wp2_with fail
        go_loopw [6, 8] (fun v i wr' => ∃ j : Nat, j ≤ n ∧ i = .int .i64 j ∧ wr'.ownsRow w.heap.size 3 1 v (out.length + j) ((out ++ List.replicate j x).map (Value.int .i64)) ∧ Below w.heap.size w wr' ∧ (j = 0 ∨ (out.length : Int) + j ≤ most))
          (fun _ i _ => n - (intOf i).toNat)
        case atStart => exact ⟨0, Nat.zero_le _, rfl, by simpa using hown, hnx, .inl rfl⟩
        case round =>
          obtain ⟨j, hj, rfl, hown', hnx', hjm⟩ := hrel
          have d0 : wr.cell? ⟨b, off + k * 2, none⟩ = some (.int .i64 x) := (hnx'.cell hb).trans hc0.out
          have d1 : wr.cell? ⟨b, off + k * 2 + 1, none⟩ = some (.int .i64 n) := (hnx'.cell hb).trans hc1.out
          have hsz' := hnx'.size
          have hbr : b < wr.heap.size := by omega
          have hUo := hUn.out
          obtain ⟨ao', cap', rfl⟩ := shapeOf hown'
          clear hc1r
          by_cases hjn : j < n
          · by_cases hlong : most ≤ out.length + j
            · have hu : unp most out ((x, (n : Int)) :: R.drop (k + 1)) = ([], 13) := by rw [unp, if_neg (by omega), if_pos (by omega)]
              rw [hu] at hUo
              clear hown hown' hu
              go_wp2_with fail
              go_ret2
              rw [hUo]
              exact ⟨_, rfl, World.ownsRow_nil _ _ _ _, hnx'⟩
            · have hol2 : out.length + j ≤ 100000 := by omega
              have hlong' : ¬ most ≤ ((out.length + j : Nat) : Int) := by omega
              clear hown hUo
              go_wp2_with (at_builtin; refine wpList_append_lies _ rfl _ _ 22 rfl w.heap.size 3 i0 (.int .i64 0) 1 8 Try.underlying22 hi hz0 hz1 hz2 rfl (by decide) _ _ _ rfl (hown'.alloc _) ⟨wr.heap.size, 0, none⟩ 1 1 [.int .i64 x] rfl rfl (World.news_of_block (heap_alloc_new wr _)) (by simp [Value.oneCell']) (by decide) (by simp only [maxLen]; omega) (by omega) (by simp only [World.size_alloc]; exact Nat.le_succ_of_le hsz') (wr.heap.size + 1) (by simp) ?_)
              intro g' cap'' w1 hown1 hgrow1 hat1 hlt1
              have hb1 := (hnx'.alloc hsz' (.cells #[.int .i64 x] 3)).grown hgrow1 (by simp only [World.size_alloc]; exact Nat.le_succ_of_le hsz') (fun k hk => (hown'.lt k hk).1)
              clear hgrow1 d0 d1 hown'
              go_wp2
              go_roundw
              case rel => exact ⟨j + 1, hjn, by go_num, by simpa [List.replicate_succ', ← Nat.add_assoc] using hown1, hb1, .inr (by push_cast; omega)⟩
              case measure => simp [intOf]; omega
          · obtain rfl : j = n := by omega
            have hu : unp most out ((x, (j : Int)) :: R.drop (k + 1)) = unp most (out ++ List.replicate j x) (R.drop (k + 1)) := by rw [unp, if_neg (by omega), if_neg (by omega), Int.toNat_natCast]
            rw [hu] at hUo
            have HU := hideR hUo
            clear hown hUo hu
            go_wp2
            go_roundw
            case rel => exact ⟨k + 1, out ++ List.replicate j x, hkl, by go_num, by simpa using hown', hnx', HU.out, by simp; omega⟩
            case measure => simp [intOf]; omega
    · obtain rfl : k = R.length := by omega
      rw [List.drop_length, unp] at hun
      go_wp2_with fail
      go_ret2
      rw [hun]
      exact ⟨_, rfl, hown, hnx⟩
end Go.Proofs.Ytcaffmkghllmgaa.Cl
