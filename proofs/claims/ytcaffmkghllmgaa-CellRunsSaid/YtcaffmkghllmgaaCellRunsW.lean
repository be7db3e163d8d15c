/- The Go law CellRuns: its walk. -/
import Derived.Test.YtcaffmkghllmgaaCellAwake
import Derived.Test.YtcaffmkghllmgaaCellSame
import Derived.Test.YtcaffmkghllmgaaCellRef
import Derived.Test.YtcaffmkghllmgaaCellRefU
import Derived.Test.YtcaffmkghllmgaaAppendOf
import Derived.BigQuiet
import Derived.Deep.RegionHeld3
namespace Go.Proofs.Ytcaffmkghllmgaa.cellRuns
open Go.RowKit Go.Deep Go.Proofs.Ytcaffmkghllmgaa.Cl
set_option linter.unusedVariables false
set_option linter.unusedSimpArgs false
set_option maxRecDepth 1000000 in
theorem cellRuns_walk (v : Value) (xs : List Int) (vr : Value) (R : List Rn) (m : Int) (W : World) (hx : Lies W 1 v xs.length (xs.map (Value.int .i64))) (hr : Lies W 2 vr R.length (rcs .i64 R)) (m0 : -9223372036854775808 ≤ m) (m1 : m ≤ 9223372036854775807) :
    Calls Try.prog 3 #[v, vr, .int .i64 m] W fun e W' => e = .returned (.bool true) ∧ Below W.heap.size W W' := by
  have HX := hideR hx
  have HR := hideR hr
  obtain ⟨_, ao, cap, rfl, _, _⟩ := hx
  obtain ⟨_, ar, capr, rfl, _, hrc⟩ := hr
  by_cases g1 : (300 : Int) < xs.length
  · go_enter Try.func3, Try.ntmps3
    go_wp2_with fail
    go_ret
    exact ⟨rfl, Below.refl _ _⟩
  by_cases g2 : (60 : Int) < R.length
  · go_enter Try.func3, Try.ntmps3
    go_wp2_with fail
    go_ret
    exact ⟨rfl, Below.refl _ _⟩
  by_cases g3 : 3000 < m
  · go_enter Try.func3, Try.ntmps3
    go_wp2_with fail
    go_ret
    exact ⟨rfl, Below.refl _ _⟩
  obtain ⟨i0, hi, hz0, hz1, hz2⟩ := info_parts info_int
  obtain ⟨i1, hi1, hy0, hy1, hy2⟩ := info_parts runInfo_int
  have hxl : xs.length ≤ 300 := by omega
  have hrl : R.length ≤ 60 := by omega
  have hown0 := World.ownsRow_lit (base := W.heap.size) (e := 3) (size := 1) W #[] 0 (Nat.le_refl _) (by decide) rfl
  have hb0 : Below W.heap.size W (W.alloc (.cells #[] 3)) := (Below.refl _ _).alloc (Nat.le_refl _) _
  go_enter Try.func3, Try.ntmps3
  go_wp2_with (at_builtin; refine wpList_append_of rfl _ _ 22 rfl W.heap.size 3 i0 (.int .i64 0) 1 8 Try.underlying22 hi hz0 hz1 hz2 rfl (by decide) _ _ _ rfl hown0 _ _ _ rfl (HX.out.below ((Below.refl _ _).alloc (Nat.le_refl _) _)) (ints_oneCell _ _) (by simp only [maxLen]; omega) (by omega) hb0.size ?_)
  intro v1 w1 hown1 hgrow1
  have hb1 : Below W.heap.size W w1 := hb0.grown hgrow1 hb0.size (fun k hk => by cases hk; exact Nat.le_refl _)
  have hs1 := hb1.size
  obtain ⟨ao1, cap1, rfl⟩ := shapeOf hown1
  have HL1 := hideR (Lies.of_owns hown1)
  clear hown1 hgrow1 hb0 hown0
  go_wp2_with fail
  refine (pack_int w1 _ xs HL1.out (by omega)).mono ?_
  rintro e w2 ⟨p, rfl, hown2, hb2⟩
  have hb20 := hb1.trans (hb2.mono hs1)
  have hs2 := hb20.size
  go_wp2_with fail
  refine (pack_ref w2 _ xs (HX.out.below hb20) (by omega)).mono ?_
  rintro e w3 ⟨q, rfl, hown3, hb3⟩
  have hb30 := hb20.trans (hb3.mono hs2)
  have hs3 := hb30.size
  have hpl := pack_length xs
  generalize pack xs = Rp at *
  have hL2 := (Lies.of_owns hown2).below hb3
  have hL3 := Lies.of_owns hown3
  obtain ⟨ap, cp, rfl⟩ := shapeOf hown2
  obtain ⟨aq, cq, rfl⟩ := shapeOf hown3
  obtain ⟨_, _, _, hv2, _, hc2⟩ := hL2
  obtain ⟨_, _, _, hv3, _, hc3⟩ := hL3
  simp only [Value.slice.injEq, true_and] at hv2 hv3
  obtain ⟨rfl, rfl⟩ := hv2
  obtain ⟨rfl, rfl⟩ := hv3
  clear hown2 hown3 hb1 hs1 hb2 hb3 HL1 hs2
  go_wp2
  go_loopw [9] (fun i wr => ∃ k : Nat, k ≤ Rp.length ∧ i = .int .i64 k ∧ Below w3.heap.size w3 wr) (fun i _ => Rp.length - (intOf i).toNat)
  case atStart => exact ⟨0, Nat.zero_le _, rfl, Below.refl _ _⟩
  case round =>
    obtain ⟨k, hk, rfl, hnx⟩ := hrel
    by_cases hkl : k < Rp.length
    · obtain ⟨b, off, rfl, hb, hc⟩ := hc2.resolve_left (by omega)
      obtain ⟨b', off', rfl, hb', hc'⟩ := hc3.resolve_left (by omega)
      have h1 := rcs_at .i64 Rp k hkl
      have c1 : wr.cell? ⟨b, off + k * 2, none⟩ = some (.int .i64 Rp[k].1) := (hnx.cell hb).trans (hc _ _ h1.1)
      have c2 : wr.cell? ⟨b, off + k * 2 + 1, none⟩ = some (.int .i64 Rp[k].2) := (hnx.cell hb).trans (hc (k * 2 + 1) _ h1.2)
      have d1 : wr.cell? ⟨b', off' + k * 2, none⟩ = some (.int .i64 Rp[k].1) := (hnx.cell hb').trans (hc' _ _ h1.1)
      have d2 : wr.cell? ⟨b', off' + k * 2 + 1, none⟩ = some (.int .i64 Rp[k].2) := (hnx.cell hb').trans (hc' (k * 2 + 1) _ h1.2)
      have hk0 : (0 : Int) ≤ (k : Int) := by omega
      have hk1 : (k : Int) < Rp.length := by omega
      generalize Rp[k].1 = X at *
      generalize Rp[k].2 = C at *
      have n1 : (X != X) = false := by simp
      have n2 : (C != C) = false := by simp
      clear hc hc' hc2 hc3 h1 hrc
      go_wp2_with fail
      go_quiet (fail)
      go_wp2
      go_roundw
      case rel => exact ⟨k + 1, hkl, by go_num, below_drewN hnx _⟩
      case measure => simp [intOf]; omega
    · clear hc2 hc3
      have hb40 := hb30.trans (hnx.mono hs3)
      have hs4 := hb40.size
      go_wp2
      go_loopw [10, 11] (fun v i wr' => ∃ k : Nat, k ≤ R.length ∧ i = .int .i64 k ∧ wr'.ownsRow W.heap.size 28 2 v k (rcs .i64 (R.take k)) ∧ Below W.heap.size W wr') (fun _ i _ => R.length - (intOf i).toNat)
      case atStart => exact ⟨0, Nat.zero_le _, rfl, World.ownsRow_nil _ _ _ _, hb40⟩
      case round =>
        obtain ⟨k, hk, rfl, hown, hnx'⟩ := hrel
        have hs5 := hnx'.size
        by_cases hkl' : k < R.length
        · obtain ⟨b, off, rfl, hb, hc⟩ := hrc.resolve_left (by omega)
          have h1 := rcs_at .i64 R k hkl'
          have c1 : wr.cell? ⟨b, off + k * 2, none⟩ = some (.int .i64 R[k].1) := (hnx'.cell hb).trans (hc _ _ h1.1)
          have c2 : wr.cell? ⟨b, off + k * 2 + 1, none⟩ = some (.int .i64 R[k].2) := (hnx'.cell hb).trans (hc (k * 2 + 1) _ h1.2)
          have hk0 : (0 : Int) ≤ (k : Int) := by omega
          have hk1 : (k : Int) < R.length := by omega
          have hrt : rcs .i64 (R.take (k + 1)) = rcs .i64 (R.take k) ++ [.int .i64 R[k].1, .int .i64 R[k].2] := by rw [List.take_succ_eq_append_getElem hkl', rcs_snoc]
          generalize R[k].1 = X at *
          generalize R[k].2 = C at *
          have ne1 := World.new_ne wr _ c1
          have ne2 := World.new_ne wr _ c2
          have Hrt := hideR hrt
          have HO := hideR (hown.alloc (.cells #[.int .i64 X, .int .i64 C] 28)).drew
          have HN := hideR (World.news_of_block (w := (wr.alloc (.cells #[.int .i64 X, .int .i64 C] 28)).drew) (heap_alloc_new wr (.cells #[.int .i64 X, .int .i64 C] 28)))
          have one2 : ∀ u ∈ [Value.int .i64 X, .int .i64 C], u.oneCell' = true := by simp [Value.oneCell']
          have hk63 : k + 1 ≤ maxLen := by simp only [maxLen]; omega
          have hkby : (k + 1) * 16 ≤ 140737488355328 := by omega
          have hsb : W.heap.size ≤ (wr.alloc (.cells #[.int .i64 X, .int .i64 C] 28)).drew.heap.size := by show _ ≤ (wr.alloc _).heap.size; simp only [World.size_alloc]; omega
          have hbw : b < wr.heap.size := by omega
          have E1 : (wr.alloc (.cells #[.int .i64 X, .int .i64 C] 28)).drew.cell? ⟨b, off + k * 2, none⟩ = some (.int .i64 X) := past c1 _
          have E2 : (wr.alloc (.cells #[.int .i64 X, .int .i64 C] 28)).drew.cell? ⟨b, off + k * 2 + 1, none⟩ = some (.int .i64 C) := past c2 _
          have hne : some b ≠ u10.ownBlock := fun e => by have := (hown.lt b e.symm).1; omega
          clear hc h1 hrc hrt
          go_wp2_with fail
          go_region_held3 (fun w' => w'.cell? ⟨b, off + k * 2, none⟩ = some (.int .i64 X) ∧ w'.cell? ⟨b, off + k * 2 + 1, none⟩ = some (.int .i64 C)) (go_keep) ((refine step_append_lies _ (by rfl) (.tmp 75) (.tmp 87) 24 (by rfl) W.heap.size 28 i1 (.agg #[.int .i64 0, .int .i64 0]) 2 16 Try.underlying24 hi1 hy0 hy1 hy2 rfl (by decide) u10 k (rcs .i64 (R.take k)) rfl HO.out ⟨wr.heap.size, 0, none⟩ 1 1 [.int .i64 X, .int .i64 C] rfl rfl HN.out one2 (by decide) hk63 hkby hsb (wr.heap.size + 1) (by simp) ?_; intro g' cap'' w6 hown6 hgrow6 hat6 hlt6; have s1 := hgrow6.cell E1 hne; have s2 := hgrow6.cell E2 hne))
          have hb6 := (hnx'.alloc hs5 (.cells #[.int .i64 X, .int .i64 C] 28)).drew.grown hgrow6 hsb (fun k hk => (hown.lt k hk).1)
          clear hgrow6 s1 s2 E1 E2 c1 c2
          go_wp2
          go_roundw
          case rel => exact ⟨k + 1, hkl', by go_num, by rw [Hrt.out]; exact hown6, hb6⟩
          case measure => simp [intOf]; omega
        · obtain rfl : k = R.length := by omega
          rw [List.take_length] at hown
          have HL := hideR (Lies.of_owns hown)
          obtain ⟨at1, ct1, rfl⟩ := shapeOf hown
          clear hown hrc
          go_wp2_with fail
          refine (unpack_int wr _ R m HL.out (by omega) m0 m1 (.inl (by omega))).mono ?_
          rintro e w7 ⟨u, rfl, hown7, hb7⟩
          have hb70 := hnx'.trans (hb7.mono hs5)
          have hs7 := hb70.size
          go_wp2_with fail
          refine (unpack_ref w7 _ R m (HR.out.below hb70) (by omega) m0 (by omega)).mono ?_
          rintro e w8 ⟨u', rfl, hown8, hb8⟩
          have hb80 := hb70.trans (hb8.mono hs7)
          have hs8 := hb80.size
          have hul := unp_len m R []
          generalize (unp m [] R).2 = er at *
          generalize (unp m [] R).1 = ys at *
          have hyl : ys.length ≤ 1000000 := by simp only [List.length_nil] at hul; omega
          have hsame := same_any w8 _ _ ys ys ((Lies.of_owns hown7).below hb8) (Lies.of_owns hown8) hyl hyl
          rw [decide_eq_true rfl] at hsame
          clear hown7 hown8 hul
          go_wp2_with fail
          refine hsame.mono ?_
          rintro e w9 ⟨rfl, hb9⟩
          have hb90 := hb80.trans (hb9.mono hs8)
          go_wp2_with fail
          refine (awake_any _).mono ?_
          rintro e w10 ⟨rfl, hb10⟩
          go_wp2_with fail
          go_ret
          exact ⟨rfl, hb90.trans (hb10.mono hb90.size)⟩
end Go.Proofs.Ytcaffmkghllmgaa.cellRuns
