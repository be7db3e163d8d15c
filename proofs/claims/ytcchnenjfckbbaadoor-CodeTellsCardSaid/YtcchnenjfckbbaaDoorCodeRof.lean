/- Package code: the reference's Of, Length. -/
import Derived.Test.YtcchnenjfckbbaaDoorCodeRo
namespace Go.Proofs.YtcchnenjfckbbaaDoor.Co
open Go.RowKit Go.Maps Go.Deep Go.Proofs.Tryd
set_option linter.unusedVariables false
set_option linter.unusedSimpArgs false
def refV (o : Nat) : Value := .agg #[.string (nameO o), .int .i64 (modeO o), .int .i64 (kindC o), .bool (knownC o)]
theorem ba_ext {a b : ByteArray} (h : a.data.toList = b.data.toList) : a = b := ByteArray.ext (Array.toList_inj.1 h)
set_option maxRecDepth 100000 in
set_option maxHeartbeats 2000000 in
theorem ref_rc (r c o : Nat) (ho : o = 16 * r + c) (hr : r < 16) (hc : c < 16) (w : World) (nm : ByteArray) (md kd : Int) (kn : Bool)
    (HW : Hid (∀ x : ByteArray, x.data.toList = wordG 32 (wordG 44 (linesB r).data.toList (c : Int)) 0 → x = nm))
    (HM : Hid (placeF modesN (wordG 32 (wordG 44 (linesB r).data.toList (c : Int)) 1) = md))
    (HK : Hid (kindR nm.data.toList (wordG 32 (wordG 44 (linesB r).data.toList (c : Int)) 1) = kd))
    (HN : Hid ((decide (placeF othersB nm.data.toList < 0) && decide (o ≠ 235) && (decide (nm.data.toList ≠ [78, 79, 80]) || decide (o = 234))) = kn)) :
    Calls Tryd.prog 8 #[.int .i64 (o : Int)] w fun e w' => e = .returned (.agg #[.string nm, .int .i64 md, .int .i64 kd, .bool kn]) ∧ Below w.heap.size w w' := by
  have q1 : (o : Int) / 16 = (r : Int) := by omega
  have q2 : (o : Int) % 16 = (c : Int) := by omega
  have o0 : (0 : Int) ≤ (o : Int) := by omega
  have kl := fun w => lines_any r hr w
  have kw := fun w => word_any (linesB r) (c : Int) 44 (Nat.le_trans (linesB_short r hr) (by decide)) (by omega) w
  have hls := linesB_short r hr
  have kp := fun w => place_any ⟨othersB.toArray⟩ nm (by decide) w
  rw [show (⟨othersB.toArray⟩ : ByteArray).data.toList = othersB from rfl] at kp
  have km := fun x w => place_any ⟨modesN.toArray⟩ x (by decide) w
  rw [show (⟨modesN.toArray⟩ : ByteArray).data.toList = modesN from rfl] at km
  have KL := Lib.hid kl
  have KW := Lib.hid kw
  have KP := Lib.hid kp
  have KM := Lib.hid km
  have hor : (o : Int) = 235 ↔ o = 235 := by omega
  have hor2 : (o : Int) = 234 ↔ o = 234 := by omega
  clear ho kl kw kp km
  go_enter Tryd.func8, Tryd.ntmps8
  go_wp2_with fail
  refine (KL.out _).mono ?_
  rintro e w' ⟨rfl, rfl⟩
  go_wp2_with fail
  refine (KW.out _).mono ?_
  rintro e w' ⟨x, rfl, hx, rfl⟩
  have hxs : x.size ≤ 1000 := by
    have h1 := wordG_len 44 (linesB r).data.toList (c : Int)
    rw [← hx] at h1
    have h2 : x.size ≤ (linesB r).size := h1
    omega
  have ka := fun w => word_any x 0 32 hxs (by decide) w
  have kb := fun w => word_any x 1 32 hxs (by decide) w
  rw [hx] at ka kb
  have KA := Lib.hid ka
  have KB := Lib.hid kb
  clear ka kb hx hxs hls
  go_wp2_with fail
  refine (KA.out _).mono ?_
  rintro e w' ⟨y, rfl, hy, rfl⟩
  obtain rfl := HW.out y hy
  clear hy
  go_wp2_with fail
  refine (KB.out _).mono ?_
  rintro e w' ⟨z, rfl, hz, rfl⟩
  have km2 := KM.out z
  rw [hz, HM.out] at km2
  have kk := kind_any y z
  rw [hz, HK.out] at kk
  have KM2 := Lib.hid km2
  have KK := Lib.hid kk
  clear hz km2 kk KM
  go_wp2_with fail
  refine (KP.out _).mono ?_
  rintro e w' ⟨rfl, rfl⟩
  have hkn := HN.out
  clear HN HW KL KW KA KB KP
  generalize placeF othersB y.data.toList = p at *
  by_cases hp : p < 0
  · by_cases h5 : o = 235
    · have hb : ((o : Int) != 235) = false := by subst h5; rfl
      obtain rfl : false = kn := by rw [← hkn]; simp [h5]
      clear hkn h5 hor hor2
      go_wp2_with fail
      refine (KM2.out _).mono ?_
      rintro e w' ⟨rfl, rfl⟩
      go_wp2_with fail
      refine (KK.out _).mono ?_
      rintro e w' ⟨rfl, rfl⟩
      go_wp2_with fail
      exact bodyPost_ret (v := .agg #[.string y, .int .i64 md, .int .i64 kd, .bool false]) (by simp [results, results8, go_sem]) rfl ⟨rfl, (Below.refl _ _).alloc (Nat.le_refl _) _⟩
    · have hb : ((o : Int) != 235) = true := by simp; omega
      by_cases hy : y.data.toList = [78, 79, 80]
      · have hb2 := b_eq hy
        by_cases h4 : o = 234
        · have hb3 : ((o : Int) == 234) = true := by simp; omega
          obtain rfl : true = kn := by rw [← hkn]; simp [hp, h4]
          clear hkn h5 h4 hor hor2 hy
          go_wp2_with fail
          refine (KM2.out _).mono ?_
          rintro e w' ⟨rfl, rfl⟩
          go_wp2_with fail
          refine (KK.out _).mono ?_
          rintro e w' ⟨rfl, rfl⟩
          go_wp2_with fail
          exact bodyPost_ret (v := .agg #[.string y, .int .i64 md, .int .i64 kd, .bool true]) (by simp [results, results8, go_sem]) rfl ⟨rfl, (Below.refl _ _).alloc (Nat.le_refl _) _⟩
        · have hb3 : ((o : Int) == 234) = false := by simp; omega
          obtain rfl : false = kn := by rw [← hkn]; simp [hp, h4, hy]
          clear hkn h5 h4 hor hor2 hy
          go_wp2_with fail
          refine (KM2.out _).mono ?_
          rintro e w' ⟨rfl, rfl⟩
          go_wp2_with fail
          refine (KK.out _).mono ?_
          rintro e w' ⟨rfl, rfl⟩
          go_wp2_with fail
          exact bodyPost_ret (v := .agg #[.string y, .int .i64 md, .int .i64 kd, .bool false]) (by simp [results, results8, go_sem]) rfl ⟨rfl, (Below.refl _ _).alloc (Nat.le_refl _) _⟩
      · have hb2 := b_ne hy
        obtain rfl : true = kn := by rw [← hkn]; simp [hp, h5, hy]
        clear hkn h5 hor hor2 hy
        go_wp2_with fail
        refine (KM2.out _).mono ?_
        rintro e w' ⟨rfl, rfl⟩
        go_wp2_with fail
        refine (KK.out _).mono ?_
        rintro e w' ⟨rfl, rfl⟩
        go_wp2_with fail
        exact bodyPost_ret (v := .agg #[.string y, .int .i64 md, .int .i64 kd, .bool true]) (by simp [results, results8, go_sem]) rfl ⟨rfl, (Below.refl _ _).alloc (Nat.le_refl _) _⟩
  · obtain rfl : false = kn := by rw [← hkn]; simp [hp]
    clear hkn hor hor2
    go_wp2_with fail
    refine (KM2.out _).mono ?_
    rintro e w' ⟨rfl, rfl⟩
    go_wp2_with fail
    refine (KK.out _).mono ?_
    rintro e w' ⟨rfl, rfl⟩
    go_wp2_with fail
    exact bodyPost_ret (v := .agg #[.string y, .int .i64 md, .int .i64 kd, .bool false]) (by simp [results, results8, go_sem]) rfl ⟨rfl, (Below.refl _ _).alloc (Nat.le_refl _) _⟩
theorem ref_any (o : Nat) (ho : o < 256) (w : World) : Calls Tryd.prog 8 #[.int .i64 (o : Int)] w fun e w' => e = .returned (refV o) ∧ Below w.heap.size w w' :=
  ref_rc (o / 16) (o % 16) o (by omega) (by omega) (by omega) w (nameO o) (modeO o) (kindC o) (knownC o)
    (Lib.hid fun x hx => ba_ext (hx.trans (nameR_eq o ho))) (Lib.hid (modeR_eq o ho)) (Lib.hid (by rw [← nameR_eq o ho]; exact kindR_eq o ho)) (Lib.hid (by rw [← nameR_eq o ho]; exact knownR_eq o ho))
theorem field_rm (nm : ByteArray) (md kd : Int) (kn : Bool) (w : World) : (Instr.field 28 (.agg #[.string nm, .int .i64 md, .int .i64 kd, .bool kn]) 1).run Tryd.prog w = .ok (.int .i64 md) w := by kernel_rfl
set_option maxRecDepth 100000 in
theorem rlength_any (o : Nat) (ho : o < 256) (w : World) : Calls Tryd.prog 10 #[.int .i64 (o : Int)] w fun e w' => e = .returned (.int .i64 (lenF (modeO o))) ∧ Below w.heap.size w w' := by
  have hm := m13 (modeO_in o ho)
  have k := ref_any o ho w
  unfold refV at k
  generalize nameO o = nm at *
  generalize modeO o = md at *
  generalize kindC o = kd at *
  generalize knownC o = kn at *
  clear ho
  have K := Lib.hid k
  clear k
  have hfd := fun md w => field_rm nm md kd kn w
  rcases hm with rfl | rfl | rfl | rfl | rfl | rfl | rfl | rfl | rfl | rfl | rfl | rfl | rfl
  all_goals
    go_enter Tryd.func10, Tryd.ntmps10
    go_wp2_with fail
    refine K.out.mono ?_
    rintro e w' ⟨rfl, hb⟩
    go_wp2_with fail
    go_ret
    exact ⟨rfl, hb⟩
end Go.Proofs.YtcchnenjfckbbaaDoor.Co
