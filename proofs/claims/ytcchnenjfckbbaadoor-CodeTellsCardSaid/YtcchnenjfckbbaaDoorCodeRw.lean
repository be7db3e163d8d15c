/- Package code: the reference's word and Place. -/
import Derived.Test.YtcchnenjfckbbaaDoorCodeRef
namespace Go.Proofs.YtcchnenjfckbbaaDoor.Co
open Go.RowKit Go.Maps Go.Deep Go.Proofs.Tryd
set_option linter.unusedVariables false
set_option linter.unusedSimpArgs false
theorem ext1 (s : ByteArray) (k : Nat) (h : k < s.size) : (s.extract k (k + 1)).data.toList = [s[k]] := by
  rw [ByteArray.data_extract, Array.toList_extract]
  have hk : k < s.data.toList.length := h
  rw [List.extract_eq_take_drop, Nat.add_sub_cancel_left, List.drop_eq_getElem_cons hk]
  rfl
theorem snoc_list (x s : ByteArray) (k : Nat) (h : k < s.size) : (x ++ s.extract k (k + 1)).data.toList = x.data.toList ++ [s[k]] := by
  rw [ByteArray.data_append, Array.toList_append, ext1 s k h]
theorem snoc_size (x s : ByteArray) (k : Nat) (h : k < s.size) : (x ++ s.extract k (k + 1)).size = x.size + 1 := by
  show (x ++ s.extract k (k + 1)).data.toList.length = x.data.toList.length + 1
  rw [snoc_list x s k h, List.length_append]; rfl
set_option maxRecDepth 100000 in
set_option maxHeartbeats 1000000 in
theorem word_any (s : ByteArray) (n : Int) (sg : UInt8) (hs : s.size ≤ 1000) (hn : 0 ≤ n ∧ n ≤ 100) (w : World) :
    Calls Tryd.prog 22 #[.string s, .int .i64 n, .int .u8 (sg.toNat : Int)] w fun e w' => ∃ x : ByteArray, e = .returned (.string x) ∧ x.data.toList = wordG sg s.data.toList n ∧ w = w' := by
  go_enter Tryd.func22, Tryd.ntmps22
  go_wp2_with fail
  go_loopw [1, 7, 8] (fun a b i wr => ∃ (k : Nat) (nn : Int) (x : ByteArray), k ≤ s.size ∧ a = .int .i64 nn ∧ b = .string x ∧ i = .int .i64 (k : Int) ∧ n - k ≤ nn ∧ nn ≤ n ∧ x.size ≤ k ∧ x.data.toList ++ wordG sg (s.data.toList.drop k) nn = wordG sg s.data.toList n ∧ wr = w) (fun a b i _ => s.size - (intOf i).toNat)
  case atStart => exact ⟨0, n, ⟨#[]⟩, Nat.zero_le _, rfl, rfl, rfl, by omega, by omega, Nat.zero_le _, rfl, rfl⟩
  case round =>
    obtain ⟨k, nn, x, hk, rfl, rfl, rfl, hn1, hn2, hx, hw, rfl⟩ := hrel
    by_cases hks : k < s.size
    · have hk0 : (0 : Int) ≤ (k : Int) := by omega
      have hk1 : (k : Int) < s.size := by omega
      have hk2 : IntKind.i64.wrap ((k : Int) + 1) = (k : Int) + 1 := IntWalk.i64_in _ (by omega)
      have hk3 : IntKind.i64.wrap (nn - 1) = nn - 1 := IntWalk.i64_in _ (by omega)
      have hdr : s.data.toList.drop k = s[k] :: s.data.toList.drop (k + 1) := by
        rw [List.drop_eq_getElem_cons (by simpa using hks)]; rfl
      rw [hdr] at hw
      by_cases he : s[k] = sg
      · have hw' : x.data.toList ++ wordG sg (s.data.toList.drop (k + 1)) (nn - 1) = wordG sg s.data.toList n := by
          rw [← hw]; show _ = x.data.toList ++ (if s[k] = sg then _ else _); rw [if_pos he]
        have HW := Lib.hid hw'
        have hb : (((s[k]).toNat : Int) == (sg.toNat : Int)) = true := by rw [he]; exact beq_iff_eq.2 rfl
        clear hw hdr hw' he
        go_wp2_with fail
        exact ⟨⟨k + 1, nn - 1, x, hks, rfl, rfl, by go_num, by omega, by omega, by omega, HW.out, trivial⟩, by simp only [intOf]; omega⟩
      · have hb : (((s[k]).toNat : Int) == (sg.toNat : Int)) = false := beq_false_of_ne fun e => he (UInt8.toNat_inj.1 (by omega))
        by_cases hz : nn = 0
        · subst hz
          have hw' : (x ++ s.extract k (k + 1)).data.toList ++ wordG sg (s.data.toList.drop (k + 1)) 0 = wordG sg s.data.toList n := by
            rw [← hw, snoc_list x s k hks, List.append_assoc]; show _ = x.data.toList ++ (if s[k] = sg then _ else if (0 : Int) = 0 then _ else _); rw [if_neg he, if_pos rfl]; rfl
          have HW := Lib.hid hw'
          have HZ := Lib.hid (snoc_size x s k hks)
          clear hw hdr hw' he
          go_wp2_with fail
          exact ⟨⟨k + 1, 0, _, hks, rfl, rfl, by go_num, by omega, by omega, by rw [HZ.out]; omega, HW.out, trivial⟩, by simp only [intOf]; omega⟩
        · have hw' : x.data.toList ++ wordG sg (s.data.toList.drop (k + 1)) nn = wordG sg s.data.toList n := by
            rw [← hw]; show _ = x.data.toList ++ (if s[k] = sg then _ else if nn = 0 then _ else _); rw [if_neg he, if_neg hz]
          have HW := Lib.hid hw'
          have hz' : (nn == 0) = false := beq_false_of_ne hz
          clear hw hdr hw' he hz
          go_wp2_with fail
          exact ⟨⟨k + 1, nn, x, hks, rfl, rfl, by go_num, by omega, by omega, by omega, HW.out, trivial⟩, by simp only [intOf]; omega⟩
    · obtain rfl : k = s.size := by omega
      go_wp2_with fail
      go_ret
      refine ⟨x, rfl, ?_, rfl⟩
      rw [show s.data.toList.drop s.size = [] from List.drop_of_length_le (Nat.le_refl _)] at hw
      rw [← hw]
      exact (List.append_nil _).symm
set_option maxRecDepth 100000 in
set_option maxHeartbeats 1000000 in
theorem place_any (s x : ByteArray) (hs : s.size ≤ 1000) (w : World) :
    Calls Tryd.prog 24 #[.string s, .string x] w fun e w' => e = .returned (.int .i64 (placeF s.data.toList x.data.toList)) ∧ w = w' := by
  have kw := fun (n : Nat) (hn : n ≤ 40) w => word_any s n 32 hs (by omega) w
  go_enter Tryd.func24, Tryd.ntmps24
  go_wp2_with fail
  go_loopw [5] (fun i wr => ∃ (k : Nat), k ≤ 40 ∧ i = .int .i64 (k : Int) ∧ placeG s.data.toList x.data.toList k (40 - k) = placeF s.data.toList x.data.toList ∧ wr = w) (fun i _ => 40 - (intOf i).toNat)
  case atStart => exact ⟨0, Nat.zero_le _, rfl, rfl, rfl⟩
  case round =>
    obtain ⟨k, hk, rfl, hw, rfl⟩ := hrel
    by_cases hks : k < 40
    · have hk0 : (0 : Int) ≤ (k : Int) := by omega
      have hk1 : (k : Int) < 40 := by omega
      have hk2 : IntKind.i64.wrap ((k : Int) + 1) = (k : Int) + 1 := IntWalk.i64_in _ (by omega)
      rw [show 40 - k = (40 - (k + 1)) + 1 by omega] at hw
      have hw' : (if wordG 32 s.data.toList (k : Int) = [] then (-1 : Int) else if wordG 32 s.data.toList (k : Int) = x.data.toList then (k : Int) else placeG s.data.toList x.data.toList (k + 1) (40 - (k + 1))) = placeF s.data.toList x.data.toList := hw
      have HW := Lib.hid hw'
      have HK := Lib.hid (kw k hk)
      clear hw hw' kw
      go_wp2_with fail
      refine (HK.out _).mono ?_
      rintro e w' ⟨y, rfl, hy, rfl⟩
      have HW := Lib.hid (by have h := HW.out; rw [← hy] at h; exact h)
      have ey : y.toList = y.data.toList := ByteArray.toList_eq y
      have ex : x.toList = x.data.toList := ByteArray.toList_eq x
      by_cases e0 : y.data.toList = []
      · have hb : y.toList.isEmpty = true := by rw [ey, e0]; rfl
        have HV := Lib.hid (show (-1 : Int) = placeF s.data.toList x.data.toList by rw [← HW.out, if_pos e0])
        clear hy ey ex e0 HW
        go_wp2_with fail
        go_ret
        exact ⟨by rw [← HV.out]; rfl, rfl⟩
      · have hb : y.toList.isEmpty = false := by rw [ey]; cases hh : y.data.toList with | nil => exact absurd hh e0 | cons => rfl
        by_cases e1 : y.data.toList = x.data.toList
        · have hb1 : (y.toList == x.toList) = true := by rw [ey, ex, e1]; exact beq_iff_eq.2 rfl
          have HV := Lib.hid (show (k : Int) = placeF s.data.toList x.data.toList by rw [← HW.out, if_neg e0, if_pos e1])
          clear hy ey ex e0 e1 HW
          go_wp2_with fail
          go_ret
          exact ⟨by rw [← HV.out]; rfl, rfl⟩
        · have hb1 : (y.toList == x.toList) = false := by rw [ey, ex]; exact beq_false_of_ne e1
          have HV := Lib.hid (show placeG s.data.toList x.data.toList (k + 1) (40 - (k + 1)) = placeF s.data.toList x.data.toList by rw [← HW.out, if_neg e0, if_neg e1])
          clear hy ey ex e0 e1 HW
          go_wp2_with fail
          exact ⟨⟨k + 1, hks, by go_num, HV.out, trivial⟩, by simp only [intOf]; omega⟩
    · obtain rfl : k = 40 := by omega
      go_wp2_with fail
      go_ret
      exact ⟨by rw [← hw]; rfl, rfl⟩
end Go.Proofs.YtcchnenjfckbbaaDoor.Co
