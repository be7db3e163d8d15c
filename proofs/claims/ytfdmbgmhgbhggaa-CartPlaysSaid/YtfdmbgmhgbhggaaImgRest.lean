/- The contracts of image.Fit at every input, of Same, and of what the windows show first. -/
import Derived.Test.YtfdmbgmhgbhggaaImgFit
import Derived.Test.YtfdmbgmhgbhggaaImgRef
namespace Go.Proofs.Ytfdmbgmhgbhggaa
open Go.RowKit
set_option linter.unusedVariables false
set_option linter.unusedSimpArgs false
theorem fit_any (tag : ByteArray) (n : Int) (w : World) (h0 : -9223372036854775808 ≤ n) (h1 : n ≤ 9223372036854775807) :
    Calls Try.prog 12 #[.string tag, .int .i64 n] w fun e w' => e = .returned (.tuple #[Img.shape (Img.idx tag) n, .int .i64 (Img.errK (Img.idx tag) n)]) ∧ Below w.heap.size w w' := by
  have hi := Img.idx_in tag
  by_cases hn : Img.idx tag = -1
  · exact fit_none tag n w hn
  by_cases h2 : Img.idx tag = 0
  · cases hf : Img.fitsK 0 n
    · exact fit_0_no tag n w h2 h0 h1 hf
    · exact fit_0_yes tag n w h2 h0 h1 hf
  by_cases h3 : Img.idx tag = 1
  · have he : Img.fitsK 1 n = (decide (0 < n) && (decide (n ≤ 524288) && (n % 2048 == 0))) := rfl
    by_cases q0 : 0 < n
    · by_cases q : n ≤ 524288
      · cases q2 : (n % 2048 == 0)
        · exact fit_1_no_c tag n w h3 h0 h1 (by rw [he, q2]; simp) q0 q q2
        · exact fit_1_yes tag n w h3 h0 h1 (by rw [he, q2]; simp; omega) q0 q q2
      · exact fit_1_no_b tag n w h3 h0 h1 (by rw [he]; simp; omega) q0 (by omega)
    · exact fit_1_no_a tag n w h3 h0 h1 (by rw [he]; simp; omega) (by omega)
  by_cases h4 : Img.idx tag = 2
  · cases hf : Img.fitsK 2 n
    · exact fit_2_no tag n w h4 h0 h1 hf
    · exact fit_2_yes tag n w h4 h0 h1 hf
  by_cases h5 : Img.idx tag = 3
  · cases hf : Img.fitsK 3 n
    · exact fit_3_no tag n w h5 h0 h1 hf
    · exact fit_3_yes tag n w h5 h0 h1 hf
  by_cases h6 : Img.idx tag = 4
  · cases hf : Img.fitsK 4 n
    · exact fit_4_no tag n w h6 h0 h1 hf
    · exact fit_4_yes tag n w h6 h0 h1 hf
  by_cases h7 : Img.idx tag = 5
  · cases hf : Img.fitsK 5 n
    · exact fit_5_no tag n w h7 h0 h1 hf
    · exact fit_5_yes tag n w h7 h0 h1 hf
  by_cases h8 : Img.idx tag = 6
  · cases hf : Img.fitsK 6 n
    · exact fit_6_no tag n w h8 h0 h1 hf
    · exact fit_6_yes tag n w h8 h0 h1 hf
  by_cases h9 : Img.idx tag = 7
  · cases hf : Img.fitsK 7 n
    · exact fit_7_no tag n w h9 h0 h1 hf
    · exact fit_7_yes tag n w h9 h0 h1 hf
  by_cases h10 : Img.idx tag = 8
  · cases hf : Img.fitsK 8 n
    · exact fit_8_no tag n w h10 h0 h1 hf
    · exact fit_8_yes tag n w h10 h0 h1 hf
  by_cases h11 : Img.idx tag = 9
  · cases hf : Img.fitsK 9 n
    · exact fit_9_no tag n w h11 h0 h1 hf
    · exact fit_9_yes tag n w h11 h0 h1 hf
  by_cases h12 : Img.idx tag = 10
  · cases hf : Img.fitsK 10 n
    · exact fit_10_no tag n w h12 h0 h1 hf
    · exact fit_10_yes tag n w h12 h0 h1 hf
  exact absurd hi.2 (by omega)

/-- A slice that reads as a list of ints. -/
def IsRow (w : World) (v : Value) (l : List Int) : Prop := ∃ p cap, v = .slice p l.length cap ∧ l.length ≤ 1000000 ∧ (l ≠ [] → ∃ b off, p = some ⟨b, off, none⟩ ∧ ∀ i, i < l.length → w.cell? ⟨b, off + i, none⟩ = some (.int .i64 (l.getD i 0)))
theorem IsRow.drewN {w : World} {v : Value} {l : List Int} (h : IsRow w v l) (n : Nat) : IsRow (w.drewN n) v l := h
theorem IsRow.below {w w' : World} {v : Value} {l : List Int} (h : IsRow w v l) (hb : Below w.heap.size w w') : IsRow w' v l := by
  obtain ⟨p, cap, rfl, hl, hc⟩ := h
  refine ⟨p, cap, rfl, hl, fun hn => ?_⟩
  obtain ⟨b, off, rfl, g⟩ := hc hn
  exact ⟨b, off, rfl, fun i hi => (hb.cell (p := ⟨b, off + i, none⟩) (block_lt_of_cell (g i hi))).trans (g i hi)⟩
theorem below_drewN {B : Nat} {a w : World} (h : Below B a w) (n : Nat) : Below B a (w.drewN n) := ⟨h.os, h.tape, h.output, h.size, h.block⟩
theorem ret_bool {b c : Bool} (h : b = c) : Ending.returned (.bool b) = .returned (.bool c) := by rw [h]
theorem ext_upto (la lb : List Int) (h : la.length = lb.length) (g : ∀ j, j < la.length → la.getD j 0 = lb.getD j 0) : la = lb := by
  apply List.ext_getElem h
  intro i h1 h2
  have := g i h1
  simpa [List.getD, h1, h2] using this
set_option maxHeartbeats 1000000 in
theorem same_any (va vb : Value) (la lb : List Int) (w : World) (ha : IsRow w va la) (hb : IsRow w vb lb) :
    Calls Try.prog 18 #[va, vb] w fun e w' => e = .returned (.bool (decide (la = lb))) ∧ ∃ m, w' = w.drewN m := by
  obtain ⟨pa, ca, rfl, na, ha⟩ := ha
  obtain ⟨pb, cb, rfl, nb, hb⟩ := hb
  by_cases hl : la.length = lb.length
  · have Hl := Lib.hid hl
    have el : ((la.length : Int) != (lb.length : Int)) = false := by rw [hl]; simp
    have hle : la.length ≤ lb.length := by omega
    have hge : lb.length ≤ la.length := by omega
    clear hl
    have HA := Lib.hid ha
    have HB := Lib.hid hb
    clear ha hb
    go_enter Try.func18, Try.ntmps18
    go_wp2
    go_loopw [5] (fun v wr => ∃ k m : Nat, k ≤ la.length ∧ v = .int .i64 k ∧ (∀ j, j < k → la.getD j 0 = lb.getD j 0) ∧ wr = w.drewN m) (fun v _ => la.length - (intOf v).toNat)
    case atStart => exact ⟨0, 0, by omega, rfl, fun j hj => by omega, rfl⟩
    case round =>
      obtain ⟨k, m, hk, rfl, hs, rfl⟩ := hrel
      have HS := Lib.hid hs
      clear hs
      by_cases hlt : k < la.length
      · obtain ⟨ba, oa, rfl, ga⟩ := HA.out (fun e => by rw [e] at hlt; simp at hlt)
        obtain ⟨bb, ob, rfl, gb⟩ := HB.out (fun e => absurd (show lb.length = 0 by rw [e]; rfl) (by omega))
        have hltb : k < lb.length := by omega
        have ca' : w.cell? ⟨ba, oa + k, none⟩ = some (.int .i64 (la.getD k 0)) := ga k hlt
        have cb' : w.cell? ⟨bb, ob + k, none⟩ = some (.int .i64 (lb.getD k 0)) := gb k hltb
        clear ga gb
        generalize hX : la.getD k 0 = X at *
        generalize hY : lb.getD k 0 = Y at *
        have HX := Lib.hid hX
        have HY := Lib.hid hY
        clear hX hY
        by_cases he : X = Y
        · have HE := Lib.hid he
          have hne : (X != Y) = false := by rw [he]; simp
          clear he
          go_wp2
          go_region
          go_wp2
          go_roundw
          case rel => exact ⟨k + 1, m + 1, by omega, by go_num, fun j hj => by
            by_cases hjk : j = k
            · rw [hjk, HX.out, HY.out]; exact HE.out
            · exact HS.out j (by omega), rfl⟩
          case measure => simp [intOf]; omega
        · have HE := Lib.hid he
          have hne : (X != Y) = true := by simpa using he
          clear he
          go_wp2
          go_region
          go_wp2
          go_ret
          refine ⟨ret_bool ?_, m + 1, rfl⟩
          have : la ≠ lb := fun e => HE.out (by rw [← HX.out, ← HY.out, e])
          simp [this]
      · obtain rfl : k = la.length := by omega
        go_wp2
        go_ret
        refine ⟨ret_bool ?_, m, rfl⟩
        have : la = lb := ext_upto la lb Hl.out HS.out
        simp [this]
  · have Hl := Lib.hid (show la ≠ lb from fun e => hl (by rw [e]))
    have el : ((la.length : Int) != (lb.length : Int)) = true := by simp; omega
    clear hl ha hb
    go_enter Try.func18, Try.ntmps18
    go_wp2
    go_ret
    exact ⟨ret_bool (by simp [Hl.out]), 0, rfl⟩
theorem IsRow.nil (w : World) : IsRow w (.slice none 0 0) [] := ⟨none, 0, rfl, by simp, fun h => absurd rfl h⟩
theorem IsRow.row {w : World} {b : Nat} {t : TypeId} (l : List Int) (hl : l.length ≤ 1000000) (c : Array Value) (hc : c = (l.map (Value.int .i64)).toArray) (h : w.heap[b]? = some (.cells c t (0, 0))) : IsRow w (.slice (some ⟨b, 0, none⟩) l.length l.length) l := by
  refine ⟨some ⟨b, 0, none⟩, l.length, rfl, hl, fun _ => ⟨b, 0, rfl, fun i hi => ?_⟩⟩
  rw [cell_of_row w b _ _ _ _ h, hc]
  simp [hi]
set_option maxHeartbeats 2000000 in
theorem first_none_false (tag : ByteArray) (n : Int) (w : World) (hk : Img.idx tag = -1) (h0 : -9223372036854775808 ≤ n) (h1 : n ≤ 9223372036854775807) :
    Calls Try.prog 30 #[.string tag, .int .i64 n] w fun e w' => ∃ v, e = .returned v ∧ IsRow w' v (Img.firstK (Img.idx tag) n) ∧ Below w.heap.size w w' := by
  have he : Img.errK (Img.idx tag) n = 3 := by rw [hk]; simp [Img.errK]
  have hsh : Img.shape (Img.idx tag) n = .agg #[.int .i64 (0), .int .i64 0, .int .i64 0, .bool false] := by rw [hk]; simp [Img.shape, Img.banksK, Img.szK, Img.winsK, Img.exK, Img.okK]
  have hl : Img.firstK (Img.idx tag) n = [] := by rw [hk]; simp [Img.firstK, Img.okK]
  have Hl := Lib.hid hl
  clear hl hk
  go_enter Try.func30, Try.ntmps30
  go_wp2_with fail
  refine (fit_any tag _ _ (by omega) (by omega)).mono ?_
  rintro e w1 ⟨rfl, hb1⟩
  have zb := hb1.size
  go_wp2_with fail
  go_ret
  refine ⟨_, rfl, ?_, ?_⟩
  · rw [Hl.out]; exact IsRow.nil _
  · go_grown
set_option maxHeartbeats 2000000 in
theorem first_0_false (tag : ByteArray) (n : Int) (w : World) (hk : Img.idx tag = 0) (h0 : -9223372036854775808 ≤ n) (h1 : n ≤ 9223372036854775807) (hf : Img.fitsK 0 n = false) :
    Calls Try.prog 30 #[.string tag, .int .i64 n] w fun e w' => ∃ v, e = .returned v ∧ IsRow w' v (Img.firstK (Img.idx tag) n) ∧ Below w.heap.size w w' := by
  have he : Img.errK (Img.idx tag) n = 4 := by rw [hk]; simp [Img.errK, hf]
  have hsh : Img.shape (Img.idx tag) n = .agg #[.int .i64 (0), .int .i64 0, .int .i64 0, .bool false] := by rw [hk]; simp [Img.shape, Img.banksK, Img.szK, Img.winsK, Img.exK, Img.okK, hf]
  have hl : Img.firstK (Img.idx tag) n = [] := by rw [hk]; simp [Img.firstK, Img.okK, hf]
  have ht : tag.toList = [50, 75] := Img.toList_of tag 0 (by omega) hk
  have Hl := Lib.hid hl
  clear hl hk hf
  go_enter Try.func30, Try.ntmps30
  go_wp2_with fail
  refine (fit_any tag _ _ (by omega) (by omega)).mono ?_
  rintro e w1 ⟨rfl, hb1⟩
  have zb := hb1.size
  go_wp2_with fail
  go_ret
  refine ⟨_, rfl, ?_, ?_⟩
  · rw [Hl.out]; exact IsRow.nil _
  · go_grown
set_option maxHeartbeats 2000000 in
theorem first_0_true (tag : ByteArray) (n : Int) (w : World) (hk : Img.idx tag = 0) (h0 : -9223372036854775808 ≤ n) (h1 : n ≤ 9223372036854775807) (hf : Img.fitsK 0 n = true) :
    Calls Try.prog 30 #[.string tag, .int .i64 n] w fun e w' => ∃ v, e = .returned v ∧ IsRow w' v (Img.firstK (Img.idx tag) n) ∧ Below w.heap.size w w' := by
  obtain rfl : n = 2048 := beq_iff_eq.1 hf
  have he : Img.errK (Img.idx tag) 2048 = 0 := by rw [hk]; rfl
  have hsh : Img.shape (Img.idx tag) 2048 = .agg #[.int .i64 1, .int .i64 2048, .int .i64 2, .bool false] := by rw [hk]; rfl
  have hl : Img.firstK (Img.idx tag) 2048 = [0, 0] := by rw [hk]; rfl
  have ht : tag.toList = [50, 75] := Img.toList_of tag 0 (by omega) hk
  have Hl := Lib.hid hl
  clear hl hk
  go_enter Try.func30, Try.ntmps30
  go_wp2_with fail
  refine (fit_any tag _ _ (by omega) (by omega)).mono ?_
  rintro e w1 ⟨rfl, hb1⟩
  have zb := hb1.size
  go_wp2_with fail
  try go_region
  try go_wp2
  go_ret
  refine ⟨_, rfl, ?_, ?_⟩
  · rw [Hl.out]; exact IsRow.row [0, 0] (by simp) _ rfl (heap_alloc2_new w1 _ _)
  · go_grown
set_option maxHeartbeats 2000000 in
theorem first_1_false (tag : ByteArray) (n : Int) (w : World) (hk : Img.idx tag = 1) (h0 : -9223372036854775808 ≤ n) (h1 : n ≤ 9223372036854775807) (hf : Img.fitsK 1 n = false) :
    Calls Try.prog 30 #[.string tag, .int .i64 n] w fun e w' => ∃ v, e = .returned v ∧ IsRow w' v (Img.firstK (Img.idx tag) n) ∧ Below w.heap.size w w' := by
  have he : Img.errK (Img.idx tag) n = 4 := by rw [hk]; simp [Img.errK, hf]
  have hsh : Img.shape (Img.idx tag) n = .agg #[.int .i64 (0), .int .i64 0, .int .i64 0, .bool false] := by rw [hk]; simp [Img.shape, Img.banksK, Img.szK, Img.winsK, Img.exK, Img.okK, hf]
  have hl : Img.firstK (Img.idx tag) n = [] := by rw [hk]; simp [Img.firstK, Img.okK, hf]
  have ht : tag.toList = [51, 70] := Img.toList_of tag 1 (by omega) hk
  have Hl := Lib.hid hl
  clear hl hk hf
  go_enter Try.func30, Try.ntmps30
  go_wp2_with fail
  refine (fit_any tag _ _ (by omega) (by omega)).mono ?_
  rintro e w1 ⟨rfl, hb1⟩
  have zb := hb1.size
  go_wp2_with fail
  go_ret
  refine ⟨_, rfl, ?_, ?_⟩
  · rw [Hl.out]; exact IsRow.nil _
  · go_grown
set_option maxHeartbeats 2000000 in
theorem first_1_true (tag : ByteArray) (n : Int) (w : World) (hk : Img.idx tag = 1) (h0 : -9223372036854775808 ≤ n) (h1 : n ≤ 9223372036854775807) (hf : Img.fitsK 1 n = true) :
    Calls Try.prog 30 #[.string tag, .int .i64 n] w fun e w' => ∃ v, e = .returned v ∧ IsRow w' v (Img.firstK (Img.idx tag) n) ∧ Below w.heap.size w w' := by
  have hge : 0 < n ∧ n ≤ 524288 ∧ n % 2048 = 0 := by simpa using (show (decide (0 < n) && (decide (n ≤ 524288) && (n % 2048 == 0))) = true from hf)
  have he : Img.errK (Img.idx tag) n = 0 := by rw [hk]; simp [Img.errK, hf]
  have hsh : Img.shape (Img.idx tag) n = .agg #[.int .i64 (n / 2048), .int .i64 2048, .int .i64 2, .bool false] := by rw [hk]; simp [Img.shape, Img.banksK, Img.szK, Img.winsK, Img.exK, Img.okK, Img.sizeK, Img.extK, hf]
  have hl : Img.firstK (Img.idx tag) n = [0, n / 2048 - 1] := by rw [hk]; simp [Img.firstK, Img.okK, hf]
  have ht : tag.toList = [51, 70] := Img.toList_of tag 1 (by omega) hk
  have Hl := Lib.hid hl
  clear hl hk hf
  go_enter Try.func30, Try.ntmps30
  go_wp2_with fail
  refine (fit_any tag _ _ (by omega) (by omega)).mono ?_
  rintro e w1 ⟨rfl, hb1⟩
  have zb := hb1.size
  go_wp2_with fail
  try go_region
  try go_wp2
  go_ret
  refine ⟨_, rfl, ?_, ?_⟩
  · rw [Hl.out]; exact IsRow.row [0, n / 2048 - 1] (by simp) _ rfl (heap_alloc2_new w1 _ _)
  · go_grown
set_option maxHeartbeats 2000000 in
theorem first_2_false (tag : ByteArray) (n : Int) (w : World) (hk : Img.idx tag = 2) (h0 : -9223372036854775808 ≤ n) (h1 : n ≤ 9223372036854775807) (hf : Img.fitsK 2 n = false) :
    Calls Try.prog 30 #[.string tag, .int .i64 n] w fun e w' => ∃ v, e = .returned v ∧ IsRow w' v (Img.firstK (Img.idx tag) n) ∧ Below w.heap.size w w' := by
  have he : Img.errK (Img.idx tag) n = 4 := by rw [hk]; simp [Img.errK, hf]
  have hsh : Img.shape (Img.idx tag) n = .agg #[.int .i64 (0), .int .i64 0, .int .i64 0, .bool false] := by rw [hk]; simp [Img.shape, Img.banksK, Img.szK, Img.winsK, Img.exK, Img.okK, hf]
  have hl : Img.firstK (Img.idx tag) n = [] := by rw [hk]; simp [Img.firstK, Img.okK, hf]
  have ht : tag.toList = [52, 75] := Img.toList_of tag 2 (by omega) hk
  have Hl := Lib.hid hl
  clear hl hk hf
  go_enter Try.func30, Try.ntmps30
  go_wp2_with fail
  refine (fit_any tag _ _ (by omega) (by omega)).mono ?_
  rintro e w1 ⟨rfl, hb1⟩
  have zb := hb1.size
  go_wp2_with fail
  go_ret
  refine ⟨_, rfl, ?_, ?_⟩
  · rw [Hl.out]; exact IsRow.nil _
  · go_grown
set_option maxHeartbeats 2000000 in
theorem first_2_true (tag : ByteArray) (n : Int) (w : World) (hk : Img.idx tag = 2) (h0 : -9223372036854775808 ≤ n) (h1 : n ≤ 9223372036854775807) (hf : Img.fitsK 2 n = true) :
    Calls Try.prog 30 #[.string tag, .int .i64 n] w fun e w' => ∃ v, e = .returned v ∧ IsRow w' v (Img.firstK (Img.idx tag) n) ∧ Below w.heap.size w w' := by
  obtain rfl : n = 4096 := beq_iff_eq.1 hf
  have he : Img.errK (Img.idx tag) 4096 = 0 := by rw [hk]; rfl
  have hsh : Img.shape (Img.idx tag) 4096 = .agg #[.int .i64 1, .int .i64 4096, .int .i64 1, .bool false] := by rw [hk]; rfl
  have hl : Img.firstK (Img.idx tag) 4096 = [0] := by rw [hk]; rfl
  have ht : tag.toList = [52, 75] := Img.toList_of tag 2 (by omega) hk
  have Hl := Lib.hid hl
  clear hl hk
  go_enter Try.func30, Try.ntmps30
  go_wp2_with fail
  refine (fit_any tag _ _ (by omega) (by omega)).mono ?_
  rintro e w1 ⟨rfl, hb1⟩
  have zb := hb1.size
  go_wp2_with fail
  try go_region
  try go_wp2
  go_ret
  refine ⟨_, rfl, ?_, ?_⟩
  · rw [Hl.out]; exact IsRow.row [0] (by simp) _ rfl (heap_alloc2_new w1 _ _)
  · go_grown
set_option maxHeartbeats 2000000 in
theorem first_3_false (tag : ByteArray) (n : Int) (w : World) (hk : Img.idx tag = 3) (h0 : -9223372036854775808 ≤ n) (h1 : n ≤ 9223372036854775807) (hf : Img.fitsK 3 n = false) :
    Calls Try.prog 30 #[.string tag, .int .i64 n] w fun e w' => ∃ v, e = .returned v ∧ IsRow w' v (Img.firstK (Img.idx tag) n) ∧ Below w.heap.size w w' := by
  have he : Img.errK (Img.idx tag) n = 4 := by rw [hk]; simp [Img.errK, hf]
  have hsh : Img.shape (Img.idx tag) n = .agg #[.int .i64 (0), .int .i64 0, .int .i64 0, .bool false] := by rw [hk]; simp [Img.shape, Img.banksK, Img.szK, Img.winsK, Img.exK, Img.okK, hf]
  have hl : Img.firstK (Img.idx tag) n = [] := by rw [hk]; simp [Img.firstK, Img.okK, hf]
  have ht : tag.toList = [69, 48] := Img.toList_of tag 3 (by omega) hk
  have Hl := Lib.hid hl
  clear hl hk hf
  go_enter Try.func30, Try.ntmps30
  go_wp2_with fail
  refine (fit_any tag _ _ (by omega) (by omega)).mono ?_
  rintro e w1 ⟨rfl, hb1⟩
  have zb := hb1.size
  go_wp2_with fail
  go_ret
  refine ⟨_, rfl, ?_, ?_⟩
  · rw [Hl.out]; exact IsRow.nil _
  · go_grown
set_option maxHeartbeats 2000000 in
theorem first_3_true (tag : ByteArray) (n : Int) (w : World) (hk : Img.idx tag = 3) (h0 : -9223372036854775808 ≤ n) (h1 : n ≤ 9223372036854775807) (hf : Img.fitsK 3 n = true) :
    Calls Try.prog 30 #[.string tag, .int .i64 n] w fun e w' => ∃ v, e = .returned v ∧ IsRow w' v (Img.firstK (Img.idx tag) n) ∧ Below w.heap.size w w' := by
  obtain rfl : n = 8192 := beq_iff_eq.1 hf
  have he : Img.errK (Img.idx tag) 8192 = 0 := by rw [hk]; rfl
  have hsh : Img.shape (Img.idx tag) 8192 = .agg #[.int .i64 8, .int .i64 1024, .int .i64 4, .bool false] := by rw [hk]; rfl
  have hl : Img.firstK (Img.idx tag) 8192 = [4, 5, 6, 7] := by rw [hk]; rfl
  have ht : tag.toList = [69, 48] := Img.toList_of tag 3 (by omega) hk
  have Hl := Lib.hid hl
  clear hl hk
  go_enter Try.func30, Try.ntmps30
  go_wp2_with fail
  refine (fit_any tag _ _ (by omega) (by omega)).mono ?_
  rintro e w1 ⟨rfl, hb1⟩
  have zb := hb1.size
  go_wp2_with fail
  try go_region
  try go_wp2
  go_ret
  refine ⟨_, rfl, ?_, ?_⟩
  · rw [Hl.out]; exact IsRow.row [4, 5, 6, 7] (by simp) _ rfl (heap_alloc2_new w1 _ _)
  · go_grown
set_option maxHeartbeats 2000000 in
theorem first_4_false (tag : ByteArray) (n : Int) (w : World) (hk : Img.idx tag = 4) (h0 : -9223372036854775808 ≤ n) (h1 : n ≤ 9223372036854775807) (hf : Img.fitsK 4 n = false) :
    Calls Try.prog 30 #[.string tag, .int .i64 n] w fun e w' => ∃ v, e = .returned v ∧ IsRow w' v (Img.firstK (Img.idx tag) n) ∧ Below w.heap.size w w' := by
  have he : Img.errK (Img.idx tag) n = 4 := by rw [hk]; simp [Img.errK, hf]
  have hsh : Img.shape (Img.idx tag) n = .agg #[.int .i64 (0), .int .i64 0, .int .i64 0, .bool false] := by rw [hk]; simp [Img.shape, Img.banksK, Img.szK, Img.winsK, Img.exK, Img.okK, hf]
  have hl : Img.firstK (Img.idx tag) n = [] := by rw [hk]; simp [Img.firstK, Img.okK, hf]
  have ht : tag.toList = [70, 52] := Img.toList_of tag 4 (by omega) hk
  have Hl := Lib.hid hl
  clear hl hk hf
  go_enter Try.func30, Try.ntmps30
  go_wp2_with fail
  refine (fit_any tag _ _ (by omega) (by omega)).mono ?_
  rintro e w1 ⟨rfl, hb1⟩
  have zb := hb1.size
  go_wp2_with fail
  go_ret
  refine ⟨_, rfl, ?_, ?_⟩
  · rw [Hl.out]; exact IsRow.nil _
  · go_grown
set_option maxHeartbeats 2000000 in
theorem first_4_true (tag : ByteArray) (n : Int) (w : World) (hk : Img.idx tag = 4) (h0 : -9223372036854775808 ≤ n) (h1 : n ≤ 9223372036854775807) (hf : Img.fitsK 4 n = true) :
    Calls Try.prog 30 #[.string tag, .int .i64 n] w fun e w' => ∃ v, e = .returned v ∧ IsRow w' v (Img.firstK (Img.idx tag) n) ∧ Below w.heap.size w w' := by
  obtain rfl : n = 32768 := beq_iff_eq.1 hf
  have he : Img.errK (Img.idx tag) 32768 = 0 := by rw [hk]; rfl
  have hsh : Img.shape (Img.idx tag) 32768 = .agg #[.int .i64 8, .int .i64 4096, .int .i64 1, .bool false] := by rw [hk]; rfl
  have hl : Img.firstK (Img.idx tag) 32768 = [7] := by rw [hk]; rfl
  have ht : tag.toList = [70, 52] := Img.toList_of tag 4 (by omega) hk
  have Hl := Lib.hid hl
  clear hl hk
  go_enter Try.func30, Try.ntmps30
  go_wp2_with fail
  refine (fit_any tag _ _ (by omega) (by omega)).mono ?_
  rintro e w1 ⟨rfl, hb1⟩
  have zb := hb1.size
  go_wp2_with fail
  try go_region
  try go_wp2
  go_ret
  refine ⟨_, rfl, ?_, ?_⟩
  · rw [Hl.out]; exact IsRow.row [7] (by simp) _ rfl (heap_alloc2_new w1 _ _)
  · go_grown
set_option maxHeartbeats 2000000 in
theorem first_5_false (tag : ByteArray) (n : Int) (w : World) (hk : Img.idx tag = 5) (h0 : -9223372036854775808 ≤ n) (h1 : n ≤ 9223372036854775807) (hf : Img.fitsK 5 n = false) :
    Calls Try.prog 30 #[.string tag, .int .i64 n] w fun e w' => ∃ v, e = .returned v ∧ IsRow w' v (Img.firstK (Img.idx tag) n) ∧ Below w.heap.size w w' := by
  have he : Img.errK (Img.idx tag) n = 4 := by rw [hk]; simp [Img.errK, hf]
  have hsh : Img.shape (Img.idx tag) n = .agg #[.int .i64 (0), .int .i64 0, .int .i64 0, .bool false] := by rw [hk]; simp [Img.shape, Img.banksK, Img.szK, Img.winsK, Img.exK, Img.okK, hf]
  have hl : Img.firstK (Img.idx tag) n = [] := by rw [hk]; simp [Img.firstK, Img.okK, hf]
  have ht : tag.toList = [70, 52, 83, 67] := Img.toList_of tag 5 (by omega) hk
  have Hl := Lib.hid hl
  clear hl hk hf
  go_enter Try.func30, Try.ntmps30
  go_wp2_with fail
  refine (fit_any tag _ _ (by omega) (by omega)).mono ?_
  rintro e w1 ⟨rfl, hb1⟩
  have zb := hb1.size
  go_wp2_with fail
  go_ret
  refine ⟨_, rfl, ?_, ?_⟩
  · rw [Hl.out]; exact IsRow.nil _
  · go_grown
set_option maxHeartbeats 2000000 in
theorem first_5_true (tag : ByteArray) (n : Int) (w : World) (hk : Img.idx tag = 5) (h0 : -9223372036854775808 ≤ n) (h1 : n ≤ 9223372036854775807) (hf : Img.fitsK 5 n = true) :
    Calls Try.prog 30 #[.string tag, .int .i64 n] w fun e w' => ∃ v, e = .returned v ∧ IsRow w' v (Img.firstK (Img.idx tag) n) ∧ Below w.heap.size w w' := by
  obtain rfl : n = 32768 := beq_iff_eq.1 hf
  have he : Img.errK (Img.idx tag) 32768 = 0 := by rw [hk]; rfl
  have hsh : Img.shape (Img.idx tag) 32768 = .agg #[.int .i64 8, .int .i64 4096, .int .i64 1, .bool true] := by rw [hk]; rfl
  have hl : Img.firstK (Img.idx tag) 32768 = [7] := by rw [hk]; rfl
  have ht : tag.toList = [70, 52, 83, 67] := Img.toList_of tag 5 (by omega) hk
  have Hl := Lib.hid hl
  clear hl hk
  go_enter Try.func30, Try.ntmps30
  go_wp2_with fail
  refine (fit_any tag _ _ (by omega) (by omega)).mono ?_
  rintro e w1 ⟨rfl, hb1⟩
  have zb := hb1.size
  go_wp2_with fail
  try go_region
  try go_wp2
  go_ret
  refine ⟨_, rfl, ?_, ?_⟩
  · rw [Hl.out]; exact IsRow.row [7] (by simp) _ rfl (heap_alloc2_new w1 _ _)
  · go_grown
set_option maxHeartbeats 2000000 in
theorem first_6_false (tag : ByteArray) (n : Int) (w : World) (hk : Img.idx tag = 6) (h0 : -9223372036854775808 ≤ n) (h1 : n ≤ 9223372036854775807) (hf : Img.fitsK 6 n = false) :
    Calls Try.prog 30 #[.string tag, .int .i64 n] w fun e w' => ∃ v, e = .returned v ∧ IsRow w' v (Img.firstK (Img.idx tag) n) ∧ Below w.heap.size w w' := by
  have he : Img.errK (Img.idx tag) n = 4 := by rw [hk]; simp [Img.errK, hf]
  have hsh : Img.shape (Img.idx tag) n = .agg #[.int .i64 (0), .int .i64 0, .int .i64 0, .bool false] := by rw [hk]; simp [Img.shape, Img.banksK, Img.szK, Img.winsK, Img.exK, Img.okK, hf]
  have hl : Img.firstK (Img.idx tag) n = [] := by rw [hk]; simp [Img.firstK, Img.okK, hf]
  have ht : tag.toList = [70, 54] := Img.toList_of tag 6 (by omega) hk
  have Hl := Lib.hid hl
  clear hl hk hf
  go_enter Try.func30, Try.ntmps30
  go_wp2_with fail
  refine (fit_any tag _ _ (by omega) (by omega)).mono ?_
  rintro e w1 ⟨rfl, hb1⟩
  have zb := hb1.size
  go_wp2_with fail
  go_ret
  refine ⟨_, rfl, ?_, ?_⟩
  · rw [Hl.out]; exact IsRow.nil _
  · go_grown
set_option maxHeartbeats 2000000 in
theorem first_6_true (tag : ByteArray) (n : Int) (w : World) (hk : Img.idx tag = 6) (h0 : -9223372036854775808 ≤ n) (h1 : n ≤ 9223372036854775807) (hf : Img.fitsK 6 n = true) :
    Calls Try.prog 30 #[.string tag, .int .i64 n] w fun e w' => ∃ v, e = .returned v ∧ IsRow w' v (Img.firstK (Img.idx tag) n) ∧ Below w.heap.size w w' := by
  obtain rfl : n = 16384 := beq_iff_eq.1 hf
  have he : Img.errK (Img.idx tag) 16384 = 0 := by rw [hk]; rfl
  have hsh : Img.shape (Img.idx tag) 16384 = .agg #[.int .i64 4, .int .i64 4096, .int .i64 1, .bool false] := by rw [hk]; rfl
  have hl : Img.firstK (Img.idx tag) 16384 = [3] := by rw [hk]; rfl
  have ht : tag.toList = [70, 54] := Img.toList_of tag 6 (by omega) hk
  have Hl := Lib.hid hl
  clear hl hk
  go_enter Try.func30, Try.ntmps30
  go_wp2_with fail
  refine (fit_any tag _ _ (by omega) (by omega)).mono ?_
  rintro e w1 ⟨rfl, hb1⟩
  have zb := hb1.size
  go_wp2_with fail
  try go_region
  try go_wp2
  go_ret
  refine ⟨_, rfl, ?_, ?_⟩
  · rw [Hl.out]; exact IsRow.row [3] (by simp) _ rfl (heap_alloc2_new w1 _ _)
  · go_grown
set_option maxHeartbeats 2000000 in
theorem first_7_false (tag : ByteArray) (n : Int) (w : World) (hk : Img.idx tag = 7) (h0 : -9223372036854775808 ≤ n) (h1 : n ≤ 9223372036854775807) (hf : Img.fitsK 7 n = false) :
    Calls Try.prog 30 #[.string tag, .int .i64 n] w fun e w' => ∃ v, e = .returned v ∧ IsRow w' v (Img.firstK (Img.idx tag) n) ∧ Below w.heap.size w w' := by
  have he : Img.errK (Img.idx tag) n = 4 := by rw [hk]; simp [Img.errK, hf]
  have hsh : Img.shape (Img.idx tag) n = .agg #[.int .i64 (0), .int .i64 0, .int .i64 0, .bool false] := by rw [hk]; simp [Img.shape, Img.banksK, Img.szK, Img.winsK, Img.exK, Img.okK, hf]
  have hl : Img.firstK (Img.idx tag) n = [] := by rw [hk]; simp [Img.firstK, Img.okK, hf]
  have ht : tag.toList = [70, 54, 83, 67] := Img.toList_of tag 7 (by omega) hk
  have Hl := Lib.hid hl
  clear hl hk hf
  go_enter Try.func30, Try.ntmps30
  go_wp2_with fail
  refine (fit_any tag _ _ (by omega) (by omega)).mono ?_
  rintro e w1 ⟨rfl, hb1⟩
  have zb := hb1.size
  go_wp2_with fail
  go_ret
  refine ⟨_, rfl, ?_, ?_⟩
  · rw [Hl.out]; exact IsRow.nil _
  · go_grown
set_option maxHeartbeats 2000000 in
theorem first_7_true (tag : ByteArray) (n : Int) (w : World) (hk : Img.idx tag = 7) (h0 : -9223372036854775808 ≤ n) (h1 : n ≤ 9223372036854775807) (hf : Img.fitsK 7 n = true) :
    Calls Try.prog 30 #[.string tag, .int .i64 n] w fun e w' => ∃ v, e = .returned v ∧ IsRow w' v (Img.firstK (Img.idx tag) n) ∧ Below w.heap.size w w' := by
  obtain rfl : n = 16384 := beq_iff_eq.1 hf
  have he : Img.errK (Img.idx tag) 16384 = 0 := by rw [hk]; rfl
  have hsh : Img.shape (Img.idx tag) 16384 = .agg #[.int .i64 4, .int .i64 4096, .int .i64 1, .bool true] := by rw [hk]; rfl
  have hl : Img.firstK (Img.idx tag) 16384 = [3] := by rw [hk]; rfl
  have ht : tag.toList = [70, 54, 83, 67] := Img.toList_of tag 7 (by omega) hk
  have Hl := Lib.hid hl
  clear hl hk
  go_enter Try.func30, Try.ntmps30
  go_wp2_with fail
  refine (fit_any tag _ _ (by omega) (by omega)).mono ?_
  rintro e w1 ⟨rfl, hb1⟩
  have zb := hb1.size
  go_wp2_with fail
  try go_region
  try go_wp2
  go_ret
  refine ⟨_, rfl, ?_, ?_⟩
  · rw [Hl.out]; exact IsRow.row [3] (by simp) _ rfl (heap_alloc2_new w1 _ _)
  · go_grown
set_option maxHeartbeats 2000000 in
theorem first_8_false (tag : ByteArray) (n : Int) (w : World) (hk : Img.idx tag = 8) (h0 : -9223372036854775808 ≤ n) (h1 : n ≤ 9223372036854775807) (hf : Img.fitsK 8 n = false) :
    Calls Try.prog 30 #[.string tag, .int .i64 n] w fun e w' => ∃ v, e = .returned v ∧ IsRow w' v (Img.firstK (Img.idx tag) n) ∧ Below w.heap.size w w' := by
  have he : Img.errK (Img.idx tag) n = 4 := by rw [hk]; simp [Img.errK, hf]
  have hsh : Img.shape (Img.idx tag) n = .agg #[.int .i64 (0), .int .i64 0, .int .i64 0, .bool false] := by rw [hk]; simp [Img.shape, Img.banksK, Img.szK, Img.winsK, Img.exK, Img.okK, hf]
  have hl : Img.firstK (Img.idx tag) n = [] := by rw [hk]; simp [Img.firstK, Img.okK, hf]
  have ht : tag.toList = [70, 56] := Img.toList_of tag 8 (by omega) hk
  have Hl := Lib.hid hl
  clear hl hk hf
  go_enter Try.func30, Try.ntmps30
  go_wp2_with fail
  refine (fit_any tag _ _ (by omega) (by omega)).mono ?_
  rintro e w1 ⟨rfl, hb1⟩
  have zb := hb1.size
  go_wp2_with fail
  go_ret
  refine ⟨_, rfl, ?_, ?_⟩
  · rw [Hl.out]; exact IsRow.nil _
  · go_grown
set_option maxHeartbeats 2000000 in
theorem first_8_true (tag : ByteArray) (n : Int) (w : World) (hk : Img.idx tag = 8) (h0 : -9223372036854775808 ≤ n) (h1 : n ≤ 9223372036854775807) (hf : Img.fitsK 8 n = true) :
    Calls Try.prog 30 #[.string tag, .int .i64 n] w fun e w' => ∃ v, e = .returned v ∧ IsRow w' v (Img.firstK (Img.idx tag) n) ∧ Below w.heap.size w w' := by
  obtain rfl : n = 8192 := beq_iff_eq.1 hf
  have he : Img.errK (Img.idx tag) 8192 = 0 := by rw [hk]; rfl
  have hsh : Img.shape (Img.idx tag) 8192 = .agg #[.int .i64 2, .int .i64 4096, .int .i64 1, .bool false] := by rw [hk]; rfl
  have hl : Img.firstK (Img.idx tag) 8192 = [1] := by rw [hk]; rfl
  have ht : tag.toList = [70, 56] := Img.toList_of tag 8 (by omega) hk
  have Hl := Lib.hid hl
  clear hl hk
  go_enter Try.func30, Try.ntmps30
  go_wp2_with fail
  refine (fit_any tag _ _ (by omega) (by omega)).mono ?_
  rintro e w1 ⟨rfl, hb1⟩
  have zb := hb1.size
  go_wp2_with fail
  try go_region
  try go_wp2
  go_ret
  refine ⟨_, rfl, ?_, ?_⟩
  · rw [Hl.out]; exact IsRow.row [1] (by simp) _ rfl (heap_alloc2_new w1 _ _)
  · go_grown
set_option maxHeartbeats 2000000 in
theorem first_9_false (tag : ByteArray) (n : Int) (w : World) (hk : Img.idx tag = 9) (h0 : -9223372036854775808 ≤ n) (h1 : n ≤ 9223372036854775807) (hf : Img.fitsK 9 n = false) :
    Calls Try.prog 30 #[.string tag, .int .i64 n] w fun e w' => ∃ v, e = .returned v ∧ IsRow w' v (Img.firstK (Img.idx tag) n) ∧ Below w.heap.size w w' := by
  have he : Img.errK (Img.idx tag) n = 4 := by rw [hk]; simp [Img.errK, hf]
  have hsh : Img.shape (Img.idx tag) n = .agg #[.int .i64 (0), .int .i64 0, .int .i64 0, .bool false] := by rw [hk]; simp [Img.shape, Img.banksK, Img.szK, Img.winsK, Img.exK, Img.okK, hf]
  have hl : Img.firstK (Img.idx tag) n = [] := by rw [hk]; simp [Img.firstK, Img.okK, hf]
  have ht : tag.toList = [70, 56, 83, 67] := Img.toList_of tag 9 (by omega) hk
  have Hl := Lib.hid hl
  clear hl hk hf
  go_enter Try.func30, Try.ntmps30
  go_wp2_with fail
  refine (fit_any tag _ _ (by omega) (by omega)).mono ?_
  rintro e w1 ⟨rfl, hb1⟩
  have zb := hb1.size
  go_wp2_with fail
  go_ret
  refine ⟨_, rfl, ?_, ?_⟩
  · rw [Hl.out]; exact IsRow.nil _
  · go_grown
set_option maxHeartbeats 2000000 in
theorem first_9_true (tag : ByteArray) (n : Int) (w : World) (hk : Img.idx tag = 9) (h0 : -9223372036854775808 ≤ n) (h1 : n ≤ 9223372036854775807) (hf : Img.fitsK 9 n = true) :
    Calls Try.prog 30 #[.string tag, .int .i64 n] w fun e w' => ∃ v, e = .returned v ∧ IsRow w' v (Img.firstK (Img.idx tag) n) ∧ Below w.heap.size w w' := by
  obtain rfl : n = 8192 := beq_iff_eq.1 hf
  have he : Img.errK (Img.idx tag) 8192 = 0 := by rw [hk]; rfl
  have hsh : Img.shape (Img.idx tag) 8192 = .agg #[.int .i64 2, .int .i64 4096, .int .i64 1, .bool true] := by rw [hk]; rfl
  have hl : Img.firstK (Img.idx tag) 8192 = [1] := by rw [hk]; rfl
  have ht : tag.toList = [70, 56, 83, 67] := Img.toList_of tag 9 (by omega) hk
  have Hl := Lib.hid hl
  clear hl hk
  go_enter Try.func30, Try.ntmps30
  go_wp2_with fail
  refine (fit_any tag _ _ (by omega) (by omega)).mono ?_
  rintro e w1 ⟨rfl, hb1⟩
  have zb := hb1.size
  go_wp2_with fail
  try go_region
  try go_wp2
  go_ret
  refine ⟨_, rfl, ?_, ?_⟩
  · rw [Hl.out]; exact IsRow.row [1] (by simp) _ rfl (heap_alloc2_new w1 _ _)
  · go_grown
set_option maxHeartbeats 2000000 in
theorem first_10_false (tag : ByteArray) (n : Int) (w : World) (hk : Img.idx tag = 10) (h0 : -9223372036854775808 ≤ n) (h1 : n ≤ 9223372036854775807) (hf : Img.fitsK 10 n = false) :
    Calls Try.prog 30 #[.string tag, .int .i64 n] w fun e w' => ∃ v, e = .returned v ∧ IsRow w' v (Img.firstK (Img.idx tag) n) ∧ Below w.heap.size w w' := by
  have he : Img.errK (Img.idx tag) n = 4 := by rw [hk]; simp [Img.errK, hf]
  have hsh : Img.shape (Img.idx tag) n = .agg #[.int .i64 (0), .int .i64 0, .int .i64 0, .bool false] := by rw [hk]; simp [Img.shape, Img.banksK, Img.szK, Img.winsK, Img.exK, Img.okK, hf]
  have hl : Img.firstK (Img.idx tag) n = [] := by rw [hk]; simp [Img.firstK, Img.okK, hf]
  have ht : tag.toList = [70, 69] := Img.toList_of tag 10 (by omega) hk
  have Hl := Lib.hid hl
  clear hl hk hf
  go_enter Try.func30, Try.ntmps30
  go_wp2_with fail
  refine (fit_any tag _ _ (by omega) (by omega)).mono ?_
  rintro e w1 ⟨rfl, hb1⟩
  have zb := hb1.size
  go_wp2_with fail
  go_ret
  refine ⟨_, rfl, ?_, ?_⟩
  · rw [Hl.out]; exact IsRow.nil _
  · go_grown
set_option maxHeartbeats 2000000 in
theorem first_10_true (tag : ByteArray) (n : Int) (w : World) (hk : Img.idx tag = 10) (h0 : -9223372036854775808 ≤ n) (h1 : n ≤ 9223372036854775807) (hf : Img.fitsK 10 n = true) :
    Calls Try.prog 30 #[.string tag, .int .i64 n] w fun e w' => ∃ v, e = .returned v ∧ IsRow w' v (Img.firstK (Img.idx tag) n) ∧ Below w.heap.size w w' := by
  obtain rfl : n = 8192 := beq_iff_eq.1 hf
  have he : Img.errK (Img.idx tag) 8192 = 0 := by rw [hk]; rfl
  have hsh : Img.shape (Img.idx tag) 8192 = .agg #[.int .i64 2, .int .i64 4096, .int .i64 1, .bool false] := by rw [hk]; rfl
  have hl : Img.firstK (Img.idx tag) 8192 = [0] := by rw [hk]; rfl
  have ht : tag.toList = [70, 69] := Img.toList_of tag 10 (by omega) hk
  have Hl := Lib.hid hl
  clear hl hk
  go_enter Try.func30, Try.ntmps30
  go_wp2_with fail
  refine (fit_any tag _ _ (by omega) (by omega)).mono ?_
  rintro e w1 ⟨rfl, hb1⟩
  have zb := hb1.size
  go_wp2_with fail
  try go_region
  try go_wp2
  go_ret
  refine ⟨_, rfl, ?_, ?_⟩
  · rw [Hl.out]; exact IsRow.row [0] (by simp) _ rfl (heap_alloc2_new w1 _ _)
  · go_grown
set_option maxHeartbeats 2000000 in
theorem rfirst_none_false (tag : ByteArray) (n : Int) (w : World) (hk : Img.idx tag = -1) (h0 : -9223372036854775808 ≤ n) (h1 : n ≤ 9223372036854775807) :
    Calls Try.prog 42 #[.string tag, .int .i64 n] w fun e w' => ∃ v, e = .returned v ∧ IsRow w' v (Img.firstK (Img.idx tag) n) ∧ Below w.heap.size w w' := by
  have he : Img.errK (Img.idx tag) n = 3 := by rw [hk]; simp [Img.errK]
  have hsh : Img.shape (Img.idx tag) n = .agg #[.int .i64 (0), .int .i64 0, .int .i64 0, .bool false] := by rw [hk]; simp [Img.shape, Img.banksK, Img.szK, Img.winsK, Img.exK, Img.okK]
  have hl : Img.firstK (Img.idx tag) n = [] := by rw [hk]; simp [Img.firstK, Img.okK]
  have Hl := Lib.hid hl
  clear hl hk
  go_enter Try.func42, Try.ntmps42
  go_wp2_with fail
  refine (rfit_any tag _ _ (by omega) (by omega)).mono ?_
  rintro e w1 ⟨rfl, hb1⟩
  have zb := hb1.size
  go_wp2_with fail
  go_ret
  refine ⟨_, rfl, ?_, ?_⟩
  · rw [Hl.out]; exact IsRow.nil _
  · go_grown
set_option maxHeartbeats 2000000 in
theorem rfirst_0_false (tag : ByteArray) (n : Int) (w : World) (hk : Img.idx tag = 0) (h0 : -9223372036854775808 ≤ n) (h1 : n ≤ 9223372036854775807) (hf : Img.fitsK 0 n = false) :
    Calls Try.prog 42 #[.string tag, .int .i64 n] w fun e w' => ∃ v, e = .returned v ∧ IsRow w' v (Img.firstK (Img.idx tag) n) ∧ Below w.heap.size w w' := by
  have he : Img.errK (Img.idx tag) n = 4 := by rw [hk]; simp [Img.errK, hf]
  have hsh : Img.shape (Img.idx tag) n = .agg #[.int .i64 (0), .int .i64 0, .int .i64 0, .bool false] := by rw [hk]; simp [Img.shape, Img.banksK, Img.szK, Img.winsK, Img.exK, Img.okK, hf]
  have hl : Img.firstK (Img.idx tag) n = [] := by rw [hk]; simp [Img.firstK, Img.okK, hf]
  have ht : tag.toList = [50, 75] := Img.toList_of tag 0 (by omega) hk
  have Hl := Lib.hid hl
  clear hl hk hf
  go_enter Try.func42, Try.ntmps42
  go_wp2_with fail
  refine (rfit_any tag _ _ (by omega) (by omega)).mono ?_
  rintro e w1 ⟨rfl, hb1⟩
  have zb := hb1.size
  go_wp2_with fail
  go_ret
  refine ⟨_, rfl, ?_, ?_⟩
  · rw [Hl.out]; exact IsRow.nil _
  · go_grown
set_option maxHeartbeats 2000000 in
theorem rfirst_0_true (tag : ByteArray) (n : Int) (w : World) (hk : Img.idx tag = 0) (h0 : -9223372036854775808 ≤ n) (h1 : n ≤ 9223372036854775807) (hf : Img.fitsK 0 n = true) :
    Calls Try.prog 42 #[.string tag, .int .i64 n] w fun e w' => ∃ v, e = .returned v ∧ IsRow w' v (Img.firstK (Img.idx tag) n) ∧ Below w.heap.size w w' := by
  obtain rfl : n = 2048 := beq_iff_eq.1 hf
  have he : Img.errK (Img.idx tag) 2048 = 0 := by rw [hk]; rfl
  have hsh : Img.shape (Img.idx tag) 2048 = .agg #[.int .i64 1, .int .i64 2048, .int .i64 2, .bool false] := by rw [hk]; rfl
  have hl : Img.firstK (Img.idx tag) 2048 = [0, 0] := by rw [hk]; rfl
  have ht : tag.toList = [50, 75] := Img.toList_of tag 0 (by omega) hk
  have Hl := Lib.hid hl
  clear hl hk
  go_enter Try.func42, Try.ntmps42
  go_wp2_with fail
  refine (rfit_any tag _ _ (by omega) (by omega)).mono ?_
  rintro e w1 ⟨rfl, hb1⟩
  have zb := hb1.size
  go_wp2_with fail
  try go_region
  try go_wp2
  go_ret
  refine ⟨_, rfl, ?_, ?_⟩
  · rw [Hl.out]; exact IsRow.row [0, 0] (by simp) _ rfl (heap_alloc2_new w1 _ _)
  · go_grown
set_option maxHeartbeats 2000000 in
theorem rfirst_1_false (tag : ByteArray) (n : Int) (w : World) (hk : Img.idx tag = 1) (h0 : -9223372036854775808 ≤ n) (h1 : n ≤ 9223372036854775807) (hf : Img.fitsK 1 n = false) :
    Calls Try.prog 42 #[.string tag, .int .i64 n] w fun e w' => ∃ v, e = .returned v ∧ IsRow w' v (Img.firstK (Img.idx tag) n) ∧ Below w.heap.size w w' := by
  have he : Img.errK (Img.idx tag) n = 4 := by rw [hk]; simp [Img.errK, hf]
  have hsh : Img.shape (Img.idx tag) n = .agg #[.int .i64 (0), .int .i64 0, .int .i64 0, .bool false] := by rw [hk]; simp [Img.shape, Img.banksK, Img.szK, Img.winsK, Img.exK, Img.okK, hf]
  have hl : Img.firstK (Img.idx tag) n = [] := by rw [hk]; simp [Img.firstK, Img.okK, hf]
  have ht : tag.toList = [51, 70] := Img.toList_of tag 1 (by omega) hk
  have Hl := Lib.hid hl
  clear hl hk hf
  go_enter Try.func42, Try.ntmps42
  go_wp2_with fail
  refine (rfit_any tag _ _ (by omega) (by omega)).mono ?_
  rintro e w1 ⟨rfl, hb1⟩
  have zb := hb1.size
  go_wp2_with fail
  go_ret
  refine ⟨_, rfl, ?_, ?_⟩
  · rw [Hl.out]; exact IsRow.nil _
  · go_grown
set_option maxHeartbeats 2000000 in
theorem rfirst_1_true (tag : ByteArray) (n : Int) (w : World) (hk : Img.idx tag = 1) (h0 : -9223372036854775808 ≤ n) (h1 : n ≤ 9223372036854775807) (hf : Img.fitsK 1 n = true) :
    Calls Try.prog 42 #[.string tag, .int .i64 n] w fun e w' => ∃ v, e = .returned v ∧ IsRow w' v (Img.firstK (Img.idx tag) n) ∧ Below w.heap.size w w' := by
  have hge : 0 < n ∧ n ≤ 524288 ∧ n % 2048 = 0 := by simpa using (show (decide (0 < n) && (decide (n ≤ 524288) && (n % 2048 == 0))) = true from hf)
  have he : Img.errK (Img.idx tag) n = 0 := by rw [hk]; simp [Img.errK, hf]
  have hsh : Img.shape (Img.idx tag) n = .agg #[.int .i64 (n / 2048), .int .i64 2048, .int .i64 2, .bool false] := by rw [hk]; simp [Img.shape, Img.banksK, Img.szK, Img.winsK, Img.exK, Img.okK, Img.sizeK, Img.extK, hf]
  have hl : Img.firstK (Img.idx tag) n = [0, n / 2048 - 1] := by rw [hk]; simp [Img.firstK, Img.okK, hf]
  have ht : tag.toList = [51, 70] := Img.toList_of tag 1 (by omega) hk
  have Hl := Lib.hid hl
  clear hl hk hf
  go_enter Try.func42, Try.ntmps42
  go_wp2_with fail
  refine (rfit_any tag _ _ (by omega) (by omega)).mono ?_
  rintro e w1 ⟨rfl, hb1⟩
  have zb := hb1.size
  go_wp2_with fail
  try go_region
  try go_wp2
  go_ret
  refine ⟨_, rfl, ?_, ?_⟩
  · rw [Hl.out]; exact IsRow.row [0, n / 2048 - 1] (by simp) _ rfl (heap_alloc2_new w1 _ _)
  · go_grown
set_option maxHeartbeats 2000000 in
theorem rfirst_2_false (tag : ByteArray) (n : Int) (w : World) (hk : Img.idx tag = 2) (h0 : -9223372036854775808 ≤ n) (h1 : n ≤ 9223372036854775807) (hf : Img.fitsK 2 n = false) :
    Calls Try.prog 42 #[.string tag, .int .i64 n] w fun e w' => ∃ v, e = .returned v ∧ IsRow w' v (Img.firstK (Img.idx tag) n) ∧ Below w.heap.size w w' := by
  have he : Img.errK (Img.idx tag) n = 4 := by rw [hk]; simp [Img.errK, hf]
  have hsh : Img.shape (Img.idx tag) n = .agg #[.int .i64 (0), .int .i64 0, .int .i64 0, .bool false] := by rw [hk]; simp [Img.shape, Img.banksK, Img.szK, Img.winsK, Img.exK, Img.okK, hf]
  have hl : Img.firstK (Img.idx tag) n = [] := by rw [hk]; simp [Img.firstK, Img.okK, hf]
  have ht : tag.toList = [52, 75] := Img.toList_of tag 2 (by omega) hk
  have Hl := Lib.hid hl
  clear hl hk hf
  go_enter Try.func42, Try.ntmps42
  go_wp2_with fail
  refine (rfit_any tag _ _ (by omega) (by omega)).mono ?_
  rintro e w1 ⟨rfl, hb1⟩
  have zb := hb1.size
  go_wp2_with fail
  go_ret
  refine ⟨_, rfl, ?_, ?_⟩
  · rw [Hl.out]; exact IsRow.nil _
  · go_grown
set_option maxHeartbeats 2000000 in
theorem rfirst_2_true (tag : ByteArray) (n : Int) (w : World) (hk : Img.idx tag = 2) (h0 : -9223372036854775808 ≤ n) (h1 : n ≤ 9223372036854775807) (hf : Img.fitsK 2 n = true) :
    Calls Try.prog 42 #[.string tag, .int .i64 n] w fun e w' => ∃ v, e = .returned v ∧ IsRow w' v (Img.firstK (Img.idx tag) n) ∧ Below w.heap.size w w' := by
  obtain rfl : n = 4096 := beq_iff_eq.1 hf
  have he : Img.errK (Img.idx tag) 4096 = 0 := by rw [hk]; rfl
  have hsh : Img.shape (Img.idx tag) 4096 = .agg #[.int .i64 1, .int .i64 4096, .int .i64 1, .bool false] := by rw [hk]; rfl
  have hl : Img.firstK (Img.idx tag) 4096 = [0] := by rw [hk]; rfl
  have ht : tag.toList = [52, 75] := Img.toList_of tag 2 (by omega) hk
  have Hl := Lib.hid hl
  clear hl hk
  go_enter Try.func42, Try.ntmps42
  go_wp2_with fail
  refine (rfit_any tag _ _ (by omega) (by omega)).mono ?_
  rintro e w1 ⟨rfl, hb1⟩
  have zb := hb1.size
  go_wp2_with fail
  try go_region
  try go_wp2
  go_ret
  refine ⟨_, rfl, ?_, ?_⟩
  · rw [Hl.out]; exact IsRow.row [0] (by simp) _ rfl (heap_alloc2_new w1 _ _)
  · go_grown
set_option maxHeartbeats 2000000 in
theorem rfirst_3_false (tag : ByteArray) (n : Int) (w : World) (hk : Img.idx tag = 3) (h0 : -9223372036854775808 ≤ n) (h1 : n ≤ 9223372036854775807) (hf : Img.fitsK 3 n = false) :
    Calls Try.prog 42 #[.string tag, .int .i64 n] w fun e w' => ∃ v, e = .returned v ∧ IsRow w' v (Img.firstK (Img.idx tag) n) ∧ Below w.heap.size w w' := by
  have he : Img.errK (Img.idx tag) n = 4 := by rw [hk]; simp [Img.errK, hf]
  have hsh : Img.shape (Img.idx tag) n = .agg #[.int .i64 (0), .int .i64 0, .int .i64 0, .bool false] := by rw [hk]; simp [Img.shape, Img.banksK, Img.szK, Img.winsK, Img.exK, Img.okK, hf]
  have hl : Img.firstK (Img.idx tag) n = [] := by rw [hk]; simp [Img.firstK, Img.okK, hf]
  have ht : tag.toList = [69, 48] := Img.toList_of tag 3 (by omega) hk
  have Hl := Lib.hid hl
  clear hl hk hf
  go_enter Try.func42, Try.ntmps42
  go_wp2_with fail
  refine (rfit_any tag _ _ (by omega) (by omega)).mono ?_
  rintro e w1 ⟨rfl, hb1⟩
  have zb := hb1.size
  go_wp2_with fail
  go_ret
  refine ⟨_, rfl, ?_, ?_⟩
  · rw [Hl.out]; exact IsRow.nil _
  · go_grown
set_option maxHeartbeats 2000000 in
theorem rfirst_3_true (tag : ByteArray) (n : Int) (w : World) (hk : Img.idx tag = 3) (h0 : -9223372036854775808 ≤ n) (h1 : n ≤ 9223372036854775807) (hf : Img.fitsK 3 n = true) :
    Calls Try.prog 42 #[.string tag, .int .i64 n] w fun e w' => ∃ v, e = .returned v ∧ IsRow w' v (Img.firstK (Img.idx tag) n) ∧ Below w.heap.size w w' := by
  obtain rfl : n = 8192 := beq_iff_eq.1 hf
  have he : Img.errK (Img.idx tag) 8192 = 0 := by rw [hk]; rfl
  have hsh : Img.shape (Img.idx tag) 8192 = .agg #[.int .i64 8, .int .i64 1024, .int .i64 4, .bool false] := by rw [hk]; rfl
  have hl : Img.firstK (Img.idx tag) 8192 = [4, 5, 6, 7] := by rw [hk]; rfl
  have ht : tag.toList = [69, 48] := Img.toList_of tag 3 (by omega) hk
  have Hl := Lib.hid hl
  clear hl hk
  go_enter Try.func42, Try.ntmps42
  go_wp2_with fail
  refine (rfit_any tag _ _ (by omega) (by omega)).mono ?_
  rintro e w1 ⟨rfl, hb1⟩
  have zb := hb1.size
  go_wp2_with fail
  try go_region
  try go_wp2
  go_ret
  refine ⟨_, rfl, ?_, ?_⟩
  · rw [Hl.out]; exact IsRow.row [4, 5, 6, 7] (by simp) _ rfl (heap_alloc2_new w1 _ _)
  · go_grown
set_option maxHeartbeats 2000000 in
theorem rfirst_4_false (tag : ByteArray) (n : Int) (w : World) (hk : Img.idx tag = 4) (h0 : -9223372036854775808 ≤ n) (h1 : n ≤ 9223372036854775807) (hf : Img.fitsK 4 n = false) :
    Calls Try.prog 42 #[.string tag, .int .i64 n] w fun e w' => ∃ v, e = .returned v ∧ IsRow w' v (Img.firstK (Img.idx tag) n) ∧ Below w.heap.size w w' := by
  have he : Img.errK (Img.idx tag) n = 4 := by rw [hk]; simp [Img.errK, hf]
  have hsh : Img.shape (Img.idx tag) n = .agg #[.int .i64 (0), .int .i64 0, .int .i64 0, .bool false] := by rw [hk]; simp [Img.shape, Img.banksK, Img.szK, Img.winsK, Img.exK, Img.okK, hf]
  have hl : Img.firstK (Img.idx tag) n = [] := by rw [hk]; simp [Img.firstK, Img.okK, hf]
  have ht : tag.toList = [70, 52] := Img.toList_of tag 4 (by omega) hk
  have Hl := Lib.hid hl
  clear hl hk hf
  go_enter Try.func42, Try.ntmps42
  go_wp2_with fail
  refine (rfit_any tag _ _ (by omega) (by omega)).mono ?_
  rintro e w1 ⟨rfl, hb1⟩
  have zb := hb1.size
  go_wp2_with fail
  go_ret
  refine ⟨_, rfl, ?_, ?_⟩
  · rw [Hl.out]; exact IsRow.nil _
  · go_grown
set_option maxHeartbeats 2000000 in
theorem rfirst_4_true (tag : ByteArray) (n : Int) (w : World) (hk : Img.idx tag = 4) (h0 : -9223372036854775808 ≤ n) (h1 : n ≤ 9223372036854775807) (hf : Img.fitsK 4 n = true) :
    Calls Try.prog 42 #[.string tag, .int .i64 n] w fun e w' => ∃ v, e = .returned v ∧ IsRow w' v (Img.firstK (Img.idx tag) n) ∧ Below w.heap.size w w' := by
  obtain rfl : n = 32768 := beq_iff_eq.1 hf
  have he : Img.errK (Img.idx tag) 32768 = 0 := by rw [hk]; rfl
  have hsh : Img.shape (Img.idx tag) 32768 = .agg #[.int .i64 8, .int .i64 4096, .int .i64 1, .bool false] := by rw [hk]; rfl
  have hl : Img.firstK (Img.idx tag) 32768 = [7] := by rw [hk]; rfl
  have ht : tag.toList = [70, 52] := Img.toList_of tag 4 (by omega) hk
  have Hl := Lib.hid hl
  clear hl hk
  go_enter Try.func42, Try.ntmps42
  go_wp2_with fail
  refine (rfit_any tag _ _ (by omega) (by omega)).mono ?_
  rintro e w1 ⟨rfl, hb1⟩
  have zb := hb1.size
  go_wp2_with fail
  try go_region
  try go_wp2
  go_ret
  refine ⟨_, rfl, ?_, ?_⟩
  · rw [Hl.out]; exact IsRow.row [7] (by simp) _ rfl (heap_alloc2_new w1 _ _)
  · go_grown
set_option maxHeartbeats 2000000 in
theorem rfirst_5_false (tag : ByteArray) (n : Int) (w : World) (hk : Img.idx tag = 5) (h0 : -9223372036854775808 ≤ n) (h1 : n ≤ 9223372036854775807) (hf : Img.fitsK 5 n = false) :
    Calls Try.prog 42 #[.string tag, .int .i64 n] w fun e w' => ∃ v, e = .returned v ∧ IsRow w' v (Img.firstK (Img.idx tag) n) ∧ Below w.heap.size w w' := by
  have he : Img.errK (Img.idx tag) n = 4 := by rw [hk]; simp [Img.errK, hf]
  have hsh : Img.shape (Img.idx tag) n = .agg #[.int .i64 (0), .int .i64 0, .int .i64 0, .bool false] := by rw [hk]; simp [Img.shape, Img.banksK, Img.szK, Img.winsK, Img.exK, Img.okK, hf]
  have hl : Img.firstK (Img.idx tag) n = [] := by rw [hk]; simp [Img.firstK, Img.okK, hf]
  have ht : tag.toList = [70, 52, 83, 67] := Img.toList_of tag 5 (by omega) hk
  have Hl := Lib.hid hl
  clear hl hk hf
  go_enter Try.func42, Try.ntmps42
  go_wp2_with fail
  refine (rfit_any tag _ _ (by omega) (by omega)).mono ?_
  rintro e w1 ⟨rfl, hb1⟩
  have zb := hb1.size
  go_wp2_with fail
  go_ret
  refine ⟨_, rfl, ?_, ?_⟩
  · rw [Hl.out]; exact IsRow.nil _
  · go_grown
set_option maxHeartbeats 2000000 in
theorem rfirst_5_true (tag : ByteArray) (n : Int) (w : World) (hk : Img.idx tag = 5) (h0 : -9223372036854775808 ≤ n) (h1 : n ≤ 9223372036854775807) (hf : Img.fitsK 5 n = true) :
    Calls Try.prog 42 #[.string tag, .int .i64 n] w fun e w' => ∃ v, e = .returned v ∧ IsRow w' v (Img.firstK (Img.idx tag) n) ∧ Below w.heap.size w w' := by
  obtain rfl : n = 32768 := beq_iff_eq.1 hf
  have he : Img.errK (Img.idx tag) 32768 = 0 := by rw [hk]; rfl
  have hsh : Img.shape (Img.idx tag) 32768 = .agg #[.int .i64 8, .int .i64 4096, .int .i64 1, .bool true] := by rw [hk]; rfl
  have hl : Img.firstK (Img.idx tag) 32768 = [7] := by rw [hk]; rfl
  have ht : tag.toList = [70, 52, 83, 67] := Img.toList_of tag 5 (by omega) hk
  have Hl := Lib.hid hl
  clear hl hk
  go_enter Try.func42, Try.ntmps42
  go_wp2_with fail
  refine (rfit_any tag _ _ (by omega) (by omega)).mono ?_
  rintro e w1 ⟨rfl, hb1⟩
  have zb := hb1.size
  go_wp2_with fail
  try go_region
  try go_wp2
  go_ret
  refine ⟨_, rfl, ?_, ?_⟩
  · rw [Hl.out]; exact IsRow.row [7] (by simp) _ rfl (heap_alloc2_new w1 _ _)
  · go_grown
set_option maxHeartbeats 2000000 in
theorem rfirst_6_false (tag : ByteArray) (n : Int) (w : World) (hk : Img.idx tag = 6) (h0 : -9223372036854775808 ≤ n) (h1 : n ≤ 9223372036854775807) (hf : Img.fitsK 6 n = false) :
    Calls Try.prog 42 #[.string tag, .int .i64 n] w fun e w' => ∃ v, e = .returned v ∧ IsRow w' v (Img.firstK (Img.idx tag) n) ∧ Below w.heap.size w w' := by
  have he : Img.errK (Img.idx tag) n = 4 := by rw [hk]; simp [Img.errK, hf]
  have hsh : Img.shape (Img.idx tag) n = .agg #[.int .i64 (0), .int .i64 0, .int .i64 0, .bool false] := by rw [hk]; simp [Img.shape, Img.banksK, Img.szK, Img.winsK, Img.exK, Img.okK, hf]
  have hl : Img.firstK (Img.idx tag) n = [] := by rw [hk]; simp [Img.firstK, Img.okK, hf]
  have ht : tag.toList = [70, 54] := Img.toList_of tag 6 (by omega) hk
  have Hl := Lib.hid hl
  clear hl hk hf
  go_enter Try.func42, Try.ntmps42
  go_wp2_with fail
  refine (rfit_any tag _ _ (by omega) (by omega)).mono ?_
  rintro e w1 ⟨rfl, hb1⟩
  have zb := hb1.size
  go_wp2_with fail
  go_ret
  refine ⟨_, rfl, ?_, ?_⟩
  · rw [Hl.out]; exact IsRow.nil _
  · go_grown
set_option maxHeartbeats 2000000 in
theorem rfirst_6_true (tag : ByteArray) (n : Int) (w : World) (hk : Img.idx tag = 6) (h0 : -9223372036854775808 ≤ n) (h1 : n ≤ 9223372036854775807) (hf : Img.fitsK 6 n = true) :
    Calls Try.prog 42 #[.string tag, .int .i64 n] w fun e w' => ∃ v, e = .returned v ∧ IsRow w' v (Img.firstK (Img.idx tag) n) ∧ Below w.heap.size w w' := by
  obtain rfl : n = 16384 := beq_iff_eq.1 hf
  have he : Img.errK (Img.idx tag) 16384 = 0 := by rw [hk]; rfl
  have hsh : Img.shape (Img.idx tag) 16384 = .agg #[.int .i64 4, .int .i64 4096, .int .i64 1, .bool false] := by rw [hk]; rfl
  have hl : Img.firstK (Img.idx tag) 16384 = [3] := by rw [hk]; rfl
  have ht : tag.toList = [70, 54] := Img.toList_of tag 6 (by omega) hk
  have Hl := Lib.hid hl
  clear hl hk
  go_enter Try.func42, Try.ntmps42
  go_wp2_with fail
  refine (rfit_any tag _ _ (by omega) (by omega)).mono ?_
  rintro e w1 ⟨rfl, hb1⟩
  have zb := hb1.size
  go_wp2_with fail
  try go_region
  try go_wp2
  go_ret
  refine ⟨_, rfl, ?_, ?_⟩
  · rw [Hl.out]; exact IsRow.row [3] (by simp) _ rfl (heap_alloc2_new w1 _ _)
  · go_grown
set_option maxHeartbeats 2000000 in
theorem rfirst_7_false (tag : ByteArray) (n : Int) (w : World) (hk : Img.idx tag = 7) (h0 : -9223372036854775808 ≤ n) (h1 : n ≤ 9223372036854775807) (hf : Img.fitsK 7 n = false) :
    Calls Try.prog 42 #[.string tag, .int .i64 n] w fun e w' => ∃ v, e = .returned v ∧ IsRow w' v (Img.firstK (Img.idx tag) n) ∧ Below w.heap.size w w' := by
  have he : Img.errK (Img.idx tag) n = 4 := by rw [hk]; simp [Img.errK, hf]
  have hsh : Img.shape (Img.idx tag) n = .agg #[.int .i64 (0), .int .i64 0, .int .i64 0, .bool false] := by rw [hk]; simp [Img.shape, Img.banksK, Img.szK, Img.winsK, Img.exK, Img.okK, hf]
  have hl : Img.firstK (Img.idx tag) n = [] := by rw [hk]; simp [Img.firstK, Img.okK, hf]
  have ht : tag.toList = [70, 54, 83, 67] := Img.toList_of tag 7 (by omega) hk
  have Hl := Lib.hid hl
  clear hl hk hf
  go_enter Try.func42, Try.ntmps42
  go_wp2_with fail
  refine (rfit_any tag _ _ (by omega) (by omega)).mono ?_
  rintro e w1 ⟨rfl, hb1⟩
  have zb := hb1.size
  go_wp2_with fail
  go_ret
  refine ⟨_, rfl, ?_, ?_⟩
  · rw [Hl.out]; exact IsRow.nil _
  · go_grown
set_option maxHeartbeats 2000000 in
theorem rfirst_7_true (tag : ByteArray) (n : Int) (w : World) (hk : Img.idx tag = 7) (h0 : -9223372036854775808 ≤ n) (h1 : n ≤ 9223372036854775807) (hf : Img.fitsK 7 n = true) :
    Calls Try.prog 42 #[.string tag, .int .i64 n] w fun e w' => ∃ v, e = .returned v ∧ IsRow w' v (Img.firstK (Img.idx tag) n) ∧ Below w.heap.size w w' := by
  obtain rfl : n = 16384 := beq_iff_eq.1 hf
  have he : Img.errK (Img.idx tag) 16384 = 0 := by rw [hk]; rfl
  have hsh : Img.shape (Img.idx tag) 16384 = .agg #[.int .i64 4, .int .i64 4096, .int .i64 1, .bool true] := by rw [hk]; rfl
  have hl : Img.firstK (Img.idx tag) 16384 = [3] := by rw [hk]; rfl
  have ht : tag.toList = [70, 54, 83, 67] := Img.toList_of tag 7 (by omega) hk
  have Hl := Lib.hid hl
  clear hl hk
  go_enter Try.func42, Try.ntmps42
  go_wp2_with fail
  refine (rfit_any tag _ _ (by omega) (by omega)).mono ?_
  rintro e w1 ⟨rfl, hb1⟩
  have zb := hb1.size
  go_wp2_with fail
  try go_region
  try go_wp2
  go_ret
  refine ⟨_, rfl, ?_, ?_⟩
  · rw [Hl.out]; exact IsRow.row [3] (by simp) _ rfl (heap_alloc2_new w1 _ _)
  · go_grown
set_option maxHeartbeats 2000000 in
theorem rfirst_8_false (tag : ByteArray) (n : Int) (w : World) (hk : Img.idx tag = 8) (h0 : -9223372036854775808 ≤ n) (h1 : n ≤ 9223372036854775807) (hf : Img.fitsK 8 n = false) :
    Calls Try.prog 42 #[.string tag, .int .i64 n] w fun e w' => ∃ v, e = .returned v ∧ IsRow w' v (Img.firstK (Img.idx tag) n) ∧ Below w.heap.size w w' := by
  have he : Img.errK (Img.idx tag) n = 4 := by rw [hk]; simp [Img.errK, hf]
  have hsh : Img.shape (Img.idx tag) n = .agg #[.int .i64 (0), .int .i64 0, .int .i64 0, .bool false] := by rw [hk]; simp [Img.shape, Img.banksK, Img.szK, Img.winsK, Img.exK, Img.okK, hf]
  have hl : Img.firstK (Img.idx tag) n = [] := by rw [hk]; simp [Img.firstK, Img.okK, hf]
  have ht : tag.toList = [70, 56] := Img.toList_of tag 8 (by omega) hk
  have Hl := Lib.hid hl
  clear hl hk hf
  go_enter Try.func42, Try.ntmps42
  go_wp2_with fail
  refine (rfit_any tag _ _ (by omega) (by omega)).mono ?_
  rintro e w1 ⟨rfl, hb1⟩
  have zb := hb1.size
  go_wp2_with fail
  go_ret
  refine ⟨_, rfl, ?_, ?_⟩
  · rw [Hl.out]; exact IsRow.nil _
  · go_grown
set_option maxHeartbeats 2000000 in
theorem rfirst_8_true (tag : ByteArray) (n : Int) (w : World) (hk : Img.idx tag = 8) (h0 : -9223372036854775808 ≤ n) (h1 : n ≤ 9223372036854775807) (hf : Img.fitsK 8 n = true) :
    Calls Try.prog 42 #[.string tag, .int .i64 n] w fun e w' => ∃ v, e = .returned v ∧ IsRow w' v (Img.firstK (Img.idx tag) n) ∧ Below w.heap.size w w' := by
  obtain rfl : n = 8192 := beq_iff_eq.1 hf
  have he : Img.errK (Img.idx tag) 8192 = 0 := by rw [hk]; rfl
  have hsh : Img.shape (Img.idx tag) 8192 = .agg #[.int .i64 2, .int .i64 4096, .int .i64 1, .bool false] := by rw [hk]; rfl
  have hl : Img.firstK (Img.idx tag) 8192 = [1] := by rw [hk]; rfl
  have ht : tag.toList = [70, 56] := Img.toList_of tag 8 (by omega) hk
  have Hl := Lib.hid hl
  clear hl hk
  go_enter Try.func42, Try.ntmps42
  go_wp2_with fail
  refine (rfit_any tag _ _ (by omega) (by omega)).mono ?_
  rintro e w1 ⟨rfl, hb1⟩
  have zb := hb1.size
  go_wp2_with fail
  try go_region
  try go_wp2
  go_ret
  refine ⟨_, rfl, ?_, ?_⟩
  · rw [Hl.out]; exact IsRow.row [1] (by simp) _ rfl (heap_alloc2_new w1 _ _)
  · go_grown
set_option maxHeartbeats 2000000 in
theorem rfirst_9_false (tag : ByteArray) (n : Int) (w : World) (hk : Img.idx tag = 9) (h0 : -9223372036854775808 ≤ n) (h1 : n ≤ 9223372036854775807) (hf : Img.fitsK 9 n = false) :
    Calls Try.prog 42 #[.string tag, .int .i64 n] w fun e w' => ∃ v, e = .returned v ∧ IsRow w' v (Img.firstK (Img.idx tag) n) ∧ Below w.heap.size w w' := by
  have he : Img.errK (Img.idx tag) n = 4 := by rw [hk]; simp [Img.errK, hf]
  have hsh : Img.shape (Img.idx tag) n = .agg #[.int .i64 (0), .int .i64 0, .int .i64 0, .bool false] := by rw [hk]; simp [Img.shape, Img.banksK, Img.szK, Img.winsK, Img.exK, Img.okK, hf]
  have hl : Img.firstK (Img.idx tag) n = [] := by rw [hk]; simp [Img.firstK, Img.okK, hf]
  have ht : tag.toList = [70, 56, 83, 67] := Img.toList_of tag 9 (by omega) hk
  have Hl := Lib.hid hl
  clear hl hk hf
  go_enter Try.func42, Try.ntmps42
  go_wp2_with fail
  refine (rfit_any tag _ _ (by omega) (by omega)).mono ?_
  rintro e w1 ⟨rfl, hb1⟩
  have zb := hb1.size
  go_wp2_with fail
  go_ret
  refine ⟨_, rfl, ?_, ?_⟩
  · rw [Hl.out]; exact IsRow.nil _
  · go_grown
set_option maxHeartbeats 2000000 in
theorem rfirst_9_true (tag : ByteArray) (n : Int) (w : World) (hk : Img.idx tag = 9) (h0 : -9223372036854775808 ≤ n) (h1 : n ≤ 9223372036854775807) (hf : Img.fitsK 9 n = true) :
    Calls Try.prog 42 #[.string tag, .int .i64 n] w fun e w' => ∃ v, e = .returned v ∧ IsRow w' v (Img.firstK (Img.idx tag) n) ∧ Below w.heap.size w w' := by
  obtain rfl : n = 8192 := beq_iff_eq.1 hf
  have he : Img.errK (Img.idx tag) 8192 = 0 := by rw [hk]; rfl
  have hsh : Img.shape (Img.idx tag) 8192 = .agg #[.int .i64 2, .int .i64 4096, .int .i64 1, .bool true] := by rw [hk]; rfl
  have hl : Img.firstK (Img.idx tag) 8192 = [1] := by rw [hk]; rfl
  have ht : tag.toList = [70, 56, 83, 67] := Img.toList_of tag 9 (by omega) hk
  have Hl := Lib.hid hl
  clear hl hk
  go_enter Try.func42, Try.ntmps42
  go_wp2_with fail
  refine (rfit_any tag _ _ (by omega) (by omega)).mono ?_
  rintro e w1 ⟨rfl, hb1⟩
  have zb := hb1.size
  go_wp2_with fail
  try go_region
  try go_wp2
  go_ret
  refine ⟨_, rfl, ?_, ?_⟩
  · rw [Hl.out]; exact IsRow.row [1] (by simp) _ rfl (heap_alloc2_new w1 _ _)
  · go_grown
set_option maxHeartbeats 2000000 in
theorem rfirst_10_false (tag : ByteArray) (n : Int) (w : World) (hk : Img.idx tag = 10) (h0 : -9223372036854775808 ≤ n) (h1 : n ≤ 9223372036854775807) (hf : Img.fitsK 10 n = false) :
    Calls Try.prog 42 #[.string tag, .int .i64 n] w fun e w' => ∃ v, e = .returned v ∧ IsRow w' v (Img.firstK (Img.idx tag) n) ∧ Below w.heap.size w w' := by
  have he : Img.errK (Img.idx tag) n = 4 := by rw [hk]; simp [Img.errK, hf]
  have hsh : Img.shape (Img.idx tag) n = .agg #[.int .i64 (0), .int .i64 0, .int .i64 0, .bool false] := by rw [hk]; simp [Img.shape, Img.banksK, Img.szK, Img.winsK, Img.exK, Img.okK, hf]
  have hl : Img.firstK (Img.idx tag) n = [] := by rw [hk]; simp [Img.firstK, Img.okK, hf]
  have ht : tag.toList = [70, 69] := Img.toList_of tag 10 (by omega) hk
  have Hl := Lib.hid hl
  clear hl hk hf
  go_enter Try.func42, Try.ntmps42
  go_wp2_with fail
  refine (rfit_any tag _ _ (by omega) (by omega)).mono ?_
  rintro e w1 ⟨rfl, hb1⟩
  have zb := hb1.size
  go_wp2_with fail
  go_ret
  refine ⟨_, rfl, ?_, ?_⟩
  · rw [Hl.out]; exact IsRow.nil _
  · go_grown
set_option maxHeartbeats 2000000 in
theorem rfirst_10_true (tag : ByteArray) (n : Int) (w : World) (hk : Img.idx tag = 10) (h0 : -9223372036854775808 ≤ n) (h1 : n ≤ 9223372036854775807) (hf : Img.fitsK 10 n = true) :
    Calls Try.prog 42 #[.string tag, .int .i64 n] w fun e w' => ∃ v, e = .returned v ∧ IsRow w' v (Img.firstK (Img.idx tag) n) ∧ Below w.heap.size w w' := by
  obtain rfl : n = 8192 := beq_iff_eq.1 hf
  have he : Img.errK (Img.idx tag) 8192 = 0 := by rw [hk]; rfl
  have hsh : Img.shape (Img.idx tag) 8192 = .agg #[.int .i64 2, .int .i64 4096, .int .i64 1, .bool false] := by rw [hk]; rfl
  have hl : Img.firstK (Img.idx tag) 8192 = [0] := by rw [hk]; rfl
  have ht : tag.toList = [70, 69] := Img.toList_of tag 10 (by omega) hk
  have Hl := Lib.hid hl
  clear hl hk
  go_enter Try.func42, Try.ntmps42
  go_wp2_with fail
  refine (rfit_any tag _ _ (by omega) (by omega)).mono ?_
  rintro e w1 ⟨rfl, hb1⟩
  have zb := hb1.size
  go_wp2_with fail
  try go_region
  try go_wp2
  go_ret
  refine ⟨_, rfl, ?_, ?_⟩
  · rw [Hl.out]; exact IsRow.row [0] (by simp) _ rfl (heap_alloc2_new w1 _ _)
  · go_grown
theorem first_any (tag : ByteArray) (n : Int) (w : World) (h0 : -9223372036854775808 ≤ n) (h1 : n ≤ 9223372036854775807) :
    Calls Try.prog 30 #[.string tag, .int .i64 n] w fun e w' => ∃ v, e = .returned v ∧ IsRow w' v (Img.firstK (Img.idx tag) n) ∧ Below w.heap.size w w' := by
  have hi := Img.idx_in tag
  by_cases hn : Img.idx tag = -1
  · exact first_none_false tag n w hn h0 h1
  by_cases h2 : Img.idx tag = 0
  · cases hf : Img.fitsK 0 n
    · exact first_0_false tag n w h2 h0 h1 hf
    · exact first_0_true tag n w h2 h0 h1 hf
  by_cases h3 : Img.idx tag = 1
  · cases hf : Img.fitsK 1 n
    · exact first_1_false tag n w h3 h0 h1 hf
    · exact first_1_true tag n w h3 h0 h1 hf
  by_cases h4 : Img.idx tag = 2
  · cases hf : Img.fitsK 2 n
    · exact first_2_false tag n w h4 h0 h1 hf
    · exact first_2_true tag n w h4 h0 h1 hf
  by_cases h5 : Img.idx tag = 3
  · cases hf : Img.fitsK 3 n
    · exact first_3_false tag n w h5 h0 h1 hf
    · exact first_3_true tag n w h5 h0 h1 hf
  by_cases h6 : Img.idx tag = 4
  · cases hf : Img.fitsK 4 n
    · exact first_4_false tag n w h6 h0 h1 hf
    · exact first_4_true tag n w h6 h0 h1 hf
  by_cases h7 : Img.idx tag = 5
  · cases hf : Img.fitsK 5 n
    · exact first_5_false tag n w h7 h0 h1 hf
    · exact first_5_true tag n w h7 h0 h1 hf
  by_cases h8 : Img.idx tag = 6
  · cases hf : Img.fitsK 6 n
    · exact first_6_false tag n w h8 h0 h1 hf
    · exact first_6_true tag n w h8 h0 h1 hf
  by_cases h9 : Img.idx tag = 7
  · cases hf : Img.fitsK 7 n
    · exact first_7_false tag n w h9 h0 h1 hf
    · exact first_7_true tag n w h9 h0 h1 hf
  by_cases h10 : Img.idx tag = 8
  · cases hf : Img.fitsK 8 n
    · exact first_8_false tag n w h10 h0 h1 hf
    · exact first_8_true tag n w h10 h0 h1 hf
  by_cases h11 : Img.idx tag = 9
  · cases hf : Img.fitsK 9 n
    · exact first_9_false tag n w h11 h0 h1 hf
    · exact first_9_true tag n w h11 h0 h1 hf
  by_cases h12 : Img.idx tag = 10
  · cases hf : Img.fitsK 10 n
    · exact first_10_false tag n w h12 h0 h1 hf
    · exact first_10_true tag n w h12 h0 h1 hf
  exact absurd hi.2 (by omega)
theorem rfirst_any (tag : ByteArray) (n : Int) (w : World) (h0 : -9223372036854775808 ≤ n) (h1 : n ≤ 9223372036854775807) :
    Calls Try.prog 42 #[.string tag, .int .i64 n] w fun e w' => ∃ v, e = .returned v ∧ IsRow w' v (Img.firstK (Img.idx tag) n) ∧ Below w.heap.size w w' := by
  have hi := Img.idx_in tag
  by_cases hn : Img.idx tag = -1
  · exact rfirst_none_false tag n w hn h0 h1
  by_cases h2 : Img.idx tag = 0
  · cases hf : Img.fitsK 0 n
    · exact rfirst_0_false tag n w h2 h0 h1 hf
    · exact rfirst_0_true tag n w h2 h0 h1 hf
  by_cases h3 : Img.idx tag = 1
  · cases hf : Img.fitsK 1 n
    · exact rfirst_1_false tag n w h3 h0 h1 hf
    · exact rfirst_1_true tag n w h3 h0 h1 hf
  by_cases h4 : Img.idx tag = 2
  · cases hf : Img.fitsK 2 n
    · exact rfirst_2_false tag n w h4 h0 h1 hf
    · exact rfirst_2_true tag n w h4 h0 h1 hf
  by_cases h5 : Img.idx tag = 3
  · cases hf : Img.fitsK 3 n
    · exact rfirst_3_false tag n w h5 h0 h1 hf
    · exact rfirst_3_true tag n w h5 h0 h1 hf
  by_cases h6 : Img.idx tag = 4
  · cases hf : Img.fitsK 4 n
    · exact rfirst_4_false tag n w h6 h0 h1 hf
    · exact rfirst_4_true tag n w h6 h0 h1 hf
  by_cases h7 : Img.idx tag = 5
  · cases hf : Img.fitsK 5 n
    · exact rfirst_5_false tag n w h7 h0 h1 hf
    · exact rfirst_5_true tag n w h7 h0 h1 hf
  by_cases h8 : Img.idx tag = 6
  · cases hf : Img.fitsK 6 n
    · exact rfirst_6_false tag n w h8 h0 h1 hf
    · exact rfirst_6_true tag n w h8 h0 h1 hf
  by_cases h9 : Img.idx tag = 7
  · cases hf : Img.fitsK 7 n
    · exact rfirst_7_false tag n w h9 h0 h1 hf
    · exact rfirst_7_true tag n w h9 h0 h1 hf
  by_cases h10 : Img.idx tag = 8
  · cases hf : Img.fitsK 8 n
    · exact rfirst_8_false tag n w h10 h0 h1 hf
    · exact rfirst_8_true tag n w h10 h0 h1 hf
  by_cases h11 : Img.idx tag = 9
  · cases hf : Img.fitsK 9 n
    · exact rfirst_9_false tag n w h11 h0 h1 hf
    · exact rfirst_9_true tag n w h11 h0 h1 hf
  by_cases h12 : Img.idx tag = 10
  · cases hf : Img.fitsK 10 n
    · exact rfirst_10_false tag n w h12 h0 h1 hf
    · exact rfirst_10_true tag n w h12 h0 h1 hf
  exact absurd hi.2 (by omega)
end Go.Proofs.Ytfdmbgmhgbhggaa
