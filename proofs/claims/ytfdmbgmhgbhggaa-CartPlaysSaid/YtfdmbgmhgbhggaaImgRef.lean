/- The contract of the reference of images. -/
import Derived.Test.YtfdmbgmhgbhggaaImgWalks
import Derived.RegionTactic
import Derived.ChangeAlike
import Derived.BigRegion
namespace Go.Proofs.Ytfdmbgmhgbhggaa
open Go.RowKit
set_option linter.unusedVariables false
set_option linter.unusedSimpArgs false
theorem rshape_ret {k n a b c : Int} {x : Bool} {d e : Int} (h1 : a = Img.banksK k n) (h2 : b = Img.szK k n) (h3 : c = Img.winsK k n) (h4 : x = Img.exK k n) (h5 : d = e) :
    Ending.returned (.tuple #[.agg #[.int .i64 a, .int .i64 b, .int .i64 c, .bool x], .int .i64 d]) = .returned (.tuple #[Img.shape k n, .int .i64 e]) := by rw [h1, h2, h3, h4, h5]; rfl
set_option maxHeartbeats 4000000 in
theorem rfit_none (tag : ByteArray) (n : Int) (w : World) (hk : Img.idx tag = -1) :
    Calls Try.prog 41 #[.string tag, .int .i64 n] w fun e w' => e = .returned (.tuple #[Img.shape (Img.idx tag) n, .int .i64 (Img.errK (Img.idx tag) n)]) ∧ Below w.heap.size w w' := by
  have e0 : (tag.toList == [50, 75]) = false := by have := Img.idx_not tag 0 (by omega) (by omega); rw [Bool.eq_false_iff] at this ⊢; exact fun h => this (beq_iff_eq.2 (beq_iff_eq.1 h).symm)
  have e1 : (tag.toList == [51, 70]) = false := by have := Img.idx_not tag 1 (by omega) (by omega); rw [Bool.eq_false_iff] at this ⊢; exact fun h => this (beq_iff_eq.2 (beq_iff_eq.1 h).symm)
  have e2 : (tag.toList == [52, 75]) = false := by have := Img.idx_not tag 2 (by omega) (by omega); rw [Bool.eq_false_iff] at this ⊢; exact fun h => this (beq_iff_eq.2 (beq_iff_eq.1 h).symm)
  have e3 : (tag.toList == [69, 48]) = false := by have := Img.idx_not tag 3 (by omega) (by omega); rw [Bool.eq_false_iff] at this ⊢; exact fun h => this (beq_iff_eq.2 (beq_iff_eq.1 h).symm)
  have e4 : (tag.toList == [70, 52]) = false := by have := Img.idx_not tag 4 (by omega) (by omega); rw [Bool.eq_false_iff] at this ⊢; exact fun h => this (beq_iff_eq.2 (beq_iff_eq.1 h).symm)
  have e5 : (tag.toList == [70, 52, 83, 67]) = false := by have := Img.idx_not tag 5 (by omega) (by omega); rw [Bool.eq_false_iff] at this ⊢; exact fun h => this (beq_iff_eq.2 (beq_iff_eq.1 h).symm)
  have e6 : (tag.toList == [70, 54]) = false := by have := Img.idx_not tag 6 (by omega) (by omega); rw [Bool.eq_false_iff] at this ⊢; exact fun h => this (beq_iff_eq.2 (beq_iff_eq.1 h).symm)
  have e7 : (tag.toList == [70, 54, 83, 67]) = false := by have := Img.idx_not tag 7 (by omega) (by omega); rw [Bool.eq_false_iff] at this ⊢; exact fun h => this (beq_iff_eq.2 (beq_iff_eq.1 h).symm)
  have e8 : (tag.toList == [70, 56]) = false := by have := Img.idx_not tag 8 (by omega) (by omega); rw [Bool.eq_false_iff] at this ⊢; exact fun h => this (beq_iff_eq.2 (beq_iff_eq.1 h).symm)
  have e9 : (tag.toList == [70, 56, 83, 67]) = false := by have := Img.idx_not tag 9 (by omega) (by omega); rw [Bool.eq_false_iff] at this ⊢; exact fun h => this (beq_iff_eq.2 (beq_iff_eq.1 h).symm)
  have e10 : (tag.toList == [70, 69]) = false := by have := Img.idx_not tag 10 (by omega) (by omega); rw [Bool.eq_false_iff] at this ⊢; exact fun h => this (beq_iff_eq.2 (beq_iff_eq.1 h).symm)
  have Hk := Lib.hid hk
  clear hk
  go_enter Try.func41, Try.ntmps41
  go_wp2
  refine bodyPost_ret (v := .tuple #[.agg #[.int .i64 (0), .int .i64 0, .int .i64 0, .bool false], .int .i64 3]) (by simp [results, Try.results41, go_sem]) rfl ⟨rshape_ret (by rw [Hk.out]; rfl) (by rw [Hk.out]; rfl) (by rw [Hk.out]; rfl) (by rw [Hk.out]; rfl) (by rw [Hk.out]; rfl), ?_⟩
  go_grown
set_option maxHeartbeats 4000000 in
theorem rfit_0_no (tag : ByteArray) (n : Int) (w : World) (hk : Img.idx tag = 0) (h0 : -9223372036854775808 ≤ n) (h1 : n ≤ 9223372036854775807) (hf : Img.fitsK 0 n = false) :
    Calls Try.prog 41 #[.string tag, .int .i64 n] w fun e w' => e = .returned (.tuple #[Img.shape (Img.idx tag) n, .int .i64 (Img.errK (Img.idx tag) n)]) ∧ Below w.heap.size w w' := by
  have Hf := Lib.hid hf
  have hq : (n == 2048) = false := hf
  have hn : (n != 2048) = true := by unfold bne; rw [hq]; rfl
  clear hq
  clear hf
  have ht : tag.toList = [50, 75] := Img.toList_of tag 0 (by omega) hk
  have hz : tag.size = 2 := by rw [Img.size_toList, ht]; rfl
  have Hk := Lib.hid hk
  clear hk
  go_enter Try.func41, Try.ntmps41
  go_wp2
  refine bodyPost_ret (v := .tuple #[.agg #[.int .i64 (0), .int .i64 0, .int .i64 0, .bool false], .int .i64 4]) (by simp [results, Try.results41, go_sem]) rfl ⟨rshape_ret (by rw [Hk.out]; simp [Img.banksK, Img.okK, Img.sizeK, Hf.out]) (by rw [Hk.out]; simp [Img.szK, Img.okK, Img.sizeK, Hf.out]) (by rw [Hk.out]; simp [Img.winsK, Img.okK, Img.sizeK, Hf.out]) (by rw [Hk.out]; simp [Img.exK, Img.okK, Img.extK, Hf.out]) (by rw [Hk.out]; simp [Img.errK, Hf.out]), ?_⟩
  go_grown
set_option maxHeartbeats 4000000 in
theorem rfit_0_yes (tag : ByteArray) (n : Int) (w : World) (hk : Img.idx tag = 0) (h0 : -9223372036854775808 ≤ n) (h1 : n ≤ 9223372036854775807) (hf : Img.fitsK 0 n = true) :
    Calls Try.prog 41 #[.string tag, .int .i64 n] w fun e w' => e = .returned (.tuple #[Img.shape (Img.idx tag) n, .int .i64 (Img.errK (Img.idx tag) n)]) ∧ Below w.heap.size w w' := by
  have Hf := Lib.hid hf
  obtain rfl : n = 2048 := beq_iff_eq.1 hf
  clear hf
  have ht : tag.toList = [50, 75] := Img.toList_of tag 0 (by omega) hk
  have hz : tag.size = 2 := by rw [Img.size_toList, ht]; rfl
  have Hk := Lib.hid hk
  clear hk
  go_enter Try.func41, Try.ntmps41
  go_wp2
  go_region
  go_wp2
  refine bodyPost_ret (v := .tuple #[.agg #[.int .i64 (1), .int .i64 2048, .int .i64 2, .bool false], .int .i64 0]) (by simp [results, Try.results41, go_sem]) rfl ⟨rshape_ret (by rw [Hk.out]; simp [Img.banksK, Img.okK, Img.sizeK, Hf.out]) (by rw [Hk.out]; simp [Img.szK, Img.okK, Img.sizeK, Hf.out]) (by rw [Hk.out]; simp [Img.winsK, Img.okK, Img.sizeK, Hf.out]) (by rw [Hk.out]; simp [Img.exK, Img.okK, Img.extK, Hf.out]) (by rw [Hk.out]; simp [Img.errK, Hf.out]), ?_⟩
  go_grown
set_option maxHeartbeats 4000000 in
theorem rfit_1_no_a (tag : ByteArray) (n : Int) (w : World) (hk : Img.idx tag = 1) (h0 : -9223372036854775808 ≤ n) (h1 : n ≤ 9223372036854775807) (hf : Img.fitsK 1 n = false) (q : n < 2048) :
    Calls Try.prog 41 #[.string tag, .int .i64 n] w fun e w' => e = .returned (.tuple #[Img.shape (Img.idx tag) n, .int .i64 (Img.errK (Img.idx tag) n)]) ∧ Below w.heap.size w w' := by
  have Hf := Lib.hid hf
  clear hf
  have ht : tag.toList = [51, 70] := Img.toList_of tag 1 (by omega) hk
  have hz : tag.size = 2 := by rw [Img.size_toList, ht]; rfl
  have Hk := Lib.hid hk
  clear hk
  go_enter Try.func41, Try.ntmps41
  go_wp2
  refine bodyPost_ret (v := .tuple #[.agg #[.int .i64 (0), .int .i64 0, .int .i64 0, .bool false], .int .i64 4]) (by simp [results, Try.results41, go_sem]) rfl ⟨rshape_ret (by rw [Hk.out]; simp [Img.banksK, Img.okK, Img.sizeK, Hf.out]) (by rw [Hk.out]; simp [Img.szK, Img.okK, Img.sizeK, Hf.out]) (by rw [Hk.out]; simp [Img.winsK, Img.okK, Img.sizeK, Hf.out]) (by rw [Hk.out]; simp [Img.exK, Img.okK, Img.extK, Hf.out]) (by rw [Hk.out]; simp [Img.errK, Hf.out]), ?_⟩
  go_grown
set_option maxHeartbeats 4000000 in
theorem rfit_1_no_b (tag : ByteArray) (n : Int) (w : World) (hk : Img.idx tag = 1) (h0 : -9223372036854775808 ≤ n) (h1 : n ≤ 9223372036854775807) (hf : Img.fitsK 1 n = false) (q0 : 2048 ≤ n) (q : 524288 < n) :
    Calls Try.prog 41 #[.string tag, .int .i64 n] w fun e w' => e = .returned (.tuple #[Img.shape (Img.idx tag) n, .int .i64 (Img.errK (Img.idx tag) n)]) ∧ Below w.heap.size w w' := by
  have Hf := Lib.hid hf
  clear hf
  have ht : tag.toList = [51, 70] := Img.toList_of tag 1 (by omega) hk
  have hz : tag.size = 2 := by rw [Img.size_toList, ht]; rfl
  have Hk := Lib.hid hk
  clear hk
  go_enter Try.func41, Try.ntmps41
  go_wp2
  refine bodyPost_ret (v := .tuple #[.agg #[.int .i64 (0), .int .i64 0, .int .i64 0, .bool false], .int .i64 4]) (by simp [results, Try.results41, go_sem]) rfl ⟨rshape_ret (by rw [Hk.out]; simp [Img.banksK, Img.okK, Img.sizeK, Hf.out]) (by rw [Hk.out]; simp [Img.szK, Img.okK, Img.sizeK, Hf.out]) (by rw [Hk.out]; simp [Img.winsK, Img.okK, Img.sizeK, Hf.out]) (by rw [Hk.out]; simp [Img.exK, Img.okK, Img.extK, Hf.out]) (by rw [Hk.out]; simp [Img.errK, Hf.out]), ?_⟩
  go_grown
set_option maxHeartbeats 4000000 in
theorem rfit_1_no_c (tag : ByteArray) (n : Int) (w : World) (hk : Img.idx tag = 1) (h0 : -9223372036854775808 ≤ n) (h1 : n ≤ 9223372036854775807) (hf : Img.fitsK 1 n = false) (q0 : 2048 ≤ n) (q : n ≤ 524288) (q2 : (n % 2048 == 0) = false) :
    Calls Try.prog 41 #[.string tag, .int .i64 n] w fun e w' => e = .returned (.tuple #[Img.shape (Img.idx tag) n, .int .i64 (Img.errK (Img.idx tag) n)]) ∧ Below w.heap.size w w' := by
  have Hf := Lib.hid hf
  have hn : (n % 2048 != 0) = true := by unfold bne; rw [q2]; rfl
  clear hf
  have ht : tag.toList = [51, 70] := Img.toList_of tag 1 (by omega) hk
  have hz : tag.size = 2 := by rw [Img.size_toList, ht]; rfl
  have Hk := Lib.hid hk
  clear hk
  go_enter Try.func41, Try.ntmps41
  go_wp2
  refine bodyPost_ret (v := .tuple #[.agg #[.int .i64 (0), .int .i64 0, .int .i64 0, .bool false], .int .i64 4]) (by simp [results, Try.results41, go_sem]) rfl ⟨rshape_ret (by rw [Hk.out]; simp [Img.banksK, Img.okK, Img.sizeK, Hf.out]) (by rw [Hk.out]; simp [Img.szK, Img.okK, Img.sizeK, Hf.out]) (by rw [Hk.out]; simp [Img.winsK, Img.okK, Img.sizeK, Hf.out]) (by rw [Hk.out]; simp [Img.exK, Img.okK, Img.extK, Hf.out]) (by rw [Hk.out]; simp [Img.errK, Hf.out]), ?_⟩
  go_grown
set_option maxHeartbeats 4000000 in
theorem rfit_1_yes (tag : ByteArray) (n : Int) (w : World) (hk : Img.idx tag = 1) (h0 : -9223372036854775808 ≤ n) (h1 : n ≤ 9223372036854775807) (hf : Img.fitsK 1 n = true) (q0 : 2048 ≤ n) (q : n ≤ 524288) (q2 : (n % 2048 == 0) = true) :
    Calls Try.prog 41 #[.string tag, .int .i64 n] w fun e w' => e = .returned (.tuple #[Img.shape (Img.idx tag) n, .int .i64 (Img.errK (Img.idx tag) n)]) ∧ Below w.heap.size w w' := by
  have Hf := Lib.hid hf
  have hn : (n % 2048 != 0) = false := by unfold bne; rw [q2]; rfl
  clear hf
  have ht : tag.toList = [51, 70] := Img.toList_of tag 1 (by omega) hk
  have hz : tag.size = 2 := by rw [Img.size_toList, ht]; rfl
  have Hk := Lib.hid hk
  clear hk
  go_enter Try.func41, Try.ntmps41
  go_wp2
  go_region
  go_wp2
  refine bodyPost_ret (v := .tuple #[.agg #[.int .i64 (n / 2048), .int .i64 2048, .int .i64 2, .bool false], .int .i64 0]) (by simp [results, Try.results41, go_sem]) rfl ⟨rshape_ret (by rw [Hk.out]; simp [Img.banksK, Img.okK, Img.sizeK, Hf.out]) (by rw [Hk.out]; simp [Img.szK, Img.okK, Img.sizeK, Hf.out]) (by rw [Hk.out]; simp [Img.winsK, Img.okK, Img.sizeK, Hf.out]) (by rw [Hk.out]; simp [Img.exK, Img.okK, Img.extK, Hf.out]) (by rw [Hk.out]; simp [Img.errK, Hf.out]), ?_⟩
  go_grown
set_option maxHeartbeats 4000000 in
theorem rfit_2_no (tag : ByteArray) (n : Int) (w : World) (hk : Img.idx tag = 2) (h0 : -9223372036854775808 ≤ n) (h1 : n ≤ 9223372036854775807) (hf : Img.fitsK 2 n = false) :
    Calls Try.prog 41 #[.string tag, .int .i64 n] w fun e w' => e = .returned (.tuple #[Img.shape (Img.idx tag) n, .int .i64 (Img.errK (Img.idx tag) n)]) ∧ Below w.heap.size w w' := by
  have Hf := Lib.hid hf
  have hq : (n == 4096) = false := hf
  have hn : (n != 4096) = true := by unfold bne; rw [hq]; rfl
  clear hq
  clear hf
  have ht : tag.toList = [52, 75] := Img.toList_of tag 2 (by omega) hk
  have hz : tag.size = 2 := by rw [Img.size_toList, ht]; rfl
  have Hk := Lib.hid hk
  clear hk
  go_enter Try.func41, Try.ntmps41
  go_wp2
  refine bodyPost_ret (v := .tuple #[.agg #[.int .i64 (0), .int .i64 0, .int .i64 0, .bool false], .int .i64 4]) (by simp [results, Try.results41, go_sem]) rfl ⟨rshape_ret (by rw [Hk.out]; simp [Img.banksK, Img.okK, Img.sizeK, Hf.out]) (by rw [Hk.out]; simp [Img.szK, Img.okK, Img.sizeK, Hf.out]) (by rw [Hk.out]; simp [Img.winsK, Img.okK, Img.sizeK, Hf.out]) (by rw [Hk.out]; simp [Img.exK, Img.okK, Img.extK, Hf.out]) (by rw [Hk.out]; simp [Img.errK, Hf.out]), ?_⟩
  go_grown
set_option maxHeartbeats 4000000 in
theorem rfit_2_yes (tag : ByteArray) (n : Int) (w : World) (hk : Img.idx tag = 2) (h0 : -9223372036854775808 ≤ n) (h1 : n ≤ 9223372036854775807) (hf : Img.fitsK 2 n = true) :
    Calls Try.prog 41 #[.string tag, .int .i64 n] w fun e w' => e = .returned (.tuple #[Img.shape (Img.idx tag) n, .int .i64 (Img.errK (Img.idx tag) n)]) ∧ Below w.heap.size w w' := by
  have Hf := Lib.hid hf
  obtain rfl : n = 4096 := beq_iff_eq.1 hf
  clear hf
  have ht : tag.toList = [52, 75] := Img.toList_of tag 2 (by omega) hk
  have hz : tag.size = 2 := by rw [Img.size_toList, ht]; rfl
  have Hk := Lib.hid hk
  clear hk
  go_enter Try.func41, Try.ntmps41
  go_wp2
  go_region
  go_wp2
  refine bodyPost_ret (v := .tuple #[.agg #[.int .i64 (1), .int .i64 4096, .int .i64 1, .bool false], .int .i64 0]) (by simp [results, Try.results41, go_sem]) rfl ⟨rshape_ret (by rw [Hk.out]; simp [Img.banksK, Img.okK, Img.sizeK, Hf.out]) (by rw [Hk.out]; simp [Img.szK, Img.okK, Img.sizeK, Hf.out]) (by rw [Hk.out]; simp [Img.winsK, Img.okK, Img.sizeK, Hf.out]) (by rw [Hk.out]; simp [Img.exK, Img.okK, Img.extK, Hf.out]) (by rw [Hk.out]; simp [Img.errK, Hf.out]), ?_⟩
  go_grown
set_option maxHeartbeats 4000000 in
theorem rfit_3_no (tag : ByteArray) (n : Int) (w : World) (hk : Img.idx tag = 3) (h0 : -9223372036854775808 ≤ n) (h1 : n ≤ 9223372036854775807) (hf : Img.fitsK 3 n = false) :
    Calls Try.prog 41 #[.string tag, .int .i64 n] w fun e w' => e = .returned (.tuple #[Img.shape (Img.idx tag) n, .int .i64 (Img.errK (Img.idx tag) n)]) ∧ Below w.heap.size w w' := by
  have Hf := Lib.hid hf
  have hq : (n == 8192) = false := hf
  have hn : (n != 8192) = true := by unfold bne; rw [hq]; rfl
  clear hq
  clear hf
  have ht : tag.toList = [69, 48] := Img.toList_of tag 3 (by omega) hk
  have hz : tag.size = 2 := by rw [Img.size_toList, ht]; rfl
  have Hk := Lib.hid hk
  clear hk
  go_enter Try.func41, Try.ntmps41
  go_wp2
  refine bodyPost_ret (v := .tuple #[.agg #[.int .i64 (0), .int .i64 0, .int .i64 0, .bool false], .int .i64 4]) (by simp [results, Try.results41, go_sem]) rfl ⟨rshape_ret (by rw [Hk.out]; simp [Img.banksK, Img.okK, Img.sizeK, Hf.out]) (by rw [Hk.out]; simp [Img.szK, Img.okK, Img.sizeK, Hf.out]) (by rw [Hk.out]; simp [Img.winsK, Img.okK, Img.sizeK, Hf.out]) (by rw [Hk.out]; simp [Img.exK, Img.okK, Img.extK, Hf.out]) (by rw [Hk.out]; simp [Img.errK, Hf.out]), ?_⟩
  go_grown
set_option maxHeartbeats 4000000 in
theorem rfit_3_yes (tag : ByteArray) (n : Int) (w : World) (hk : Img.idx tag = 3) (h0 : -9223372036854775808 ≤ n) (h1 : n ≤ 9223372036854775807) (hf : Img.fitsK 3 n = true) :
    Calls Try.prog 41 #[.string tag, .int .i64 n] w fun e w' => e = .returned (.tuple #[Img.shape (Img.idx tag) n, .int .i64 (Img.errK (Img.idx tag) n)]) ∧ Below w.heap.size w w' := by
  have Hf := Lib.hid hf
  obtain rfl : n = 8192 := beq_iff_eq.1 hf
  clear hf
  have ht : tag.toList = [69, 48] := Img.toList_of tag 3 (by omega) hk
  have hz : tag.size = 2 := by rw [Img.size_toList, ht]; rfl
  have Hk := Lib.hid hk
  clear hk
  go_enter Try.func41, Try.ntmps41
  go_wp2
  go_region
  go_wp2
  refine bodyPost_ret (v := .tuple #[.agg #[.int .i64 (8), .int .i64 1024, .int .i64 4, .bool false], .int .i64 0]) (by simp [results, Try.results41, go_sem]) rfl ⟨rshape_ret (by rw [Hk.out]; simp [Img.banksK, Img.okK, Img.sizeK, Hf.out]) (by rw [Hk.out]; simp [Img.szK, Img.okK, Img.sizeK, Hf.out]) (by rw [Hk.out]; simp [Img.winsK, Img.okK, Img.sizeK, Hf.out]) (by rw [Hk.out]; simp [Img.exK, Img.okK, Img.extK, Hf.out]) (by rw [Hk.out]; simp [Img.errK, Hf.out]), ?_⟩
  go_grown
set_option maxHeartbeats 4000000 in
theorem rfit_4_no (tag : ByteArray) (n : Int) (w : World) (hk : Img.idx tag = 4) (h0 : -9223372036854775808 ≤ n) (h1 : n ≤ 9223372036854775807) (hf : Img.fitsK 4 n = false) :
    Calls Try.prog 41 #[.string tag, .int .i64 n] w fun e w' => e = .returned (.tuple #[Img.shape (Img.idx tag) n, .int .i64 (Img.errK (Img.idx tag) n)]) ∧ Below w.heap.size w w' := by
  have Hf := Lib.hid hf
  have hq : (n == 32768) = false := hf
  have hn : (n != 32768) = true := by unfold bne; rw [hq]; rfl
  clear hq
  clear hf
  have ht : tag.toList = [70, 52] := Img.toList_of tag 4 (by omega) hk
  have hz : tag.size = 2 := by rw [Img.size_toList, ht]; rfl
  have Hk := Lib.hid hk
  clear hk
  go_enter Try.func41, Try.ntmps41
  go_wp2
  refine bodyPost_ret (v := .tuple #[.agg #[.int .i64 (0), .int .i64 0, .int .i64 0, .bool false], .int .i64 4]) (by simp [results, Try.results41, go_sem]) rfl ⟨rshape_ret (by rw [Hk.out]; simp [Img.banksK, Img.okK, Img.sizeK, Hf.out]) (by rw [Hk.out]; simp [Img.szK, Img.okK, Img.sizeK, Hf.out]) (by rw [Hk.out]; simp [Img.winsK, Img.okK, Img.sizeK, Hf.out]) (by rw [Hk.out]; simp [Img.exK, Img.okK, Img.extK, Hf.out]) (by rw [Hk.out]; simp [Img.errK, Hf.out]), ?_⟩
  go_grown
set_option maxHeartbeats 4000000 in
theorem rfit_4_yes (tag : ByteArray) (n : Int) (w : World) (hk : Img.idx tag = 4) (h0 : -9223372036854775808 ≤ n) (h1 : n ≤ 9223372036854775807) (hf : Img.fitsK 4 n = true) :
    Calls Try.prog 41 #[.string tag, .int .i64 n] w fun e w' => e = .returned (.tuple #[Img.shape (Img.idx tag) n, .int .i64 (Img.errK (Img.idx tag) n)]) ∧ Below w.heap.size w w' := by
  have Hf := Lib.hid hf
  obtain rfl : n = 32768 := beq_iff_eq.1 hf
  clear hf
  have ht : tag.toList = [70, 52] := Img.toList_of tag 4 (by omega) hk
  have hz : tag.size = 2 := by rw [Img.size_toList, ht]; rfl
  have Hk := Lib.hid hk
  clear hk
  go_enter Try.func41, Try.ntmps41
  go_wp2
  go_region
  go_wp2
  refine bodyPost_ret (v := .tuple #[.agg #[.int .i64 (8), .int .i64 4096, .int .i64 1, .bool false], .int .i64 0]) (by simp [results, Try.results41, go_sem]) rfl ⟨rshape_ret (by rw [Hk.out]; simp [Img.banksK, Img.okK, Img.sizeK, Hf.out]) (by rw [Hk.out]; simp [Img.szK, Img.okK, Img.sizeK, Hf.out]) (by rw [Hk.out]; simp [Img.winsK, Img.okK, Img.sizeK, Hf.out]) (by rw [Hk.out]; simp [Img.exK, Img.okK, Img.extK, Hf.out]) (by rw [Hk.out]; simp [Img.errK, Hf.out]), ?_⟩
  go_grown
set_option maxHeartbeats 4000000 in
theorem rfit_5_no (tag : ByteArray) (n : Int) (w : World) (hk : Img.idx tag = 5) (h0 : -9223372036854775808 ≤ n) (h1 : n ≤ 9223372036854775807) (hf : Img.fitsK 5 n = false) :
    Calls Try.prog 41 #[.string tag, .int .i64 n] w fun e w' => e = .returned (.tuple #[Img.shape (Img.idx tag) n, .int .i64 (Img.errK (Img.idx tag) n)]) ∧ Below w.heap.size w w' := by
  have Hf := Lib.hid hf
  have hq : (n == 32768) = false := hf
  have hn : (n != 32768) = true := by unfold bne; rw [hq]; rfl
  clear hq
  clear hf
  have ht : tag.toList = [70, 52, 83, 67] := Img.toList_of tag 5 (by omega) hk
  have hz : tag.size = 4 := by rw [Img.size_toList, ht]; rfl
  have Hk := Lib.hid hk
  clear hk
  go_enter Try.func41, Try.ntmps41
  go_wp2
  refine bodyPost_ret (v := .tuple #[.agg #[.int .i64 (0), .int .i64 0, .int .i64 0, .bool false], .int .i64 4]) (by simp [results, Try.results41, go_sem]) rfl ⟨rshape_ret (by rw [Hk.out]; simp [Img.banksK, Img.okK, Img.sizeK, Hf.out]) (by rw [Hk.out]; simp [Img.szK, Img.okK, Img.sizeK, Hf.out]) (by rw [Hk.out]; simp [Img.winsK, Img.okK, Img.sizeK, Hf.out]) (by rw [Hk.out]; simp [Img.exK, Img.okK, Img.extK, Hf.out]) (by rw [Hk.out]; simp [Img.errK, Hf.out]), ?_⟩
  go_grown
set_option maxHeartbeats 4000000 in
theorem rfit_5_yes (tag : ByteArray) (n : Int) (w : World) (hk : Img.idx tag = 5) (h0 : -9223372036854775808 ≤ n) (h1 : n ≤ 9223372036854775807) (hf : Img.fitsK 5 n = true) :
    Calls Try.prog 41 #[.string tag, .int .i64 n] w fun e w' => e = .returned (.tuple #[Img.shape (Img.idx tag) n, .int .i64 (Img.errK (Img.idx tag) n)]) ∧ Below w.heap.size w w' := by
  have Hf := Lib.hid hf
  obtain rfl : n = 32768 := beq_iff_eq.1 hf
  clear hf
  have ht : tag.toList = [70, 52, 83, 67] := Img.toList_of tag 5 (by omega) hk
  have hz : tag.size = 4 := by rw [Img.size_toList, ht]; rfl
  have Hk := Lib.hid hk
  clear hk
  go_enter Try.func41, Try.ntmps41
  go_wp2
  go_region
  go_wp2
  refine bodyPost_ret (v := .tuple #[.agg #[.int .i64 (8), .int .i64 4096, .int .i64 1, .bool true], .int .i64 0]) (by simp [results, Try.results41, go_sem]) rfl ⟨rshape_ret (by rw [Hk.out]; simp [Img.banksK, Img.okK, Img.sizeK, Hf.out]) (by rw [Hk.out]; simp [Img.szK, Img.okK, Img.sizeK, Hf.out]) (by rw [Hk.out]; simp [Img.winsK, Img.okK, Img.sizeK, Hf.out]) (by rw [Hk.out]; simp [Img.exK, Img.okK, Img.extK, Hf.out]) (by rw [Hk.out]; simp [Img.errK, Hf.out]), ?_⟩
  go_grown
set_option maxHeartbeats 4000000 in
theorem rfit_6_no (tag : ByteArray) (n : Int) (w : World) (hk : Img.idx tag = 6) (h0 : -9223372036854775808 ≤ n) (h1 : n ≤ 9223372036854775807) (hf : Img.fitsK 6 n = false) :
    Calls Try.prog 41 #[.string tag, .int .i64 n] w fun e w' => e = .returned (.tuple #[Img.shape (Img.idx tag) n, .int .i64 (Img.errK (Img.idx tag) n)]) ∧ Below w.heap.size w w' := by
  have Hf := Lib.hid hf
  have hq : (n == 16384) = false := hf
  have hn : (n != 16384) = true := by unfold bne; rw [hq]; rfl
  clear hq
  clear hf
  have ht : tag.toList = [70, 54] := Img.toList_of tag 6 (by omega) hk
  have hz : tag.size = 2 := by rw [Img.size_toList, ht]; rfl
  have Hk := Lib.hid hk
  clear hk
  go_enter Try.func41, Try.ntmps41
  go_wp2
  refine bodyPost_ret (v := .tuple #[.agg #[.int .i64 (0), .int .i64 0, .int .i64 0, .bool false], .int .i64 4]) (by simp [results, Try.results41, go_sem]) rfl ⟨rshape_ret (by rw [Hk.out]; simp [Img.banksK, Img.okK, Img.sizeK, Hf.out]) (by rw [Hk.out]; simp [Img.szK, Img.okK, Img.sizeK, Hf.out]) (by rw [Hk.out]; simp [Img.winsK, Img.okK, Img.sizeK, Hf.out]) (by rw [Hk.out]; simp [Img.exK, Img.okK, Img.extK, Hf.out]) (by rw [Hk.out]; simp [Img.errK, Hf.out]), ?_⟩
  go_grown
set_option maxHeartbeats 4000000 in
theorem rfit_6_yes (tag : ByteArray) (n : Int) (w : World) (hk : Img.idx tag = 6) (h0 : -9223372036854775808 ≤ n) (h1 : n ≤ 9223372036854775807) (hf : Img.fitsK 6 n = true) :
    Calls Try.prog 41 #[.string tag, .int .i64 n] w fun e w' => e = .returned (.tuple #[Img.shape (Img.idx tag) n, .int .i64 (Img.errK (Img.idx tag) n)]) ∧ Below w.heap.size w w' := by
  have Hf := Lib.hid hf
  obtain rfl : n = 16384 := beq_iff_eq.1 hf
  clear hf
  have ht : tag.toList = [70, 54] := Img.toList_of tag 6 (by omega) hk
  have hz : tag.size = 2 := by rw [Img.size_toList, ht]; rfl
  have Hk := Lib.hid hk
  clear hk
  go_enter Try.func41, Try.ntmps41
  go_wp2
  go_region
  go_wp2
  refine bodyPost_ret (v := .tuple #[.agg #[.int .i64 (4), .int .i64 4096, .int .i64 1, .bool false], .int .i64 0]) (by simp [results, Try.results41, go_sem]) rfl ⟨rshape_ret (by rw [Hk.out]; simp [Img.banksK, Img.okK, Img.sizeK, Hf.out]) (by rw [Hk.out]; simp [Img.szK, Img.okK, Img.sizeK, Hf.out]) (by rw [Hk.out]; simp [Img.winsK, Img.okK, Img.sizeK, Hf.out]) (by rw [Hk.out]; simp [Img.exK, Img.okK, Img.extK, Hf.out]) (by rw [Hk.out]; simp [Img.errK, Hf.out]), ?_⟩
  go_grown
set_option maxHeartbeats 4000000 in
theorem rfit_7_no (tag : ByteArray) (n : Int) (w : World) (hk : Img.idx tag = 7) (h0 : -9223372036854775808 ≤ n) (h1 : n ≤ 9223372036854775807) (hf : Img.fitsK 7 n = false) :
    Calls Try.prog 41 #[.string tag, .int .i64 n] w fun e w' => e = .returned (.tuple #[Img.shape (Img.idx tag) n, .int .i64 (Img.errK (Img.idx tag) n)]) ∧ Below w.heap.size w w' := by
  have Hf := Lib.hid hf
  have hq : (n == 16384) = false := hf
  have hn : (n != 16384) = true := by unfold bne; rw [hq]; rfl
  clear hq
  clear hf
  have ht : tag.toList = [70, 54, 83, 67] := Img.toList_of tag 7 (by omega) hk
  have hz : tag.size = 4 := by rw [Img.size_toList, ht]; rfl
  have Hk := Lib.hid hk
  clear hk
  go_enter Try.func41, Try.ntmps41
  go_wp2
  refine bodyPost_ret (v := .tuple #[.agg #[.int .i64 (0), .int .i64 0, .int .i64 0, .bool false], .int .i64 4]) (by simp [results, Try.results41, go_sem]) rfl ⟨rshape_ret (by rw [Hk.out]; simp [Img.banksK, Img.okK, Img.sizeK, Hf.out]) (by rw [Hk.out]; simp [Img.szK, Img.okK, Img.sizeK, Hf.out]) (by rw [Hk.out]; simp [Img.winsK, Img.okK, Img.sizeK, Hf.out]) (by rw [Hk.out]; simp [Img.exK, Img.okK, Img.extK, Hf.out]) (by rw [Hk.out]; simp [Img.errK, Hf.out]), ?_⟩
  go_grown
set_option maxHeartbeats 4000000 in
theorem rfit_7_yes (tag : ByteArray) (n : Int) (w : World) (hk : Img.idx tag = 7) (h0 : -9223372036854775808 ≤ n) (h1 : n ≤ 9223372036854775807) (hf : Img.fitsK 7 n = true) :
    Calls Try.prog 41 #[.string tag, .int .i64 n] w fun e w' => e = .returned (.tuple #[Img.shape (Img.idx tag) n, .int .i64 (Img.errK (Img.idx tag) n)]) ∧ Below w.heap.size w w' := by
  have Hf := Lib.hid hf
  obtain rfl : n = 16384 := beq_iff_eq.1 hf
  clear hf
  have ht : tag.toList = [70, 54, 83, 67] := Img.toList_of tag 7 (by omega) hk
  have hz : tag.size = 4 := by rw [Img.size_toList, ht]; rfl
  have Hk := Lib.hid hk
  clear hk
  go_enter Try.func41, Try.ntmps41
  go_wp2
  go_region
  go_wp2
  refine bodyPost_ret (v := .tuple #[.agg #[.int .i64 (4), .int .i64 4096, .int .i64 1, .bool true], .int .i64 0]) (by simp [results, Try.results41, go_sem]) rfl ⟨rshape_ret (by rw [Hk.out]; simp [Img.banksK, Img.okK, Img.sizeK, Hf.out]) (by rw [Hk.out]; simp [Img.szK, Img.okK, Img.sizeK, Hf.out]) (by rw [Hk.out]; simp [Img.winsK, Img.okK, Img.sizeK, Hf.out]) (by rw [Hk.out]; simp [Img.exK, Img.okK, Img.extK, Hf.out]) (by rw [Hk.out]; simp [Img.errK, Hf.out]), ?_⟩
  go_grown
set_option maxHeartbeats 4000000 in
theorem rfit_8_no (tag : ByteArray) (n : Int) (w : World) (hk : Img.idx tag = 8) (h0 : -9223372036854775808 ≤ n) (h1 : n ≤ 9223372036854775807) (hf : Img.fitsK 8 n = false) :
    Calls Try.prog 41 #[.string tag, .int .i64 n] w fun e w' => e = .returned (.tuple #[Img.shape (Img.idx tag) n, .int .i64 (Img.errK (Img.idx tag) n)]) ∧ Below w.heap.size w w' := by
  have Hf := Lib.hid hf
  have hq : (n == 8192) = false := hf
  have hn : (n != 8192) = true := by unfold bne; rw [hq]; rfl
  clear hq
  clear hf
  have ht : tag.toList = [70, 56] := Img.toList_of tag 8 (by omega) hk
  have hz : tag.size = 2 := by rw [Img.size_toList, ht]; rfl
  have Hk := Lib.hid hk
  clear hk
  go_enter Try.func41, Try.ntmps41
  go_wp2
  refine bodyPost_ret (v := .tuple #[.agg #[.int .i64 (0), .int .i64 0, .int .i64 0, .bool false], .int .i64 4]) (by simp [results, Try.results41, go_sem]) rfl ⟨rshape_ret (by rw [Hk.out]; simp [Img.banksK, Img.okK, Img.sizeK, Hf.out]) (by rw [Hk.out]; simp [Img.szK, Img.okK, Img.sizeK, Hf.out]) (by rw [Hk.out]; simp [Img.winsK, Img.okK, Img.sizeK, Hf.out]) (by rw [Hk.out]; simp [Img.exK, Img.okK, Img.extK, Hf.out]) (by rw [Hk.out]; simp [Img.errK, Hf.out]), ?_⟩
  go_grown
set_option maxHeartbeats 4000000 in
theorem rfit_8_yes (tag : ByteArray) (n : Int) (w : World) (hk : Img.idx tag = 8) (h0 : -9223372036854775808 ≤ n) (h1 : n ≤ 9223372036854775807) (hf : Img.fitsK 8 n = true) :
    Calls Try.prog 41 #[.string tag, .int .i64 n] w fun e w' => e = .returned (.tuple #[Img.shape (Img.idx tag) n, .int .i64 (Img.errK (Img.idx tag) n)]) ∧ Below w.heap.size w w' := by
  have Hf := Lib.hid hf
  obtain rfl : n = 8192 := beq_iff_eq.1 hf
  clear hf
  have ht : tag.toList = [70, 56] := Img.toList_of tag 8 (by omega) hk
  have hz : tag.size = 2 := by rw [Img.size_toList, ht]; rfl
  have Hk := Lib.hid hk
  clear hk
  go_enter Try.func41, Try.ntmps41
  go_wp2
  go_region
  go_wp2
  refine bodyPost_ret (v := .tuple #[.agg #[.int .i64 (2), .int .i64 4096, .int .i64 1, .bool false], .int .i64 0]) (by simp [results, Try.results41, go_sem]) rfl ⟨rshape_ret (by rw [Hk.out]; simp [Img.banksK, Img.okK, Img.sizeK, Hf.out]) (by rw [Hk.out]; simp [Img.szK, Img.okK, Img.sizeK, Hf.out]) (by rw [Hk.out]; simp [Img.winsK, Img.okK, Img.sizeK, Hf.out]) (by rw [Hk.out]; simp [Img.exK, Img.okK, Img.extK, Hf.out]) (by rw [Hk.out]; simp [Img.errK, Hf.out]), ?_⟩
  go_grown
set_option maxHeartbeats 4000000 in
theorem rfit_9_no (tag : ByteArray) (n : Int) (w : World) (hk : Img.idx tag = 9) (h0 : -9223372036854775808 ≤ n) (h1 : n ≤ 9223372036854775807) (hf : Img.fitsK 9 n = false) :
    Calls Try.prog 41 #[.string tag, .int .i64 n] w fun e w' => e = .returned (.tuple #[Img.shape (Img.idx tag) n, .int .i64 (Img.errK (Img.idx tag) n)]) ∧ Below w.heap.size w w' := by
  have Hf := Lib.hid hf
  have hq : (n == 8192) = false := hf
  have hn : (n != 8192) = true := by unfold bne; rw [hq]; rfl
  clear hq
  clear hf
  have ht : tag.toList = [70, 56, 83, 67] := Img.toList_of tag 9 (by omega) hk
  have hz : tag.size = 4 := by rw [Img.size_toList, ht]; rfl
  have Hk := Lib.hid hk
  clear hk
  go_enter Try.func41, Try.ntmps41
  go_wp2
  refine bodyPost_ret (v := .tuple #[.agg #[.int .i64 (0), .int .i64 0, .int .i64 0, .bool false], .int .i64 4]) (by simp [results, Try.results41, go_sem]) rfl ⟨rshape_ret (by rw [Hk.out]; simp [Img.banksK, Img.okK, Img.sizeK, Hf.out]) (by rw [Hk.out]; simp [Img.szK, Img.okK, Img.sizeK, Hf.out]) (by rw [Hk.out]; simp [Img.winsK, Img.okK, Img.sizeK, Hf.out]) (by rw [Hk.out]; simp [Img.exK, Img.okK, Img.extK, Hf.out]) (by rw [Hk.out]; simp [Img.errK, Hf.out]), ?_⟩
  go_grown
set_option maxHeartbeats 4000000 in
theorem rfit_9_yes (tag : ByteArray) (n : Int) (w : World) (hk : Img.idx tag = 9) (h0 : -9223372036854775808 ≤ n) (h1 : n ≤ 9223372036854775807) (hf : Img.fitsK 9 n = true) :
    Calls Try.prog 41 #[.string tag, .int .i64 n] w fun e w' => e = .returned (.tuple #[Img.shape (Img.idx tag) n, .int .i64 (Img.errK (Img.idx tag) n)]) ∧ Below w.heap.size w w' := by
  have Hf := Lib.hid hf
  obtain rfl : n = 8192 := beq_iff_eq.1 hf
  clear hf
  have ht : tag.toList = [70, 56, 83, 67] := Img.toList_of tag 9 (by omega) hk
  have hz : tag.size = 4 := by rw [Img.size_toList, ht]; rfl
  have Hk := Lib.hid hk
  clear hk
  go_enter Try.func41, Try.ntmps41
  go_wp2
  go_region
  go_wp2
  refine bodyPost_ret (v := .tuple #[.agg #[.int .i64 (2), .int .i64 4096, .int .i64 1, .bool true], .int .i64 0]) (by simp [results, Try.results41, go_sem]) rfl ⟨rshape_ret (by rw [Hk.out]; simp [Img.banksK, Img.okK, Img.sizeK, Hf.out]) (by rw [Hk.out]; simp [Img.szK, Img.okK, Img.sizeK, Hf.out]) (by rw [Hk.out]; simp [Img.winsK, Img.okK, Img.sizeK, Hf.out]) (by rw [Hk.out]; simp [Img.exK, Img.okK, Img.extK, Hf.out]) (by rw [Hk.out]; simp [Img.errK, Hf.out]), ?_⟩
  go_grown
set_option maxHeartbeats 4000000 in
theorem rfit_10_no (tag : ByteArray) (n : Int) (w : World) (hk : Img.idx tag = 10) (h0 : -9223372036854775808 ≤ n) (h1 : n ≤ 9223372036854775807) (hf : Img.fitsK 10 n = false) :
    Calls Try.prog 41 #[.string tag, .int .i64 n] w fun e w' => e = .returned (.tuple #[Img.shape (Img.idx tag) n, .int .i64 (Img.errK (Img.idx tag) n)]) ∧ Below w.heap.size w w' := by
  have Hf := Lib.hid hf
  have hq : (n == 8192) = false := hf
  have hn : (n != 8192) = true := by unfold bne; rw [hq]; rfl
  clear hq
  clear hf
  have ht : tag.toList = [70, 69] := Img.toList_of tag 10 (by omega) hk
  have hz : tag.size = 2 := by rw [Img.size_toList, ht]; rfl
  have Hk := Lib.hid hk
  clear hk
  go_enter Try.func41, Try.ntmps41
  go_wp2
  refine bodyPost_ret (v := .tuple #[.agg #[.int .i64 (0), .int .i64 0, .int .i64 0, .bool false], .int .i64 4]) (by simp [results, Try.results41, go_sem]) rfl ⟨rshape_ret (by rw [Hk.out]; simp [Img.banksK, Img.okK, Img.sizeK, Hf.out]) (by rw [Hk.out]; simp [Img.szK, Img.okK, Img.sizeK, Hf.out]) (by rw [Hk.out]; simp [Img.winsK, Img.okK, Img.sizeK, Hf.out]) (by rw [Hk.out]; simp [Img.exK, Img.okK, Img.extK, Hf.out]) (by rw [Hk.out]; simp [Img.errK, Hf.out]), ?_⟩
  go_grown
set_option maxHeartbeats 4000000 in
theorem rfit_10_yes (tag : ByteArray) (n : Int) (w : World) (hk : Img.idx tag = 10) (h0 : -9223372036854775808 ≤ n) (h1 : n ≤ 9223372036854775807) (hf : Img.fitsK 10 n = true) :
    Calls Try.prog 41 #[.string tag, .int .i64 n] w fun e w' => e = .returned (.tuple #[Img.shape (Img.idx tag) n, .int .i64 (Img.errK (Img.idx tag) n)]) ∧ Below w.heap.size w w' := by
  have Hf := Lib.hid hf
  obtain rfl : n = 8192 := beq_iff_eq.1 hf
  clear hf
  have ht : tag.toList = [70, 69] := Img.toList_of tag 10 (by omega) hk
  have hz : tag.size = 2 := by rw [Img.size_toList, ht]; rfl
  have Hk := Lib.hid hk
  clear hk
  go_enter Try.func41, Try.ntmps41
  go_wp2
  go_region
  go_wp2
  refine bodyPost_ret (v := .tuple #[.agg #[.int .i64 (2), .int .i64 4096, .int .i64 1, .bool false], .int .i64 0]) (by simp [results, Try.results41, go_sem]) rfl ⟨rshape_ret (by rw [Hk.out]; simp [Img.banksK, Img.okK, Img.sizeK, Hf.out]) (by rw [Hk.out]; simp [Img.szK, Img.okK, Img.sizeK, Hf.out]) (by rw [Hk.out]; simp [Img.winsK, Img.okK, Img.sizeK, Hf.out]) (by rw [Hk.out]; simp [Img.exK, Img.okK, Img.extK, Hf.out]) (by rw [Hk.out]; simp [Img.errK, Hf.out]), ?_⟩
  go_grown
theorem rfit_any (tag : ByteArray) (n : Int) (w : World) (h0 : -9223372036854775808 ≤ n) (h1 : n ≤ 9223372036854775807) :
    Calls Try.prog 41 #[.string tag, .int .i64 n] w fun e w' => e = .returned (.tuple #[Img.shape (Img.idx tag) n, .int .i64 (Img.errK (Img.idx tag) n)]) ∧ Below w.heap.size w w' := by
  have hi := Img.idx_in tag
  by_cases hn : Img.idx tag = -1
  · exact rfit_none tag n w hn
  by_cases h2 : Img.idx tag = 0
  · cases hf : Img.fitsK 0 n
    · exact rfit_0_no tag n w h2 h0 h1 hf
    · exact rfit_0_yes tag n w h2 h0 h1 hf
  by_cases h3 : Img.idx tag = 1
  · have he : Img.fitsK 1 n = (decide (0 < n) && (decide (n ≤ 524288) && (n % 2048 == 0))) := rfl
    by_cases q0 : 2048 ≤ n
    · by_cases q : n ≤ 524288
      · cases q2 : (n % 2048 == 0)
        · exact rfit_1_no_c tag n w h3 h0 h1 (by rw [he, q2]; simp) q0 q q2
        · exact rfit_1_yes tag n w h3 h0 h1 (by rw [he, q2]; simp; omega) q0 q q2
      · exact rfit_1_no_b tag n w h3 h0 h1 (by rw [he]; simp; omega) q0 (by omega)
    · exact rfit_1_no_a tag n w h3 h0 h1 (by rw [he]; simp; omega) (by omega)
  by_cases h4 : Img.idx tag = 2
  · cases hf : Img.fitsK 2 n
    · exact rfit_2_no tag n w h4 h0 h1 hf
    · exact rfit_2_yes tag n w h4 h0 h1 hf
  by_cases h5 : Img.idx tag = 3
  · cases hf : Img.fitsK 3 n
    · exact rfit_3_no tag n w h5 h0 h1 hf
    · exact rfit_3_yes tag n w h5 h0 h1 hf
  by_cases h6 : Img.idx tag = 4
  · cases hf : Img.fitsK 4 n
    · exact rfit_4_no tag n w h6 h0 h1 hf
    · exact rfit_4_yes tag n w h6 h0 h1 hf
  by_cases h7 : Img.idx tag = 5
  · cases hf : Img.fitsK 5 n
    · exact rfit_5_no tag n w h7 h0 h1 hf
    · exact rfit_5_yes tag n w h7 h0 h1 hf
  by_cases h8 : Img.idx tag = 6
  · cases hf : Img.fitsK 6 n
    · exact rfit_6_no tag n w h8 h0 h1 hf
    · exact rfit_6_yes tag n w h8 h0 h1 hf
  by_cases h9 : Img.idx tag = 7
  · cases hf : Img.fitsK 7 n
    · exact rfit_7_no tag n w h9 h0 h1 hf
    · exact rfit_7_yes tag n w h9 h0 h1 hf
  by_cases h10 : Img.idx tag = 8
  · cases hf : Img.fitsK 8 n
    · exact rfit_8_no tag n w h10 h0 h1 hf
    · exact rfit_8_yes tag n w h10 h0 h1 hf
  by_cases h11 : Img.idx tag = 9
  · cases hf : Img.fitsK 9 n
    · exact rfit_9_no tag n w h11 h0 h1 hf
    · exact rfit_9_yes tag n w h11 h0 h1 hf
  by_cases h12 : Img.idx tag = 10
  · cases hf : Img.fitsK 10 n
    · exact rfit_10_no tag n w h12 h0 h1 hf
    · exact rfit_10_yes tag n w h12 h0 h1 hf
  exact absurd hi.2 (by omega)
end Go.Proofs.Ytfdmbgmhgbhggaa
