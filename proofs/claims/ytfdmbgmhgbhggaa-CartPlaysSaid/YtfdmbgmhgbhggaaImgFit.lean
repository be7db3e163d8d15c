/- The contract of image.Fit. -/
import Derived.Test.YtfdmbgmhgbhggaaImgWalks
import Derived.StillTailTactics
import Derived.RegionTactic
import Derived.ChangeAlike
import Derived.BigRegion
namespace Go.Proofs.Ytfdmbgmhgbhggaa
open Go.RowKit
set_option linter.unusedVariables false
set_option linter.unusedSimpArgs false

theorem keep2 {w w1 w2 : World} {A B C : Obj} (hb1 : Below ((w.alloc A).alloc B).heap.size ((w.alloc A).alloc B) w1) (hb2 : Below (w1.alloc C).heap.size (w1.alloc C) w2) :
    w2.heap[w.heap.size]? = some A ∧ w2.heap[w.heap.size + 1]? = some B ∧ w2.heap[w1.heap.size]? = some C ∧ w.heap.size + 2 ≤ w1.heap.size ∧ w1.heap.size + 1 ≤ w2.heap.size ∧ Below w.heap.size w w2 := by
  have s1 := hb1.size
  have s2 := hb2.size
  simp only [World.size_alloc] at s1 s2
  have e : ∀ k, k < w.heap.size + 2 → w2.heap[k]? = ((w.alloc A).alloc B).heap[k]? := fun k hk => by
    rw [hb2.block k (by simp only [World.size_alloc]; omega), heap_alloc_old (h := by omega)]
    exact hb1.block k (by simp only [World.size_alloc]; omega)
  refine ⟨(e _ (by omega)).trans (heap_alloc2_old w A B), (e _ (by omega)).trans (heap_alloc2_new w A B), (hb2.block _ (by simp)).trans (heap_alloc_last w1 C), by omega, by omega, ?_⟩
  exact ((((Below.refl _ _).alloc (Nat.le_refl _) A).alloc (by simp) B).trans (hb1.mono (by simp; omega))).trans (((Below.refl _ _).alloc (by omega) C).trans (hb2.mono (by simp; omega)))
theorem keep1 {w w1 : World} {v : Value} {t : TypeId} {B : Obj} (hb1 : Below ((w.alloc (.cells #[v] t)).alloc B).heap.size ((w.alloc (.cells #[v] t)).alloc B) w1) (C : Obj) :
    (w1.alloc C).cell? ⟨w.heap.size, 0, none⟩ = some v := by
  have s1 := hb1.size
  simp only [World.size_alloc] at s1
  rw [World.cell?_alloc_past _ _ _ (by omega), hb1.cell (p := ⟨w.heap.size, 0, none⟩) (by simp only [World.size_alloc]; omega), World.cell?_alloc_past _ _ _ (by simp), World.cell?_alloc_at _ _ _ _ rfl]
  rfl
theorem shape_ret {k n a b c : Int} {x : Bool} {d e : Int} (h1 : a = Img.banksK k n) (h2 : b = Img.szK k n) (h3 : c = Img.winsK k n) (h4 : x = Img.exK k n) (h5 : d = e) :
    Ending.returned (.tuple #[.agg #[.int .i64 a, .int .i64 b, .int .i64 c, .bool x], .int .i64 d]) = .returned (.tuple #[Img.shape k n, .int .i64 e]) := by rw [h1, h2, h3, h4, h5]; rfl
set_option maxHeartbeats 4000000 in
theorem fit_none (tag : ByteArray) (n : Int) (w : World) (hk : Img.idx tag = -1) :
    Calls Try.prog 12 #[.string tag, .int .i64 n] w fun e w' => e = .returned (.tuple #[Img.shape (Img.idx tag) n, .int .i64 (Img.errK (Img.idx tag) n)]) ∧ Below w.heap.size w w' := by
  have hst := store40
  have Hk := Lib.hid hk
  clear hk
  go_enter Try.func12, Try.ntmps12
  go_wp2_with fail
  refine (mappers_any _).mono ?_
  rintro e w1 ⟨rfl, hb1⟩
  go_wp2_with fail
  refine (index_any tag w1.heap.size w.heap.size _ (heap_alloc_last _ _) (keep1 hb1 _)).mono ?_
  rintro e w2 ⟨rfl, hb2⟩
  obtain ⟨g0, g1, g2, z1, z2, hb⟩ := keep2 hb1 hb2
  clear hb1 hb2 hst
  have r0 : w2.cell? ⟨w.heap.size + 1, 0, none⟩ = some (.int .i64 0) := (cell_of_row w2 _ 0 _ _ _ g1)
  have q0 := (frozen_of_row w2 _ 0 _ _ g1)
  have r1 : w2.cell? ⟨w.heap.size + 1, 1, none⟩ = some (.int .i64 0) := (cell_of_row w2 _ 1 _ _ _ g1)
  have q1 := (frozen_of_row w2 _ 1 _ _ g1)
  have r2 : w2.cell? ⟨w.heap.size + 1, 2, none⟩ = some (.int .i64 0) := (cell_of_row w2 _ 2 _ _ _ g1)
  have q2 := (frozen_of_row w2 _ 2 _ _ g1)
  have r3 : w2.cell? ⟨w.heap.size + 1, 3, none⟩ = some (.bool false) := (cell_of_row w2 _ 3 _ _ _ g1)
  have q3 := (frozen_of_row w2 _ 3 _ _ g1)
  clear g0 g1 g2
  rw [Hk.out]
  have zz : w.heap.size + 1 < w2.heap.size := by omega
  have zy : w1.heap.size < w2.heap.size := by omega
  have zr : w.heap.size ≤ w.heap.size + 1 := by omega
  have zn : w.heap.size + 1 ≠ w1.heap.size := by omega
  have zw : w.heap.size ≤ w2.heap.size := by omega
  clear z1 z2
  generalize w.heap.size + 1 = R at *
  go_wp2
  refine bodyPost_ret (v := .tuple #[.agg #[.int .i64 0, .int .i64 0, .int .i64 0, .bool false], .int .i64 3]) (by simp [results, Try.results12, go_sem, r0, r1, r2, r3]) rfl ⟨shape_ret (by rw [Hk.out]; rfl) (by rw [Hk.out]; rfl) (by rw [Hk.out]; rfl) (by rw [Hk.out]; rfl) (by rw [Hk.out]; rfl), ?_⟩
  exact (((hb.setCell zr _).setCell zr _).setCell zr _).setCell zr _
set_option maxHeartbeats 4000000 in
theorem fit_0_no (tag : ByteArray) (n : Int) (w : World) (hk : Img.idx tag = 0) (h0 : -9223372036854775808 ≤ n) (h1 : n ≤ 9223372036854775807) (hf : Img.fitsK 0 n = false) :
    Calls Try.prog 12 #[.string tag, .int .i64 n] w fun e w' => e = .returned (.tuple #[Img.shape (Img.idx tag) n, .int .i64 (Img.errK (Img.idx tag) n)]) ∧ Below w.heap.size w w' := by
  have hst := store40
  have Hf := Lib.hid hf
  have hn : (n == 2048) = false := hf
  clear hf
  have Hk := Lib.hid hk
  clear hk
  go_enter Try.func12, Try.ntmps12
  go_wp2_with fail
  refine (mappers_any _).mono ?_
  rintro e w1 ⟨rfl, hb1⟩
  go_wp2_with fail
  refine (index_any tag w1.heap.size w.heap.size _ (heap_alloc_last _ _) (keep1 hb1 _)).mono ?_
  rintro e w2 ⟨rfl, hb2⟩
  obtain ⟨g0, g1, g2, z1, z2, hb⟩ := keep2 hb1 hb2
  clear hb1 hb2 hst
  have r0 : w2.cell? ⟨w.heap.size + 1, 0, none⟩ = some (.int .i64 0) := (cell_of_row w2 _ 0 _ _ _ g1)
  have q0 := (frozen_of_row w2 _ 0 _ _ g1)
  have r1 : w2.cell? ⟨w.heap.size + 1, 1, none⟩ = some (.int .i64 0) := (cell_of_row w2 _ 1 _ _ _ g1)
  have q1 := (frozen_of_row w2 _ 1 _ _ g1)
  have r2 : w2.cell? ⟨w.heap.size + 1, 2, none⟩ = some (.int .i64 0) := (cell_of_row w2 _ 2 _ _ _ g1)
  have q2 := (frozen_of_row w2 _ 2 _ _ g1)
  have r3 : w2.cell? ⟨w.heap.size + 1, 3, none⟩ = some (.bool false) := (cell_of_row w2 _ 3 _ _ _ g1)
  have q3 := (frozen_of_row w2 _ 3 _ _ g1)
  have m0 : w2.cell? ⟨w1.heap.size, 0, none⟩ = some (.string ⟨#[50, 75]⟩) := (cell_of_row w2 _ 0 mapRow 74 (0, 0) g2)
  have m1 : w2.cell? ⟨w1.heap.size, 1, none⟩ = some (.int .i64 2048) := (cell_of_row w2 _ 1 mapRow 74 (0, 0) g2)
  have m2 : w2.cell? ⟨w1.heap.size, 2, none⟩ = some (.int .i64 2048) := (cell_of_row w2 _ 2 mapRow 74 (0, 0) g2)
  have m3 : w2.cell? ⟨w1.heap.size, 3, none⟩ = some (.bool false) := (cell_of_row w2 _ 3 mapRow 74 (0, 0) g2)
  have m4 : w2.cell? ⟨w1.heap.size, 4, none⟩ = some (.bool false) := (cell_of_row w2 _ 4 mapRow 74 (0, 0) g2)
  clear g0 g1 g2
  rw [Hk.out]
  have zz : w.heap.size + 1 < w2.heap.size := by omega
  have zy : w1.heap.size < w2.heap.size := by omega
  have zr : w.heap.size ≤ w.heap.size + 1 := by omega
  have zn : w.heap.size + 1 ≠ w1.heap.size := by omega
  have zw : w.heap.size ≤ w2.heap.size := by omega
  clear z1 z2
  generalize w.heap.size + 1 = R at *
  go_wp2
  refine bodyPost_ret (v := .tuple #[.agg #[.int .i64 (0), .int .i64 0, .int .i64 0, .bool false], .int .i64 4]) (by simp [results, Try.results12, go_sem, r0, r1, r2, r3, zz]) rfl ⟨shape_ret (by rw [Hk.out]; simp [Img.banksK, Img.okK, Img.sizeK, Hf.out]) (by rw [Hk.out]; simp [Img.szK, Img.okK, Img.sizeK, Hf.out]) (by rw [Hk.out]; simp [Img.winsK, Img.okK, Img.sizeK, Hf.out]) (by rw [Hk.out]; simp [Img.exK, Img.okK, Img.extK, Hf.out]) (by rw [Hk.out]; simp [Img.errK, Hf.out]), ?_⟩
  go_grown
set_option maxHeartbeats 4000000 in
theorem fit_0_yes (tag : ByteArray) (n : Int) (w : World) (hk : Img.idx tag = 0) (h0 : -9223372036854775808 ≤ n) (h1 : n ≤ 9223372036854775807) (hf : Img.fitsK 0 n = true) :
    Calls Try.prog 12 #[.string tag, .int .i64 n] w fun e w' => e = .returned (.tuple #[Img.shape (Img.idx tag) n, .int .i64 (Img.errK (Img.idx tag) n)]) ∧ Below w.heap.size w w' := by
  have hst := store40
  have Hf := Lib.hid hf
  obtain rfl : n = 2048 := beq_iff_eq.1 hf
  clear hf
  have Hk := Lib.hid hk
  clear hk
  go_enter Try.func12, Try.ntmps12
  go_wp2_with fail
  refine (mappers_any _).mono ?_
  rintro e w1 ⟨rfl, hb1⟩
  go_wp2_with fail
  refine (index_any tag w1.heap.size w.heap.size _ (heap_alloc_last _ _) (keep1 hb1 _)).mono ?_
  rintro e w2 ⟨rfl, hb2⟩
  obtain ⟨g0, g1, g2, z1, z2, hb⟩ := keep2 hb1 hb2
  clear hb1 hb2 hst
  have r0 : w2.cell? ⟨w.heap.size + 1, 0, none⟩ = some (.int .i64 0) := (cell_of_row w2 _ 0 _ _ _ g1)
  have q0 := (frozen_of_row w2 _ 0 _ _ g1)
  have r1 : w2.cell? ⟨w.heap.size + 1, 1, none⟩ = some (.int .i64 0) := (cell_of_row w2 _ 1 _ _ _ g1)
  have q1 := (frozen_of_row w2 _ 1 _ _ g1)
  have r2 : w2.cell? ⟨w.heap.size + 1, 2, none⟩ = some (.int .i64 0) := (cell_of_row w2 _ 2 _ _ _ g1)
  have q2 := (frozen_of_row w2 _ 2 _ _ g1)
  have r3 : w2.cell? ⟨w.heap.size + 1, 3, none⟩ = some (.bool false) := (cell_of_row w2 _ 3 _ _ _ g1)
  have q3 := (frozen_of_row w2 _ 3 _ _ g1)
  have m0 : w2.cell? ⟨w1.heap.size, 0, none⟩ = some (.string ⟨#[50, 75]⟩) := (cell_of_row w2 _ 0 mapRow 74 (0, 0) g2)
  have m1 : w2.cell? ⟨w1.heap.size, 1, none⟩ = some (.int .i64 2048) := (cell_of_row w2 _ 1 mapRow 74 (0, 0) g2)
  have m2 : w2.cell? ⟨w1.heap.size, 2, none⟩ = some (.int .i64 2048) := (cell_of_row w2 _ 2 mapRow 74 (0, 0) g2)
  have m3 : w2.cell? ⟨w1.heap.size, 3, none⟩ = some (.bool false) := (cell_of_row w2 _ 3 mapRow 74 (0, 0) g2)
  have m4 : w2.cell? ⟨w1.heap.size, 4, none⟩ = some (.bool false) := (cell_of_row w2 _ 4 mapRow 74 (0, 0) g2)
  clear g0 g1 g2
  rw [Hk.out]
  have zz : w.heap.size + 1 < w2.heap.size := by omega
  have zy : w1.heap.size < w2.heap.size := by omega
  have zr : w.heap.size ≤ w.heap.size + 1 := by omega
  have zn : w.heap.size + 1 ≠ w1.heap.size := by omega
  have zw : w.heap.size ≤ w2.heap.size := by omega
  clear z1 z2
  generalize w.heap.size + 1 = R at *
  go_wp2
  go_region
  go_wp2
  refine bodyPost_ret (v := .tuple #[.agg #[.int .i64 (1), .int .i64 2048, .int .i64 2, .bool false], .int .i64 0]) (by simp [results, Try.results12, go_sem, r0, r1, r2, r3, zz]) rfl ⟨shape_ret (by rw [Hk.out]; simp [Img.banksK, Img.okK, Img.sizeK, Hf.out]) (by rw [Hk.out]; simp [Img.szK, Img.okK, Img.sizeK, Hf.out]) (by rw [Hk.out]; simp [Img.winsK, Img.okK, Img.sizeK, Hf.out]) (by rw [Hk.out]; simp [Img.exK, Img.okK, Img.extK, Hf.out]) (by rw [Hk.out]; simp [Img.errK, Hf.out]), ?_⟩
  go_grown
set_option maxHeartbeats 4000000 in
theorem fit_1_no_a (tag : ByteArray) (n : Int) (w : World) (hk : Img.idx tag = 1) (h0 : -9223372036854775808 ≤ n) (h1 : n ≤ 9223372036854775807) (hf : Img.fitsK 1 n = false) (q : n ≤ 0) :
    Calls Try.prog 12 #[.string tag, .int .i64 n] w fun e w' => e = .returned (.tuple #[Img.shape (Img.idx tag) n, .int .i64 (Img.errK (Img.idx tag) n)]) ∧ Below w.heap.size w w' := by
  have hst := store40
  have Hf := Lib.hid hf
  clear hf
  have Hk := Lib.hid hk
  clear hk
  go_enter Try.func12, Try.ntmps12
  go_wp2_with fail
  refine (mappers_any _).mono ?_
  rintro e w1 ⟨rfl, hb1⟩
  go_wp2_with fail
  refine (index_any tag w1.heap.size w.heap.size _ (heap_alloc_last _ _) (keep1 hb1 _)).mono ?_
  rintro e w2 ⟨rfl, hb2⟩
  obtain ⟨g0, g1, g2, z1, z2, hb⟩ := keep2 hb1 hb2
  clear hb1 hb2 hst
  have r0 : w2.cell? ⟨w.heap.size + 1, 0, none⟩ = some (.int .i64 0) := (cell_of_row w2 _ 0 _ _ _ g1)
  have q0 := (frozen_of_row w2 _ 0 _ _ g1)
  have r1 : w2.cell? ⟨w.heap.size + 1, 1, none⟩ = some (.int .i64 0) := (cell_of_row w2 _ 1 _ _ _ g1)
  have q1 := (frozen_of_row w2 _ 1 _ _ g1)
  have r2 : w2.cell? ⟨w.heap.size + 1, 2, none⟩ = some (.int .i64 0) := (cell_of_row w2 _ 2 _ _ _ g1)
  have q2 := (frozen_of_row w2 _ 2 _ _ g1)
  have r3 : w2.cell? ⟨w.heap.size + 1, 3, none⟩ = some (.bool false) := (cell_of_row w2 _ 3 _ _ _ g1)
  have q3 := (frozen_of_row w2 _ 3 _ _ g1)
  have m0 : w2.cell? ⟨w1.heap.size, 5, none⟩ = some (.string ⟨#[51, 70]⟩) := (cell_of_row w2 _ 5 mapRow 74 (0, 0) g2)
  have m1 : w2.cell? ⟨w1.heap.size, 6, none⟩ = some (.int .i64 2048) := (cell_of_row w2 _ 6 mapRow 74 (0, 0) g2)
  have m2 : w2.cell? ⟨w1.heap.size, 7, none⟩ = some (.int .i64 2048) := (cell_of_row w2 _ 7 mapRow 74 (0, 0) g2)
  have m3 : w2.cell? ⟨w1.heap.size, 8, none⟩ = some (.bool false) := (cell_of_row w2 _ 8 mapRow 74 (0, 0) g2)
  have m4 : w2.cell? ⟨w1.heap.size, 9, none⟩ = some (.bool true) := (cell_of_row w2 _ 9 mapRow 74 (0, 0) g2)
  clear g0 g1 g2
  rw [Hk.out]
  have zz : w.heap.size + 1 < w2.heap.size := by omega
  have zy : w1.heap.size < w2.heap.size := by omega
  have zr : w.heap.size ≤ w.heap.size + 1 := by omega
  have zn : w.heap.size + 1 ≠ w1.heap.size := by omega
  have zw : w.heap.size ≤ w2.heap.size := by omega
  clear z1 z2
  generalize w.heap.size + 1 = R at *
  go_wp2
  refine bodyPost_ret (v := .tuple #[.agg #[.int .i64 (0), .int .i64 0, .int .i64 0, .bool false], .int .i64 4]) (by simp [results, Try.results12, go_sem, r0, r1, r2, r3, zz]) rfl ⟨shape_ret (by rw [Hk.out]; simp [Img.banksK, Img.okK, Img.sizeK, Hf.out]) (by rw [Hk.out]; simp [Img.szK, Img.okK, Img.sizeK, Hf.out]) (by rw [Hk.out]; simp [Img.winsK, Img.okK, Img.sizeK, Hf.out]) (by rw [Hk.out]; simp [Img.exK, Img.okK, Img.extK, Hf.out]) (by rw [Hk.out]; simp [Img.errK, Hf.out]), ?_⟩
  go_grown
set_option maxHeartbeats 4000000 in
theorem fit_1_no_b (tag : ByteArray) (n : Int) (w : World) (hk : Img.idx tag = 1) (h0 : -9223372036854775808 ≤ n) (h1 : n ≤ 9223372036854775807) (hf : Img.fitsK 1 n = false) (q0 : 0 < n) (q : 524288 < n) :
    Calls Try.prog 12 #[.string tag, .int .i64 n] w fun e w' => e = .returned (.tuple #[Img.shape (Img.idx tag) n, .int .i64 (Img.errK (Img.idx tag) n)]) ∧ Below w.heap.size w w' := by
  have hst := store40
  have Hf := Lib.hid hf
  clear hf
  have Hk := Lib.hid hk
  clear hk
  go_enter Try.func12, Try.ntmps12
  go_wp2_with fail
  refine (mappers_any _).mono ?_
  rintro e w1 ⟨rfl, hb1⟩
  go_wp2_with fail
  refine (index_any tag w1.heap.size w.heap.size _ (heap_alloc_last _ _) (keep1 hb1 _)).mono ?_
  rintro e w2 ⟨rfl, hb2⟩
  obtain ⟨g0, g1, g2, z1, z2, hb⟩ := keep2 hb1 hb2
  clear hb1 hb2 hst
  have r0 : w2.cell? ⟨w.heap.size + 1, 0, none⟩ = some (.int .i64 0) := (cell_of_row w2 _ 0 _ _ _ g1)
  have q0 := (frozen_of_row w2 _ 0 _ _ g1)
  have r1 : w2.cell? ⟨w.heap.size + 1, 1, none⟩ = some (.int .i64 0) := (cell_of_row w2 _ 1 _ _ _ g1)
  have q1 := (frozen_of_row w2 _ 1 _ _ g1)
  have r2 : w2.cell? ⟨w.heap.size + 1, 2, none⟩ = some (.int .i64 0) := (cell_of_row w2 _ 2 _ _ _ g1)
  have q2 := (frozen_of_row w2 _ 2 _ _ g1)
  have r3 : w2.cell? ⟨w.heap.size + 1, 3, none⟩ = some (.bool false) := (cell_of_row w2 _ 3 _ _ _ g1)
  have q3 := (frozen_of_row w2 _ 3 _ _ g1)
  have m0 : w2.cell? ⟨w1.heap.size, 5, none⟩ = some (.string ⟨#[51, 70]⟩) := (cell_of_row w2 _ 5 mapRow 74 (0, 0) g2)
  have m1 : w2.cell? ⟨w1.heap.size, 6, none⟩ = some (.int .i64 2048) := (cell_of_row w2 _ 6 mapRow 74 (0, 0) g2)
  have m2 : w2.cell? ⟨w1.heap.size, 7, none⟩ = some (.int .i64 2048) := (cell_of_row w2 _ 7 mapRow 74 (0, 0) g2)
  have m3 : w2.cell? ⟨w1.heap.size, 8, none⟩ = some (.bool false) := (cell_of_row w2 _ 8 mapRow 74 (0, 0) g2)
  have m4 : w2.cell? ⟨w1.heap.size, 9, none⟩ = some (.bool true) := (cell_of_row w2 _ 9 mapRow 74 (0, 0) g2)
  clear g0 g1 g2
  rw [Hk.out]
  have zz : w.heap.size + 1 < w2.heap.size := by omega
  have zy : w1.heap.size < w2.heap.size := by omega
  have zr : w.heap.size ≤ w.heap.size + 1 := by omega
  have zn : w.heap.size + 1 ≠ w1.heap.size := by omega
  have zw : w.heap.size ≤ w2.heap.size := by omega
  clear z1 z2
  generalize w.heap.size + 1 = R at *
  go_wp2
  refine bodyPost_ret (v := .tuple #[.agg #[.int .i64 (0), .int .i64 0, .int .i64 0, .bool false], .int .i64 4]) (by simp [results, Try.results12, go_sem, r0, r1, r2, r3, zz]) rfl ⟨shape_ret (by rw [Hk.out]; simp [Img.banksK, Img.okK, Img.sizeK, Hf.out]) (by rw [Hk.out]; simp [Img.szK, Img.okK, Img.sizeK, Hf.out]) (by rw [Hk.out]; simp [Img.winsK, Img.okK, Img.sizeK, Hf.out]) (by rw [Hk.out]; simp [Img.exK, Img.okK, Img.extK, Hf.out]) (by rw [Hk.out]; simp [Img.errK, Hf.out]), ?_⟩
  go_grown
set_option maxHeartbeats 4000000 in
theorem fit_1_no_c (tag : ByteArray) (n : Int) (w : World) (hk : Img.idx tag = 1) (h0 : -9223372036854775808 ≤ n) (h1 : n ≤ 9223372036854775807) (hf : Img.fitsK 1 n = false) (q0 : 0 < n) (q : n ≤ 524288) (q2 : (n % 2048 == 0) = false) :
    Calls Try.prog 12 #[.string tag, .int .i64 n] w fun e w' => e = .returned (.tuple #[Img.shape (Img.idx tag) n, .int .i64 (Img.errK (Img.idx tag) n)]) ∧ Below w.heap.size w w' := by
  have hst := store40
  have Hf := Lib.hid hf
  clear hf
  have Hk := Lib.hid hk
  clear hk
  go_enter Try.func12, Try.ntmps12
  go_wp2_with fail
  refine (mappers_any _).mono ?_
  rintro e w1 ⟨rfl, hb1⟩
  go_wp2_with fail
  refine (index_any tag w1.heap.size w.heap.size _ (heap_alloc_last _ _) (keep1 hb1 _)).mono ?_
  rintro e w2 ⟨rfl, hb2⟩
  obtain ⟨g0, g1, g2, z1, z2, hb⟩ := keep2 hb1 hb2
  clear hb1 hb2 hst
  have r0 : w2.cell? ⟨w.heap.size + 1, 0, none⟩ = some (.int .i64 0) := (cell_of_row w2 _ 0 _ _ _ g1)
  have q0 := (frozen_of_row w2 _ 0 _ _ g1)
  have r1 : w2.cell? ⟨w.heap.size + 1, 1, none⟩ = some (.int .i64 0) := (cell_of_row w2 _ 1 _ _ _ g1)
  have q1 := (frozen_of_row w2 _ 1 _ _ g1)
  have r2 : w2.cell? ⟨w.heap.size + 1, 2, none⟩ = some (.int .i64 0) := (cell_of_row w2 _ 2 _ _ _ g1)
  have q2 := (frozen_of_row w2 _ 2 _ _ g1)
  have r3 : w2.cell? ⟨w.heap.size + 1, 3, none⟩ = some (.bool false) := (cell_of_row w2 _ 3 _ _ _ g1)
  have q3 := (frozen_of_row w2 _ 3 _ _ g1)
  have m0 : w2.cell? ⟨w1.heap.size, 5, none⟩ = some (.string ⟨#[51, 70]⟩) := (cell_of_row w2 _ 5 mapRow 74 (0, 0) g2)
  have m1 : w2.cell? ⟨w1.heap.size, 6, none⟩ = some (.int .i64 2048) := (cell_of_row w2 _ 6 mapRow 74 (0, 0) g2)
  have m2 : w2.cell? ⟨w1.heap.size, 7, none⟩ = some (.int .i64 2048) := (cell_of_row w2 _ 7 mapRow 74 (0, 0) g2)
  have m3 : w2.cell? ⟨w1.heap.size, 8, none⟩ = some (.bool false) := (cell_of_row w2 _ 8 mapRow 74 (0, 0) g2)
  have m4 : w2.cell? ⟨w1.heap.size, 9, none⟩ = some (.bool true) := (cell_of_row w2 _ 9 mapRow 74 (0, 0) g2)
  clear g0 g1 g2
  rw [Hk.out]
  have zz : w.heap.size + 1 < w2.heap.size := by omega
  have zy : w1.heap.size < w2.heap.size := by omega
  have zr : w.heap.size ≤ w.heap.size + 1 := by omega
  have zn : w.heap.size + 1 ≠ w1.heap.size := by omega
  have zw : w.heap.size ≤ w2.heap.size := by omega
  clear z1 z2
  generalize w.heap.size + 1 = R at *
  go_wp2
  refine bodyPost_ret (v := .tuple #[.agg #[.int .i64 (0), .int .i64 0, .int .i64 0, .bool false], .int .i64 4]) (by simp [results, Try.results12, go_sem, r0, r1, r2, r3, zz]) rfl ⟨shape_ret (by rw [Hk.out]; simp [Img.banksK, Img.okK, Img.sizeK, Hf.out]) (by rw [Hk.out]; simp [Img.szK, Img.okK, Img.sizeK, Hf.out]) (by rw [Hk.out]; simp [Img.winsK, Img.okK, Img.sizeK, Hf.out]) (by rw [Hk.out]; simp [Img.exK, Img.okK, Img.extK, Hf.out]) (by rw [Hk.out]; simp [Img.errK, Hf.out]), ?_⟩
  go_grown
set_option maxHeartbeats 4000000 in
theorem fit_1_yes (tag : ByteArray) (n : Int) (w : World) (hk : Img.idx tag = 1) (h0 : -9223372036854775808 ≤ n) (h1 : n ≤ 9223372036854775807) (hf : Img.fitsK 1 n = true) (q0 : 0 < n) (q : n ≤ 524288) (q2 : (n % 2048 == 0) = true) :
    Calls Try.prog 12 #[.string tag, .int .i64 n] w fun e w' => e = .returned (.tuple #[Img.shape (Img.idx tag) n, .int .i64 (Img.errK (Img.idx tag) n)]) ∧ Below w.heap.size w w' := by
  have hst := store40
  have Hf := Lib.hid hf
  clear hf
  have Hk := Lib.hid hk
  clear hk
  go_enter Try.func12, Try.ntmps12
  go_wp2_with fail
  refine (mappers_any _).mono ?_
  rintro e w1 ⟨rfl, hb1⟩
  go_wp2_with fail
  refine (index_any tag w1.heap.size w.heap.size _ (heap_alloc_last _ _) (keep1 hb1 _)).mono ?_
  rintro e w2 ⟨rfl, hb2⟩
  obtain ⟨g0, g1, g2, z1, z2, hb⟩ := keep2 hb1 hb2
  clear hb1 hb2 hst
  have r0 : w2.cell? ⟨w.heap.size + 1, 0, none⟩ = some (.int .i64 0) := (cell_of_row w2 _ 0 _ _ _ g1)
  have q0 := (frozen_of_row w2 _ 0 _ _ g1)
  have r1 : w2.cell? ⟨w.heap.size + 1, 1, none⟩ = some (.int .i64 0) := (cell_of_row w2 _ 1 _ _ _ g1)
  have q1 := (frozen_of_row w2 _ 1 _ _ g1)
  have r2 : w2.cell? ⟨w.heap.size + 1, 2, none⟩ = some (.int .i64 0) := (cell_of_row w2 _ 2 _ _ _ g1)
  have q2 := (frozen_of_row w2 _ 2 _ _ g1)
  have r3 : w2.cell? ⟨w.heap.size + 1, 3, none⟩ = some (.bool false) := (cell_of_row w2 _ 3 _ _ _ g1)
  have q3 := (frozen_of_row w2 _ 3 _ _ g1)
  have m0 : w2.cell? ⟨w1.heap.size, 5, none⟩ = some (.string ⟨#[51, 70]⟩) := (cell_of_row w2 _ 5 mapRow 74 (0, 0) g2)
  have m1 : w2.cell? ⟨w1.heap.size, 6, none⟩ = some (.int .i64 2048) := (cell_of_row w2 _ 6 mapRow 74 (0, 0) g2)
  have m2 : w2.cell? ⟨w1.heap.size, 7, none⟩ = some (.int .i64 2048) := (cell_of_row w2 _ 7 mapRow 74 (0, 0) g2)
  have m3 : w2.cell? ⟨w1.heap.size, 8, none⟩ = some (.bool false) := (cell_of_row w2 _ 8 mapRow 74 (0, 0) g2)
  have m4 : w2.cell? ⟨w1.heap.size, 9, none⟩ = some (.bool true) := (cell_of_row w2 _ 9 mapRow 74 (0, 0) g2)
  clear g0 g1 g2
  rw [Hk.out]
  have zz : w.heap.size + 1 < w2.heap.size := by omega
  have zy : w1.heap.size < w2.heap.size := by omega
  have zr : w.heap.size ≤ w.heap.size + 1 := by omega
  have zn : w.heap.size + 1 ≠ w1.heap.size := by omega
  have zw : w.heap.size ≤ w2.heap.size := by omega
  clear z1 z2
  generalize w.heap.size + 1 = R at *
  go_wp2
  go_region
  go_wp2
  refine bodyPost_ret (v := .tuple #[.agg #[.int .i64 (n / 2048), .int .i64 2048, .int .i64 2, .bool false], .int .i64 0]) (by simp [results, Try.results12, go_sem, r0, r1, r2, r3, zz]) rfl ⟨shape_ret (by rw [Hk.out]; simp [Img.banksK, Img.okK, Img.sizeK, Hf.out]) (by rw [Hk.out]; simp [Img.szK, Img.okK, Img.sizeK, Hf.out]) (by rw [Hk.out]; simp [Img.winsK, Img.okK, Img.sizeK, Hf.out]) (by rw [Hk.out]; simp [Img.exK, Img.okK, Img.extK, Hf.out]) (by rw [Hk.out]; simp [Img.errK, Hf.out]), ?_⟩
  go_grown
set_option maxHeartbeats 4000000 in
theorem fit_2_no (tag : ByteArray) (n : Int) (w : World) (hk : Img.idx tag = 2) (h0 : -9223372036854775808 ≤ n) (h1 : n ≤ 9223372036854775807) (hf : Img.fitsK 2 n = false) :
    Calls Try.prog 12 #[.string tag, .int .i64 n] w fun e w' => e = .returned (.tuple #[Img.shape (Img.idx tag) n, .int .i64 (Img.errK (Img.idx tag) n)]) ∧ Below w.heap.size w w' := by
  have hst := store40
  have Hf := Lib.hid hf
  have hn : (n == 4096) = false := hf
  clear hf
  have Hk := Lib.hid hk
  clear hk
  go_enter Try.func12, Try.ntmps12
  go_wp2_with fail
  refine (mappers_any _).mono ?_
  rintro e w1 ⟨rfl, hb1⟩
  go_wp2_with fail
  refine (index_any tag w1.heap.size w.heap.size _ (heap_alloc_last _ _) (keep1 hb1 _)).mono ?_
  rintro e w2 ⟨rfl, hb2⟩
  obtain ⟨g0, g1, g2, z1, z2, hb⟩ := keep2 hb1 hb2
  clear hb1 hb2 hst
  have r0 : w2.cell? ⟨w.heap.size + 1, 0, none⟩ = some (.int .i64 0) := (cell_of_row w2 _ 0 _ _ _ g1)
  have q0 := (frozen_of_row w2 _ 0 _ _ g1)
  have r1 : w2.cell? ⟨w.heap.size + 1, 1, none⟩ = some (.int .i64 0) := (cell_of_row w2 _ 1 _ _ _ g1)
  have q1 := (frozen_of_row w2 _ 1 _ _ g1)
  have r2 : w2.cell? ⟨w.heap.size + 1, 2, none⟩ = some (.int .i64 0) := (cell_of_row w2 _ 2 _ _ _ g1)
  have q2 := (frozen_of_row w2 _ 2 _ _ g1)
  have r3 : w2.cell? ⟨w.heap.size + 1, 3, none⟩ = some (.bool false) := (cell_of_row w2 _ 3 _ _ _ g1)
  have q3 := (frozen_of_row w2 _ 3 _ _ g1)
  have m0 : w2.cell? ⟨w1.heap.size, 10, none⟩ = some (.string ⟨#[52, 75]⟩) := (cell_of_row w2 _ 10 mapRow 74 (0, 0) g2)
  have m1 : w2.cell? ⟨w1.heap.size, 11, none⟩ = some (.int .i64 4096) := (cell_of_row w2 _ 11 mapRow 74 (0, 0) g2)
  have m2 : w2.cell? ⟨w1.heap.size, 12, none⟩ = some (.int .i64 4096) := (cell_of_row w2 _ 12 mapRow 74 (0, 0) g2)
  have m3 : w2.cell? ⟨w1.heap.size, 13, none⟩ = some (.bool false) := (cell_of_row w2 _ 13 mapRow 74 (0, 0) g2)
  have m4 : w2.cell? ⟨w1.heap.size, 14, none⟩ = some (.bool false) := (cell_of_row w2 _ 14 mapRow 74 (0, 0) g2)
  clear g0 g1 g2
  rw [Hk.out]
  have zz : w.heap.size + 1 < w2.heap.size := by omega
  have zy : w1.heap.size < w2.heap.size := by omega
  have zr : w.heap.size ≤ w.heap.size + 1 := by omega
  have zn : w.heap.size + 1 ≠ w1.heap.size := by omega
  have zw : w.heap.size ≤ w2.heap.size := by omega
  clear z1 z2
  generalize w.heap.size + 1 = R at *
  go_wp2
  refine bodyPost_ret (v := .tuple #[.agg #[.int .i64 (0), .int .i64 0, .int .i64 0, .bool false], .int .i64 4]) (by simp [results, Try.results12, go_sem, r0, r1, r2, r3, zz]) rfl ⟨shape_ret (by rw [Hk.out]; simp [Img.banksK, Img.okK, Img.sizeK, Hf.out]) (by rw [Hk.out]; simp [Img.szK, Img.okK, Img.sizeK, Hf.out]) (by rw [Hk.out]; simp [Img.winsK, Img.okK, Img.sizeK, Hf.out]) (by rw [Hk.out]; simp [Img.exK, Img.okK, Img.extK, Hf.out]) (by rw [Hk.out]; simp [Img.errK, Hf.out]), ?_⟩
  go_grown
set_option maxHeartbeats 4000000 in
theorem fit_2_yes (tag : ByteArray) (n : Int) (w : World) (hk : Img.idx tag = 2) (h0 : -9223372036854775808 ≤ n) (h1 : n ≤ 9223372036854775807) (hf : Img.fitsK 2 n = true) :
    Calls Try.prog 12 #[.string tag, .int .i64 n] w fun e w' => e = .returned (.tuple #[Img.shape (Img.idx tag) n, .int .i64 (Img.errK (Img.idx tag) n)]) ∧ Below w.heap.size w w' := by
  have hst := store40
  have Hf := Lib.hid hf
  obtain rfl : n = 4096 := beq_iff_eq.1 hf
  clear hf
  have Hk := Lib.hid hk
  clear hk
  go_enter Try.func12, Try.ntmps12
  go_wp2_with fail
  refine (mappers_any _).mono ?_
  rintro e w1 ⟨rfl, hb1⟩
  go_wp2_with fail
  refine (index_any tag w1.heap.size w.heap.size _ (heap_alloc_last _ _) (keep1 hb1 _)).mono ?_
  rintro e w2 ⟨rfl, hb2⟩
  obtain ⟨g0, g1, g2, z1, z2, hb⟩ := keep2 hb1 hb2
  clear hb1 hb2 hst
  have r0 : w2.cell? ⟨w.heap.size + 1, 0, none⟩ = some (.int .i64 0) := (cell_of_row w2 _ 0 _ _ _ g1)
  have q0 := (frozen_of_row w2 _ 0 _ _ g1)
  have r1 : w2.cell? ⟨w.heap.size + 1, 1, none⟩ = some (.int .i64 0) := (cell_of_row w2 _ 1 _ _ _ g1)
  have q1 := (frozen_of_row w2 _ 1 _ _ g1)
  have r2 : w2.cell? ⟨w.heap.size + 1, 2, none⟩ = some (.int .i64 0) := (cell_of_row w2 _ 2 _ _ _ g1)
  have q2 := (frozen_of_row w2 _ 2 _ _ g1)
  have r3 : w2.cell? ⟨w.heap.size + 1, 3, none⟩ = some (.bool false) := (cell_of_row w2 _ 3 _ _ _ g1)
  have q3 := (frozen_of_row w2 _ 3 _ _ g1)
  have m0 : w2.cell? ⟨w1.heap.size, 10, none⟩ = some (.string ⟨#[52, 75]⟩) := (cell_of_row w2 _ 10 mapRow 74 (0, 0) g2)
  have m1 : w2.cell? ⟨w1.heap.size, 11, none⟩ = some (.int .i64 4096) := (cell_of_row w2 _ 11 mapRow 74 (0, 0) g2)
  have m2 : w2.cell? ⟨w1.heap.size, 12, none⟩ = some (.int .i64 4096) := (cell_of_row w2 _ 12 mapRow 74 (0, 0) g2)
  have m3 : w2.cell? ⟨w1.heap.size, 13, none⟩ = some (.bool false) := (cell_of_row w2 _ 13 mapRow 74 (0, 0) g2)
  have m4 : w2.cell? ⟨w1.heap.size, 14, none⟩ = some (.bool false) := (cell_of_row w2 _ 14 mapRow 74 (0, 0) g2)
  clear g0 g1 g2
  rw [Hk.out]
  have zz : w.heap.size + 1 < w2.heap.size := by omega
  have zy : w1.heap.size < w2.heap.size := by omega
  have zr : w.heap.size ≤ w.heap.size + 1 := by omega
  have zn : w.heap.size + 1 ≠ w1.heap.size := by omega
  have zw : w.heap.size ≤ w2.heap.size := by omega
  clear z1 z2
  generalize w.heap.size + 1 = R at *
  go_wp2
  go_region
  go_wp2
  refine bodyPost_ret (v := .tuple #[.agg #[.int .i64 (1), .int .i64 4096, .int .i64 1, .bool false], .int .i64 0]) (by simp [results, Try.results12, go_sem, r0, r1, r2, r3, zz]) rfl ⟨shape_ret (by rw [Hk.out]; simp [Img.banksK, Img.okK, Img.sizeK, Hf.out]) (by rw [Hk.out]; simp [Img.szK, Img.okK, Img.sizeK, Hf.out]) (by rw [Hk.out]; simp [Img.winsK, Img.okK, Img.sizeK, Hf.out]) (by rw [Hk.out]; simp [Img.exK, Img.okK, Img.extK, Hf.out]) (by rw [Hk.out]; simp [Img.errK, Hf.out]), ?_⟩
  go_grown
set_option maxHeartbeats 4000000 in
theorem fit_3_no (tag : ByteArray) (n : Int) (w : World) (hk : Img.idx tag = 3) (h0 : -9223372036854775808 ≤ n) (h1 : n ≤ 9223372036854775807) (hf : Img.fitsK 3 n = false) :
    Calls Try.prog 12 #[.string tag, .int .i64 n] w fun e w' => e = .returned (.tuple #[Img.shape (Img.idx tag) n, .int .i64 (Img.errK (Img.idx tag) n)]) ∧ Below w.heap.size w w' := by
  have hst := store40
  have Hf := Lib.hid hf
  have hn : (n == 8192) = false := hf
  clear hf
  have Hk := Lib.hid hk
  clear hk
  go_enter Try.func12, Try.ntmps12
  go_wp2_with fail
  refine (mappers_any _).mono ?_
  rintro e w1 ⟨rfl, hb1⟩
  go_wp2_with fail
  refine (index_any tag w1.heap.size w.heap.size _ (heap_alloc_last _ _) (keep1 hb1 _)).mono ?_
  rintro e w2 ⟨rfl, hb2⟩
  obtain ⟨g0, g1, g2, z1, z2, hb⟩ := keep2 hb1 hb2
  clear hb1 hb2 hst
  have r0 : w2.cell? ⟨w.heap.size + 1, 0, none⟩ = some (.int .i64 0) := (cell_of_row w2 _ 0 _ _ _ g1)
  have q0 := (frozen_of_row w2 _ 0 _ _ g1)
  have r1 : w2.cell? ⟨w.heap.size + 1, 1, none⟩ = some (.int .i64 0) := (cell_of_row w2 _ 1 _ _ _ g1)
  have q1 := (frozen_of_row w2 _ 1 _ _ g1)
  have r2 : w2.cell? ⟨w.heap.size + 1, 2, none⟩ = some (.int .i64 0) := (cell_of_row w2 _ 2 _ _ _ g1)
  have q2 := (frozen_of_row w2 _ 2 _ _ g1)
  have r3 : w2.cell? ⟨w.heap.size + 1, 3, none⟩ = some (.bool false) := (cell_of_row w2 _ 3 _ _ _ g1)
  have q3 := (frozen_of_row w2 _ 3 _ _ g1)
  have m0 : w2.cell? ⟨w1.heap.size, 15, none⟩ = some (.string ⟨#[69, 48]⟩) := (cell_of_row w2 _ 15 mapRow 74 (0, 0) g2)
  have m1 : w2.cell? ⟨w1.heap.size, 16, none⟩ = some (.int .i64 8192) := (cell_of_row w2 _ 16 mapRow 74 (0, 0) g2)
  have m2 : w2.cell? ⟨w1.heap.size, 17, none⟩ = some (.int .i64 1024) := (cell_of_row w2 _ 17 mapRow 74 (0, 0) g2)
  have m3 : w2.cell? ⟨w1.heap.size, 18, none⟩ = some (.bool false) := (cell_of_row w2 _ 18 mapRow 74 (0, 0) g2)
  have m4 : w2.cell? ⟨w1.heap.size, 19, none⟩ = some (.bool false) := (cell_of_row w2 _ 19 mapRow 74 (0, 0) g2)
  clear g0 g1 g2
  rw [Hk.out]
  have zz : w.heap.size + 1 < w2.heap.size := by omega
  have zy : w1.heap.size < w2.heap.size := by omega
  have zr : w.heap.size ≤ w.heap.size + 1 := by omega
  have zn : w.heap.size + 1 ≠ w1.heap.size := by omega
  have zw : w.heap.size ≤ w2.heap.size := by omega
  clear z1 z2
  generalize w.heap.size + 1 = R at *
  go_wp2
  refine bodyPost_ret (v := .tuple #[.agg #[.int .i64 (0), .int .i64 0, .int .i64 0, .bool false], .int .i64 4]) (by simp [results, Try.results12, go_sem, r0, r1, r2, r3, zz]) rfl ⟨shape_ret (by rw [Hk.out]; simp [Img.banksK, Img.okK, Img.sizeK, Hf.out]) (by rw [Hk.out]; simp [Img.szK, Img.okK, Img.sizeK, Hf.out]) (by rw [Hk.out]; simp [Img.winsK, Img.okK, Img.sizeK, Hf.out]) (by rw [Hk.out]; simp [Img.exK, Img.okK, Img.extK, Hf.out]) (by rw [Hk.out]; simp [Img.errK, Hf.out]), ?_⟩
  go_grown
set_option maxHeartbeats 4000000 in
theorem fit_3_yes (tag : ByteArray) (n : Int) (w : World) (hk : Img.idx tag = 3) (h0 : -9223372036854775808 ≤ n) (h1 : n ≤ 9223372036854775807) (hf : Img.fitsK 3 n = true) :
    Calls Try.prog 12 #[.string tag, .int .i64 n] w fun e w' => e = .returned (.tuple #[Img.shape (Img.idx tag) n, .int .i64 (Img.errK (Img.idx tag) n)]) ∧ Below w.heap.size w w' := by
  have hst := store40
  have Hf := Lib.hid hf
  obtain rfl : n = 8192 := beq_iff_eq.1 hf
  clear hf
  have Hk := Lib.hid hk
  clear hk
  go_enter Try.func12, Try.ntmps12
  go_wp2_with fail
  refine (mappers_any _).mono ?_
  rintro e w1 ⟨rfl, hb1⟩
  go_wp2_with fail
  refine (index_any tag w1.heap.size w.heap.size _ (heap_alloc_last _ _) (keep1 hb1 _)).mono ?_
  rintro e w2 ⟨rfl, hb2⟩
  obtain ⟨g0, g1, g2, z1, z2, hb⟩ := keep2 hb1 hb2
  clear hb1 hb2 hst
  have r0 : w2.cell? ⟨w.heap.size + 1, 0, none⟩ = some (.int .i64 0) := (cell_of_row w2 _ 0 _ _ _ g1)
  have q0 := (frozen_of_row w2 _ 0 _ _ g1)
  have r1 : w2.cell? ⟨w.heap.size + 1, 1, none⟩ = some (.int .i64 0) := (cell_of_row w2 _ 1 _ _ _ g1)
  have q1 := (frozen_of_row w2 _ 1 _ _ g1)
  have r2 : w2.cell? ⟨w.heap.size + 1, 2, none⟩ = some (.int .i64 0) := (cell_of_row w2 _ 2 _ _ _ g1)
  have q2 := (frozen_of_row w2 _ 2 _ _ g1)
  have r3 : w2.cell? ⟨w.heap.size + 1, 3, none⟩ = some (.bool false) := (cell_of_row w2 _ 3 _ _ _ g1)
  have q3 := (frozen_of_row w2 _ 3 _ _ g1)
  have m0 : w2.cell? ⟨w1.heap.size, 15, none⟩ = some (.string ⟨#[69, 48]⟩) := (cell_of_row w2 _ 15 mapRow 74 (0, 0) g2)
  have m1 : w2.cell? ⟨w1.heap.size, 16, none⟩ = some (.int .i64 8192) := (cell_of_row w2 _ 16 mapRow 74 (0, 0) g2)
  have m2 : w2.cell? ⟨w1.heap.size, 17, none⟩ = some (.int .i64 1024) := (cell_of_row w2 _ 17 mapRow 74 (0, 0) g2)
  have m3 : w2.cell? ⟨w1.heap.size, 18, none⟩ = some (.bool false) := (cell_of_row w2 _ 18 mapRow 74 (0, 0) g2)
  have m4 : w2.cell? ⟨w1.heap.size, 19, none⟩ = some (.bool false) := (cell_of_row w2 _ 19 mapRow 74 (0, 0) g2)
  clear g0 g1 g2
  rw [Hk.out]
  have zz : w.heap.size + 1 < w2.heap.size := by omega
  have zy : w1.heap.size < w2.heap.size := by omega
  have zr : w.heap.size ≤ w.heap.size + 1 := by omega
  have zn : w.heap.size + 1 ≠ w1.heap.size := by omega
  have zw : w.heap.size ≤ w2.heap.size := by omega
  clear z1 z2
  generalize w.heap.size + 1 = R at *
  go_wp2
  go_region
  go_wp2
  refine bodyPost_ret (v := .tuple #[.agg #[.int .i64 (8), .int .i64 1024, .int .i64 4, .bool false], .int .i64 0]) (by simp [results, Try.results12, go_sem, r0, r1, r2, r3, zz]) rfl ⟨shape_ret (by rw [Hk.out]; simp [Img.banksK, Img.okK, Img.sizeK, Hf.out]) (by rw [Hk.out]; simp [Img.szK, Img.okK, Img.sizeK, Hf.out]) (by rw [Hk.out]; simp [Img.winsK, Img.okK, Img.sizeK, Hf.out]) (by rw [Hk.out]; simp [Img.exK, Img.okK, Img.extK, Hf.out]) (by rw [Hk.out]; simp [Img.errK, Hf.out]), ?_⟩
  go_grown
set_option maxHeartbeats 4000000 in
theorem fit_4_no (tag : ByteArray) (n : Int) (w : World) (hk : Img.idx tag = 4) (h0 : -9223372036854775808 ≤ n) (h1 : n ≤ 9223372036854775807) (hf : Img.fitsK 4 n = false) :
    Calls Try.prog 12 #[.string tag, .int .i64 n] w fun e w' => e = .returned (.tuple #[Img.shape (Img.idx tag) n, .int .i64 (Img.errK (Img.idx tag) n)]) ∧ Below w.heap.size w w' := by
  have hst := store40
  have Hf := Lib.hid hf
  have hn : (n == 32768) = false := hf
  clear hf
  have Hk := Lib.hid hk
  clear hk
  go_enter Try.func12, Try.ntmps12
  go_wp2_with fail
  refine (mappers_any _).mono ?_
  rintro e w1 ⟨rfl, hb1⟩
  go_wp2_with fail
  refine (index_any tag w1.heap.size w.heap.size _ (heap_alloc_last _ _) (keep1 hb1 _)).mono ?_
  rintro e w2 ⟨rfl, hb2⟩
  obtain ⟨g0, g1, g2, z1, z2, hb⟩ := keep2 hb1 hb2
  clear hb1 hb2 hst
  have r0 : w2.cell? ⟨w.heap.size + 1, 0, none⟩ = some (.int .i64 0) := (cell_of_row w2 _ 0 _ _ _ g1)
  have q0 := (frozen_of_row w2 _ 0 _ _ g1)
  have r1 : w2.cell? ⟨w.heap.size + 1, 1, none⟩ = some (.int .i64 0) := (cell_of_row w2 _ 1 _ _ _ g1)
  have q1 := (frozen_of_row w2 _ 1 _ _ g1)
  have r2 : w2.cell? ⟨w.heap.size + 1, 2, none⟩ = some (.int .i64 0) := (cell_of_row w2 _ 2 _ _ _ g1)
  have q2 := (frozen_of_row w2 _ 2 _ _ g1)
  have r3 : w2.cell? ⟨w.heap.size + 1, 3, none⟩ = some (.bool false) := (cell_of_row w2 _ 3 _ _ _ g1)
  have q3 := (frozen_of_row w2 _ 3 _ _ g1)
  have m0 : w2.cell? ⟨w1.heap.size, 20, none⟩ = some (.string ⟨#[70, 52]⟩) := (cell_of_row w2 _ 20 mapRow 74 (0, 0) g2)
  have m1 : w2.cell? ⟨w1.heap.size, 21, none⟩ = some (.int .i64 32768) := (cell_of_row w2 _ 21 mapRow 74 (0, 0) g2)
  have m2 : w2.cell? ⟨w1.heap.size, 22, none⟩ = some (.int .i64 4096) := (cell_of_row w2 _ 22 mapRow 74 (0, 0) g2)
  have m3 : w2.cell? ⟨w1.heap.size, 23, none⟩ = some (.bool false) := (cell_of_row w2 _ 23 mapRow 74 (0, 0) g2)
  have m4 : w2.cell? ⟨w1.heap.size, 24, none⟩ = some (.bool false) := (cell_of_row w2 _ 24 mapRow 74 (0, 0) g2)
  clear g0 g1 g2
  rw [Hk.out]
  have zz : w.heap.size + 1 < w2.heap.size := by omega
  have zy : w1.heap.size < w2.heap.size := by omega
  have zr : w.heap.size ≤ w.heap.size + 1 := by omega
  have zn : w.heap.size + 1 ≠ w1.heap.size := by omega
  have zw : w.heap.size ≤ w2.heap.size := by omega
  clear z1 z2
  generalize w.heap.size + 1 = R at *
  go_wp2
  refine bodyPost_ret (v := .tuple #[.agg #[.int .i64 (0), .int .i64 0, .int .i64 0, .bool false], .int .i64 4]) (by simp [results, Try.results12, go_sem, r0, r1, r2, r3, zz]) rfl ⟨shape_ret (by rw [Hk.out]; simp [Img.banksK, Img.okK, Img.sizeK, Hf.out]) (by rw [Hk.out]; simp [Img.szK, Img.okK, Img.sizeK, Hf.out]) (by rw [Hk.out]; simp [Img.winsK, Img.okK, Img.sizeK, Hf.out]) (by rw [Hk.out]; simp [Img.exK, Img.okK, Img.extK, Hf.out]) (by rw [Hk.out]; simp [Img.errK, Hf.out]), ?_⟩
  go_grown
set_option maxHeartbeats 4000000 in
theorem fit_4_yes (tag : ByteArray) (n : Int) (w : World) (hk : Img.idx tag = 4) (h0 : -9223372036854775808 ≤ n) (h1 : n ≤ 9223372036854775807) (hf : Img.fitsK 4 n = true) :
    Calls Try.prog 12 #[.string tag, .int .i64 n] w fun e w' => e = .returned (.tuple #[Img.shape (Img.idx tag) n, .int .i64 (Img.errK (Img.idx tag) n)]) ∧ Below w.heap.size w w' := by
  have hst := store40
  have Hf := Lib.hid hf
  obtain rfl : n = 32768 := beq_iff_eq.1 hf
  clear hf
  have Hk := Lib.hid hk
  clear hk
  go_enter Try.func12, Try.ntmps12
  go_wp2_with fail
  refine (mappers_any _).mono ?_
  rintro e w1 ⟨rfl, hb1⟩
  go_wp2_with fail
  refine (index_any tag w1.heap.size w.heap.size _ (heap_alloc_last _ _) (keep1 hb1 _)).mono ?_
  rintro e w2 ⟨rfl, hb2⟩
  obtain ⟨g0, g1, g2, z1, z2, hb⟩ := keep2 hb1 hb2
  clear hb1 hb2 hst
  have r0 : w2.cell? ⟨w.heap.size + 1, 0, none⟩ = some (.int .i64 0) := (cell_of_row w2 _ 0 _ _ _ g1)
  have q0 := (frozen_of_row w2 _ 0 _ _ g1)
  have r1 : w2.cell? ⟨w.heap.size + 1, 1, none⟩ = some (.int .i64 0) := (cell_of_row w2 _ 1 _ _ _ g1)
  have q1 := (frozen_of_row w2 _ 1 _ _ g1)
  have r2 : w2.cell? ⟨w.heap.size + 1, 2, none⟩ = some (.int .i64 0) := (cell_of_row w2 _ 2 _ _ _ g1)
  have q2 := (frozen_of_row w2 _ 2 _ _ g1)
  have r3 : w2.cell? ⟨w.heap.size + 1, 3, none⟩ = some (.bool false) := (cell_of_row w2 _ 3 _ _ _ g1)
  have q3 := (frozen_of_row w2 _ 3 _ _ g1)
  have m0 : w2.cell? ⟨w1.heap.size, 20, none⟩ = some (.string ⟨#[70, 52]⟩) := (cell_of_row w2 _ 20 mapRow 74 (0, 0) g2)
  have m1 : w2.cell? ⟨w1.heap.size, 21, none⟩ = some (.int .i64 32768) := (cell_of_row w2 _ 21 mapRow 74 (0, 0) g2)
  have m2 : w2.cell? ⟨w1.heap.size, 22, none⟩ = some (.int .i64 4096) := (cell_of_row w2 _ 22 mapRow 74 (0, 0) g2)
  have m3 : w2.cell? ⟨w1.heap.size, 23, none⟩ = some (.bool false) := (cell_of_row w2 _ 23 mapRow 74 (0, 0) g2)
  have m4 : w2.cell? ⟨w1.heap.size, 24, none⟩ = some (.bool false) := (cell_of_row w2 _ 24 mapRow 74 (0, 0) g2)
  clear g0 g1 g2
  rw [Hk.out]
  have zz : w.heap.size + 1 < w2.heap.size := by omega
  have zy : w1.heap.size < w2.heap.size := by omega
  have zr : w.heap.size ≤ w.heap.size + 1 := by omega
  have zn : w.heap.size + 1 ≠ w1.heap.size := by omega
  have zw : w.heap.size ≤ w2.heap.size := by omega
  clear z1 z2
  generalize w.heap.size + 1 = R at *
  go_wp2
  go_region
  go_wp2
  refine bodyPost_ret (v := .tuple #[.agg #[.int .i64 (8), .int .i64 4096, .int .i64 1, .bool false], .int .i64 0]) (by simp [results, Try.results12, go_sem, r0, r1, r2, r3, zz]) rfl ⟨shape_ret (by rw [Hk.out]; simp [Img.banksK, Img.okK, Img.sizeK, Hf.out]) (by rw [Hk.out]; simp [Img.szK, Img.okK, Img.sizeK, Hf.out]) (by rw [Hk.out]; simp [Img.winsK, Img.okK, Img.sizeK, Hf.out]) (by rw [Hk.out]; simp [Img.exK, Img.okK, Img.extK, Hf.out]) (by rw [Hk.out]; simp [Img.errK, Hf.out]), ?_⟩
  go_grown
set_option maxHeartbeats 4000000 in
theorem fit_5_no (tag : ByteArray) (n : Int) (w : World) (hk : Img.idx tag = 5) (h0 : -9223372036854775808 ≤ n) (h1 : n ≤ 9223372036854775807) (hf : Img.fitsK 5 n = false) :
    Calls Try.prog 12 #[.string tag, .int .i64 n] w fun e w' => e = .returned (.tuple #[Img.shape (Img.idx tag) n, .int .i64 (Img.errK (Img.idx tag) n)]) ∧ Below w.heap.size w w' := by
  have hst := store40
  have Hf := Lib.hid hf
  have hn : (n == 32768) = false := hf
  clear hf
  have Hk := Lib.hid hk
  clear hk
  go_enter Try.func12, Try.ntmps12
  go_wp2_with fail
  refine (mappers_any _).mono ?_
  rintro e w1 ⟨rfl, hb1⟩
  go_wp2_with fail
  refine (index_any tag w1.heap.size w.heap.size _ (heap_alloc_last _ _) (keep1 hb1 _)).mono ?_
  rintro e w2 ⟨rfl, hb2⟩
  obtain ⟨g0, g1, g2, z1, z2, hb⟩ := keep2 hb1 hb2
  clear hb1 hb2 hst
  have r0 : w2.cell? ⟨w.heap.size + 1, 0, none⟩ = some (.int .i64 0) := (cell_of_row w2 _ 0 _ _ _ g1)
  have q0 := (frozen_of_row w2 _ 0 _ _ g1)
  have r1 : w2.cell? ⟨w.heap.size + 1, 1, none⟩ = some (.int .i64 0) := (cell_of_row w2 _ 1 _ _ _ g1)
  have q1 := (frozen_of_row w2 _ 1 _ _ g1)
  have r2 : w2.cell? ⟨w.heap.size + 1, 2, none⟩ = some (.int .i64 0) := (cell_of_row w2 _ 2 _ _ _ g1)
  have q2 := (frozen_of_row w2 _ 2 _ _ g1)
  have r3 : w2.cell? ⟨w.heap.size + 1, 3, none⟩ = some (.bool false) := (cell_of_row w2 _ 3 _ _ _ g1)
  have q3 := (frozen_of_row w2 _ 3 _ _ g1)
  have m0 : w2.cell? ⟨w1.heap.size, 25, none⟩ = some (.string ⟨#[70, 52, 83, 67]⟩) := (cell_of_row w2 _ 25 mapRow 74 (0, 0) g2)
  have m1 : w2.cell? ⟨w1.heap.size, 26, none⟩ = some (.int .i64 32768) := (cell_of_row w2 _ 26 mapRow 74 (0, 0) g2)
  have m2 : w2.cell? ⟨w1.heap.size, 27, none⟩ = some (.int .i64 4096) := (cell_of_row w2 _ 27 mapRow 74 (0, 0) g2)
  have m3 : w2.cell? ⟨w1.heap.size, 28, none⟩ = some (.bool true) := (cell_of_row w2 _ 28 mapRow 74 (0, 0) g2)
  have m4 : w2.cell? ⟨w1.heap.size, 29, none⟩ = some (.bool false) := (cell_of_row w2 _ 29 mapRow 74 (0, 0) g2)
  clear g0 g1 g2
  rw [Hk.out]
  have zz : w.heap.size + 1 < w2.heap.size := by omega
  have zy : w1.heap.size < w2.heap.size := by omega
  have zr : w.heap.size ≤ w.heap.size + 1 := by omega
  have zn : w.heap.size + 1 ≠ w1.heap.size := by omega
  have zw : w.heap.size ≤ w2.heap.size := by omega
  clear z1 z2
  generalize w.heap.size + 1 = R at *
  go_wp2
  refine bodyPost_ret (v := .tuple #[.agg #[.int .i64 (0), .int .i64 0, .int .i64 0, .bool false], .int .i64 4]) (by simp [results, Try.results12, go_sem, r0, r1, r2, r3, zz]) rfl ⟨shape_ret (by rw [Hk.out]; simp [Img.banksK, Img.okK, Img.sizeK, Hf.out]) (by rw [Hk.out]; simp [Img.szK, Img.okK, Img.sizeK, Hf.out]) (by rw [Hk.out]; simp [Img.winsK, Img.okK, Img.sizeK, Hf.out]) (by rw [Hk.out]; simp [Img.exK, Img.okK, Img.extK, Hf.out]) (by rw [Hk.out]; simp [Img.errK, Hf.out]), ?_⟩
  go_grown
set_option maxHeartbeats 4000000 in
theorem fit_5_yes (tag : ByteArray) (n : Int) (w : World) (hk : Img.idx tag = 5) (h0 : -9223372036854775808 ≤ n) (h1 : n ≤ 9223372036854775807) (hf : Img.fitsK 5 n = true) :
    Calls Try.prog 12 #[.string tag, .int .i64 n] w fun e w' => e = .returned (.tuple #[Img.shape (Img.idx tag) n, .int .i64 (Img.errK (Img.idx tag) n)]) ∧ Below w.heap.size w w' := by
  have hst := store40
  have Hf := Lib.hid hf
  obtain rfl : n = 32768 := beq_iff_eq.1 hf
  clear hf
  have Hk := Lib.hid hk
  clear hk
  go_enter Try.func12, Try.ntmps12
  go_wp2_with fail
  refine (mappers_any _).mono ?_
  rintro e w1 ⟨rfl, hb1⟩
  go_wp2_with fail
  refine (index_any tag w1.heap.size w.heap.size _ (heap_alloc_last _ _) (keep1 hb1 _)).mono ?_
  rintro e w2 ⟨rfl, hb2⟩
  obtain ⟨g0, g1, g2, z1, z2, hb⟩ := keep2 hb1 hb2
  clear hb1 hb2 hst
  have r0 : w2.cell? ⟨w.heap.size + 1, 0, none⟩ = some (.int .i64 0) := (cell_of_row w2 _ 0 _ _ _ g1)
  have q0 := (frozen_of_row w2 _ 0 _ _ g1)
  have r1 : w2.cell? ⟨w.heap.size + 1, 1, none⟩ = some (.int .i64 0) := (cell_of_row w2 _ 1 _ _ _ g1)
  have q1 := (frozen_of_row w2 _ 1 _ _ g1)
  have r2 : w2.cell? ⟨w.heap.size + 1, 2, none⟩ = some (.int .i64 0) := (cell_of_row w2 _ 2 _ _ _ g1)
  have q2 := (frozen_of_row w2 _ 2 _ _ g1)
  have r3 : w2.cell? ⟨w.heap.size + 1, 3, none⟩ = some (.bool false) := (cell_of_row w2 _ 3 _ _ _ g1)
  have q3 := (frozen_of_row w2 _ 3 _ _ g1)
  have m0 : w2.cell? ⟨w1.heap.size, 25, none⟩ = some (.string ⟨#[70, 52, 83, 67]⟩) := (cell_of_row w2 _ 25 mapRow 74 (0, 0) g2)
  have m1 : w2.cell? ⟨w1.heap.size, 26, none⟩ = some (.int .i64 32768) := (cell_of_row w2 _ 26 mapRow 74 (0, 0) g2)
  have m2 : w2.cell? ⟨w1.heap.size, 27, none⟩ = some (.int .i64 4096) := (cell_of_row w2 _ 27 mapRow 74 (0, 0) g2)
  have m3 : w2.cell? ⟨w1.heap.size, 28, none⟩ = some (.bool true) := (cell_of_row w2 _ 28 mapRow 74 (0, 0) g2)
  have m4 : w2.cell? ⟨w1.heap.size, 29, none⟩ = some (.bool false) := (cell_of_row w2 _ 29 mapRow 74 (0, 0) g2)
  clear g0 g1 g2
  rw [Hk.out]
  have zz : w.heap.size + 1 < w2.heap.size := by omega
  have zy : w1.heap.size < w2.heap.size := by omega
  have zr : w.heap.size ≤ w.heap.size + 1 := by omega
  have zn : w.heap.size + 1 ≠ w1.heap.size := by omega
  have zw : w.heap.size ≤ w2.heap.size := by omega
  clear z1 z2
  generalize w.heap.size + 1 = R at *
  go_wp2
  go_region
  go_wp2
  refine bodyPost_ret (v := .tuple #[.agg #[.int .i64 (8), .int .i64 4096, .int .i64 1, .bool true], .int .i64 0]) (by simp [results, Try.results12, go_sem, r0, r1, r2, r3, zz]) rfl ⟨shape_ret (by rw [Hk.out]; simp [Img.banksK, Img.okK, Img.sizeK, Hf.out]) (by rw [Hk.out]; simp [Img.szK, Img.okK, Img.sizeK, Hf.out]) (by rw [Hk.out]; simp [Img.winsK, Img.okK, Img.sizeK, Hf.out]) (by rw [Hk.out]; simp [Img.exK, Img.okK, Img.extK, Hf.out]) (by rw [Hk.out]; simp [Img.errK, Hf.out]), ?_⟩
  go_grown
set_option maxHeartbeats 4000000 in
theorem fit_6_no (tag : ByteArray) (n : Int) (w : World) (hk : Img.idx tag = 6) (h0 : -9223372036854775808 ≤ n) (h1 : n ≤ 9223372036854775807) (hf : Img.fitsK 6 n = false) :
    Calls Try.prog 12 #[.string tag, .int .i64 n] w fun e w' => e = .returned (.tuple #[Img.shape (Img.idx tag) n, .int .i64 (Img.errK (Img.idx tag) n)]) ∧ Below w.heap.size w w' := by
  have hst := store40
  have Hf := Lib.hid hf
  have hn : (n == 16384) = false := hf
  clear hf
  have Hk := Lib.hid hk
  clear hk
  go_enter Try.func12, Try.ntmps12
  go_wp2_with fail
  refine (mappers_any _).mono ?_
  rintro e w1 ⟨rfl, hb1⟩
  go_wp2_with fail
  refine (index_any tag w1.heap.size w.heap.size _ (heap_alloc_last _ _) (keep1 hb1 _)).mono ?_
  rintro e w2 ⟨rfl, hb2⟩
  obtain ⟨g0, g1, g2, z1, z2, hb⟩ := keep2 hb1 hb2
  clear hb1 hb2 hst
  have r0 : w2.cell? ⟨w.heap.size + 1, 0, none⟩ = some (.int .i64 0) := (cell_of_row w2 _ 0 _ _ _ g1)
  have q0 := (frozen_of_row w2 _ 0 _ _ g1)
  have r1 : w2.cell? ⟨w.heap.size + 1, 1, none⟩ = some (.int .i64 0) := (cell_of_row w2 _ 1 _ _ _ g1)
  have q1 := (frozen_of_row w2 _ 1 _ _ g1)
  have r2 : w2.cell? ⟨w.heap.size + 1, 2, none⟩ = some (.int .i64 0) := (cell_of_row w2 _ 2 _ _ _ g1)
  have q2 := (frozen_of_row w2 _ 2 _ _ g1)
  have r3 : w2.cell? ⟨w.heap.size + 1, 3, none⟩ = some (.bool false) := (cell_of_row w2 _ 3 _ _ _ g1)
  have q3 := (frozen_of_row w2 _ 3 _ _ g1)
  have m0 : w2.cell? ⟨w1.heap.size, 30, none⟩ = some (.string ⟨#[70, 54]⟩) := (cell_of_row w2 _ 30 mapRow 74 (0, 0) g2)
  have m1 : w2.cell? ⟨w1.heap.size, 31, none⟩ = some (.int .i64 16384) := (cell_of_row w2 _ 31 mapRow 74 (0, 0) g2)
  have m2 : w2.cell? ⟨w1.heap.size, 32, none⟩ = some (.int .i64 4096) := (cell_of_row w2 _ 32 mapRow 74 (0, 0) g2)
  have m3 : w2.cell? ⟨w1.heap.size, 33, none⟩ = some (.bool false) := (cell_of_row w2 _ 33 mapRow 74 (0, 0) g2)
  have m4 : w2.cell? ⟨w1.heap.size, 34, none⟩ = some (.bool false) := (cell_of_row w2 _ 34 mapRow 74 (0, 0) g2)
  clear g0 g1 g2
  rw [Hk.out]
  have zz : w.heap.size + 1 < w2.heap.size := by omega
  have zy : w1.heap.size < w2.heap.size := by omega
  have zr : w.heap.size ≤ w.heap.size + 1 := by omega
  have zn : w.heap.size + 1 ≠ w1.heap.size := by omega
  have zw : w.heap.size ≤ w2.heap.size := by omega
  clear z1 z2
  generalize w.heap.size + 1 = R at *
  go_wp2
  refine bodyPost_ret (v := .tuple #[.agg #[.int .i64 (0), .int .i64 0, .int .i64 0, .bool false], .int .i64 4]) (by simp [results, Try.results12, go_sem, r0, r1, r2, r3, zz]) rfl ⟨shape_ret (by rw [Hk.out]; simp [Img.banksK, Img.okK, Img.sizeK, Hf.out]) (by rw [Hk.out]; simp [Img.szK, Img.okK, Img.sizeK, Hf.out]) (by rw [Hk.out]; simp [Img.winsK, Img.okK, Img.sizeK, Hf.out]) (by rw [Hk.out]; simp [Img.exK, Img.okK, Img.extK, Hf.out]) (by rw [Hk.out]; simp [Img.errK, Hf.out]), ?_⟩
  go_grown
set_option maxHeartbeats 4000000 in
theorem fit_6_yes (tag : ByteArray) (n : Int) (w : World) (hk : Img.idx tag = 6) (h0 : -9223372036854775808 ≤ n) (h1 : n ≤ 9223372036854775807) (hf : Img.fitsK 6 n = true) :
    Calls Try.prog 12 #[.string tag, .int .i64 n] w fun e w' => e = .returned (.tuple #[Img.shape (Img.idx tag) n, .int .i64 (Img.errK (Img.idx tag) n)]) ∧ Below w.heap.size w w' := by
  have hst := store40
  have Hf := Lib.hid hf
  obtain rfl : n = 16384 := beq_iff_eq.1 hf
  clear hf
  have Hk := Lib.hid hk
  clear hk
  go_enter Try.func12, Try.ntmps12
  go_wp2_with fail
  refine (mappers_any _).mono ?_
  rintro e w1 ⟨rfl, hb1⟩
  go_wp2_with fail
  refine (index_any tag w1.heap.size w.heap.size _ (heap_alloc_last _ _) (keep1 hb1 _)).mono ?_
  rintro e w2 ⟨rfl, hb2⟩
  obtain ⟨g0, g1, g2, z1, z2, hb⟩ := keep2 hb1 hb2
  clear hb1 hb2 hst
  have r0 : w2.cell? ⟨w.heap.size + 1, 0, none⟩ = some (.int .i64 0) := (cell_of_row w2 _ 0 _ _ _ g1)
  have q0 := (frozen_of_row w2 _ 0 _ _ g1)
  have r1 : w2.cell? ⟨w.heap.size + 1, 1, none⟩ = some (.int .i64 0) := (cell_of_row w2 _ 1 _ _ _ g1)
  have q1 := (frozen_of_row w2 _ 1 _ _ g1)
  have r2 : w2.cell? ⟨w.heap.size + 1, 2, none⟩ = some (.int .i64 0) := (cell_of_row w2 _ 2 _ _ _ g1)
  have q2 := (frozen_of_row w2 _ 2 _ _ g1)
  have r3 : w2.cell? ⟨w.heap.size + 1, 3, none⟩ = some (.bool false) := (cell_of_row w2 _ 3 _ _ _ g1)
  have q3 := (frozen_of_row w2 _ 3 _ _ g1)
  have m0 : w2.cell? ⟨w1.heap.size, 30, none⟩ = some (.string ⟨#[70, 54]⟩) := (cell_of_row w2 _ 30 mapRow 74 (0, 0) g2)
  have m1 : w2.cell? ⟨w1.heap.size, 31, none⟩ = some (.int .i64 16384) := (cell_of_row w2 _ 31 mapRow 74 (0, 0) g2)
  have m2 : w2.cell? ⟨w1.heap.size, 32, none⟩ = some (.int .i64 4096) := (cell_of_row w2 _ 32 mapRow 74 (0, 0) g2)
  have m3 : w2.cell? ⟨w1.heap.size, 33, none⟩ = some (.bool false) := (cell_of_row w2 _ 33 mapRow 74 (0, 0) g2)
  have m4 : w2.cell? ⟨w1.heap.size, 34, none⟩ = some (.bool false) := (cell_of_row w2 _ 34 mapRow 74 (0, 0) g2)
  clear g0 g1 g2
  rw [Hk.out]
  have zz : w.heap.size + 1 < w2.heap.size := by omega
  have zy : w1.heap.size < w2.heap.size := by omega
  have zr : w.heap.size ≤ w.heap.size + 1 := by omega
  have zn : w.heap.size + 1 ≠ w1.heap.size := by omega
  have zw : w.heap.size ≤ w2.heap.size := by omega
  clear z1 z2
  generalize w.heap.size + 1 = R at *
  go_wp2
  go_region
  go_wp2
  refine bodyPost_ret (v := .tuple #[.agg #[.int .i64 (4), .int .i64 4096, .int .i64 1, .bool false], .int .i64 0]) (by simp [results, Try.results12, go_sem, r0, r1, r2, r3, zz]) rfl ⟨shape_ret (by rw [Hk.out]; simp [Img.banksK, Img.okK, Img.sizeK, Hf.out]) (by rw [Hk.out]; simp [Img.szK, Img.okK, Img.sizeK, Hf.out]) (by rw [Hk.out]; simp [Img.winsK, Img.okK, Img.sizeK, Hf.out]) (by rw [Hk.out]; simp [Img.exK, Img.okK, Img.extK, Hf.out]) (by rw [Hk.out]; simp [Img.errK, Hf.out]), ?_⟩
  go_grown
set_option maxHeartbeats 4000000 in
theorem fit_7_no (tag : ByteArray) (n : Int) (w : World) (hk : Img.idx tag = 7) (h0 : -9223372036854775808 ≤ n) (h1 : n ≤ 9223372036854775807) (hf : Img.fitsK 7 n = false) :
    Calls Try.prog 12 #[.string tag, .int .i64 n] w fun e w' => e = .returned (.tuple #[Img.shape (Img.idx tag) n, .int .i64 (Img.errK (Img.idx tag) n)]) ∧ Below w.heap.size w w' := by
  have hst := store40
  have Hf := Lib.hid hf
  have hn : (n == 16384) = false := hf
  clear hf
  have Hk := Lib.hid hk
  clear hk
  go_enter Try.func12, Try.ntmps12
  go_wp2_with fail
  refine (mappers_any _).mono ?_
  rintro e w1 ⟨rfl, hb1⟩
  go_wp2_with fail
  refine (index_any tag w1.heap.size w.heap.size _ (heap_alloc_last _ _) (keep1 hb1 _)).mono ?_
  rintro e w2 ⟨rfl, hb2⟩
  obtain ⟨g0, g1, g2, z1, z2, hb⟩ := keep2 hb1 hb2
  clear hb1 hb2 hst
  have r0 : w2.cell? ⟨w.heap.size + 1, 0, none⟩ = some (.int .i64 0) := (cell_of_row w2 _ 0 _ _ _ g1)
  have q0 := (frozen_of_row w2 _ 0 _ _ g1)
  have r1 : w2.cell? ⟨w.heap.size + 1, 1, none⟩ = some (.int .i64 0) := (cell_of_row w2 _ 1 _ _ _ g1)
  have q1 := (frozen_of_row w2 _ 1 _ _ g1)
  have r2 : w2.cell? ⟨w.heap.size + 1, 2, none⟩ = some (.int .i64 0) := (cell_of_row w2 _ 2 _ _ _ g1)
  have q2 := (frozen_of_row w2 _ 2 _ _ g1)
  have r3 : w2.cell? ⟨w.heap.size + 1, 3, none⟩ = some (.bool false) := (cell_of_row w2 _ 3 _ _ _ g1)
  have q3 := (frozen_of_row w2 _ 3 _ _ g1)
  have m0 : w2.cell? ⟨w1.heap.size, 35, none⟩ = some (.string ⟨#[70, 54, 83, 67]⟩) := (cell_of_row w2 _ 35 mapRow 74 (0, 0) g2)
  have m1 : w2.cell? ⟨w1.heap.size, 36, none⟩ = some (.int .i64 16384) := (cell_of_row w2 _ 36 mapRow 74 (0, 0) g2)
  have m2 : w2.cell? ⟨w1.heap.size, 37, none⟩ = some (.int .i64 4096) := (cell_of_row w2 _ 37 mapRow 74 (0, 0) g2)
  have m3 : w2.cell? ⟨w1.heap.size, 38, none⟩ = some (.bool true) := (cell_of_row w2 _ 38 mapRow 74 (0, 0) g2)
  have m4 : w2.cell? ⟨w1.heap.size, 39, none⟩ = some (.bool false) := (cell_of_row w2 _ 39 mapRow 74 (0, 0) g2)
  clear g0 g1 g2
  rw [Hk.out]
  have zz : w.heap.size + 1 < w2.heap.size := by omega
  have zy : w1.heap.size < w2.heap.size := by omega
  have zr : w.heap.size ≤ w.heap.size + 1 := by omega
  have zn : w.heap.size + 1 ≠ w1.heap.size := by omega
  have zw : w.heap.size ≤ w2.heap.size := by omega
  clear z1 z2
  generalize w.heap.size + 1 = R at *
  go_wp2
  refine bodyPost_ret (v := .tuple #[.agg #[.int .i64 (0), .int .i64 0, .int .i64 0, .bool false], .int .i64 4]) (by simp [results, Try.results12, go_sem, r0, r1, r2, r3, zz]) rfl ⟨shape_ret (by rw [Hk.out]; simp [Img.banksK, Img.okK, Img.sizeK, Hf.out]) (by rw [Hk.out]; simp [Img.szK, Img.okK, Img.sizeK, Hf.out]) (by rw [Hk.out]; simp [Img.winsK, Img.okK, Img.sizeK, Hf.out]) (by rw [Hk.out]; simp [Img.exK, Img.okK, Img.extK, Hf.out]) (by rw [Hk.out]; simp [Img.errK, Hf.out]), ?_⟩
  go_grown
set_option maxHeartbeats 4000000 in
theorem fit_7_yes (tag : ByteArray) (n : Int) (w : World) (hk : Img.idx tag = 7) (h0 : -9223372036854775808 ≤ n) (h1 : n ≤ 9223372036854775807) (hf : Img.fitsK 7 n = true) :
    Calls Try.prog 12 #[.string tag, .int .i64 n] w fun e w' => e = .returned (.tuple #[Img.shape (Img.idx tag) n, .int .i64 (Img.errK (Img.idx tag) n)]) ∧ Below w.heap.size w w' := by
  have hst := store40
  have Hf := Lib.hid hf
  obtain rfl : n = 16384 := beq_iff_eq.1 hf
  clear hf
  have Hk := Lib.hid hk
  clear hk
  go_enter Try.func12, Try.ntmps12
  go_wp2_with fail
  refine (mappers_any _).mono ?_
  rintro e w1 ⟨rfl, hb1⟩
  go_wp2_with fail
  refine (index_any tag w1.heap.size w.heap.size _ (heap_alloc_last _ _) (keep1 hb1 _)).mono ?_
  rintro e w2 ⟨rfl, hb2⟩
  obtain ⟨g0, g1, g2, z1, z2, hb⟩ := keep2 hb1 hb2
  clear hb1 hb2 hst
  have r0 : w2.cell? ⟨w.heap.size + 1, 0, none⟩ = some (.int .i64 0) := (cell_of_row w2 _ 0 _ _ _ g1)
  have q0 := (frozen_of_row w2 _ 0 _ _ g1)
  have r1 : w2.cell? ⟨w.heap.size + 1, 1, none⟩ = some (.int .i64 0) := (cell_of_row w2 _ 1 _ _ _ g1)
  have q1 := (frozen_of_row w2 _ 1 _ _ g1)
  have r2 : w2.cell? ⟨w.heap.size + 1, 2, none⟩ = some (.int .i64 0) := (cell_of_row w2 _ 2 _ _ _ g1)
  have q2 := (frozen_of_row w2 _ 2 _ _ g1)
  have r3 : w2.cell? ⟨w.heap.size + 1, 3, none⟩ = some (.bool false) := (cell_of_row w2 _ 3 _ _ _ g1)
  have q3 := (frozen_of_row w2 _ 3 _ _ g1)
  have m0 : w2.cell? ⟨w1.heap.size, 35, none⟩ = some (.string ⟨#[70, 54, 83, 67]⟩) := (cell_of_row w2 _ 35 mapRow 74 (0, 0) g2)
  have m1 : w2.cell? ⟨w1.heap.size, 36, none⟩ = some (.int .i64 16384) := (cell_of_row w2 _ 36 mapRow 74 (0, 0) g2)
  have m2 : w2.cell? ⟨w1.heap.size, 37, none⟩ = some (.int .i64 4096) := (cell_of_row w2 _ 37 mapRow 74 (0, 0) g2)
  have m3 : w2.cell? ⟨w1.heap.size, 38, none⟩ = some (.bool true) := (cell_of_row w2 _ 38 mapRow 74 (0, 0) g2)
  have m4 : w2.cell? ⟨w1.heap.size, 39, none⟩ = some (.bool false) := (cell_of_row w2 _ 39 mapRow 74 (0, 0) g2)
  clear g0 g1 g2
  rw [Hk.out]
  have zz : w.heap.size + 1 < w2.heap.size := by omega
  have zy : w1.heap.size < w2.heap.size := by omega
  have zr : w.heap.size ≤ w.heap.size + 1 := by omega
  have zn : w.heap.size + 1 ≠ w1.heap.size := by omega
  have zw : w.heap.size ≤ w2.heap.size := by omega
  clear z1 z2
  generalize w.heap.size + 1 = R at *
  go_wp2
  go_region
  go_wp2
  refine bodyPost_ret (v := .tuple #[.agg #[.int .i64 (4), .int .i64 4096, .int .i64 1, .bool true], .int .i64 0]) (by simp [results, Try.results12, go_sem, r0, r1, r2, r3, zz]) rfl ⟨shape_ret (by rw [Hk.out]; simp [Img.banksK, Img.okK, Img.sizeK, Hf.out]) (by rw [Hk.out]; simp [Img.szK, Img.okK, Img.sizeK, Hf.out]) (by rw [Hk.out]; simp [Img.winsK, Img.okK, Img.sizeK, Hf.out]) (by rw [Hk.out]; simp [Img.exK, Img.okK, Img.extK, Hf.out]) (by rw [Hk.out]; simp [Img.errK, Hf.out]), ?_⟩
  go_grown
set_option maxHeartbeats 4000000 in
theorem fit_8_no (tag : ByteArray) (n : Int) (w : World) (hk : Img.idx tag = 8) (h0 : -9223372036854775808 ≤ n) (h1 : n ≤ 9223372036854775807) (hf : Img.fitsK 8 n = false) :
    Calls Try.prog 12 #[.string tag, .int .i64 n] w fun e w' => e = .returned (.tuple #[Img.shape (Img.idx tag) n, .int .i64 (Img.errK (Img.idx tag) n)]) ∧ Below w.heap.size w w' := by
  have hst := store40
  have Hf := Lib.hid hf
  have hn : (n == 8192) = false := hf
  clear hf
  have Hk := Lib.hid hk
  clear hk
  go_enter Try.func12, Try.ntmps12
  go_wp2_with fail
  refine (mappers_any _).mono ?_
  rintro e w1 ⟨rfl, hb1⟩
  go_wp2_with fail
  refine (index_any tag w1.heap.size w.heap.size _ (heap_alloc_last _ _) (keep1 hb1 _)).mono ?_
  rintro e w2 ⟨rfl, hb2⟩
  obtain ⟨g0, g1, g2, z1, z2, hb⟩ := keep2 hb1 hb2
  clear hb1 hb2 hst
  have r0 : w2.cell? ⟨w.heap.size + 1, 0, none⟩ = some (.int .i64 0) := (cell_of_row w2 _ 0 _ _ _ g1)
  have q0 := (frozen_of_row w2 _ 0 _ _ g1)
  have r1 : w2.cell? ⟨w.heap.size + 1, 1, none⟩ = some (.int .i64 0) := (cell_of_row w2 _ 1 _ _ _ g1)
  have q1 := (frozen_of_row w2 _ 1 _ _ g1)
  have r2 : w2.cell? ⟨w.heap.size + 1, 2, none⟩ = some (.int .i64 0) := (cell_of_row w2 _ 2 _ _ _ g1)
  have q2 := (frozen_of_row w2 _ 2 _ _ g1)
  have r3 : w2.cell? ⟨w.heap.size + 1, 3, none⟩ = some (.bool false) := (cell_of_row w2 _ 3 _ _ _ g1)
  have q3 := (frozen_of_row w2 _ 3 _ _ g1)
  have m0 : w2.cell? ⟨w1.heap.size, 40, none⟩ = some (.string ⟨#[70, 56]⟩) := (cell_of_row w2 _ 40 mapRow 74 (0, 0) g2)
  have m1 : w2.cell? ⟨w1.heap.size, 41, none⟩ = some (.int .i64 8192) := (cell_of_row w2 _ 41 mapRow 74 (0, 0) g2)
  have m2 : w2.cell? ⟨w1.heap.size, 42, none⟩ = some (.int .i64 4096) := (cell_of_row w2 _ 42 mapRow 74 (0, 0) g2)
  have m3 : w2.cell? ⟨w1.heap.size, 43, none⟩ = some (.bool false) := (cell_of_row w2 _ 43 mapRow 74 (0, 0) g2)
  have m4 : w2.cell? ⟨w1.heap.size, 44, none⟩ = some (.bool false) := (cell_of_row w2 _ 44 mapRow 74 (0, 0) g2)
  clear g0 g1 g2
  rw [Hk.out]
  have zz : w.heap.size + 1 < w2.heap.size := by omega
  have zy : w1.heap.size < w2.heap.size := by omega
  have zr : w.heap.size ≤ w.heap.size + 1 := by omega
  have zn : w.heap.size + 1 ≠ w1.heap.size := by omega
  have zw : w.heap.size ≤ w2.heap.size := by omega
  clear z1 z2
  generalize w.heap.size + 1 = R at *
  go_wp2
  refine bodyPost_ret (v := .tuple #[.agg #[.int .i64 (0), .int .i64 0, .int .i64 0, .bool false], .int .i64 4]) (by simp [results, Try.results12, go_sem, r0, r1, r2, r3, zz]) rfl ⟨shape_ret (by rw [Hk.out]; simp [Img.banksK, Img.okK, Img.sizeK, Hf.out]) (by rw [Hk.out]; simp [Img.szK, Img.okK, Img.sizeK, Hf.out]) (by rw [Hk.out]; simp [Img.winsK, Img.okK, Img.sizeK, Hf.out]) (by rw [Hk.out]; simp [Img.exK, Img.okK, Img.extK, Hf.out]) (by rw [Hk.out]; simp [Img.errK, Hf.out]), ?_⟩
  go_grown
set_option maxHeartbeats 4000000 in
theorem fit_8_yes (tag : ByteArray) (n : Int) (w : World) (hk : Img.idx tag = 8) (h0 : -9223372036854775808 ≤ n) (h1 : n ≤ 9223372036854775807) (hf : Img.fitsK 8 n = true) :
    Calls Try.prog 12 #[.string tag, .int .i64 n] w fun e w' => e = .returned (.tuple #[Img.shape (Img.idx tag) n, .int .i64 (Img.errK (Img.idx tag) n)]) ∧ Below w.heap.size w w' := by
  have hst := store40
  have Hf := Lib.hid hf
  obtain rfl : n = 8192 := beq_iff_eq.1 hf
  clear hf
  have Hk := Lib.hid hk
  clear hk
  go_enter Try.func12, Try.ntmps12
  go_wp2_with fail
  refine (mappers_any _).mono ?_
  rintro e w1 ⟨rfl, hb1⟩
  go_wp2_with fail
  refine (index_any tag w1.heap.size w.heap.size _ (heap_alloc_last _ _) (keep1 hb1 _)).mono ?_
  rintro e w2 ⟨rfl, hb2⟩
  obtain ⟨g0, g1, g2, z1, z2, hb⟩ := keep2 hb1 hb2
  clear hb1 hb2 hst
  have r0 : w2.cell? ⟨w.heap.size + 1, 0, none⟩ = some (.int .i64 0) := (cell_of_row w2 _ 0 _ _ _ g1)
  have q0 := (frozen_of_row w2 _ 0 _ _ g1)
  have r1 : w2.cell? ⟨w.heap.size + 1, 1, none⟩ = some (.int .i64 0) := (cell_of_row w2 _ 1 _ _ _ g1)
  have q1 := (frozen_of_row w2 _ 1 _ _ g1)
  have r2 : w2.cell? ⟨w.heap.size + 1, 2, none⟩ = some (.int .i64 0) := (cell_of_row w2 _ 2 _ _ _ g1)
  have q2 := (frozen_of_row w2 _ 2 _ _ g1)
  have r3 : w2.cell? ⟨w.heap.size + 1, 3, none⟩ = some (.bool false) := (cell_of_row w2 _ 3 _ _ _ g1)
  have q3 := (frozen_of_row w2 _ 3 _ _ g1)
  have m0 : w2.cell? ⟨w1.heap.size, 40, none⟩ = some (.string ⟨#[70, 56]⟩) := (cell_of_row w2 _ 40 mapRow 74 (0, 0) g2)
  have m1 : w2.cell? ⟨w1.heap.size, 41, none⟩ = some (.int .i64 8192) := (cell_of_row w2 _ 41 mapRow 74 (0, 0) g2)
  have m2 : w2.cell? ⟨w1.heap.size, 42, none⟩ = some (.int .i64 4096) := (cell_of_row w2 _ 42 mapRow 74 (0, 0) g2)
  have m3 : w2.cell? ⟨w1.heap.size, 43, none⟩ = some (.bool false) := (cell_of_row w2 _ 43 mapRow 74 (0, 0) g2)
  have m4 : w2.cell? ⟨w1.heap.size, 44, none⟩ = some (.bool false) := (cell_of_row w2 _ 44 mapRow 74 (0, 0) g2)
  clear g0 g1 g2
  rw [Hk.out]
  have zz : w.heap.size + 1 < w2.heap.size := by omega
  have zy : w1.heap.size < w2.heap.size := by omega
  have zr : w.heap.size ≤ w.heap.size + 1 := by omega
  have zn : w.heap.size + 1 ≠ w1.heap.size := by omega
  have zw : w.heap.size ≤ w2.heap.size := by omega
  clear z1 z2
  generalize w.heap.size + 1 = R at *
  go_wp2
  go_region
  go_wp2
  refine bodyPost_ret (v := .tuple #[.agg #[.int .i64 (2), .int .i64 4096, .int .i64 1, .bool false], .int .i64 0]) (by simp [results, Try.results12, go_sem, r0, r1, r2, r3, zz]) rfl ⟨shape_ret (by rw [Hk.out]; simp [Img.banksK, Img.okK, Img.sizeK, Hf.out]) (by rw [Hk.out]; simp [Img.szK, Img.okK, Img.sizeK, Hf.out]) (by rw [Hk.out]; simp [Img.winsK, Img.okK, Img.sizeK, Hf.out]) (by rw [Hk.out]; simp [Img.exK, Img.okK, Img.extK, Hf.out]) (by rw [Hk.out]; simp [Img.errK, Hf.out]), ?_⟩
  go_grown
set_option maxHeartbeats 4000000 in
theorem fit_9_no (tag : ByteArray) (n : Int) (w : World) (hk : Img.idx tag = 9) (h0 : -9223372036854775808 ≤ n) (h1 : n ≤ 9223372036854775807) (hf : Img.fitsK 9 n = false) :
    Calls Try.prog 12 #[.string tag, .int .i64 n] w fun e w' => e = .returned (.tuple #[Img.shape (Img.idx tag) n, .int .i64 (Img.errK (Img.idx tag) n)]) ∧ Below w.heap.size w w' := by
  have hst := store40
  have Hf := Lib.hid hf
  have hn : (n == 8192) = false := hf
  clear hf
  have Hk := Lib.hid hk
  clear hk
  go_enter Try.func12, Try.ntmps12
  go_wp2_with fail
  refine (mappers_any _).mono ?_
  rintro e w1 ⟨rfl, hb1⟩
  go_wp2_with fail
  refine (index_any tag w1.heap.size w.heap.size _ (heap_alloc_last _ _) (keep1 hb1 _)).mono ?_
  rintro e w2 ⟨rfl, hb2⟩
  obtain ⟨g0, g1, g2, z1, z2, hb⟩ := keep2 hb1 hb2
  clear hb1 hb2 hst
  have r0 : w2.cell? ⟨w.heap.size + 1, 0, none⟩ = some (.int .i64 0) := (cell_of_row w2 _ 0 _ _ _ g1)
  have q0 := (frozen_of_row w2 _ 0 _ _ g1)
  have r1 : w2.cell? ⟨w.heap.size + 1, 1, none⟩ = some (.int .i64 0) := (cell_of_row w2 _ 1 _ _ _ g1)
  have q1 := (frozen_of_row w2 _ 1 _ _ g1)
  have r2 : w2.cell? ⟨w.heap.size + 1, 2, none⟩ = some (.int .i64 0) := (cell_of_row w2 _ 2 _ _ _ g1)
  have q2 := (frozen_of_row w2 _ 2 _ _ g1)
  have r3 : w2.cell? ⟨w.heap.size + 1, 3, none⟩ = some (.bool false) := (cell_of_row w2 _ 3 _ _ _ g1)
  have q3 := (frozen_of_row w2 _ 3 _ _ g1)
  have m0 : w2.cell? ⟨w1.heap.size, 45, none⟩ = some (.string ⟨#[70, 56, 83, 67]⟩) := (cell_of_row w2 _ 45 mapRow 74 (0, 0) g2)
  have m1 : w2.cell? ⟨w1.heap.size, 46, none⟩ = some (.int .i64 8192) := (cell_of_row w2 _ 46 mapRow 74 (0, 0) g2)
  have m2 : w2.cell? ⟨w1.heap.size, 47, none⟩ = some (.int .i64 4096) := (cell_of_row w2 _ 47 mapRow 74 (0, 0) g2)
  have m3 : w2.cell? ⟨w1.heap.size, 48, none⟩ = some (.bool true) := (cell_of_row w2 _ 48 mapRow 74 (0, 0) g2)
  have m4 : w2.cell? ⟨w1.heap.size, 49, none⟩ = some (.bool false) := (cell_of_row w2 _ 49 mapRow 74 (0, 0) g2)
  clear g0 g1 g2
  rw [Hk.out]
  have zz : w.heap.size + 1 < w2.heap.size := by omega
  have zy : w1.heap.size < w2.heap.size := by omega
  have zr : w.heap.size ≤ w.heap.size + 1 := by omega
  have zn : w.heap.size + 1 ≠ w1.heap.size := by omega
  have zw : w.heap.size ≤ w2.heap.size := by omega
  clear z1 z2
  generalize w.heap.size + 1 = R at *
  go_wp2
  refine bodyPost_ret (v := .tuple #[.agg #[.int .i64 (0), .int .i64 0, .int .i64 0, .bool false], .int .i64 4]) (by simp [results, Try.results12, go_sem, r0, r1, r2, r3, zz]) rfl ⟨shape_ret (by rw [Hk.out]; simp [Img.banksK, Img.okK, Img.sizeK, Hf.out]) (by rw [Hk.out]; simp [Img.szK, Img.okK, Img.sizeK, Hf.out]) (by rw [Hk.out]; simp [Img.winsK, Img.okK, Img.sizeK, Hf.out]) (by rw [Hk.out]; simp [Img.exK, Img.okK, Img.extK, Hf.out]) (by rw [Hk.out]; simp [Img.errK, Hf.out]), ?_⟩
  go_grown
set_option maxHeartbeats 4000000 in
theorem fit_9_yes (tag : ByteArray) (n : Int) (w : World) (hk : Img.idx tag = 9) (h0 : -9223372036854775808 ≤ n) (h1 : n ≤ 9223372036854775807) (hf : Img.fitsK 9 n = true) :
    Calls Try.prog 12 #[.string tag, .int .i64 n] w fun e w' => e = .returned (.tuple #[Img.shape (Img.idx tag) n, .int .i64 (Img.errK (Img.idx tag) n)]) ∧ Below w.heap.size w w' := by
  have hst := store40
  have Hf := Lib.hid hf
  obtain rfl : n = 8192 := beq_iff_eq.1 hf
  clear hf
  have Hk := Lib.hid hk
  clear hk
  go_enter Try.func12, Try.ntmps12
  go_wp2_with fail
  refine (mappers_any _).mono ?_
  rintro e w1 ⟨rfl, hb1⟩
  go_wp2_with fail
  refine (index_any tag w1.heap.size w.heap.size _ (heap_alloc_last _ _) (keep1 hb1 _)).mono ?_
  rintro e w2 ⟨rfl, hb2⟩
  obtain ⟨g0, g1, g2, z1, z2, hb⟩ := keep2 hb1 hb2
  clear hb1 hb2 hst
  have r0 : w2.cell? ⟨w.heap.size + 1, 0, none⟩ = some (.int .i64 0) := (cell_of_row w2 _ 0 _ _ _ g1)
  have q0 := (frozen_of_row w2 _ 0 _ _ g1)
  have r1 : w2.cell? ⟨w.heap.size + 1, 1, none⟩ = some (.int .i64 0) := (cell_of_row w2 _ 1 _ _ _ g1)
  have q1 := (frozen_of_row w2 _ 1 _ _ g1)
  have r2 : w2.cell? ⟨w.heap.size + 1, 2, none⟩ = some (.int .i64 0) := (cell_of_row w2 _ 2 _ _ _ g1)
  have q2 := (frozen_of_row w2 _ 2 _ _ g1)
  have r3 : w2.cell? ⟨w.heap.size + 1, 3, none⟩ = some (.bool false) := (cell_of_row w2 _ 3 _ _ _ g1)
  have q3 := (frozen_of_row w2 _ 3 _ _ g1)
  have m0 : w2.cell? ⟨w1.heap.size, 45, none⟩ = some (.string ⟨#[70, 56, 83, 67]⟩) := (cell_of_row w2 _ 45 mapRow 74 (0, 0) g2)
  have m1 : w2.cell? ⟨w1.heap.size, 46, none⟩ = some (.int .i64 8192) := (cell_of_row w2 _ 46 mapRow 74 (0, 0) g2)
  have m2 : w2.cell? ⟨w1.heap.size, 47, none⟩ = some (.int .i64 4096) := (cell_of_row w2 _ 47 mapRow 74 (0, 0) g2)
  have m3 : w2.cell? ⟨w1.heap.size, 48, none⟩ = some (.bool true) := (cell_of_row w2 _ 48 mapRow 74 (0, 0) g2)
  have m4 : w2.cell? ⟨w1.heap.size, 49, none⟩ = some (.bool false) := (cell_of_row w2 _ 49 mapRow 74 (0, 0) g2)
  clear g0 g1 g2
  rw [Hk.out]
  have zz : w.heap.size + 1 < w2.heap.size := by omega
  have zy : w1.heap.size < w2.heap.size := by omega
  have zr : w.heap.size ≤ w.heap.size + 1 := by omega
  have zn : w.heap.size + 1 ≠ w1.heap.size := by omega
  have zw : w.heap.size ≤ w2.heap.size := by omega
  clear z1 z2
  generalize w.heap.size + 1 = R at *
  go_wp2
  go_region
  go_wp2
  refine bodyPost_ret (v := .tuple #[.agg #[.int .i64 (2), .int .i64 4096, .int .i64 1, .bool true], .int .i64 0]) (by simp [results, Try.results12, go_sem, r0, r1, r2, r3, zz]) rfl ⟨shape_ret (by rw [Hk.out]; simp [Img.banksK, Img.okK, Img.sizeK, Hf.out]) (by rw [Hk.out]; simp [Img.szK, Img.okK, Img.sizeK, Hf.out]) (by rw [Hk.out]; simp [Img.winsK, Img.okK, Img.sizeK, Hf.out]) (by rw [Hk.out]; simp [Img.exK, Img.okK, Img.extK, Hf.out]) (by rw [Hk.out]; simp [Img.errK, Hf.out]), ?_⟩
  go_grown
set_option maxHeartbeats 4000000 in
theorem fit_10_no (tag : ByteArray) (n : Int) (w : World) (hk : Img.idx tag = 10) (h0 : -9223372036854775808 ≤ n) (h1 : n ≤ 9223372036854775807) (hf : Img.fitsK 10 n = false) :
    Calls Try.prog 12 #[.string tag, .int .i64 n] w fun e w' => e = .returned (.tuple #[Img.shape (Img.idx tag) n, .int .i64 (Img.errK (Img.idx tag) n)]) ∧ Below w.heap.size w w' := by
  have hst := store40
  have Hf := Lib.hid hf
  have hn : (n == 8192) = false := hf
  clear hf
  have Hk := Lib.hid hk
  clear hk
  go_enter Try.func12, Try.ntmps12
  go_wp2_with fail
  refine (mappers_any _).mono ?_
  rintro e w1 ⟨rfl, hb1⟩
  go_wp2_with fail
  refine (index_any tag w1.heap.size w.heap.size _ (heap_alloc_last _ _) (keep1 hb1 _)).mono ?_
  rintro e w2 ⟨rfl, hb2⟩
  obtain ⟨g0, g1, g2, z1, z2, hb⟩ := keep2 hb1 hb2
  clear hb1 hb2 hst
  have r0 : w2.cell? ⟨w.heap.size + 1, 0, none⟩ = some (.int .i64 0) := (cell_of_row w2 _ 0 _ _ _ g1)
  have q0 := (frozen_of_row w2 _ 0 _ _ g1)
  have r1 : w2.cell? ⟨w.heap.size + 1, 1, none⟩ = some (.int .i64 0) := (cell_of_row w2 _ 1 _ _ _ g1)
  have q1 := (frozen_of_row w2 _ 1 _ _ g1)
  have r2 : w2.cell? ⟨w.heap.size + 1, 2, none⟩ = some (.int .i64 0) := (cell_of_row w2 _ 2 _ _ _ g1)
  have q2 := (frozen_of_row w2 _ 2 _ _ g1)
  have r3 : w2.cell? ⟨w.heap.size + 1, 3, none⟩ = some (.bool false) := (cell_of_row w2 _ 3 _ _ _ g1)
  have q3 := (frozen_of_row w2 _ 3 _ _ g1)
  have m0 : w2.cell? ⟨w1.heap.size, 50, none⟩ = some (.string ⟨#[70, 69]⟩) := (cell_of_row w2 _ 50 mapRow 74 (0, 0) g2)
  have m1 : w2.cell? ⟨w1.heap.size, 51, none⟩ = some (.int .i64 8192) := (cell_of_row w2 _ 51 mapRow 74 (0, 0) g2)
  have m2 : w2.cell? ⟨w1.heap.size, 52, none⟩ = some (.int .i64 4096) := (cell_of_row w2 _ 52 mapRow 74 (0, 0) g2)
  have m3 : w2.cell? ⟨w1.heap.size, 53, none⟩ = some (.bool false) := (cell_of_row w2 _ 53 mapRow 74 (0, 0) g2)
  have m4 : w2.cell? ⟨w1.heap.size, 54, none⟩ = some (.bool false) := (cell_of_row w2 _ 54 mapRow 74 (0, 0) g2)
  clear g0 g1 g2
  rw [Hk.out]
  have zz : w.heap.size + 1 < w2.heap.size := by omega
  have zy : w1.heap.size < w2.heap.size := by omega
  have zr : w.heap.size ≤ w.heap.size + 1 := by omega
  have zn : w.heap.size + 1 ≠ w1.heap.size := by omega
  have zw : w.heap.size ≤ w2.heap.size := by omega
  clear z1 z2
  generalize w.heap.size + 1 = R at *
  go_wp2
  refine bodyPost_ret (v := .tuple #[.agg #[.int .i64 (0), .int .i64 0, .int .i64 0, .bool false], .int .i64 4]) (by simp [results, Try.results12, go_sem, r0, r1, r2, r3, zz]) rfl ⟨shape_ret (by rw [Hk.out]; simp [Img.banksK, Img.okK, Img.sizeK, Hf.out]) (by rw [Hk.out]; simp [Img.szK, Img.okK, Img.sizeK, Hf.out]) (by rw [Hk.out]; simp [Img.winsK, Img.okK, Img.sizeK, Hf.out]) (by rw [Hk.out]; simp [Img.exK, Img.okK, Img.extK, Hf.out]) (by rw [Hk.out]; simp [Img.errK, Hf.out]), ?_⟩
  go_grown
set_option maxHeartbeats 4000000 in
theorem fit_10_yes (tag : ByteArray) (n : Int) (w : World) (hk : Img.idx tag = 10) (h0 : -9223372036854775808 ≤ n) (h1 : n ≤ 9223372036854775807) (hf : Img.fitsK 10 n = true) :
    Calls Try.prog 12 #[.string tag, .int .i64 n] w fun e w' => e = .returned (.tuple #[Img.shape (Img.idx tag) n, .int .i64 (Img.errK (Img.idx tag) n)]) ∧ Below w.heap.size w w' := by
  have hst := store40
  have Hf := Lib.hid hf
  obtain rfl : n = 8192 := beq_iff_eq.1 hf
  clear hf
  have Hk := Lib.hid hk
  clear hk
  go_enter Try.func12, Try.ntmps12
  go_wp2_with fail
  refine (mappers_any _).mono ?_
  rintro e w1 ⟨rfl, hb1⟩
  go_wp2_with fail
  refine (index_any tag w1.heap.size w.heap.size _ (heap_alloc_last _ _) (keep1 hb1 _)).mono ?_
  rintro e w2 ⟨rfl, hb2⟩
  obtain ⟨g0, g1, g2, z1, z2, hb⟩ := keep2 hb1 hb2
  clear hb1 hb2 hst
  have r0 : w2.cell? ⟨w.heap.size + 1, 0, none⟩ = some (.int .i64 0) := (cell_of_row w2 _ 0 _ _ _ g1)
  have q0 := (frozen_of_row w2 _ 0 _ _ g1)
  have r1 : w2.cell? ⟨w.heap.size + 1, 1, none⟩ = some (.int .i64 0) := (cell_of_row w2 _ 1 _ _ _ g1)
  have q1 := (frozen_of_row w2 _ 1 _ _ g1)
  have r2 : w2.cell? ⟨w.heap.size + 1, 2, none⟩ = some (.int .i64 0) := (cell_of_row w2 _ 2 _ _ _ g1)
  have q2 := (frozen_of_row w2 _ 2 _ _ g1)
  have r3 : w2.cell? ⟨w.heap.size + 1, 3, none⟩ = some (.bool false) := (cell_of_row w2 _ 3 _ _ _ g1)
  have q3 := (frozen_of_row w2 _ 3 _ _ g1)
  have m0 : w2.cell? ⟨w1.heap.size, 50, none⟩ = some (.string ⟨#[70, 69]⟩) := (cell_of_row w2 _ 50 mapRow 74 (0, 0) g2)
  have m1 : w2.cell? ⟨w1.heap.size, 51, none⟩ = some (.int .i64 8192) := (cell_of_row w2 _ 51 mapRow 74 (0, 0) g2)
  have m2 : w2.cell? ⟨w1.heap.size, 52, none⟩ = some (.int .i64 4096) := (cell_of_row w2 _ 52 mapRow 74 (0, 0) g2)
  have m3 : w2.cell? ⟨w1.heap.size, 53, none⟩ = some (.bool false) := (cell_of_row w2 _ 53 mapRow 74 (0, 0) g2)
  have m4 : w2.cell? ⟨w1.heap.size, 54, none⟩ = some (.bool false) := (cell_of_row w2 _ 54 mapRow 74 (0, 0) g2)
  clear g0 g1 g2
  rw [Hk.out]
  have zz : w.heap.size + 1 < w2.heap.size := by omega
  have zy : w1.heap.size < w2.heap.size := by omega
  have zr : w.heap.size ≤ w.heap.size + 1 := by omega
  have zn : w.heap.size + 1 ≠ w1.heap.size := by omega
  have zw : w.heap.size ≤ w2.heap.size := by omega
  clear z1 z2
  generalize w.heap.size + 1 = R at *
  go_wp2
  go_region
  go_wp2
  refine bodyPost_ret (v := .tuple #[.agg #[.int .i64 (2), .int .i64 4096, .int .i64 1, .bool false], .int .i64 0]) (by simp [results, Try.results12, go_sem, r0, r1, r2, r3, zz]) rfl ⟨shape_ret (by rw [Hk.out]; simp [Img.banksK, Img.okK, Img.sizeK, Hf.out]) (by rw [Hk.out]; simp [Img.szK, Img.okK, Img.sizeK, Hf.out]) (by rw [Hk.out]; simp [Img.winsK, Img.okK, Img.sizeK, Hf.out]) (by rw [Hk.out]; simp [Img.exK, Img.okK, Img.extK, Hf.out]) (by rw [Hk.out]; simp [Img.errK, Hf.out]), ?_⟩
  go_grown
end Go.Proofs.Ytfdmbgmhgbhggaa
