import Derived.Test.YtfdmbgmhgbhggaaRows
import Derived.Test.YtfdmbgmhgbhggaaImg
import Derived.WalkKit
import Derived.WalkSpells
import Derived.WalkLawsBesides
import Derived.Lib.Hide
import Derived.Handy
import Derived.Deep.WholeRow
namespace Go.Proofs.Ytfdmbgmhgbhggaa
open Go.RowKit

def mapCells : List Value := [(#[50, 75], 2048, 2048, false, false), (#[51, 70], 2048, 2048, false, true), (#[52, 75], 4096, 4096, false, false), (#[69, 48], 8192, 1024, false, false),
  (#[70, 52], 32768, 4096, false, false), (#[70, 52, 83, 67], 32768, 4096, true, false), (#[70, 54], 16384, 4096, false, false), (#[70, 54, 83, 67], 16384, 4096, true, false),
  (#[70, 56], 8192, 4096, false, false), (#[70, 56, 83, 67], 8192, 4096, true, false), (#[70, 69], 8192, 4096, false, false)].flatMap
  fun (x : Array UInt8 × Int × Int × Bool × Bool) => [.string ⟨x.1⟩, .int .i64 x.2.1, .int .i64 x.2.2.1, .bool x.2.2.2.1, .bool x.2.2.2.2]
def mapRow : Array Value := mapCells.toArray

def zeroCells : List Value := (List.replicate 11 [Value.string ⟨#[]⟩, .int .i64 0, .int .i64 0, .bool false, .bool false]).flatten
def zeroRow : Array Value := zeroCells.toArray
theorem alloc40 (w : World) : (Instr.alloc 74 true (.tuple #[])).run Try.prog w = .ok (.pointer (some ⟨w.heap.size, 0, none⟩)) (w.alloc (.cells zeroRow 74)) := by kernel_rfl
theorem wpList_buildc {P : Program} {ops : Array Oper} {rest : List Oper} {o : Oper} {a : Act} {w : World} {Q : Exit → Act → World → Prop} (hg : o.guard = none) (t : TypeId) (parts : Array (Nat × Operand)) (ho : o.op = .build t parts) (cells : Array Value)
    (hf : P.built t (parts.map fun (i, x) => (i, a.eval x)).toList = some cells)
    (h : wpList P ops Q rest (a.put o.dst (.agg cells)) w) : wpList P ops Q (o :: rest) a w := by
  refine wpList_build hg t parts ho (by rw [hf]; rfl) ?_
  rw [hf]; exact h
def mapAt (k : Nat) : Array Value := ((mapCells.drop (5 * k)).take 5).toArray
set_option maxHeartbeats 1000000 in
theorem mappers_any (w : World) : Calls Try.prog 31 #[] w fun e w' => e = .returned (.agg mapRow) ∧ Below w.heap.size w w' := by
  have ha := alloc40
  go_enter Try.func31, Try.ntmps31
  go_step
  go_step
  go_step
  go_step
  go_step
  go_step
  go_step
  go_step
  go_step
  go_step
  go_step
  refine wpList_buildc rfl _ _ rfl (mapAt 0) (by kernel_rfl) ?_
  refine wpList_buildc rfl _ _ rfl (mapAt 1) (by kernel_rfl) ?_
  refine wpList_buildc rfl _ _ rfl (mapAt 2) (by kernel_rfl) ?_
  refine wpList_buildc rfl _ _ rfl (mapAt 3) (by kernel_rfl) ?_
  refine wpList_buildc rfl _ _ rfl (mapAt 4) (by kernel_rfl) ?_
  refine wpList_buildc rfl _ _ rfl (mapAt 5) (by kernel_rfl) ?_
  refine wpList_buildc rfl _ _ rfl (mapAt 6) (by kernel_rfl) ?_
  refine wpList_buildc rfl _ _ rfl (mapAt 7) (by kernel_rfl) ?_
  refine wpList_buildc rfl _ _ rfl (mapAt 8) (by kernel_rfl) ?_
  refine wpList_buildc rfl _ _ rfl (mapAt 9) (by kernel_rfl) ?_
  refine wpList_buildc rfl _ _ rfl (mapAt 10) (by kernel_rfl) ?_
  refine wpList_buildc rfl _ _ rfl mapRow (by kernel_rfl) ?_
  refine wpList_store_row rfl 74 _ _ rfl w.heap.size mapRow (by kernel_rfl) (by kernel_rfl) 74 _ (heap_alloc_last w _) (by kernel_rfl) (by kernel_rfl) (by kernel_rfl) ?_
  rw [World.setRow_alloc_new]
  go_step
  go_step
  go_step
  go_step
  refine bodyPost_ret (results_cell_row rfl _ _ w.heap.size 74 mapRow (0, 0) _ (by kernel_rfl) (heap_alloc_last w _) Try.underlying74 rfl (by kernel_rfl)) rfl ?_
  exact ⟨rfl, (Below.refl _ _).alloc (Nat.le_refl _) _⟩
theorem store40 (W : World) (c : Array Value) (hc : c.size = 55) : (storeCells ⟨W.heap.size, 0, none⟩ mapRow.toList 0).run Try.prog (W.alloc (.cells c 74)) = .ok () (W.alloc (.cells mapRow 74)) :=
  run_storeCells_new W 74 c mapRow (by kernel_rfl) (hc.trans (by kernel_rfl)) (by kernel_rfl)
-- the search
theorem ret_int {k : IntKind} {a b : Int} (h : a = b) : Ending.returned (.int k a) = .returned (.int k b) := by rw [h]
set_option maxHeartbeats 8000000 in
theorem index_any (tag : ByteArray) (B C : Nat) (w : World) (hB : w.heap[B]? = some (.cells mapRow 74 (0, 0))) (hC : w.cell? ⟨C, 0, none⟩ = some (.string tag)) :
    Calls Try.prog 32 #[.slice (some ⟨B, 0, none⟩) 11 11, .func (.func 33) #[] #[.pointer (some ⟨C, 0, none⟩)]] w
      fun e w' => e = .returned (.int .i64 (Img.idx tag)) ∧ Below w.heap.size w w' := by
  have hBl : B < w.heap.size := (Array.getElem?_eq_some_iff.1 hB).1
  have hCl : C < w.heap.size := block_lt_of_cell hC
  have hi := Img.idx_in tag
  have HB := Lib.hid hB
  have HC := Lib.hid hC
  clear hB hC
  go_enter Try.func32, Try.ntmps32
  go_wp2_with fail
  go_loopw [8] (fun v wr => ∃ k : Nat, k ≤ 11 ∧ v = .int .i64 k ∧ (Img.idx tag = -1 ∨ (k : Int) ≤ Img.idx tag) ∧ Below w.heap.size w wr) (fun v _ => (11 - intOf v).toNat)
  case atStart => exact ⟨0, by omega, rfl, by omega, Below.refl _ _⟩
  case round =>
    obtain ⟨k, hk, rfl, hx, hb⟩ := hrel
    have hB : wr.heap[B]? = some (.cells mapRow 74 (0, 0)) := (hb.block B hBl).trans HB.out
    have hC : wr.cell? ⟨C, 0, none⟩ = some (.string tag) := (hb.cell (p := ⟨C, 0, none⟩) hCl).trans HC.out
    have Hcl := Lib.hid (fun j => cell_of_row wr B j mapRow 74 (0, 0) hB)
    clear hB
    have hz : w.heap.size ≤ wr.heap.size := hb.size
    have hCr : C < wr.heap.size := by omega
    obtain rfl | hk0 := Decidable.em (k = 0)
    · have c0 : wr.cell? ⟨B, 0, none⟩ = some (.string ⟨#[50, 75]⟩) := Hcl.out 0
      have c1 : wr.cell? ⟨B, 1, none⟩ = some (.int .i64 2048) := Hcl.out 1
      have c2 : wr.cell? ⟨B, 2, none⟩ = some (.int .i64 2048) := Hcl.out 2
      have c3 : wr.cell? ⟨B, 3, none⟩ = some (.bool false) := Hcl.out 3
      have c4 : wr.cell? ⟨B, 4, none⟩ = some (.bool false) := Hcl.out 4
      by_cases ht : Img.idx tag = 0
      · have t0 : ([50, 75] == tag.toList) = true := (Img.idx_iff tag 0 (by omega)).2 ht
        have Ht := Lib.hid ht
        clear ht
        go_wp2
        go_ret
        exact ⟨ret_int Ht.out.symm, hb.alloc hz _⟩
      · have t0 : ([50, 75] == tag.toList) = false := Img.idx_not tag 0 (by omega) ht
        have Ht := Lib.hid (show Img.idx tag = -1 ∨ ((1 : Nat) : Int) ≤ Img.idx tag by omega)
        clear ht
        go_wp2
        go_roundw
        case rel => exact ⟨1, by omega, rfl, Ht.out, hb.alloc hz _⟩
        case measure => simp [intOf]
    obtain rfl | hk1 := Decidable.em (k = 1)
    · have c0 : wr.cell? ⟨B, 5, none⟩ = some (.string ⟨#[51, 70]⟩) := Hcl.out 5
      have c1 : wr.cell? ⟨B, 6, none⟩ = some (.int .i64 2048) := Hcl.out 6
      have c2 : wr.cell? ⟨B, 7, none⟩ = some (.int .i64 2048) := Hcl.out 7
      have c3 : wr.cell? ⟨B, 8, none⟩ = some (.bool false) := Hcl.out 8
      have c4 : wr.cell? ⟨B, 9, none⟩ = some (.bool true) := Hcl.out 9
      by_cases ht : Img.idx tag = 1
      · have t0 : ([51, 70] == tag.toList) = true := (Img.idx_iff tag 1 (by omega)).2 ht
        have Ht := Lib.hid ht
        clear ht
        go_wp2
        go_ret
        exact ⟨ret_int Ht.out.symm, hb.alloc hz _⟩
      · have t0 : ([51, 70] == tag.toList) = false := Img.idx_not tag 1 (by omega) ht
        have Ht := Lib.hid (show Img.idx tag = -1 ∨ ((2 : Nat) : Int) ≤ Img.idx tag by omega)
        clear ht
        go_wp2
        go_roundw
        case rel => exact ⟨2, by omega, rfl, Ht.out, hb.alloc hz _⟩
        case measure => simp [intOf]
    obtain rfl | hk2 := Decidable.em (k = 2)
    · have c0 : wr.cell? ⟨B, 10, none⟩ = some (.string ⟨#[52, 75]⟩) := Hcl.out 10
      have c1 : wr.cell? ⟨B, 11, none⟩ = some (.int .i64 4096) := Hcl.out 11
      have c2 : wr.cell? ⟨B, 12, none⟩ = some (.int .i64 4096) := Hcl.out 12
      have c3 : wr.cell? ⟨B, 13, none⟩ = some (.bool false) := Hcl.out 13
      have c4 : wr.cell? ⟨B, 14, none⟩ = some (.bool false) := Hcl.out 14
      by_cases ht : Img.idx tag = 2
      · have t0 : ([52, 75] == tag.toList) = true := (Img.idx_iff tag 2 (by omega)).2 ht
        have Ht := Lib.hid ht
        clear ht
        go_wp2
        go_ret
        exact ⟨ret_int Ht.out.symm, hb.alloc hz _⟩
      · have t0 : ([52, 75] == tag.toList) = false := Img.idx_not tag 2 (by omega) ht
        have Ht := Lib.hid (show Img.idx tag = -1 ∨ ((3 : Nat) : Int) ≤ Img.idx tag by omega)
        clear ht
        go_wp2
        go_roundw
        case rel => exact ⟨3, by omega, rfl, Ht.out, hb.alloc hz _⟩
        case measure => simp [intOf]
    obtain rfl | hk3 := Decidable.em (k = 3)
    · have c0 : wr.cell? ⟨B, 15, none⟩ = some (.string ⟨#[69, 48]⟩) := Hcl.out 15
      have c1 : wr.cell? ⟨B, 16, none⟩ = some (.int .i64 8192) := Hcl.out 16
      have c2 : wr.cell? ⟨B, 17, none⟩ = some (.int .i64 1024) := Hcl.out 17
      have c3 : wr.cell? ⟨B, 18, none⟩ = some (.bool false) := Hcl.out 18
      have c4 : wr.cell? ⟨B, 19, none⟩ = some (.bool false) := Hcl.out 19
      by_cases ht : Img.idx tag = 3
      · have t0 : ([69, 48] == tag.toList) = true := (Img.idx_iff tag 3 (by omega)).2 ht
        have Ht := Lib.hid ht
        clear ht
        go_wp2
        go_ret
        exact ⟨ret_int Ht.out.symm, hb.alloc hz _⟩
      · have t0 : ([69, 48] == tag.toList) = false := Img.idx_not tag 3 (by omega) ht
        have Ht := Lib.hid (show Img.idx tag = -1 ∨ ((4 : Nat) : Int) ≤ Img.idx tag by omega)
        clear ht
        go_wp2
        go_roundw
        case rel => exact ⟨4, by omega, rfl, Ht.out, hb.alloc hz _⟩
        case measure => simp [intOf]
    obtain rfl | hk4 := Decidable.em (k = 4)
    · have c0 : wr.cell? ⟨B, 20, none⟩ = some (.string ⟨#[70, 52]⟩) := Hcl.out 20
      have c1 : wr.cell? ⟨B, 21, none⟩ = some (.int .i64 32768) := Hcl.out 21
      have c2 : wr.cell? ⟨B, 22, none⟩ = some (.int .i64 4096) := Hcl.out 22
      have c3 : wr.cell? ⟨B, 23, none⟩ = some (.bool false) := Hcl.out 23
      have c4 : wr.cell? ⟨B, 24, none⟩ = some (.bool false) := Hcl.out 24
      by_cases ht : Img.idx tag = 4
      · have t0 : ([70, 52] == tag.toList) = true := (Img.idx_iff tag 4 (by omega)).2 ht
        have Ht := Lib.hid ht
        clear ht
        go_wp2
        go_ret
        exact ⟨ret_int Ht.out.symm, hb.alloc hz _⟩
      · have t0 : ([70, 52] == tag.toList) = false := Img.idx_not tag 4 (by omega) ht
        have Ht := Lib.hid (show Img.idx tag = -1 ∨ ((5 : Nat) : Int) ≤ Img.idx tag by omega)
        clear ht
        go_wp2
        go_roundw
        case rel => exact ⟨5, by omega, rfl, Ht.out, hb.alloc hz _⟩
        case measure => simp [intOf]
    obtain rfl | hk5 := Decidable.em (k = 5)
    · have c0 : wr.cell? ⟨B, 25, none⟩ = some (.string ⟨#[70, 52, 83, 67]⟩) := Hcl.out 25
      have c1 : wr.cell? ⟨B, 26, none⟩ = some (.int .i64 32768) := Hcl.out 26
      have c2 : wr.cell? ⟨B, 27, none⟩ = some (.int .i64 4096) := Hcl.out 27
      have c3 : wr.cell? ⟨B, 28, none⟩ = some (.bool true) := Hcl.out 28
      have c4 : wr.cell? ⟨B, 29, none⟩ = some (.bool false) := Hcl.out 29
      by_cases ht : Img.idx tag = 5
      · have t0 : ([70, 52, 83, 67] == tag.toList) = true := (Img.idx_iff tag 5 (by omega)).2 ht
        have Ht := Lib.hid ht
        clear ht
        go_wp2
        go_ret
        exact ⟨ret_int Ht.out.symm, hb.alloc hz _⟩
      · have t0 : ([70, 52, 83, 67] == tag.toList) = false := Img.idx_not tag 5 (by omega) ht
        have Ht := Lib.hid (show Img.idx tag = -1 ∨ ((6 : Nat) : Int) ≤ Img.idx tag by omega)
        clear ht
        go_wp2
        go_roundw
        case rel => exact ⟨6, by omega, rfl, Ht.out, hb.alloc hz _⟩
        case measure => simp [intOf]
    obtain rfl | hk6 := Decidable.em (k = 6)
    · have c0 : wr.cell? ⟨B, 30, none⟩ = some (.string ⟨#[70, 54]⟩) := Hcl.out 30
      have c1 : wr.cell? ⟨B, 31, none⟩ = some (.int .i64 16384) := Hcl.out 31
      have c2 : wr.cell? ⟨B, 32, none⟩ = some (.int .i64 4096) := Hcl.out 32
      have c3 : wr.cell? ⟨B, 33, none⟩ = some (.bool false) := Hcl.out 33
      have c4 : wr.cell? ⟨B, 34, none⟩ = some (.bool false) := Hcl.out 34
      by_cases ht : Img.idx tag = 6
      · have t0 : ([70, 54] == tag.toList) = true := (Img.idx_iff tag 6 (by omega)).2 ht
        have Ht := Lib.hid ht
        clear ht
        go_wp2
        go_ret
        exact ⟨ret_int Ht.out.symm, hb.alloc hz _⟩
      · have t0 : ([70, 54] == tag.toList) = false := Img.idx_not tag 6 (by omega) ht
        have Ht := Lib.hid (show Img.idx tag = -1 ∨ ((7 : Nat) : Int) ≤ Img.idx tag by omega)
        clear ht
        go_wp2
        go_roundw
        case rel => exact ⟨7, by omega, rfl, Ht.out, hb.alloc hz _⟩
        case measure => simp [intOf]
    obtain rfl | hk7 := Decidable.em (k = 7)
    · have c0 : wr.cell? ⟨B, 35, none⟩ = some (.string ⟨#[70, 54, 83, 67]⟩) := Hcl.out 35
      have c1 : wr.cell? ⟨B, 36, none⟩ = some (.int .i64 16384) := Hcl.out 36
      have c2 : wr.cell? ⟨B, 37, none⟩ = some (.int .i64 4096) := Hcl.out 37
      have c3 : wr.cell? ⟨B, 38, none⟩ = some (.bool true) := Hcl.out 38
      have c4 : wr.cell? ⟨B, 39, none⟩ = some (.bool false) := Hcl.out 39
      by_cases ht : Img.idx tag = 7
      · have t0 : ([70, 54, 83, 67] == tag.toList) = true := (Img.idx_iff tag 7 (by omega)).2 ht
        have Ht := Lib.hid ht
        clear ht
        go_wp2
        go_ret
        exact ⟨ret_int Ht.out.symm, hb.alloc hz _⟩
      · have t0 : ([70, 54, 83, 67] == tag.toList) = false := Img.idx_not tag 7 (by omega) ht
        have Ht := Lib.hid (show Img.idx tag = -1 ∨ ((8 : Nat) : Int) ≤ Img.idx tag by omega)
        clear ht
        go_wp2
        go_roundw
        case rel => exact ⟨8, by omega, rfl, Ht.out, hb.alloc hz _⟩
        case measure => simp [intOf]
    obtain rfl | hk8 := Decidable.em (k = 8)
    · have c0 : wr.cell? ⟨B, 40, none⟩ = some (.string ⟨#[70, 56]⟩) := Hcl.out 40
      have c1 : wr.cell? ⟨B, 41, none⟩ = some (.int .i64 8192) := Hcl.out 41
      have c2 : wr.cell? ⟨B, 42, none⟩ = some (.int .i64 4096) := Hcl.out 42
      have c3 : wr.cell? ⟨B, 43, none⟩ = some (.bool false) := Hcl.out 43
      have c4 : wr.cell? ⟨B, 44, none⟩ = some (.bool false) := Hcl.out 44
      by_cases ht : Img.idx tag = 8
      · have t0 : ([70, 56] == tag.toList) = true := (Img.idx_iff tag 8 (by omega)).2 ht
        have Ht := Lib.hid ht
        clear ht
        go_wp2
        go_ret
        exact ⟨ret_int Ht.out.symm, hb.alloc hz _⟩
      · have t0 : ([70, 56] == tag.toList) = false := Img.idx_not tag 8 (by omega) ht
        have Ht := Lib.hid (show Img.idx tag = -1 ∨ ((9 : Nat) : Int) ≤ Img.idx tag by omega)
        clear ht
        go_wp2
        go_roundw
        case rel => exact ⟨9, by omega, rfl, Ht.out, hb.alloc hz _⟩
        case measure => simp [intOf]
    obtain rfl | hk9 := Decidable.em (k = 9)
    · have c0 : wr.cell? ⟨B, 45, none⟩ = some (.string ⟨#[70, 56, 83, 67]⟩) := Hcl.out 45
      have c1 : wr.cell? ⟨B, 46, none⟩ = some (.int .i64 8192) := Hcl.out 46
      have c2 : wr.cell? ⟨B, 47, none⟩ = some (.int .i64 4096) := Hcl.out 47
      have c3 : wr.cell? ⟨B, 48, none⟩ = some (.bool true) := Hcl.out 48
      have c4 : wr.cell? ⟨B, 49, none⟩ = some (.bool false) := Hcl.out 49
      by_cases ht : Img.idx tag = 9
      · have t0 : ([70, 56, 83, 67] == tag.toList) = true := (Img.idx_iff tag 9 (by omega)).2 ht
        have Ht := Lib.hid ht
        clear ht
        go_wp2
        go_ret
        exact ⟨ret_int Ht.out.symm, hb.alloc hz _⟩
      · have t0 : ([70, 56, 83, 67] == tag.toList) = false := Img.idx_not tag 9 (by omega) ht
        have Ht := Lib.hid (show Img.idx tag = -1 ∨ ((10 : Nat) : Int) ≤ Img.idx tag by omega)
        clear ht
        go_wp2
        go_roundw
        case rel => exact ⟨10, by omega, rfl, Ht.out, hb.alloc hz _⟩
        case measure => simp [intOf]
    obtain rfl | hk10 := Decidable.em (k = 10)
    · have c0 : wr.cell? ⟨B, 50, none⟩ = some (.string ⟨#[70, 69]⟩) := Hcl.out 50
      have c1 : wr.cell? ⟨B, 51, none⟩ = some (.int .i64 8192) := Hcl.out 51
      have c2 : wr.cell? ⟨B, 52, none⟩ = some (.int .i64 4096) := Hcl.out 52
      have c3 : wr.cell? ⟨B, 53, none⟩ = some (.bool false) := Hcl.out 53
      have c4 : wr.cell? ⟨B, 54, none⟩ = some (.bool false) := Hcl.out 54
      by_cases ht : Img.idx tag = 10
      · have t0 : ([70, 69] == tag.toList) = true := (Img.idx_iff tag 10 (by omega)).2 ht
        have Ht := Lib.hid ht
        clear ht
        go_wp2
        go_ret
        exact ⟨ret_int Ht.out.symm, hb.alloc hz _⟩
      · have t0 : ([70, 69] == tag.toList) = false := Img.idx_not tag 10 (by omega) ht
        have Ht := Lib.hid (show Img.idx tag = -1 ∨ ((11 : Nat) : Int) ≤ Img.idx tag by omega)
        clear ht
        go_wp2
        go_roundw
        case rel => exact ⟨11, by omega, rfl, Ht.out, hb.alloc hz _⟩
        case measure => simp [intOf]
    · obtain rfl : k = 11 := by omega
      have Ht := Lib.hid (show Img.idx tag = -1 by omega)
      go_wp2
      go_ret
      exact ⟨ret_int Ht.out.symm, hb⟩
end Go.Proofs.Ytfdmbgmhgbhggaa
