/- image.First: what the windows show first lies in a new block of its own. -/
import Derived.Test.YtfdmbgmhgbhggaaImgRest
namespace Go.Proofs.Ytfdmbgmhgbhggaa
open Go.RowKit
set_option linter.unusedVariables false
set_option linter.unusedSimpArgs false

def rowOf (b : Nat) (l : List Int) : Value := .slice (some ⟨b, 0, none⟩) l.length l.length
def cellsOf (l : List Int) : Array Value := (l.map (Value.int .i64)).toArray
set_option maxHeartbeats 2000000 in
theorem fown_0 (tag : ByteArray) (n : Int) (w : World) (hk : Img.idx tag = 0) (h0 : -9223372036854775808 ≤ n) (h1 : n ≤ 9223372036854775807) (hf : Img.fitsK 0 n = true) :
    Calls Try.prog 30 #[.string tag, .int .i64 n] w fun e w' => ∃ b, e = .returned (rowOf b (Img.firstK (Img.idx tag) n)) ∧ w.heap.size ≤ b ∧ w'.heap[b]? = some (.cells (cellsOf (Img.firstK (Img.idx tag) n)) 3 (0, 0)) ∧ Below w.heap.size w w' := by
  obtain rfl : n = 2048 := beq_iff_eq.1 hf
  have he : Img.errK (Img.idx tag) 2048 = 0 := by rw [hk]; rfl
  have hsh : Img.shape (Img.idx tag) 2048 = .agg #[.int .i64 1, .int .i64 2048, .int .i64 2, .bool false] := by rw [hk]; rfl
  have hl : Img.firstK (Img.idx tag) 2048 = [0, 0] := by rw [hk]; rfl
  have ht : tag.toList = [50, 75] := Img.toList_of tag 0 (by omega) hk
  have Hl := Lib.hid hl
  clear hl hk
  go_enter Try.func30, Try.ntmps30
  go_wp2_with fail
  refine (fit_any tag _ _ (by omega) (by omega)).mono ?_
  rintro e w1 ⟨rfl, hb1⟩
  have zb := hb1.size
  go_wp2_with fail
  try go_region
  try go_wp2
  go_ret
  try simp only [World.size_alloc] at zb
  refine ⟨w1.heap.size + 1, by rw [Hl.out]; rfl, by omega, by rw [Hl.out]; exact heap_alloc2_new w1 _ _, ?_⟩
  go_grown
set_option maxHeartbeats 2000000 in
theorem fown_1 (tag : ByteArray) (n : Int) (w : World) (hk : Img.idx tag = 1) (h0 : -9223372036854775808 ≤ n) (h1 : n ≤ 9223372036854775807) (hf : Img.fitsK 1 n = true) :
    Calls Try.prog 30 #[.string tag, .int .i64 n] w fun e w' => ∃ b, e = .returned (rowOf b (Img.firstK (Img.idx tag) n)) ∧ w.heap.size ≤ b ∧ w'.heap[b]? = some (.cells (cellsOf (Img.firstK (Img.idx tag) n)) 3 (0, 0)) ∧ Below w.heap.size w w' := by
  have hge : 0 < n ∧ n ≤ 524288 ∧ n % 2048 = 0 := by simpa using (show (decide (0 < n) && (decide (n ≤ 524288) && (n % 2048 == 0))) = true from hf)
  have he : Img.errK (Img.idx tag) n = 0 := by rw [hk]; simp [Img.errK, hf]
  have hsh : Img.shape (Img.idx tag) n = .agg #[.int .i64 (n / 2048), .int .i64 2048, .int .i64 2, .bool false] := by rw [hk]; simp [Img.shape, Img.banksK, Img.szK, Img.winsK, Img.exK, Img.okK, Img.sizeK, Img.extK, hf]
  have hl : Img.firstK (Img.idx tag) n = [0, n / 2048 - 1] := by rw [hk]; simp [Img.firstK, Img.okK, hf]
  have ht : tag.toList = [51, 70] := Img.toList_of tag 1 (by omega) hk
  have Hl := Lib.hid hl
  clear hl hk hf
  go_enter Try.func30, Try.ntmps30
  go_wp2_with fail
  refine (fit_any tag _ _ (by omega) (by omega)).mono ?_
  rintro e w1 ⟨rfl, hb1⟩
  have zb := hb1.size
  go_wp2_with fail
  try go_region
  try go_wp2
  go_ret
  try simp only [World.size_alloc] at zb
  refine ⟨w1.heap.size + 1, by rw [Hl.out]; rfl, by omega, by rw [Hl.out]; exact heap_alloc2_new w1 _ _, ?_⟩
  go_grown
set_option maxHeartbeats 2000000 in
theorem fown_2 (tag : ByteArray) (n : Int) (w : World) (hk : Img.idx tag = 2) (h0 : -9223372036854775808 ≤ n) (h1 : n ≤ 9223372036854775807) (hf : Img.fitsK 2 n = true) :
    Calls Try.prog 30 #[.string tag, .int .i64 n] w fun e w' => ∃ b, e = .returned (rowOf b (Img.firstK (Img.idx tag) n)) ∧ w.heap.size ≤ b ∧ w'.heap[b]? = some (.cells (cellsOf (Img.firstK (Img.idx tag) n)) 3 (0, 0)) ∧ Below w.heap.size w w' := by
  obtain rfl : n = 4096 := beq_iff_eq.1 hf
  have he : Img.errK (Img.idx tag) 4096 = 0 := by rw [hk]; rfl
  have hsh : Img.shape (Img.idx tag) 4096 = .agg #[.int .i64 1, .int .i64 4096, .int .i64 1, .bool false] := by rw [hk]; rfl
  have hl : Img.firstK (Img.idx tag) 4096 = [0] := by rw [hk]; rfl
  have ht : tag.toList = [52, 75] := Img.toList_of tag 2 (by omega) hk
  have Hl := Lib.hid hl
  clear hl hk
  go_enter Try.func30, Try.ntmps30
  go_wp2_with fail
  refine (fit_any tag _ _ (by omega) (by omega)).mono ?_
  rintro e w1 ⟨rfl, hb1⟩
  have zb := hb1.size
  go_wp2_with fail
  try go_region
  try go_wp2
  go_ret
  try simp only [World.size_alloc] at zb
  refine ⟨w1.heap.size + 1, by rw [Hl.out]; rfl, by omega, by rw [Hl.out]; exact heap_alloc2_new w1 _ _, ?_⟩
  go_grown
set_option maxHeartbeats 2000000 in
theorem fown_3 (tag : ByteArray) (n : Int) (w : World) (hk : Img.idx tag = 3) (h0 : -9223372036854775808 ≤ n) (h1 : n ≤ 9223372036854775807) (hf : Img.fitsK 3 n = true) :
    Calls Try.prog 30 #[.string tag, .int .i64 n] w fun e w' => ∃ b, e = .returned (rowOf b (Img.firstK (Img.idx tag) n)) ∧ w.heap.size ≤ b ∧ w'.heap[b]? = some (.cells (cellsOf (Img.firstK (Img.idx tag) n)) 3 (0, 0)) ∧ Below w.heap.size w w' := by
  obtain rfl : n = 8192 := beq_iff_eq.1 hf
  have he : Img.errK (Img.idx tag) 8192 = 0 := by rw [hk]; rfl
  have hsh : Img.shape (Img.idx tag) 8192 = .agg #[.int .i64 8, .int .i64 1024, .int .i64 4, .bool false] := by rw [hk]; rfl
  have hl : Img.firstK (Img.idx tag) 8192 = [4, 5, 6, 7] := by rw [hk]; rfl
  have ht : tag.toList = [69, 48] := Img.toList_of tag 3 (by omega) hk
  have Hl := Lib.hid hl
  clear hl hk
  go_enter Try.func30, Try.ntmps30
  go_wp2_with fail
  refine (fit_any tag _ _ (by omega) (by omega)).mono ?_
  rintro e w1 ⟨rfl, hb1⟩
  have zb := hb1.size
  go_wp2_with fail
  try go_region
  try go_wp2
  go_ret
  try simp only [World.size_alloc] at zb
  refine ⟨w1.heap.size + 1, by rw [Hl.out]; rfl, by omega, by rw [Hl.out]; exact heap_alloc2_new w1 _ _, ?_⟩
  go_grown
set_option maxHeartbeats 2000000 in
theorem fown_4 (tag : ByteArray) (n : Int) (w : World) (hk : Img.idx tag = 4) (h0 : -9223372036854775808 ≤ n) (h1 : n ≤ 9223372036854775807) (hf : Img.fitsK 4 n = true) :
    Calls Try.prog 30 #[.string tag, .int .i64 n] w fun e w' => ∃ b, e = .returned (rowOf b (Img.firstK (Img.idx tag) n)) ∧ w.heap.size ≤ b ∧ w'.heap[b]? = some (.cells (cellsOf (Img.firstK (Img.idx tag) n)) 3 (0, 0)) ∧ Below w.heap.size w w' := by
  obtain rfl : n = 32768 := beq_iff_eq.1 hf
  have he : Img.errK (Img.idx tag) 32768 = 0 := by rw [hk]; rfl
  have hsh : Img.shape (Img.idx tag) 32768 = .agg #[.int .i64 8, .int .i64 4096, .int .i64 1, .bool false] := by rw [hk]; rfl
  have hl : Img.firstK (Img.idx tag) 32768 = [7] := by rw [hk]; rfl
  have ht : tag.toList = [70, 52] := Img.toList_of tag 4 (by omega) hk
  have Hl := Lib.hid hl
  clear hl hk
  go_enter Try.func30, Try.ntmps30
  go_wp2_with fail
  refine (fit_any tag _ _ (by omega) (by omega)).mono ?_
  rintro e w1 ⟨rfl, hb1⟩
  have zb := hb1.size
  go_wp2_with fail
  try go_region
  try go_wp2
  go_ret
  try simp only [World.size_alloc] at zb
  refine ⟨w1.heap.size + 1, by rw [Hl.out]; rfl, by omega, by rw [Hl.out]; exact heap_alloc2_new w1 _ _, ?_⟩
  go_grown
set_option maxHeartbeats 2000000 in
theorem fown_5 (tag : ByteArray) (n : Int) (w : World) (hk : Img.idx tag = 5) (h0 : -9223372036854775808 ≤ n) (h1 : n ≤ 9223372036854775807) (hf : Img.fitsK 5 n = true) :
    Calls Try.prog 30 #[.string tag, .int .i64 n] w fun e w' => ∃ b, e = .returned (rowOf b (Img.firstK (Img.idx tag) n)) ∧ w.heap.size ≤ b ∧ w'.heap[b]? = some (.cells (cellsOf (Img.firstK (Img.idx tag) n)) 3 (0, 0)) ∧ Below w.heap.size w w' := by
  obtain rfl : n = 32768 := beq_iff_eq.1 hf
  have he : Img.errK (Img.idx tag) 32768 = 0 := by rw [hk]; rfl
  have hsh : Img.shape (Img.idx tag) 32768 = .agg #[.int .i64 8, .int .i64 4096, .int .i64 1, .bool true] := by rw [hk]; rfl
  have hl : Img.firstK (Img.idx tag) 32768 = [7] := by rw [hk]; rfl
  have ht : tag.toList = [70, 52, 83, 67] := Img.toList_of tag 5 (by omega) hk
  have Hl := Lib.hid hl
  clear hl hk
  go_enter Try.func30, Try.ntmps30
  go_wp2_with fail
  refine (fit_any tag _ _ (by omega) (by omega)).mono ?_
  rintro e w1 ⟨rfl, hb1⟩
  have zb := hb1.size
  go_wp2_with fail
  try go_region
  try go_wp2
  go_ret
  try simp only [World.size_alloc] at zb
  refine ⟨w1.heap.size + 1, by rw [Hl.out]; rfl, by omega, by rw [Hl.out]; exact heap_alloc2_new w1 _ _, ?_⟩
  go_grown
set_option maxHeartbeats 2000000 in
theorem fown_6 (tag : ByteArray) (n : Int) (w : World) (hk : Img.idx tag = 6) (h0 : -9223372036854775808 ≤ n) (h1 : n ≤ 9223372036854775807) (hf : Img.fitsK 6 n = true) :
    Calls Try.prog 30 #[.string tag, .int .i64 n] w fun e w' => ∃ b, e = .returned (rowOf b (Img.firstK (Img.idx tag) n)) ∧ w.heap.size ≤ b ∧ w'.heap[b]? = some (.cells (cellsOf (Img.firstK (Img.idx tag) n)) 3 (0, 0)) ∧ Below w.heap.size w w' := by
  obtain rfl : n = 16384 := beq_iff_eq.1 hf
  have he : Img.errK (Img.idx tag) 16384 = 0 := by rw [hk]; rfl
  have hsh : Img.shape (Img.idx tag) 16384 = .agg #[.int .i64 4, .int .i64 4096, .int .i64 1, .bool false] := by rw [hk]; rfl
  have hl : Img.firstK (Img.idx tag) 16384 = [3] := by rw [hk]; rfl
  have ht : tag.toList = [70, 54] := Img.toList_of tag 6 (by omega) hk
  have Hl := Lib.hid hl
  clear hl hk
  go_enter Try.func30, Try.ntmps30
  go_wp2_with fail
  refine (fit_any tag _ _ (by omega) (by omega)).mono ?_
  rintro e w1 ⟨rfl, hb1⟩
  have zb := hb1.size
  go_wp2_with fail
  try go_region
  try go_wp2
  go_ret
  try simp only [World.size_alloc] at zb
  refine ⟨w1.heap.size + 1, by rw [Hl.out]; rfl, by omega, by rw [Hl.out]; exact heap_alloc2_new w1 _ _, ?_⟩
  go_grown
set_option maxHeartbeats 2000000 in
theorem fown_7 (tag : ByteArray) (n : Int) (w : World) (hk : Img.idx tag = 7) (h0 : -9223372036854775808 ≤ n) (h1 : n ≤ 9223372036854775807) (hf : Img.fitsK 7 n = true) :
    Calls Try.prog 30 #[.string tag, .int .i64 n] w fun e w' => ∃ b, e = .returned (rowOf b (Img.firstK (Img.idx tag) n)) ∧ w.heap.size ≤ b ∧ w'.heap[b]? = some (.cells (cellsOf (Img.firstK (Img.idx tag) n)) 3 (0, 0)) ∧ Below w.heap.size w w' := by
  obtain rfl : n = 16384 := beq_iff_eq.1 hf
  have he : Img.errK (Img.idx tag) 16384 = 0 := by rw [hk]; rfl
  have hsh : Img.shape (Img.idx tag) 16384 = .agg #[.int .i64 4, .int .i64 4096, .int .i64 1, .bool true] := by rw [hk]; rfl
  have hl : Img.firstK (Img.idx tag) 16384 = [3] := by rw [hk]; rfl
  have ht : tag.toList = [70, 54, 83, 67] := Img.toList_of tag 7 (by omega) hk
  have Hl := Lib.hid hl
  clear hl hk
  go_enter Try.func30, Try.ntmps30
  go_wp2_with fail
  refine (fit_any tag _ _ (by omega) (by omega)).mono ?_
  rintro e w1 ⟨rfl, hb1⟩
  have zb := hb1.size
  go_wp2_with fail
  try go_region
  try go_wp2
  go_ret
  try simp only [World.size_alloc] at zb
  refine ⟨w1.heap.size + 1, by rw [Hl.out]; rfl, by omega, by rw [Hl.out]; exact heap_alloc2_new w1 _ _, ?_⟩
  go_grown
set_option maxHeartbeats 2000000 in
theorem fown_8 (tag : ByteArray) (n : Int) (w : World) (hk : Img.idx tag = 8) (h0 : -9223372036854775808 ≤ n) (h1 : n ≤ 9223372036854775807) (hf : Img.fitsK 8 n = true) :
    Calls Try.prog 30 #[.string tag, .int .i64 n] w fun e w' => ∃ b, e = .returned (rowOf b (Img.firstK (Img.idx tag) n)) ∧ w.heap.size ≤ b ∧ w'.heap[b]? = some (.cells (cellsOf (Img.firstK (Img.idx tag) n)) 3 (0, 0)) ∧ Below w.heap.size w w' := by
  obtain rfl : n = 8192 := beq_iff_eq.1 hf
  have he : Img.errK (Img.idx tag) 8192 = 0 := by rw [hk]; rfl
  have hsh : Img.shape (Img.idx tag) 8192 = .agg #[.int .i64 2, .int .i64 4096, .int .i64 1, .bool false] := by rw [hk]; rfl
  have hl : Img.firstK (Img.idx tag) 8192 = [1] := by rw [hk]; rfl
  have ht : tag.toList = [70, 56] := Img.toList_of tag 8 (by omega) hk
  have Hl := Lib.hid hl
  clear hl hk
  go_enter Try.func30, Try.ntmps30
  go_wp2_with fail
  refine (fit_any tag _ _ (by omega) (by omega)).mono ?_
  rintro e w1 ⟨rfl, hb1⟩
  have zb := hb1.size
  go_wp2_with fail
  try go_region
  try go_wp2
  go_ret
  try simp only [World.size_alloc] at zb
  refine ⟨w1.heap.size + 1, by rw [Hl.out]; rfl, by omega, by rw [Hl.out]; exact heap_alloc2_new w1 _ _, ?_⟩
  go_grown
set_option maxHeartbeats 2000000 in
theorem fown_9 (tag : ByteArray) (n : Int) (w : World) (hk : Img.idx tag = 9) (h0 : -9223372036854775808 ≤ n) (h1 : n ≤ 9223372036854775807) (hf : Img.fitsK 9 n = true) :
    Calls Try.prog 30 #[.string tag, .int .i64 n] w fun e w' => ∃ b, e = .returned (rowOf b (Img.firstK (Img.idx tag) n)) ∧ w.heap.size ≤ b ∧ w'.heap[b]? = some (.cells (cellsOf (Img.firstK (Img.idx tag) n)) 3 (0, 0)) ∧ Below w.heap.size w w' := by
  obtain rfl : n = 8192 := beq_iff_eq.1 hf
  have he : Img.errK (Img.idx tag) 8192 = 0 := by rw [hk]; rfl
  have hsh : Img.shape (Img.idx tag) 8192 = .agg #[.int .i64 2, .int .i64 4096, .int .i64 1, .bool true] := by rw [hk]; rfl
  have hl : Img.firstK (Img.idx tag) 8192 = [1] := by rw [hk]; rfl
  have ht : tag.toList = [70, 56, 83, 67] := Img.toList_of tag 9 (by omega) hk
  have Hl := Lib.hid hl
  clear hl hk
  go_enter Try.func30, Try.ntmps30
  go_wp2_with fail
  refine (fit_any tag _ _ (by omega) (by omega)).mono ?_
  rintro e w1 ⟨rfl, hb1⟩
  have zb := hb1.size
  go_wp2_with fail
  try go_region
  try go_wp2
  go_ret
  try simp only [World.size_alloc] at zb
  refine ⟨w1.heap.size + 1, by rw [Hl.out]; rfl, by omega, by rw [Hl.out]; exact heap_alloc2_new w1 _ _, ?_⟩
  go_grown
set_option maxHeartbeats 2000000 in
theorem fown_10 (tag : ByteArray) (n : Int) (w : World) (hk : Img.idx tag = 10) (h0 : -9223372036854775808 ≤ n) (h1 : n ≤ 9223372036854775807) (hf : Img.fitsK 10 n = true) :
    Calls Try.prog 30 #[.string tag, .int .i64 n] w fun e w' => ∃ b, e = .returned (rowOf b (Img.firstK (Img.idx tag) n)) ∧ w.heap.size ≤ b ∧ w'.heap[b]? = some (.cells (cellsOf (Img.firstK (Img.idx tag) n)) 3 (0, 0)) ∧ Below w.heap.size w w' := by
  obtain rfl : n = 8192 := beq_iff_eq.1 hf
  have he : Img.errK (Img.idx tag) 8192 = 0 := by rw [hk]; rfl
  have hsh : Img.shape (Img.idx tag) 8192 = .agg #[.int .i64 2, .int .i64 4096, .int .i64 1, .bool false] := by rw [hk]; rfl
  have hl : Img.firstK (Img.idx tag) 8192 = [0] := by rw [hk]; rfl
  have ht : tag.toList = [70, 69] := Img.toList_of tag 10 (by omega) hk
  have Hl := Lib.hid hl
  clear hl hk
  go_enter Try.func30, Try.ntmps30
  go_wp2_with fail
  refine (fit_any tag _ _ (by omega) (by omega)).mono ?_
  rintro e w1 ⟨rfl, hb1⟩
  have zb := hb1.size
  go_wp2_with fail
  try go_region
  try go_wp2
  go_ret
  try simp only [World.size_alloc] at zb
  refine ⟨w1.heap.size + 1, by rw [Hl.out]; rfl, by omega, by rw [Hl.out]; exact heap_alloc2_new w1 _ _, ?_⟩
  go_grown
theorem fown_any (tag : ByteArray) (n : Int) (w : World) (h0 : -9223372036854775808 ≤ n) (h1 : n ≤ 9223372036854775807) (hf : Img.okK (Img.idx tag) n = true) :
    Calls Try.prog 30 #[.string tag, .int .i64 n] w fun e w' => ∃ b, e = .returned (rowOf b (Img.firstK (Img.idx tag) n)) ∧ w.heap.size ≤ b ∧ w'.heap[b]? = some (.cells (cellsOf (Img.firstK (Img.idx tag) n)) 3 (0, 0)) ∧ Below w.heap.size w w' := by
  have hi := Img.idx_in tag
  have ha : 0 ≤ Img.idx tag ∧ Img.fitsK (Img.idx tag) n = true := by simpa [Img.okK] using hf
  by_cases h2 : Img.idx tag = 0
  · exact fown_0 tag n w h2 h0 h1 (by have := ha.2; rwa [h2] at this)
  by_cases h3 : Img.idx tag = 1
  · exact fown_1 tag n w h3 h0 h1 (by have := ha.2; rwa [h3] at this)
  by_cases h4 : Img.idx tag = 2
  · exact fown_2 tag n w h4 h0 h1 (by have := ha.2; rwa [h4] at this)
  by_cases h5 : Img.idx tag = 3
  · exact fown_3 tag n w h5 h0 h1 (by have := ha.2; rwa [h5] at this)
  by_cases h6 : Img.idx tag = 4
  · exact fown_4 tag n w h6 h0 h1 (by have := ha.2; rwa [h6] at this)
  by_cases h7 : Img.idx tag = 5
  · exact fown_5 tag n w h7 h0 h1 (by have := ha.2; rwa [h7] at this)
  by_cases h8 : Img.idx tag = 6
  · exact fown_6 tag n w h8 h0 h1 (by have := ha.2; rwa [h8] at this)
  by_cases h9 : Img.idx tag = 7
  · exact fown_7 tag n w h9 h0 h1 (by have := ha.2; rwa [h9] at this)
  by_cases h10 : Img.idx tag = 8
  · exact fown_8 tag n w h10 h0 h1 (by have := ha.2; rwa [h10] at this)
  by_cases h11 : Img.idx tag = 9
  · exact fown_9 tag n w h11 h0 h1 (by have := ha.2; rwa [h11] at this)
  by_cases h12 : Img.idx tag = 10
  · exact fown_10 tag n w h12 h0 h1 (by have := ha.2; rwa [h12] at this)
  exact absurd hi.2 (by omega)
end Go.Proofs.Ytfdmbgmhgbhggaa
