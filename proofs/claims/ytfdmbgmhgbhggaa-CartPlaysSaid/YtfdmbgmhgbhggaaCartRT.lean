/- The reference of package cart: Turned, mapper by mapper (printed by gen/cartrt.py). -/
import Derived.Test.YtfdmbgmhgbhggaaCartRef
import Derived.Test.YtfdmbgmhgbhggaaCartWatch
namespace Go.Proofs.Ytfdmbgmhgbhggaa.Ca
open Go.RowKit Go.Deep Go.Proofs.Ytfdmbgmhgbhggaa Go.Proofs.Ytfdmbgmhgbhggaa.Cl
set_option linter.unusedVariables false
set_option linter.unusedSimpArgs false
def turnP (c : Ct) (a x : Int) (wr : Bool) : Int × Int := match turnF c a x wr with | none => (-1, 0) | some (i, v) => ((i : Int), v)
theorem ret2 {a b p q : Int} (h1 : a = p) (h2 : b = q) : Ending.returned (.tuple #[.int .i64 a, .int .i64 b]) = .returned (.tuple #[.int .i64 p, .int .i64 q]) := by rw [h1, h2]
set_option maxRecDepth 1000000 in
set_option maxHeartbeats 1000000 in
theorem rt_8_a (W : World) (c : Ct) (imv shv : Value) (hF : Fine c) (a x M : Int) (wr : Bool) (a0 : 0 ≤ a) (a1 : a ≤ 65535) (x0 : 0 ≤ x) (x1 : x ≤ 255) (hM : a % 8192 = M) (hk : c.k = 8) (h : M < 8184) :
    Calls Try.prog 43 #[.agg (c.rl imv shv).toArray, .int .i64 a, .int .i64 x, .bool wr] W fun e W' => e = .returned (.tuple #[.int .i64 (turnP c a x wr).1, .int .i64 (turnP c a x wr).2]) ∧ Below W.heap.size W W' := by
  have ht : c.tag.toList = [70, 56] := Img.toList_of c.tag 8 (by omega) hk
  have hb1 : Below W.heap.size W (W.alloc (.cells (c.rl imv shv).toArray 52)) := (Below.refl _ _).alloc (Nat.le_refl _) _
  have f0 : (W.alloc (.cells (c.rl imv shv).toArray 52)).cell? ⟨W.heap.size, 0, none⟩ = some (.string c.tag) := World.cell?_alloc_at _ _ _ _ rfl
  have m0 : 0 ≤ M := by omega
  have m1 : M ≤ 8191 := by omega
  have hp : turnP c a x wr = (-1, 0) := by
    have : turnF c a x wr = none := by unfold turnF; simp [hk, hM]; try omega
    simp [turnP, this]
  rw [hp]
  have n4 : (M == 8184) = false := beq_false_of_ne (by omega)
  have n5 : (M == 8185) = false := beq_false_of_ne (by omega)
  clear hp hk
  generalize c.rl imv shv = rl at *
  go_enter Try.func43, Try.ntmps43
  go_wp2_with fail
  go_ret2
  exact ⟨ret2 (by omega) (by omega), hb1⟩
set_option maxRecDepth 1000000 in
set_option maxHeartbeats 1000000 in
theorem rt_8_b (W : World) (c : Ct) (imv shv : Value) (hF : Fine c) (a x M : Int) (wr : Bool) (a0 : 0 ≤ a) (a1 : a ≤ 65535) (x0 : 0 ≤ x) (x1 : x ≤ 255) (hM : a % 8192 = M) (hk : c.k = 8) (h : M = 8184) :
    Calls Try.prog 43 #[.agg (c.rl imv shv).toArray, .int .i64 a, .int .i64 x, .bool wr] W fun e W' => e = .returned (.tuple #[.int .i64 (turnP c a x wr).1, .int .i64 (turnP c a x wr).2]) ∧ Below W.heap.size W W' := by
  have ht : c.tag.toList = [70, 56] := Img.toList_of c.tag 8 (by omega) hk
  have hb1 : Below W.heap.size W (W.alloc (.cells (c.rl imv shv).toArray 52)) := (Below.refl _ _).alloc (Nat.le_refl _) _
  have f0 : (W.alloc (.cells (c.rl imv shv).toArray 52)).cell? ⟨W.heap.size, 0, none⟩ = some (.string c.tag) := World.cell?_alloc_at _ _ _ _ rfl
  have m0 : 0 ≤ M := by omega
  have m1 : M ≤ 8191 := by omega
  have hp : turnP c a x wr = (0, 0) := by
    subst h
    have : turnF c a x wr = some (0, 0) := by unfold turnF; simp [hk, hM]
    simp [turnP, this]
  rw [hp]
  subst h
  clear hp hk
  generalize c.rl imv shv = rl at *
  go_enter Try.func43, Try.ntmps43
  go_wp2_with fail
  go_ret2
  exact ⟨ret2 (by omega) (by omega), hb1⟩
set_option maxRecDepth 1000000 in
set_option maxHeartbeats 1000000 in
theorem rt_8_c (W : World) (c : Ct) (imv shv : Value) (hF : Fine c) (a x M : Int) (wr : Bool) (a0 : 0 ≤ a) (a1 : a ≤ 65535) (x0 : 0 ≤ x) (x1 : x ≤ 255) (hM : a % 8192 = M) (hk : c.k = 8) (h : M = 8185) :
    Calls Try.prog 43 #[.agg (c.rl imv shv).toArray, .int .i64 a, .int .i64 x, .bool wr] W fun e W' => e = .returned (.tuple #[.int .i64 (turnP c a x wr).1, .int .i64 (turnP c a x wr).2]) ∧ Below W.heap.size W W' := by
  have ht : c.tag.toList = [70, 56] := Img.toList_of c.tag 8 (by omega) hk
  have hb1 : Below W.heap.size W (W.alloc (.cells (c.rl imv shv).toArray 52)) := (Below.refl _ _).alloc (Nat.le_refl _) _
  have f0 : (W.alloc (.cells (c.rl imv shv).toArray 52)).cell? ⟨W.heap.size, 0, none⟩ = some (.string c.tag) := World.cell?_alloc_at _ _ _ _ rfl
  have m0 : 0 ≤ M := by omega
  have m1 : M ≤ 8191 := by omega
  have hp : turnP c a x wr = (0, 1) := by
    subst h
    have : turnF c a x wr = some (0, 1) := by unfold turnF; simp [hk, hM]
    simp [turnP, this]
  rw [hp]
  subst h
  clear hp hk
  generalize c.rl imv shv = rl at *
  go_enter Try.func43, Try.ntmps43
  go_wp2_with fail
  go_ret2
  exact ⟨ret2 (by omega) (by omega), hb1⟩
set_option maxRecDepth 1000000 in
set_option maxHeartbeats 1000000 in
theorem rt_8_d (W : World) (c : Ct) (imv shv : Value) (hF : Fine c) (a x M : Int) (wr : Bool) (a0 : 0 ≤ a) (a1 : a ≤ 65535) (x0 : 0 ≤ x) (x1 : x ≤ 255) (hM : a % 8192 = M) (hk : c.k = 8) (h : 8185 < M) :
    Calls Try.prog 43 #[.agg (c.rl imv shv).toArray, .int .i64 a, .int .i64 x, .bool wr] W fun e W' => e = .returned (.tuple #[.int .i64 (turnP c a x wr).1, .int .i64 (turnP c a x wr).2]) ∧ Below W.heap.size W W' := by
  have ht : c.tag.toList = [70, 56] := Img.toList_of c.tag 8 (by omega) hk
  have hb1 : Below W.heap.size W (W.alloc (.cells (c.rl imv shv).toArray 52)) := (Below.refl _ _).alloc (Nat.le_refl _) _
  have f0 : (W.alloc (.cells (c.rl imv shv).toArray 52)).cell? ⟨W.heap.size, 0, none⟩ = some (.string c.tag) := World.cell?_alloc_at _ _ _ _ rfl
  have m0 : 0 ≤ M := by omega
  have m1 : M ≤ 8191 := by omega
  have hp : turnP c a x wr = (-1, 0) := by
    have : turnF c a x wr = none := by unfold turnF; simp [hk, hM]; try omega
    simp [turnP, this]
  rw [hp]
  have n4 : (M == 8184) = false := beq_false_of_ne (by omega)
  have n5 : (M == 8185) = false := beq_false_of_ne (by omega)
  clear hp hk
  generalize c.rl imv shv = rl at *
  go_enter Try.func43, Try.ntmps43
  go_wp2_with fail
  go_ret2
  exact ⟨ret2 (by omega) (by omega), hb1⟩
set_option maxRecDepth 1000000 in
set_option maxHeartbeats 1000000 in
theorem rt_9_a (W : World) (c : Ct) (imv shv : Value) (hF : Fine c) (a x M : Int) (wr : Bool) (a0 : 0 ≤ a) (a1 : a ≤ 65535) (x0 : 0 ≤ x) (x1 : x ≤ 255) (hM : a % 8192 = M) (hk : c.k = 9) (h : M < 8184) :
    Calls Try.prog 43 #[.agg (c.rl imv shv).toArray, .int .i64 a, .int .i64 x, .bool wr] W fun e W' => e = .returned (.tuple #[.int .i64 (turnP c a x wr).1, .int .i64 (turnP c a x wr).2]) ∧ Below W.heap.size W W' := by
  have ht : c.tag.toList = [70, 56, 83, 67] := Img.toList_of c.tag 9 (by omega) hk
  have hb1 : Below W.heap.size W (W.alloc (.cells (c.rl imv shv).toArray 52)) := (Below.refl _ _).alloc (Nat.le_refl _) _
  have f0 : (W.alloc (.cells (c.rl imv shv).toArray 52)).cell? ⟨W.heap.size, 0, none⟩ = some (.string c.tag) := World.cell?_alloc_at _ _ _ _ rfl
  have m0 : 0 ≤ M := by omega
  have m1 : M ≤ 8191 := by omega
  have hp : turnP c a x wr = (-1, 0) := by
    have : turnF c a x wr = none := by unfold turnF; simp [hk, hM]; try omega
    simp [turnP, this]
  rw [hp]
  have n4 : (M == 8184) = false := beq_false_of_ne (by omega)
  have n5 : (M == 8185) = false := beq_false_of_ne (by omega)
  clear hp hk
  generalize c.rl imv shv = rl at *
  go_enter Try.func43, Try.ntmps43
  go_wp2_with fail
  go_ret2
  exact ⟨ret2 (by omega) (by omega), hb1⟩
set_option maxRecDepth 1000000 in
set_option maxHeartbeats 1000000 in
theorem rt_9_b (W : World) (c : Ct) (imv shv : Value) (hF : Fine c) (a x M : Int) (wr : Bool) (a0 : 0 ≤ a) (a1 : a ≤ 65535) (x0 : 0 ≤ x) (x1 : x ≤ 255) (hM : a % 8192 = M) (hk : c.k = 9) (h : M = 8184) :
    Calls Try.prog 43 #[.agg (c.rl imv shv).toArray, .int .i64 a, .int .i64 x, .bool wr] W fun e W' => e = .returned (.tuple #[.int .i64 (turnP c a x wr).1, .int .i64 (turnP c a x wr).2]) ∧ Below W.heap.size W W' := by
  have ht : c.tag.toList = [70, 56, 83, 67] := Img.toList_of c.tag 9 (by omega) hk
  have hb1 : Below W.heap.size W (W.alloc (.cells (c.rl imv shv).toArray 52)) := (Below.refl _ _).alloc (Nat.le_refl _) _
  have f0 : (W.alloc (.cells (c.rl imv shv).toArray 52)).cell? ⟨W.heap.size, 0, none⟩ = some (.string c.tag) := World.cell?_alloc_at _ _ _ _ rfl
  have m0 : 0 ≤ M := by omega
  have m1 : M ≤ 8191 := by omega
  have hp : turnP c a x wr = (0, 0) := by
    subst h
    have : turnF c a x wr = some (0, 0) := by unfold turnF; simp [hk, hM]
    simp [turnP, this]
  rw [hp]
  subst h
  clear hp hk
  generalize c.rl imv shv = rl at *
  go_enter Try.func43, Try.ntmps43
  go_wp2_with fail
  go_ret2
  exact ⟨ret2 (by omega) (by omega), hb1⟩
set_option maxRecDepth 1000000 in
set_option maxHeartbeats 1000000 in
theorem rt_9_c (W : World) (c : Ct) (imv shv : Value) (hF : Fine c) (a x M : Int) (wr : Bool) (a0 : 0 ≤ a) (a1 : a ≤ 65535) (x0 : 0 ≤ x) (x1 : x ≤ 255) (hM : a % 8192 = M) (hk : c.k = 9) (h : M = 8185) :
    Calls Try.prog 43 #[.agg (c.rl imv shv).toArray, .int .i64 a, .int .i64 x, .bool wr] W fun e W' => e = .returned (.tuple #[.int .i64 (turnP c a x wr).1, .int .i64 (turnP c a x wr).2]) ∧ Below W.heap.size W W' := by
  have ht : c.tag.toList = [70, 56, 83, 67] := Img.toList_of c.tag 9 (by omega) hk
  have hb1 : Below W.heap.size W (W.alloc (.cells (c.rl imv shv).toArray 52)) := (Below.refl _ _).alloc (Nat.le_refl _) _
  have f0 : (W.alloc (.cells (c.rl imv shv).toArray 52)).cell? ⟨W.heap.size, 0, none⟩ = some (.string c.tag) := World.cell?_alloc_at _ _ _ _ rfl
  have m0 : 0 ≤ M := by omega
  have m1 : M ≤ 8191 := by omega
  have hp : turnP c a x wr = (0, 1) := by
    subst h
    have : turnF c a x wr = some (0, 1) := by unfold turnF; simp [hk, hM]
    simp [turnP, this]
  rw [hp]
  subst h
  clear hp hk
  generalize c.rl imv shv = rl at *
  go_enter Try.func43, Try.ntmps43
  go_wp2_with fail
  go_ret2
  exact ⟨ret2 (by omega) (by omega), hb1⟩
set_option maxRecDepth 1000000 in
set_option maxHeartbeats 1000000 in
theorem rt_9_d (W : World) (c : Ct) (imv shv : Value) (hF : Fine c) (a x M : Int) (wr : Bool) (a0 : 0 ≤ a) (a1 : a ≤ 65535) (x0 : 0 ≤ x) (x1 : x ≤ 255) (hM : a % 8192 = M) (hk : c.k = 9) (h : 8185 < M) :
    Calls Try.prog 43 #[.agg (c.rl imv shv).toArray, .int .i64 a, .int .i64 x, .bool wr] W fun e W' => e = .returned (.tuple #[.int .i64 (turnP c a x wr).1, .int .i64 (turnP c a x wr).2]) ∧ Below W.heap.size W W' := by
  have ht : c.tag.toList = [70, 56, 83, 67] := Img.toList_of c.tag 9 (by omega) hk
  have hb1 : Below W.heap.size W (W.alloc (.cells (c.rl imv shv).toArray 52)) := (Below.refl _ _).alloc (Nat.le_refl _) _
  have f0 : (W.alloc (.cells (c.rl imv shv).toArray 52)).cell? ⟨W.heap.size, 0, none⟩ = some (.string c.tag) := World.cell?_alloc_at _ _ _ _ rfl
  have m0 : 0 ≤ M := by omega
  have m1 : M ≤ 8191 := by omega
  have hp : turnP c a x wr = (-1, 0) := by
    have : turnF c a x wr = none := by unfold turnF; simp [hk, hM]; try omega
    simp [turnP, this]
  rw [hp]
  have n4 : (M == 8184) = false := beq_false_of_ne (by omega)
  have n5 : (M == 8185) = false := beq_false_of_ne (by omega)
  clear hp hk
  generalize c.rl imv shv = rl at *
  go_enter Try.func43, Try.ntmps43
  go_wp2_with fail
  go_ret2
  exact ⟨ret2 (by omega) (by omega), hb1⟩
set_option maxRecDepth 1000000 in
set_option maxHeartbeats 1000000 in
theorem rt_6_a (W : World) (c : Ct) (imv shv : Value) (hF : Fine c) (a x M : Int) (wr : Bool) (a0 : 0 ≤ a) (a1 : a ≤ 65535) (x0 : 0 ≤ x) (x1 : x ≤ 255) (hM : a % 8192 = M) (hk : c.k = 6) (h : M < 8182) :
    Calls Try.prog 43 #[.agg (c.rl imv shv).toArray, .int .i64 a, .int .i64 x, .bool wr] W fun e W' => e = .returned (.tuple #[.int .i64 (turnP c a x wr).1, .int .i64 (turnP c a x wr).2]) ∧ Below W.heap.size W W' := by
  have ht : c.tag.toList = [70, 54] := Img.toList_of c.tag 6 (by omega) hk
  have hb1 : Below W.heap.size W (W.alloc (.cells (c.rl imv shv).toArray 52)) := (Below.refl _ _).alloc (Nat.le_refl _) _
  have f0 : (W.alloc (.cells (c.rl imv shv).toArray 52)).cell? ⟨W.heap.size, 0, none⟩ = some (.string c.tag) := World.cell?_alloc_at _ _ _ _ rfl
  have m0 : 0 ≤ M := by omega
  have m1 : M ≤ 8191 := by omega
  have hp : turnP c a x wr = (-1, 0) := by
    have : turnF c a x wr = none := by unfold turnF; simp [hk, hM]; try omega
    simp [turnP, this]
  rw [hp]
  have n1 : ¬ 8182 ≤ M := by omega
  clear hp hk
  generalize c.rl imv shv = rl at *
  go_enter Try.func43, Try.ntmps43
  go_wp2_with fail
  go_ret2
  exact ⟨ret2 (by omega) (by omega), hb1⟩
set_option maxRecDepth 1000000 in
set_option maxHeartbeats 1000000 in
theorem rt_6_b (W : World) (c : Ct) (imv shv : Value) (hF : Fine c) (a x M : Int) (wr : Bool) (a0 : 0 ≤ a) (a1 : a ≤ 65535) (x0 : 0 ≤ x) (x1 : x ≤ 255) (hM : a % 8192 = M) (hk : c.k = 6) (h1 : 8182 ≤ M) (h2 : M ≤ 8185) :
    Calls Try.prog 43 #[.agg (c.rl imv shv).toArray, .int .i64 a, .int .i64 x, .bool wr] W fun e W' => e = .returned (.tuple #[.int .i64 (turnP c a x wr).1, .int .i64 (turnP c a x wr).2]) ∧ Below W.heap.size W W' := by
  have ht : c.tag.toList = [70, 54] := Img.toList_of c.tag 6 (by omega) hk
  have hb1 : Below W.heap.size W (W.alloc (.cells (c.rl imv shv).toArray 52)) := (Below.refl _ _).alloc (Nat.le_refl _) _
  have f0 : (W.alloc (.cells (c.rl imv shv).toArray 52)).cell? ⟨W.heap.size, 0, none⟩ = some (.string c.tag) := World.cell?_alloc_at _ _ _ _ rfl
  have m0 : 0 ≤ M := by omega
  have m1 : M ≤ 8191 := by omega
  have hp : turnP c a x wr = (0, M - 8182) := by
    have : turnF c a x wr = some (0, M - 8182) := by unfold turnF; simp [hk, hM, h1, h2]
    simp [turnP, this]
  rw [hp]
  clear hp hk
  generalize c.rl imv shv = rl at *
  go_enter Try.func43, Try.ntmps43
  go_wp2_with fail
  go_ret2
  exact ⟨ret2 (by omega) (by omega), hb1⟩
set_option maxRecDepth 1000000 in
set_option maxHeartbeats 1000000 in
theorem rt_6_c (W : World) (c : Ct) (imv shv : Value) (hF : Fine c) (a x M : Int) (wr : Bool) (a0 : 0 ≤ a) (a1 : a ≤ 65535) (x0 : 0 ≤ x) (x1 : x ≤ 255) (hM : a % 8192 = M) (hk : c.k = 6) (h : 8185 < M) :
    Calls Try.prog 43 #[.agg (c.rl imv shv).toArray, .int .i64 a, .int .i64 x, .bool wr] W fun e W' => e = .returned (.tuple #[.int .i64 (turnP c a x wr).1, .int .i64 (turnP c a x wr).2]) ∧ Below W.heap.size W W' := by
  have ht : c.tag.toList = [70, 54] := Img.toList_of c.tag 6 (by omega) hk
  have hb1 : Below W.heap.size W (W.alloc (.cells (c.rl imv shv).toArray 52)) := (Below.refl _ _).alloc (Nat.le_refl _) _
  have f0 : (W.alloc (.cells (c.rl imv shv).toArray 52)).cell? ⟨W.heap.size, 0, none⟩ = some (.string c.tag) := World.cell?_alloc_at _ _ _ _ rfl
  have m0 : 0 ≤ M := by omega
  have m1 : M ≤ 8191 := by omega
  have hp : turnP c a x wr = (-1, 0) := by
    have : turnF c a x wr = none := by unfold turnF; simp [hk, hM]; try omega
    simp [turnP, this]
  rw [hp]
  have n1 : 8182 ≤ M := by omega
  have n2 : ¬ M ≤ 8185 := by omega
  clear hp hk
  generalize c.rl imv shv = rl at *
  go_enter Try.func43, Try.ntmps43
  go_wp2_with fail
  go_ret2
  exact ⟨ret2 (by omega) (by omega), hb1⟩
set_option maxRecDepth 1000000 in
set_option maxHeartbeats 1000000 in
theorem rt_7_a (W : World) (c : Ct) (imv shv : Value) (hF : Fine c) (a x M : Int) (wr : Bool) (a0 : 0 ≤ a) (a1 : a ≤ 65535) (x0 : 0 ≤ x) (x1 : x ≤ 255) (hM : a % 8192 = M) (hk : c.k = 7) (h : M < 8182) :
    Calls Try.prog 43 #[.agg (c.rl imv shv).toArray, .int .i64 a, .int .i64 x, .bool wr] W fun e W' => e = .returned (.tuple #[.int .i64 (turnP c a x wr).1, .int .i64 (turnP c a x wr).2]) ∧ Below W.heap.size W W' := by
  have ht : c.tag.toList = [70, 54, 83, 67] := Img.toList_of c.tag 7 (by omega) hk
  have hb1 : Below W.heap.size W (W.alloc (.cells (c.rl imv shv).toArray 52)) := (Below.refl _ _).alloc (Nat.le_refl _) _
  have f0 : (W.alloc (.cells (c.rl imv shv).toArray 52)).cell? ⟨W.heap.size, 0, none⟩ = some (.string c.tag) := World.cell?_alloc_at _ _ _ _ rfl
  have m0 : 0 ≤ M := by omega
  have m1 : M ≤ 8191 := by omega
  have hp : turnP c a x wr = (-1, 0) := by
    have : turnF c a x wr = none := by unfold turnF; simp [hk, hM]; try omega
    simp [turnP, this]
  rw [hp]
  have n1 : ¬ 8182 ≤ M := by omega
  clear hp hk
  generalize c.rl imv shv = rl at *
  go_enter Try.func43, Try.ntmps43
  go_wp2_with fail
  go_ret2
  exact ⟨ret2 (by omega) (by omega), hb1⟩
set_option maxRecDepth 1000000 in
set_option maxHeartbeats 1000000 in
theorem rt_7_b (W : World) (c : Ct) (imv shv : Value) (hF : Fine c) (a x M : Int) (wr : Bool) (a0 : 0 ≤ a) (a1 : a ≤ 65535) (x0 : 0 ≤ x) (x1 : x ≤ 255) (hM : a % 8192 = M) (hk : c.k = 7) (h1 : 8182 ≤ M) (h2 : M ≤ 8185) :
    Calls Try.prog 43 #[.agg (c.rl imv shv).toArray, .int .i64 a, .int .i64 x, .bool wr] W fun e W' => e = .returned (.tuple #[.int .i64 (turnP c a x wr).1, .int .i64 (turnP c a x wr).2]) ∧ Below W.heap.size W W' := by
  have ht : c.tag.toList = [70, 54, 83, 67] := Img.toList_of c.tag 7 (by omega) hk
  have hb1 : Below W.heap.size W (W.alloc (.cells (c.rl imv shv).toArray 52)) := (Below.refl _ _).alloc (Nat.le_refl _) _
  have f0 : (W.alloc (.cells (c.rl imv shv).toArray 52)).cell? ⟨W.heap.size, 0, none⟩ = some (.string c.tag) := World.cell?_alloc_at _ _ _ _ rfl
  have m0 : 0 ≤ M := by omega
  have m1 : M ≤ 8191 := by omega
  have hp : turnP c a x wr = (0, M - 8182) := by
    have : turnF c a x wr = some (0, M - 8182) := by unfold turnF; simp [hk, hM, h1, h2]
    simp [turnP, this]
  rw [hp]
  clear hp hk
  generalize c.rl imv shv = rl at *
  go_enter Try.func43, Try.ntmps43
  go_wp2_with fail
  go_ret2
  exact ⟨ret2 (by omega) (by omega), hb1⟩
set_option maxRecDepth 1000000 in
set_option maxHeartbeats 1000000 in
theorem rt_7_c (W : World) (c : Ct) (imv shv : Value) (hF : Fine c) (a x M : Int) (wr : Bool) (a0 : 0 ≤ a) (a1 : a ≤ 65535) (x0 : 0 ≤ x) (x1 : x ≤ 255) (hM : a % 8192 = M) (hk : c.k = 7) (h : 8185 < M) :
    Calls Try.prog 43 #[.agg (c.rl imv shv).toArray, .int .i64 a, .int .i64 x, .bool wr] W fun e W' => e = .returned (.tuple #[.int .i64 (turnP c a x wr).1, .int .i64 (turnP c a x wr).2]) ∧ Below W.heap.size W W' := by
  have ht : c.tag.toList = [70, 54, 83, 67] := Img.toList_of c.tag 7 (by omega) hk
  have hb1 : Below W.heap.size W (W.alloc (.cells (c.rl imv shv).toArray 52)) := (Below.refl _ _).alloc (Nat.le_refl _) _
  have f0 : (W.alloc (.cells (c.rl imv shv).toArray 52)).cell? ⟨W.heap.size, 0, none⟩ = some (.string c.tag) := World.cell?_alloc_at _ _ _ _ rfl
  have m0 : 0 ≤ M := by omega
  have m1 : M ≤ 8191 := by omega
  have hp : turnP c a x wr = (-1, 0) := by
    have : turnF c a x wr = none := by unfold turnF; simp [hk, hM]; try omega
    simp [turnP, this]
  rw [hp]
  have n1 : 8182 ≤ M := by omega
  have n2 : ¬ M ≤ 8185 := by omega
  clear hp hk
  generalize c.rl imv shv = rl at *
  go_enter Try.func43, Try.ntmps43
  go_wp2_with fail
  go_ret2
  exact ⟨ret2 (by omega) (by omega), hb1⟩
set_option maxRecDepth 1000000 in
set_option maxHeartbeats 1000000 in
theorem rt_4_a (W : World) (c : Ct) (imv shv : Value) (hF : Fine c) (a x M : Int) (wr : Bool) (a0 : 0 ≤ a) (a1 : a ≤ 65535) (x0 : 0 ≤ x) (x1 : x ≤ 255) (hM : a % 8192 = M) (hk : c.k = 4) (h : M < 8180) :
    Calls Try.prog 43 #[.agg (c.rl imv shv).toArray, .int .i64 a, .int .i64 x, .bool wr] W fun e W' => e = .returned (.tuple #[.int .i64 (turnP c a x wr).1, .int .i64 (turnP c a x wr).2]) ∧ Below W.heap.size W W' := by
  have ht : c.tag.toList = [70, 52] := Img.toList_of c.tag 4 (by omega) hk
  have hb1 : Below W.heap.size W (W.alloc (.cells (c.rl imv shv).toArray 52)) := (Below.refl _ _).alloc (Nat.le_refl _) _
  have f0 : (W.alloc (.cells (c.rl imv shv).toArray 52)).cell? ⟨W.heap.size, 0, none⟩ = some (.string c.tag) := World.cell?_alloc_at _ _ _ _ rfl
  have m0 : 0 ≤ M := by omega
  have m1 : M ≤ 8191 := by omega
  have hp : turnP c a x wr = (-1, 0) := by
    have : turnF c a x wr = none := by unfold turnF; simp [hk, hM]; try omega
    simp [turnP, this]
  rw [hp]
  have n1 : ¬ 8180 ≤ M := by omega
  clear hp hk
  generalize c.rl imv shv = rl at *
  go_enter Try.func43, Try.ntmps43
  go_wp2_with fail
  go_ret2
  exact ⟨ret2 (by omega) (by omega), hb1⟩
set_option maxRecDepth 1000000 in
set_option maxHeartbeats 1000000 in
theorem rt_4_b (W : World) (c : Ct) (imv shv : Value) (hF : Fine c) (a x M : Int) (wr : Bool) (a0 : 0 ≤ a) (a1 : a ≤ 65535) (x0 : 0 ≤ x) (x1 : x ≤ 255) (hM : a % 8192 = M) (hk : c.k = 4) (h1 : 8180 ≤ M) (h2 : M ≤ 8187) :
    Calls Try.prog 43 #[.agg (c.rl imv shv).toArray, .int .i64 a, .int .i64 x, .bool wr] W fun e W' => e = .returned (.tuple #[.int .i64 (turnP c a x wr).1, .int .i64 (turnP c a x wr).2]) ∧ Below W.heap.size W W' := by
  have ht : c.tag.toList = [70, 52] := Img.toList_of c.tag 4 (by omega) hk
  have hb1 : Below W.heap.size W (W.alloc (.cells (c.rl imv shv).toArray 52)) := (Below.refl _ _).alloc (Nat.le_refl _) _
  have f0 : (W.alloc (.cells (c.rl imv shv).toArray 52)).cell? ⟨W.heap.size, 0, none⟩ = some (.string c.tag) := World.cell?_alloc_at _ _ _ _ rfl
  have m0 : 0 ≤ M := by omega
  have m1 : M ≤ 8191 := by omega
  have hp : turnP c a x wr = (0, M - 8180) := by
    have : turnF c a x wr = some (0, M - 8180) := by unfold turnF; simp [hk, hM, h1, h2]
    simp [turnP, this]
  rw [hp]
  clear hp hk
  generalize c.rl imv shv = rl at *
  go_enter Try.func43, Try.ntmps43
  go_wp2_with fail
  go_ret2
  exact ⟨ret2 (by omega) (by omega), hb1⟩
set_option maxRecDepth 1000000 in
set_option maxHeartbeats 1000000 in
theorem rt_4_c (W : World) (c : Ct) (imv shv : Value) (hF : Fine c) (a x M : Int) (wr : Bool) (a0 : 0 ≤ a) (a1 : a ≤ 65535) (x0 : 0 ≤ x) (x1 : x ≤ 255) (hM : a % 8192 = M) (hk : c.k = 4) (h : 8187 < M) :
    Calls Try.prog 43 #[.agg (c.rl imv shv).toArray, .int .i64 a, .int .i64 x, .bool wr] W fun e W' => e = .returned (.tuple #[.int .i64 (turnP c a x wr).1, .int .i64 (turnP c a x wr).2]) ∧ Below W.heap.size W W' := by
  have ht : c.tag.toList = [70, 52] := Img.toList_of c.tag 4 (by omega) hk
  have hb1 : Below W.heap.size W (W.alloc (.cells (c.rl imv shv).toArray 52)) := (Below.refl _ _).alloc (Nat.le_refl _) _
  have f0 : (W.alloc (.cells (c.rl imv shv).toArray 52)).cell? ⟨W.heap.size, 0, none⟩ = some (.string c.tag) := World.cell?_alloc_at _ _ _ _ rfl
  have m0 : 0 ≤ M := by omega
  have m1 : M ≤ 8191 := by omega
  have hp : turnP c a x wr = (-1, 0) := by
    have : turnF c a x wr = none := by unfold turnF; simp [hk, hM]; try omega
    simp [turnP, this]
  rw [hp]
  have n1 : 8180 ≤ M := by omega
  have n2 : ¬ M ≤ 8187 := by omega
  clear hp hk
  generalize c.rl imv shv = rl at *
  go_enter Try.func43, Try.ntmps43
  go_wp2_with fail
  go_ret2
  exact ⟨ret2 (by omega) (by omega), hb1⟩
set_option maxRecDepth 1000000 in
set_option maxHeartbeats 1000000 in
theorem rt_5_a (W : World) (c : Ct) (imv shv : Value) (hF : Fine c) (a x M : Int) (wr : Bool) (a0 : 0 ≤ a) (a1 : a ≤ 65535) (x0 : 0 ≤ x) (x1 : x ≤ 255) (hM : a % 8192 = M) (hk : c.k = 5) (h : M < 8180) :
    Calls Try.prog 43 #[.agg (c.rl imv shv).toArray, .int .i64 a, .int .i64 x, .bool wr] W fun e W' => e = .returned (.tuple #[.int .i64 (turnP c a x wr).1, .int .i64 (turnP c a x wr).2]) ∧ Below W.heap.size W W' := by
  have ht : c.tag.toList = [70, 52, 83, 67] := Img.toList_of c.tag 5 (by omega) hk
  have hb1 : Below W.heap.size W (W.alloc (.cells (c.rl imv shv).toArray 52)) := (Below.refl _ _).alloc (Nat.le_refl _) _
  have f0 : (W.alloc (.cells (c.rl imv shv).toArray 52)).cell? ⟨W.heap.size, 0, none⟩ = some (.string c.tag) := World.cell?_alloc_at _ _ _ _ rfl
  have m0 : 0 ≤ M := by omega
  have m1 : M ≤ 8191 := by omega
  have hp : turnP c a x wr = (-1, 0) := by
    have : turnF c a x wr = none := by unfold turnF; simp [hk, hM]; try omega
    simp [turnP, this]
  rw [hp]
  have n1 : ¬ 8180 ≤ M := by omega
  clear hp hk
  generalize c.rl imv shv = rl at *
  go_enter Try.func43, Try.ntmps43
  go_wp2_with fail
  go_ret2
  exact ⟨ret2 (by omega) (by omega), hb1⟩
set_option maxRecDepth 1000000 in
set_option maxHeartbeats 1000000 in
theorem rt_5_b (W : World) (c : Ct) (imv shv : Value) (hF : Fine c) (a x M : Int) (wr : Bool) (a0 : 0 ≤ a) (a1 : a ≤ 65535) (x0 : 0 ≤ x) (x1 : x ≤ 255) (hM : a % 8192 = M) (hk : c.k = 5) (h1 : 8180 ≤ M) (h2 : M ≤ 8187) :
    Calls Try.prog 43 #[.agg (c.rl imv shv).toArray, .int .i64 a, .int .i64 x, .bool wr] W fun e W' => e = .returned (.tuple #[.int .i64 (turnP c a x wr).1, .int .i64 (turnP c a x wr).2]) ∧ Below W.heap.size W W' := by
  have ht : c.tag.toList = [70, 52, 83, 67] := Img.toList_of c.tag 5 (by omega) hk
  have hb1 : Below W.heap.size W (W.alloc (.cells (c.rl imv shv).toArray 52)) := (Below.refl _ _).alloc (Nat.le_refl _) _
  have f0 : (W.alloc (.cells (c.rl imv shv).toArray 52)).cell? ⟨W.heap.size, 0, none⟩ = some (.string c.tag) := World.cell?_alloc_at _ _ _ _ rfl
  have m0 : 0 ≤ M := by omega
  have m1 : M ≤ 8191 := by omega
  have hp : turnP c a x wr = (0, M - 8180) := by
    have : turnF c a x wr = some (0, M - 8180) := by unfold turnF; simp [hk, hM, h1, h2]
    simp [turnP, this]
  rw [hp]
  clear hp hk
  generalize c.rl imv shv = rl at *
  go_enter Try.func43, Try.ntmps43
  go_wp2_with fail
  go_ret2
  exact ⟨ret2 (by omega) (by omega), hb1⟩
set_option maxRecDepth 1000000 in
set_option maxHeartbeats 1000000 in
theorem rt_5_c (W : World) (c : Ct) (imv shv : Value) (hF : Fine c) (a x M : Int) (wr : Bool) (a0 : 0 ≤ a) (a1 : a ≤ 65535) (x0 : 0 ≤ x) (x1 : x ≤ 255) (hM : a % 8192 = M) (hk : c.k = 5) (h : 8187 < M) :
    Calls Try.prog 43 #[.agg (c.rl imv shv).toArray, .int .i64 a, .int .i64 x, .bool wr] W fun e W' => e = .returned (.tuple #[.int .i64 (turnP c a x wr).1, .int .i64 (turnP c a x wr).2]) ∧ Below W.heap.size W W' := by
  have ht : c.tag.toList = [70, 52, 83, 67] := Img.toList_of c.tag 5 (by omega) hk
  have hb1 : Below W.heap.size W (W.alloc (.cells (c.rl imv shv).toArray 52)) := (Below.refl _ _).alloc (Nat.le_refl _) _
  have f0 : (W.alloc (.cells (c.rl imv shv).toArray 52)).cell? ⟨W.heap.size, 0, none⟩ = some (.string c.tag) := World.cell?_alloc_at _ _ _ _ rfl
  have m0 : 0 ≤ M := by omega
  have m1 : M ≤ 8191 := by omega
  have hp : turnP c a x wr = (-1, 0) := by
    have : turnF c a x wr = none := by unfold turnF; simp [hk, hM]; try omega
    simp [turnP, this]
  rw [hp]
  have n1 : 8180 ≤ M := by omega
  have n2 : ¬ M ≤ 8187 := by omega
  clear hp hk
  generalize c.rl imv shv = rl at *
  go_enter Try.func43, Try.ntmps43
  go_wp2_with fail
  go_ret2
  exact ⟨ret2 (by omega) (by omega), hb1⟩
set_option maxRecDepth 1000000 in
set_option maxHeartbeats 1000000 in
theorem rt_3_a (W : World) (c : Ct) (imv shv : Value) (hF : Fine c) (a x M : Int) (wr : Bool) (a0 : 0 ≤ a) (a1 : a ≤ 65535) (x0 : 0 ≤ x) (x1 : x ≤ 255) (hM : a % 8192 = M) (hk : c.k = 3) (h : M < 8160) :
    Calls Try.prog 43 #[.agg (c.rl imv shv).toArray, .int .i64 a, .int .i64 x, .bool wr] W fun e W' => e = .returned (.tuple #[.int .i64 (turnP c a x wr).1, .int .i64 (turnP c a x wr).2]) ∧ Below W.heap.size W W' := by
  have ht : c.tag.toList = [69, 48] := Img.toList_of c.tag 3 (by omega) hk
  have hb1 : Below W.heap.size W (W.alloc (.cells (c.rl imv shv).toArray 52)) := (Below.refl _ _).alloc (Nat.le_refl _) _
  have f0 : (W.alloc (.cells (c.rl imv shv).toArray 52)).cell? ⟨W.heap.size, 0, none⟩ = some (.string c.tag) := World.cell?_alloc_at _ _ _ _ rfl
  have m0 : 0 ≤ M := by omega
  have m1 : M ≤ 8191 := by omega
  have hp : turnP c a x wr = (-1, 0) := by
    have : turnF c a x wr = none := by unfold turnF; simp [hk, hM]; try omega
    simp [turnP, this]
  rw [hp]
  have n1 : ¬ 8160 ≤ M := by omega
  have n2 : ¬ 8168 ≤ M := by omega
  have n3 : ¬ 8176 ≤ M := by omega
  clear hp hk
  generalize c.rl imv shv = rl at *
  go_enter Try.func43, Try.ntmps43
  go_wp2_with fail
  go_ret2
  exact ⟨ret2 (by omega) (by omega), hb1⟩
set_option maxRecDepth 1000000 in
set_option maxHeartbeats 1000000 in
theorem rt_3_b (W : World) (c : Ct) (imv shv : Value) (hF : Fine c) (a x M : Int) (wr : Bool) (a0 : 0 ≤ a) (a1 : a ≤ 65535) (x0 : 0 ≤ x) (x1 : x ≤ 255) (hM : a % 8192 = M) (hk : c.k = 3) (h1 : 8160 ≤ M) (h2 : M ≤ 8167) :
    Calls Try.prog 43 #[.agg (c.rl imv shv).toArray, .int .i64 a, .int .i64 x, .bool wr] W fun e W' => e = .returned (.tuple #[.int .i64 (turnP c a x wr).1, .int .i64 (turnP c a x wr).2]) ∧ Below W.heap.size W W' := by
  have ht : c.tag.toList = [69, 48] := Img.toList_of c.tag 3 (by omega) hk
  have hb1 : Below W.heap.size W (W.alloc (.cells (c.rl imv shv).toArray 52)) := (Below.refl _ _).alloc (Nat.le_refl _) _
  have f0 : (W.alloc (.cells (c.rl imv shv).toArray 52)).cell? ⟨W.heap.size, 0, none⟩ = some (.string c.tag) := World.cell?_alloc_at _ _ _ _ rfl
  have m0 : 0 ≤ M := by omega
  have m1 : M ≤ 8191 := by omega
  have hp : turnP c a x wr = (0, M - 8160) := by
    have : turnF c a x wr = some (((M - 8160) / 8).toNat, (M - 8160) % 8) := by unfold turnF; simp [hk, hM]; try omega
    rw [turnP, this]
    have h3 : ((((M - 8160) / 8).toNat : Nat) : Int) = 0 := by omega
    have h4 : (M - 8160) % 8 = M - 8160 := by omega
    simp only [h3, h4]
  rw [hp]
  clear hp hk
  generalize c.rl imv shv = rl at *
  go_enter Try.func43, Try.ntmps43
  go_wp2_with fail
  go_ret2
  exact ⟨ret2 (by omega) (by omega), hb1⟩
set_option maxRecDepth 1000000 in
set_option maxHeartbeats 1000000 in
theorem rt_3_c (W : World) (c : Ct) (imv shv : Value) (hF : Fine c) (a x M : Int) (wr : Bool) (a0 : 0 ≤ a) (a1 : a ≤ 65535) (x0 : 0 ≤ x) (x1 : x ≤ 255) (hM : a % 8192 = M) (hk : c.k = 3) (h1 : 8168 ≤ M) (h2 : M ≤ 8175) :
    Calls Try.prog 43 #[.agg (c.rl imv shv).toArray, .int .i64 a, .int .i64 x, .bool wr] W fun e W' => e = .returned (.tuple #[.int .i64 (turnP c a x wr).1, .int .i64 (turnP c a x wr).2]) ∧ Below W.heap.size W W' := by
  have ht : c.tag.toList = [69, 48] := Img.toList_of c.tag 3 (by omega) hk
  have hb1 : Below W.heap.size W (W.alloc (.cells (c.rl imv shv).toArray 52)) := (Below.refl _ _).alloc (Nat.le_refl _) _
  have f0 : (W.alloc (.cells (c.rl imv shv).toArray 52)).cell? ⟨W.heap.size, 0, none⟩ = some (.string c.tag) := World.cell?_alloc_at _ _ _ _ rfl
  have m0 : 0 ≤ M := by omega
  have m1 : M ≤ 8191 := by omega
  have hp : turnP c a x wr = (1, M - 8168) := by
    have : turnF c a x wr = some (((M - 8160) / 8).toNat, (M - 8160) % 8) := by unfold turnF; simp [hk, hM]; try omega
    rw [turnP, this]
    have h3 : ((((M - 8160) / 8).toNat : Nat) : Int) = 1 := by omega
    have h4 : (M - 8160) % 8 = M - 8168 := by omega
    simp only [h3, h4]
  rw [hp]
  have n0 : 8160 ≤ M := by omega
  have p0 : ¬ M ≤ 8167 := by omega
  clear hp hk
  generalize c.rl imv shv = rl at *
  go_enter Try.func43, Try.ntmps43
  go_wp2_with fail
  go_ret2
  exact ⟨ret2 (by omega) (by omega), hb1⟩
set_option maxRecDepth 1000000 in
set_option maxHeartbeats 1000000 in
theorem rt_3_d (W : World) (c : Ct) (imv shv : Value) (hF : Fine c) (a x M : Int) (wr : Bool) (a0 : 0 ≤ a) (a1 : a ≤ 65535) (x0 : 0 ≤ x) (x1 : x ≤ 255) (hM : a % 8192 = M) (hk : c.k = 3) (h1 : 8176 ≤ M) (h2 : M ≤ 8183) :
    Calls Try.prog 43 #[.agg (c.rl imv shv).toArray, .int .i64 a, .int .i64 x, .bool wr] W fun e W' => e = .returned (.tuple #[.int .i64 (turnP c a x wr).1, .int .i64 (turnP c a x wr).2]) ∧ Below W.heap.size W W' := by
  have ht : c.tag.toList = [69, 48] := Img.toList_of c.tag 3 (by omega) hk
  have hb1 : Below W.heap.size W (W.alloc (.cells (c.rl imv shv).toArray 52)) := (Below.refl _ _).alloc (Nat.le_refl _) _
  have f0 : (W.alloc (.cells (c.rl imv shv).toArray 52)).cell? ⟨W.heap.size, 0, none⟩ = some (.string c.tag) := World.cell?_alloc_at _ _ _ _ rfl
  have m0 : 0 ≤ M := by omega
  have m1 : M ≤ 8191 := by omega
  have hp : turnP c a x wr = (2, M - 8176) := by
    have : turnF c a x wr = some (((M - 8160) / 8).toNat, (M - 8160) % 8) := by unfold turnF; simp [hk, hM]; try omega
    rw [turnP, this]
    have h3 : ((((M - 8160) / 8).toNat : Nat) : Int) = 2 := by omega
    have h4 : (M - 8160) % 8 = M - 8176 := by omega
    simp only [h3, h4]
  rw [hp]
  have n0 : 8160 ≤ M := by omega
  have p0 : ¬ M ≤ 8167 := by omega
  have n1 : 8168 ≤ M := by omega
  have p1 : ¬ M ≤ 8175 := by omega
  clear hp hk
  generalize c.rl imv shv = rl at *
  go_enter Try.func43, Try.ntmps43
  go_wp2_with fail
  go_ret2
  exact ⟨ret2 (by omega) (by omega), hb1⟩
set_option maxRecDepth 1000000 in
set_option maxHeartbeats 1000000 in
theorem rt_3_e (W : World) (c : Ct) (imv shv : Value) (hF : Fine c) (a x M : Int) (wr : Bool) (a0 : 0 ≤ a) (a1 : a ≤ 65535) (x0 : 0 ≤ x) (x1 : x ≤ 255) (hM : a % 8192 = M) (hk : c.k = 3) (h : 8183 < M) :
    Calls Try.prog 43 #[.agg (c.rl imv shv).toArray, .int .i64 a, .int .i64 x, .bool wr] W fun e W' => e = .returned (.tuple #[.int .i64 (turnP c a x wr).1, .int .i64 (turnP c a x wr).2]) ∧ Below W.heap.size W W' := by
  have ht : c.tag.toList = [69, 48] := Img.toList_of c.tag 3 (by omega) hk
  have hb1 : Below W.heap.size W (W.alloc (.cells (c.rl imv shv).toArray 52)) := (Below.refl _ _).alloc (Nat.le_refl _) _
  have f0 : (W.alloc (.cells (c.rl imv shv).toArray 52)).cell? ⟨W.heap.size, 0, none⟩ = some (.string c.tag) := World.cell?_alloc_at _ _ _ _ rfl
  have m0 : 0 ≤ M := by omega
  have m1 : M ≤ 8191 := by omega
  have hp : turnP c a x wr = (-1, 0) := by
    have : turnF c a x wr = none := by unfold turnF; simp [hk, hM]; try omega
    simp [turnP, this]
  rw [hp]
  have n0 : 8160 ≤ M := by omega
  have p0 : ¬ M ≤ 8167 := by omega
  have n1 : 8168 ≤ M := by omega
  have p1 : ¬ M ≤ 8175 := by omega
  have n2 : 8176 ≤ M := by omega
  have p2 : ¬ M ≤ 8183 := by omega
  clear hp hk
  generalize c.rl imv shv = rl at *
  go_enter Try.func43, Try.ntmps43
  go_wp2_with fail
  go_ret2
  exact ⟨ret2 (by omega) (by omega), hb1⟩
set_option maxRecDepth 1000000 in
set_option maxHeartbeats 1000000 in
theorem rt_1_a (W : World) (c : Ct) (imv shv : Value) (hF : Fine c) (a x M : Int) (wr : Bool) (a0 : 0 ≤ a) (a1 : a ≤ 65535) (x0 : 0 ≤ x) (x1 : x ≤ 255) (hM : a % 8192 = M) (hk : c.k = 1) (h : M ≤ 63) (hw : wr = true) :
    Calls Try.prog 43 #[.agg (c.rl imv shv).toArray, .int .i64 a, .int .i64 x, .bool wr] W fun e W' => e = .returned (.tuple #[.int .i64 (turnP c a x wr).1, .int .i64 (turnP c a x wr).2]) ∧ Below W.heap.size W W' := by
  have ht : c.tag.toList = [51, 70] := Img.toList_of c.tag 1 (by omega) hk
  have hb1 : Below W.heap.size W (W.alloc (.cells (c.rl imv shv).toArray 52)) := (Below.refl _ _).alloc (Nat.le_refl _) _
  have f0 : (W.alloc (.cells (c.rl imv shv).toArray 52)).cell? ⟨W.heap.size, 0, none⟩ = some (.string c.tag) := World.cell?_alloc_at _ _ _ _ rfl
  have m0 : 0 ≤ M := by omega
  have m1 : M ≤ 8191 := by omega
  have hp : turnP c a x wr = (0, x % c.banks) := by
    subst hw
    have : turnF c a x true = some (0, x % c.banks) := by unfold turnF; simp [hk, hM, h]
    simp [turnP, this]
  rw [hp]
  subst hw
  have hbk := (fine_nums c hF).2.2.2.1
  have f2 : (W.alloc (.cells (c.rl imv shv).toArray 52)).cell? ⟨W.heap.size, 2, none⟩ = some (.int .i64 c.banks) := World.cell?_alloc_at _ _ _ _ rfl
  have r0 := Int.emod_nonneg x (show c.banks ≠ 0 by omega)
  have r1 := Int.emod_lt_of_pos x (show 0 < c.banks by omega)
  have r2 : x % c.banks ≤ x := by have h1 := Int.mul_ediv_add_emod x c.banks; have h2 := Int.mul_nonneg (show 0 ≤ c.banks by omega) (Int.ediv_nonneg x0 (show 0 ≤ c.banks by omega)); omega
  have t2 : Int.tmod x c.banks = x % c.banks := Int.tmod_eq_emod_of_nonneg x0
  generalize c.banks = K at *
  have hz : ¬ K = 0 := by omega
  generalize x % K = R at *
  have hw4 : IntKind.i64.wrap R = R := IntWalk.i64_in _ (by omega)
  clear hp hk
  generalize c.rl imv shv = rl at *
  go_enter Try.func43, Try.ntmps43
  go_wp2_with fail
  go_region
  go_wp2
  go_ret2
  exact ⟨ret2 (by omega) (by omega), hb1.drew⟩
set_option maxRecDepth 1000000 in
set_option maxHeartbeats 1000000 in
theorem rt_1_b (W : World) (c : Ct) (imv shv : Value) (hF : Fine c) (a x M : Int) (wr : Bool) (a0 : 0 ≤ a) (a1 : a ≤ 65535) (x0 : 0 ≤ x) (x1 : x ≤ 255) (hM : a % 8192 = M) (hk : c.k = 1) (h : 63 < M) (hw : wr = true) :
    Calls Try.prog 43 #[.agg (c.rl imv shv).toArray, .int .i64 a, .int .i64 x, .bool wr] W fun e W' => e = .returned (.tuple #[.int .i64 (turnP c a x wr).1, .int .i64 (turnP c a x wr).2]) ∧ Below W.heap.size W W' := by
  have ht : c.tag.toList = [51, 70] := Img.toList_of c.tag 1 (by omega) hk
  have hb1 : Below W.heap.size W (W.alloc (.cells (c.rl imv shv).toArray 52)) := (Below.refl _ _).alloc (Nat.le_refl _) _
  have f0 : (W.alloc (.cells (c.rl imv shv).toArray 52)).cell? ⟨W.heap.size, 0, none⟩ = some (.string c.tag) := World.cell?_alloc_at _ _ _ _ rfl
  have m0 : 0 ≤ M := by omega
  have m1 : M ≤ 8191 := by omega
  have hp : turnP c a x wr = (-1, 0) := by
    have : turnF c a x wr = none := by unfold turnF; simp [hk, hM, hw]; try omega
    simp [turnP, this]
  rw [hp]
  subst hw
  have n1 : ¬ M ≤ 63 := by omega
  clear hp hk
  generalize c.rl imv shv = rl at *
  go_enter Try.func43, Try.ntmps43
  go_wp2_with fail
  go_ret2
  exact ⟨ret2 (by omega) (by omega), hb1⟩
set_option maxRecDepth 1000000 in
set_option maxHeartbeats 1000000 in
theorem rt_1_c (W : World) (c : Ct) (imv shv : Value) (hF : Fine c) (a x M : Int) (wr : Bool) (a0 : 0 ≤ a) (a1 : a ≤ 65535) (x0 : 0 ≤ x) (x1 : x ≤ 255) (hM : a % 8192 = M) (hk : c.k = 1) (hw : wr = false) :
    Calls Try.prog 43 #[.agg (c.rl imv shv).toArray, .int .i64 a, .int .i64 x, .bool wr] W fun e W' => e = .returned (.tuple #[.int .i64 (turnP c a x wr).1, .int .i64 (turnP c a x wr).2]) ∧ Below W.heap.size W W' := by
  have ht : c.tag.toList = [51, 70] := Img.toList_of c.tag 1 (by omega) hk
  have hb1 : Below W.heap.size W (W.alloc (.cells (c.rl imv shv).toArray 52)) := (Below.refl _ _).alloc (Nat.le_refl _) _
  have f0 : (W.alloc (.cells (c.rl imv shv).toArray 52)).cell? ⟨W.heap.size, 0, none⟩ = some (.string c.tag) := World.cell?_alloc_at _ _ _ _ rfl
  have m0 : 0 ≤ M := by omega
  have m1 : M ≤ 8191 := by omega
  have hp : turnP c a x wr = (-1, 0) := by
    have : turnF c a x wr = none := by unfold turnF; simp [hk, hM, hw]
    simp [turnP, this]
  rw [hp]
  subst hw
  clear hp hk
  generalize c.rl imv shv = rl at *
  go_enter Try.func43, Try.ntmps43
  go_wp2_with fail
  go_ret2
  exact ⟨ret2 (by omega) (by omega), hb1⟩
set_option maxRecDepth 1000000 in
set_option maxHeartbeats 1000000 in
theorem rt_10_a (W : World) (c : Ct) (imv shv : Value) (hF : Fine c) (a x M : Int) (wr : Bool) (a0 : 0 ≤ a) (a1 : a ≤ 65535) (x0 : 0 ≤ x) (x1 : x ≤ 255) (hM : a % 8192 = M) (hk : c.k = 10) (ha : c.armed = true) :
    Calls Try.prog 43 #[.agg (c.rl imv shv).toArray, .int .i64 a, .int .i64 x, .bool wr] W fun e W' => e = .returned (.tuple #[.int .i64 (turnP c a x wr).1, .int .i64 (turnP c a x wr).2]) ∧ Below W.heap.size W W' := by
  have ht : c.tag.toList = [70, 69] := Img.toList_of c.tag 10 (by omega) hk
  have hb1 : Below W.heap.size W (W.alloc (.cells (c.rl imv shv).toArray 52)) := (Below.refl _ _).alloc (Nat.le_refl _) _
  have f0 : (W.alloc (.cells (c.rl imv shv).toArray 52)).cell? ⟨W.heap.size, 0, none⟩ = some (.string c.tag) := World.cell?_alloc_at _ _ _ _ rfl
  have m0 : 0 ≤ M := by omega
  have m1 : M ≤ 8191 := by omega
  have hp : turnP c a x wr = (0, 1 - x / 32 % 2) := by
    have : turnF c a x wr = some (0, 1 - x / 32 % 2) := by unfold turnF; simp [hk, ha]
    simp [turnP, this]
  rw [hp]
  have f135 : (W.alloc (.cells (c.rl imv shv).toArray 52)).cell? ⟨W.heap.size, 135, none⟩ = some (.bool c.armed) := (World.cell?_alloc_at _ _ _ _ rfl).trans (by rw [List.getElem?_toArray]; exact rl_armed c imv shv hF.ex)
  rw [ha] at f135
  clear hp hk
  generalize c.rl imv shv = rl at *
  go_enter Try.func43, Try.ntmps43
  go_wp2_with fail
  go_ret2
  exact ⟨ret2 (by omega) (by omega), hb1⟩
set_option maxRecDepth 1000000 in
set_option maxHeartbeats 1000000 in
theorem rt_10_b (W : World) (c : Ct) (imv shv : Value) (hF : Fine c) (a x M : Int) (wr : Bool) (a0 : 0 ≤ a) (a1 : a ≤ 65535) (x0 : 0 ≤ x) (x1 : x ≤ 255) (hM : a % 8192 = M) (hk : c.k = 10) (ha : c.armed = false) :
    Calls Try.prog 43 #[.agg (c.rl imv shv).toArray, .int .i64 a, .int .i64 x, .bool wr] W fun e W' => e = .returned (.tuple #[.int .i64 (turnP c a x wr).1, .int .i64 (turnP c a x wr).2]) ∧ Below W.heap.size W W' := by
  have ht : c.tag.toList = [70, 69] := Img.toList_of c.tag 10 (by omega) hk
  have hb1 : Below W.heap.size W (W.alloc (.cells (c.rl imv shv).toArray 52)) := (Below.refl _ _).alloc (Nat.le_refl _) _
  have f0 : (W.alloc (.cells (c.rl imv shv).toArray 52)).cell? ⟨W.heap.size, 0, none⟩ = some (.string c.tag) := World.cell?_alloc_at _ _ _ _ rfl
  have m0 : 0 ≤ M := by omega
  have m1 : M ≤ 8191 := by omega
  have hp : turnP c a x wr = (-1, 0) := by
    have : turnF c a x wr = none := by unfold turnF; simp [hk, ha]
    simp [turnP, this]
  rw [hp]
  have f135 : (W.alloc (.cells (c.rl imv shv).toArray 52)).cell? ⟨W.heap.size, 135, none⟩ = some (.bool c.armed) := (World.cell?_alloc_at _ _ _ _ rfl).trans (by rw [List.getElem?_toArray]; exact rl_armed c imv shv hF.ex)
  rw [ha] at f135
  clear hp hk
  generalize c.rl imv shv = rl at *
  go_enter Try.func43, Try.ntmps43
  go_wp2_with fail
  go_ret2
  exact ⟨ret2 (by omega) (by omega), hb1⟩
set_option maxRecDepth 1000000 in
set_option maxHeartbeats 1000000 in
theorem rt_0_a (W : World) (c : Ct) (imv shv : Value) (hF : Fine c) (a x M : Int) (wr : Bool) (a0 : 0 ≤ a) (a1 : a ≤ 65535) (x0 : 0 ≤ x) (x1 : x ≤ 255) (hM : a % 8192 = M) (hk : c.k = 0)  :
    Calls Try.prog 43 #[.agg (c.rl imv shv).toArray, .int .i64 a, .int .i64 x, .bool wr] W fun e W' => e = .returned (.tuple #[.int .i64 (turnP c a x wr).1, .int .i64 (turnP c a x wr).2]) ∧ Below W.heap.size W W' := by
  have ht : c.tag.toList = [50, 75] := Img.toList_of c.tag 0 (by omega) hk
  have hb1 : Below W.heap.size W (W.alloc (.cells (c.rl imv shv).toArray 52)) := (Below.refl _ _).alloc (Nat.le_refl _) _
  have f0 : (W.alloc (.cells (c.rl imv shv).toArray 52)).cell? ⟨W.heap.size, 0, none⟩ = some (.string c.tag) := World.cell?_alloc_at _ _ _ _ rfl
  have m0 : 0 ≤ M := by omega
  have m1 : M ≤ 8191 := by omega
  have hp : turnP c a x wr = (-1, 0) := by
    have : turnF c a x wr = none := by unfold turnF; simp [hk, hM]; try omega
    simp [turnP, this]
  rw [hp]
  clear hp hk
  generalize c.rl imv shv = rl at *
  go_enter Try.func43, Try.ntmps43
  go_wp2_with fail
  go_ret2
  exact ⟨ret2 (by omega) (by omega), hb1⟩
set_option maxRecDepth 1000000 in
set_option maxHeartbeats 1000000 in
theorem rt_2_a (W : World) (c : Ct) (imv shv : Value) (hF : Fine c) (a x M : Int) (wr : Bool) (a0 : 0 ≤ a) (a1 : a ≤ 65535) (x0 : 0 ≤ x) (x1 : x ≤ 255) (hM : a % 8192 = M) (hk : c.k = 2)  :
    Calls Try.prog 43 #[.agg (c.rl imv shv).toArray, .int .i64 a, .int .i64 x, .bool wr] W fun e W' => e = .returned (.tuple #[.int .i64 (turnP c a x wr).1, .int .i64 (turnP c a x wr).2]) ∧ Below W.heap.size W W' := by
  have ht : c.tag.toList = [52, 75] := Img.toList_of c.tag 2 (by omega) hk
  have hb1 : Below W.heap.size W (W.alloc (.cells (c.rl imv shv).toArray 52)) := (Below.refl _ _).alloc (Nat.le_refl _) _
  have f0 : (W.alloc (.cells (c.rl imv shv).toArray 52)).cell? ⟨W.heap.size, 0, none⟩ = some (.string c.tag) := World.cell?_alloc_at _ _ _ _ rfl
  have m0 : 0 ≤ M := by omega
  have m1 : M ≤ 8191 := by omega
  have hp : turnP c a x wr = (-1, 0) := by
    have : turnF c a x wr = none := by unfold turnF; simp [hk, hM]; try omega
    simp [turnP, this]
  rw [hp]
  clear hp hk
  generalize c.rl imv shv = rl at *
  go_enter Try.func43, Try.ntmps43
  go_wp2_with fail
  go_ret2
  exact ⟨ret2 (by omega) (by omega), hb1⟩
theorem rturned_any (W : World) (c : Ct) (imv shv : Value) (hF : Fine c) (a x : Int) (wr : Bool) (a0 : 0 ≤ a) (a1 : a ≤ 65535) (x0 : 0 ≤ x) (x1 : x ≤ 255) :
    Calls Try.prog 43 #[.agg (c.rl imv shv).toArray, .int .i64 a, .int .i64 x, .bool wr] W fun e W' => e = .returned (.tuple #[.int .i64 (turnP c a x wr).1, .int .i64 (turnP c a x wr).2]) ∧ Below W.heap.size W W' := by
  have hk0 := (fine_cases c hF).1
  have hk1 := (k_in c).2
  by_cases h : c.k = 0
  · exact rt_0_a W c imv shv hF a x _ wr a0 a1 x0 x1 rfl h
  by_cases h : c.k = 1
  · cases hw : wr
    · exact rt_1_c W c imv shv hF a x _ false a0 a1 x0 x1 rfl h rfl
    by_cases h1 : a % 8192 ≤ 63
    · exact rt_1_a W c imv shv hF a x _ true a0 a1 x0 x1 rfl h h1 rfl
    · exact rt_1_b W c imv shv hF a x _ true a0 a1 x0 x1 rfl h (by omega) rfl
  by_cases h : c.k = 2
  · exact rt_2_a W c imv shv hF a x _ wr a0 a1 x0 x1 rfl h
  by_cases h : c.k = 3
  · by_cases h1 : a % 8192 < 8160
    · exact rt_3_a W c imv shv hF a x _ wr a0 a1 x0 x1 rfl h h1
    by_cases h2 : a % 8192 ≤ 8167
    · exact rt_3_b W c imv shv hF a x _ wr a0 a1 x0 x1 rfl h (by omega) h2
    by_cases h3 : a % 8192 ≤ 8175
    · exact rt_3_c W c imv shv hF a x _ wr a0 a1 x0 x1 rfl h (by omega) h3
    by_cases h4 : a % 8192 ≤ 8183
    · exact rt_3_d W c imv shv hF a x _ wr a0 a1 x0 x1 rfl h (by omega) h4
    · exact rt_3_e W c imv shv hF a x _ wr a0 a1 x0 x1 rfl h (by omega)
  by_cases h : c.k = 4
  · by_cases h1 : a % 8192 < 8180
    · exact rt_4_a W c imv shv hF a x _ wr a0 a1 x0 x1 rfl h h1
    by_cases h2 : a % 8192 ≤ 8187
    · exact rt_4_b W c imv shv hF a x _ wr a0 a1 x0 x1 rfl h (by omega) h2
    · exact rt_4_c W c imv shv hF a x _ wr a0 a1 x0 x1 rfl h (by omega)
  by_cases h : c.k = 5
  · by_cases h1 : a % 8192 < 8180
    · exact rt_5_a W c imv shv hF a x _ wr a0 a1 x0 x1 rfl h h1
    by_cases h2 : a % 8192 ≤ 8187
    · exact rt_5_b W c imv shv hF a x _ wr a0 a1 x0 x1 rfl h (by omega) h2
    · exact rt_5_c W c imv shv hF a x _ wr a0 a1 x0 x1 rfl h (by omega)
  by_cases h : c.k = 6
  · by_cases h1 : a % 8192 < 8182
    · exact rt_6_a W c imv shv hF a x _ wr a0 a1 x0 x1 rfl h h1
    by_cases h2 : a % 8192 ≤ 8185
    · exact rt_6_b W c imv shv hF a x _ wr a0 a1 x0 x1 rfl h (by omega) h2
    · exact rt_6_c W c imv shv hF a x _ wr a0 a1 x0 x1 rfl h (by omega)
  by_cases h : c.k = 7
  · by_cases h1 : a % 8192 < 8182
    · exact rt_7_a W c imv shv hF a x _ wr a0 a1 x0 x1 rfl h h1
    by_cases h2 : a % 8192 ≤ 8185
    · exact rt_7_b W c imv shv hF a x _ wr a0 a1 x0 x1 rfl h (by omega) h2
    · exact rt_7_c W c imv shv hF a x _ wr a0 a1 x0 x1 rfl h (by omega)
  by_cases h : c.k = 8
  · by_cases h1 : a % 8192 < 8184
    · exact rt_8_a W c imv shv hF a x _ wr a0 a1 x0 x1 rfl h h1
    by_cases h2 : a % 8192 = 8184
    · exact rt_8_b W c imv shv hF a x _ wr a0 a1 x0 x1 rfl h h2
    by_cases h3 : a % 8192 = 8185
    · exact rt_8_c W c imv shv hF a x _ wr a0 a1 x0 x1 rfl h h3
    · exact rt_8_d W c imv shv hF a x _ wr a0 a1 x0 x1 rfl h (by omega)
  by_cases h : c.k = 9
  · by_cases h1 : a % 8192 < 8184
    · exact rt_9_a W c imv shv hF a x _ wr a0 a1 x0 x1 rfl h h1
    by_cases h2 : a % 8192 = 8184
    · exact rt_9_b W c imv shv hF a x _ wr a0 a1 x0 x1 rfl h h2
    by_cases h3 : a % 8192 = 8185
    · exact rt_9_c W c imv shv hF a x _ wr a0 a1 x0 x1 rfl h h3
    · exact rt_9_d W c imv shv hF a x _ wr a0 a1 x0 x1 rfl h (by omega)
  by_cases h : c.k = 10
  · cases ha : c.armed
    · exact rt_10_b W c imv shv hF a x _ wr a0 a1 x0 x1 rfl h ha
    · exact rt_10_a W c imv shv hF a x _ wr a0 a1 x0 x1 rfl h ha
  exact absurd hk1 (by omega)
end Go.Proofs.Ytfdmbgmhgbhggaa.Ca
