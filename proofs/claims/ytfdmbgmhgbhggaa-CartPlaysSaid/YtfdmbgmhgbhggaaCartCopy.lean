/- Package cart: Copy; arrays of 128 bytes that are alike. -/
import Derived.Test.YtfdmbgmhgbhggaaCartNil
import Derived.ChangeKeysEq
namespace Go.Proofs.Ytfdmbgmhgbhggaa.Ca
open Go.RowKit Go.Deep Go.Proofs.Ytfdmbgmhgbhggaa Go.Proofs.Ytfdmbgmhgbhggaa.Cl
set_option linter.unusedVariables false
set_option linter.unusedSimpArgs false
theorem row_set2 (c : Ct) (ib icap sb scap sb2 scap2 : Nat) : (c.row ib icap sb scap).set 2 (.slice (some ⟨sb2, 0, none⟩) c.sh.length scap2) = c.row ib icap sb2 scap2 := rfl
theorem row_len (c : Ct) (ib icap sb scap : Nat) (h : c.ex.length = 128) : (c.row ib icap sb scap).length = 134 := by simp [Ct.row, h]
theorem row_one (c : Ct) (ib icap sb scap : Nat) : ∀ u ∈ c.row ib icap sb scap, u.oneCell' = true := fun u hu => by
  simp only [Ct.row, List.mem_cons, List.mem_append, List.mem_map, List.not_mem_nil, or_false] at hu
  rcases hu with rfl | rfl | rfl | rfl | rfl | ⟨x, _, rfl⟩ | rfl <;> rfl
theorem at_row2 (c : Ct) (ib icap sb scap : Nat) : (c.row ib icap sb scap)[2]? = some (.slice (some ⟨sb, 0, none⟩) c.sh.length scap) := rfl
theorem owns_mono {w : World} {base base' : Nat} {e : TypeId} {size : Nat} {v : Value} {n : Nat} {xs : List Value} (h : w.ownsRow base e size v n xs) (hb : base' ≤ base) : w.ownsRow base' e size v n xs :=
  ⟨h.1, h.2.imp id fun ⟨g, cap, cur, h1, h2, h3⟩ => ⟨g, cap, cur, h1, Nat.le_trans hb h2, h3⟩⟩
set_option maxRecDepth 1000000 in
set_option maxHeartbeats 1000000 in
theorem copy_any (W : World) (base b ib icap sb scap : Nat) (c : Ct) (hS : CartS W base b ib icap sb scap c) (hF : Fine c) :
    Calls Try.prog 24 #[.pointer (some ⟨b, 0, none⟩)] W fun e W' => ∃ b2 sb2 scap2, e = .returned (.pointer (some ⟨b2, 0, none⟩)) ∧ CartS W' W.heap.size b2 ib icap sb2 scap2 c ∧ Below W.heap.size W W' := by
  have hz := zero_cart
  have hzs := zrow_size
  have hrl := row_len c ib icap sb scap hF.ex
  have h1 := row_one c ib icap sb scap
  have hl0 : 0 < c.sh.length ∧ c.sh.length ≤ 4 := by
    obtain ⟨p1, p2, _⟩ := fine_nums c hF
    rcases p1 with e | e | e <;> rw [e] at p2 <;> omega
  have hL : Lies W 1 (.slice (some ⟨sb, 0, none⟩) c.sh.length scap) c.sh.length (c.sh.map (Value.int .i64)) := Lies.of_owns hS.hs
  have hr : W.rangeAt b 0 (c.row ib icap sb scap) := fun j v hv => by rw [hS.at, Nat.zero_add]; exact hv
  have hbl := hS.blt
  have hil := hS.il
  have hset := fun sb2 scap2 => row_set2 c ib icap sb scap sb2 scap2
  have hat := at_row2 c ib icap sb scap
  have c2 := hS.c2
  have HI := hideR hS.hi
  have hi22 : (Try.prog.info? 71).map (·.size) = some (c.row ib icap sb scap).length := by rw [hrl]; kernel_rfl
  have hu22 := Try.underlying71
  have hb1 : Below W.heap.size W (W.alloc (.cells (c.row ib icap sb scap).toArray 71)) := (Below.refl _ _).alloc (Nat.le_refl _) _
  have hn1 : (W.alloc (.cells (c.row ib icap sb scap).toArray 71)).heap[W.heap.size]? = some (.cells (c.row ib icap sb scap).toArray 71 (0, 0)) := heap_alloc_new W _
  have kcl := clone_int (W.alloc (.cells (c.row ib icap sb scap).toArray 71)) _ c.sh (hL.below hb1) (by omega) ⟨_, _, _, rfl⟩
  have hs : (storeCells ⟨W.heap.size, 0, none⟩ (c.row ib icap sb scap).toArray.toList 0).run Try.prog (W.alloc (.cells zrow 71)) = .ok () (W.alloc (.cells (c.row ib icap sb scap).toArray 71)) :=
    run_storeCells_new W 71 zrow (c.row ib icap sb scap).toArray (by rw [hi22]; simp) (hzs.trans (by simp [hrl])) (by simpa using h1)
  have hz1 : (W.alloc (.cells (c.row ib icap sb scap).toArray 71)).heap.size = W.heap.size + 1 := by simp
  have c2' := (hb1.cell (p := ⟨b, 2, none⟩) hbl).trans c2
  generalize hrw : c.row ib icap sb scap = rw0 at *
  simp only at hs
  have HS := hideR hset
  clear hset h1 hL
  go_enter Try.func24, Try.ntmps24
  go_wp2_with fail
  refine wp_load_mid _ _ rfl b 0 rfl rw0 _ hr hu22 rfl hi22 ?_
  go_wp2_with fail
  generalize W.alloc (.cells rw0.toArray 71) = W1 at *
  refine kcl.mono ?_
  rintro e w2 ⟨r, rfl, hown, hb2⟩
  obtain ⟨g, cap, rfl, hg, hg'⟩ := hown.form hl0.1
  have hn2 : w2.heap[W.heap.size]? = some (.cells rw0.toArray 71 (0, 0)) := (hb2.block _ (by omega)).trans hn1
  have n2 : w2.cell? ⟨W.heap.size, 2, none⟩ = some (.slice (some ⟨sb, 0, none⟩) c.sh.length scap) := by
    rw [cell_of_row w2 _ _ _ _ _ hn2, List.getElem?_toArray]; exact hat
  have f2 : w2.frozen? ⟨W.heap.size, 2, none⟩ = false := frozen_of_row w2 _ 2 _ _ hn2
  go_wp2_with fail
  go_ret
  have hs2 := hb2.size
  refine ⟨W.heap.size, g, cap, rfl, ⟨?_, ?_, fun i v hv => ?_, by simp only [World.size_setCell]; omega, by omega, by omega, by omega, Nat.le_refl _⟩, (hb1.trans (hb2.mono (by omega))).setCell (Nat.le_refl _) _⟩
  · rw [heap_setCell_same w2 W.heap.size 2 _ _ _ hn2, ← HS.out g cap]; simp
  · exact ownsRow_moved (owns_mono hown (by omega)) (heap_setCell_other w2 ⟨W.heap.size, 2, none⟩ g _ (by show g ≠ W.heap.size; omega))
  · rw [World.cell?_of_block (heap_setCell_other w2 ⟨W.heap.size, 2, none⟩ ib _ (by show ib ≠ W.heap.size; omega))]
    exact ((hb1.trans (hb2.mono (by omega))).cell (p := ⟨ib, i, none⟩) hil).trans (HI.out i v hv)

/-! ### Alike -/
theorem items_same {P : Program} (w : World) (d : Nat) (e : TypeId) (k : IntKind) (xs : List Int) (he : P.plainKey e = true) (hu : P.underlying e = some (.int k)) (L : List Nat) (hL : ∀ i ∈ L, i < xs.length) :
    (Op.eqItems (d + 1) e 1 (xs.map (Value.int k)).toArray (xs.map (Value.int k)).toArray L).run P w = .ok true w := by
  induction L with
  | nil => simp [Op.eqItems]
  | cons j t ih =>
    have hj := hL j (by simp)
    have hx : (xs.map (Value.int k)).toArray[j * 1]? = some (.int k xs[j]) := by simp [hj]
    simp only [Op.eqItems, Sem.run_bind, run_part_plain w he hx, Result.andThen_ok, run_equalIn_int w d e k k _ _ hu]
    simpa using ih fun i hi => hL i (by simp [hi])
theorem same_ints {P : Program} (w : World) (d : Nat) (t e : TypeId) (n : Nat) (i : TypeInfo) (k : IntKind) (xs : List Int) (ht : P.underlying t = some (.array n e)) (hi : P.info? e = some i) (hc : P.cellsOf e = 1) (he : P.plainKey e = true) (hu : P.underlying e = some (.int k)) (hl : xs.length = n) :
    (Op.equalIn (d + 2) t (.agg (xs.map (Value.int k)).toArray) (.agg (xs.map (Value.int k)).toArray)).run P w = .ok true w := by
  rw [run_equalIn_array w (d + 1) _ _ ht hi, hc]
  exact items_same w d e k xs he hu _ fun i hi => by rw [hl]; exact List.mem_range.1 hi
theorem same_u8 (w : World) (xs : List Int) (hl : xs.length = 128) :
    (Op.equalIn 10000 22 (.agg (xs.map (Value.int .u8)).toArray) (.agg (xs.map (Value.int .u8)).toArray)).run Try.prog w = .ok true w := by
  obtain ⟨i0, hi, _⟩ := info_parts info_u8
  exact same_ints w 9998 _ 5 128 i0 .u8 xs Try.underlying22 hi (by kernel_rfl) (by kernel_rfl) Try.underlying5 hl
theorem neq_ex (w : World) (xs : List Int) (hl : xs.length = 128) : Sem.run Try.prog (binOp .neq 22 (.agg (xs.map (Value.int .u8)).toArray) (.agg (xs.map (Value.int .u8)).toArray)) w = .ok (.bool false) w := by
  rw [run_neq_struct, same_u8 w xs hl]; rfl
theorem eql_ex (w : World) (xs : List Int) (hl : xs.length = 128) : Sem.run Try.prog (binOp .eql 22 (.agg (xs.map (Value.int .u8)).toArray) (.agg (xs.map (Value.int .u8)).toArray)) w = .ok (.bool true) w := by
  rw [run_eql_struct, same_u8 w xs hl]; rfl
end Go.Proofs.Ytfdmbgmhgbhggaa.Ca
