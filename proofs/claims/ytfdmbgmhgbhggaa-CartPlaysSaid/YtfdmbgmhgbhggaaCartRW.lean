/- The reference of package cart: Watch (printed by gen/cartrw.py). -/
import Derived.Test.YtfdmbgmhgbhggaaCartRT
import Derived.Deep.AppendLies
import Derived.Deep.Cut
namespace Go.Proofs.Ytfdmbgmhgbhggaa.Ca
open Go.RowKit Go.Deep Go.Proofs.Ytfdmbgmhgbhggaa Go.Proofs.Ytfdmbgmhgbhggaa.Cl
set_option linter.unusedVariables false
set_option linter.unusedSimpArgs false
def zrl : Array Value := (.string ⟨#[]⟩ :: .slice none 0 0 :: .int .i64 0 :: .int .i64 0 :: .int .i64 0 :: .bool false :: .slice none 0 0 :: (List.replicate 128 (.int .u8 0) ++ [.bool false])).toArray
theorem zero_rl (W : World) : (zeroValue 52).run Try.prog W = .ok (.agg zrl) W := by kernel_rfl
theorem zrl_size : zrl.size = 136 := by kernel_rfl
theorem bsetL {w : World} {B : Nat} {l : List Value} {T : TypeId} (h : w.heap[B]? = some (.cells l.toArray T (0, 0))) (i : Nat) (v : Value) : (w.setCell ⟨B, i, none⟩ v).heap[B]? = some (.cells (l.set i v).toArray T (0, 0)) := by
  rw [heap_setCell_same w B i _ _ v h]; simp
theorem bothL {w : World} {B g : Nat} {o : Option Obj} (h : w.heap[B]? = o) (i : Nat) (v : Value) (hg : B ≠ g) : (w.setCell ⟨g, i, none⟩ v).heap[B]? = o := (heap_setCell_other w ⟨g, i, none⟩ B v hg).trans h
theorem rangeL {w : World} {B : Nat} {l : List Value} {T : TypeId} (h : w.heap[B]? = some (.cells l.toArray T (0, 0))) : w.rangeAt B 0 l := fun j v hv => by
  rw [cell_of_row w _ _ _ _ _ h, List.getElem?_toArray, Nat.zero_add]; exact hv
theorem cellL {w : World} {B : Nat} {l : List Value} {T : TypeId} (h : w.heap[B]? = some (.cells l.toArray T (0, 0))) (i : Nat) : w.cell? ⟨B, i, none⟩ = l[i]? := by
  rw [cell_of_row w _ _ _ _ _ h, List.getElem?_toArray]
theorem frozL {w : World} {B : Nat} {l : List Value} {T : TypeId} (h : w.heap[B]? = some (.cells l.toArray T (0, 0))) (i : Nat) : w.frozen? ⟨B, i, none⟩ = false := frozen_of_row w _ i _ _ h
theorem idx10 (c : Ct) (h : c.k ≠ 10) : ([70, 69] == c.tag.toList) = false := Img.idx_not c.tag 10 (by omega) h
theorem below_setRow {B : Nat} {a w : World} (h : Below B a w) {g : Nat} (hg : B ≤ g) (cs : Array Value) : Below B a (w.setRow g cs) :=
  ⟨h.os, h.tape, h.output, by rw [setRow_size]; exact h.size, fun k hk => (setRow_other w g k cs (by omega)).trans (h.block k hk)⟩
/-- What Watch leaves. -/
def Fr (B : Nat) (v : Value) : Prop := ∃ g off n cap, v = .slice (some ⟨g, off, none⟩) n cap ∧ B ≤ g
def RWPost (W : World) (imv shv : Value) (c' : Ct) (e : Ending) (W' : World) : Prop := ∃ shv', e = .returned (.agg (c'.rl imv shv').toArray) ∧ RefAt W' c' imv shv' ∧ Below W.heap.size W W' ∧ (shv' = shv ∨ Fr W.heap.size shv')

set_option maxRecDepth 1000000 in
set_option maxHeartbeats 2000000 in
theorem rw_none_k10y_r0 (W : World) (c : Ct) (imv shv : Value) (h : RefAt W c imv shv) (hF : Fine c) (a x : Int) (wr : Bool) (a0 : 0 ≤ a) (a1 : a ≤ 65535) (x0 : 0 ≤ x) (x1 : x ≤ 255) (ht : turnF c a x wr = none) (hr : c.ram = false) (hk : c.k = 10) (hM : a % 8192 = 510) :
    Calls Try.prog 22 #[.agg (c.rl imv shv).toArray, .int .i64 a, .int .i64 x, .bool wr] W (RWPost W imv shv (watchF c a x wr)) := by
  have kt := fun w => rturned_any w c imv shv hF a x wr a0 a1 x0 x1
  have hrl := rl_len c imv shv hF.ex
  have hp : turnP c a x wr = (-1, 0) := by unfold turnP; rw [ht]
  have hsh : shF c a x wr = c.sh := by unfold shF; rw [ht]
  rw [hp] at kt
  have e1 : c.tag.toList = [70, 69] := Img.toList_of c.tag 10 (by omega) hk
  have har : armF c a = true := by unfold armF; rw [if_pos hk, hM]; rfl
  have hex : exF c a x = c.ex := by unfold exF; rw [if_neg]; rintro ⟨q1, q2, q3⟩; rw [hr] at q1; cases q1
  have hfin : ((c.rl imv shv).set 135 (.bool true)) = (watchF c a x wr).rl imv shv := by
    rw [rl_setArmed c imv shv true (by show List.length _ = 128; exact hF.ex)]
    unfold watchF; rw [hex, har, hsh]
  have g0 : (c.rl imv shv)[0]? = some (.string c.tag) := rfl
  have g5 : (c.rl imv shv)[5]? = some (.bool c.ram) := rfl
  have g6 : (c.rl imv shv)[6]? = some shv := rfl
  have g135 := rl_armed c imv shv hF.ex
  rw [hr] at g5
  have hz := zero_rl
  have hzs := zrl_size
  have hfl : (watchF c a x wr).ex.length = 128 := (watch_fine c hF a x wr x0).ex
  have hsl : (watchF c a x wr).sh = c.sh := hsh
  have him : (watchF c a x wr).im = c.im := rfl
  obtain ⟨him0, hs0, hs4⟩ := fine_pos c hF
  unfold RWPost
  have HU := hideR Try.underlying52
  have HI := hideR (show (Try.prog.info? 52).map (·.size) = some (c.rl imv shv).length by rw [hrl]; kernel_rfl)
  have HI2 := fun s => hideR (show (Try.prog.info? 52).map (·.size) = some ((watchF c a x wr).rl imv s).length by rw [rl_len (watchF c a x wr) imv s hfl]; kernel_rfl)
  have HIA := fun s => hideR (show (Try.prog.info? 52).map (·.size) = some ((watchF c a x wr).rl imv s).toArray.size by rw [List.size_toArray, rl_len (watchF c a x wr) imv s hfl]; kernel_rfl)
  have HZA := fun s => hideR (hzs.trans (show 136 = ((watchF c a x wr).rl imv s).toArray.size by rw [List.size_toArray, rl_len (watchF c a x wr) imv s hfl]))
  have HO := fun s (hs : s.oneCell' = true) => hideR (all_oneCell_toArray (rl_one (watchF c a x wr) (imv := imv) (shv := s) (by obtain ⟨_, _, _, e, _⟩ := h.hi; rw [e]; rfl) hs))
  have hsone : (shv : Value).oneCell' = true := by obtain ⟨_, _, _, e, _⟩ := h.hs; rw [e]; rfl
  have hb2 : Below W.heap.size W ((W.alloc (.cells (c.rl imv shv).toArray 52)).alloc (.cells zrl 52)) := ((Below.refl _ _).alloc (Nat.le_refl _) _).alloc (by simp) _
  have hB2 : ((W.alloc (.cells (c.rl imv shv).toArray 52)).alloc (.cells zrl 52)).heap[W.heap.size]? = some (.cells (c.rl imv shv).toArray 52 (0, 0)) := (heap_alloc_old _ _ (by simp)).trans (heap_alloc_new W _)
  have hR2 : ((W.alloc (.cells (c.rl imv shv).toArray 52)).alloc (.cells zrl 52)).heap[W.heap.size + 1]? = some (.cells zrl 52 (0, 0)) := by
    have := heap_alloc_new (W.alloc (.cells (c.rl imv shv).toArray 52)) (.cells zrl 52); simpa using this
  have hz2 : ((W.alloc (.cells (c.rl imv shv).toArray 52)).alloc (.cells zrl 52)).heap.size = W.heap.size + 2 := by simp
  have Hr2 := hideR (rangeL hB2)
  have HF := hideR hfin
  have Hh := hideR h
  have HG := hideR (And.intro hsl him)
  have HB2 := hideR hB2
  have HR2 := hideR hR2
  clear hfin hsl him ht hp hsh hex har hfl h hB2 hR2 hz hk
  have hz := zero_rl
  generalize (watchF c a x wr) = c' at *
  generalize c.rl imv shv = rl at *
  go_enter Try.func22, Try.ntmps22
  go_wp2_with (refine wpList_load_mid rfl _ _ rfl W.heap.size 0 rfl rl _ Hr2.out HU.out rfl HI.out ?_)
  generalize hW2 : (W.alloc (.cells rl.toArray 52)).alloc (.cells zrl 52) = W2 at *
  clear hW2
  refine (kt _).mono ?_
  rintro e w3 ⟨rfl, hb3⟩
  have hB3 := (hb3.block W.heap.size (by omega)).trans HB2.out
  have hR3 := (hb3.block (W.heap.size + 1) (by omega)).trans HR2.out
  have hz3 := hb3.size
  have hb03 := hb2.trans (hb3.mono (by omega))
  have d0 := (cellL hB3 0).trans g0
  have d5 := (cellL hB3 5).trans g5
  have d6 := (cellL hB3 6).trans g6
  have d135 := (cellL hB3 135).trans g135
  have fr135 := frozL hB3 135
  have hBF : (w3.setCell ⟨W.heap.size, 135, none⟩ (.bool true)).heap[W.heap.size]? = some (.cells (c'.rl imv shv).toArray 52 (0, 0)) := by
    have := (bsetL hB3 135 (.bool true))
    rw [HF.out] at this; exact this
  have HBF := hideR (rangeL hBF)
  have hRF : (w3.setCell ⟨W.heap.size, 135, none⟩ (.bool true)).heap[W.heap.size + 1]? = some (.cells zrl 52 (0, 0)) := (bothL hR3 135 (.bool true) (by omega))
  have HRF := hideR hRF
  have hbF : Below W.heap.size W (w3.setCell ⟨W.heap.size, 135, none⟩ (.bool true)) := hb03.setCell (Nat.le_refl _) _
  have HbF := hideR hbF
  clear hBF hRF hB3 hR3 hbF kt
  go_upto_region 9 with (fail)
  go_wp2_with (first | (refine wpList_load_mid rfl 52 _ rfl W.heap.size 0 rfl (c'.rl imv shv) _ HBF.out HU.out rfl (HI2 _).out ?_) | (refine wpList_store_row rfl 52 _ _ rfl (W.heap.size + 1) (c'.rl imv shv).toArray rfl rfl _ zrl HRF.out (HIA _).out (HZA _).out (HO _ hsone).out ?_))
  refine bodyPost_ret (results_cell_row rfl _ _ (W.heap.size + 1) 52 (c'.rl imv shv).toArray (0, 0) _ (by kernel_rfl) (setRow_heap _ _ zrl _ _ _ HRF.out) HU.out rfl (HIA _).out) rfl ?_
  have hbG := below_setRow HbF.out (show W.heap.size ≤ W.heap.size + 1 by omega) (c'.rl imv shv).toArray
  refine ⟨shv, rfl, ⟨?_, ?_⟩, hbG, .inl rfl⟩
  · rw [HG.out.2]; exact (Hh.out.below hbG).hi
  · rw [HG.out.1]; exact (Hh.out.below hbG).hs
set_option maxRecDepth 1000000 in
set_option maxHeartbeats 2000000 in
theorem rw_none_k10n_r0 (W : World) (c : Ct) (imv shv : Value) (h : RefAt W c imv shv) (hF : Fine c) (a x : Int) (wr : Bool) (a0 : 0 ≤ a) (a1 : a ≤ 65535) (x0 : 0 ≤ x) (x1 : x ≤ 255) (ht : turnF c a x wr = none) (hr : c.ram = false) (hk : c.k = 10) (hM : ¬ a % 8192 = 510) :
    Calls Try.prog 22 #[.agg (c.rl imv shv).toArray, .int .i64 a, .int .i64 x, .bool wr] W (RWPost W imv shv (watchF c a x wr)) := by
  have kt := fun w => rturned_any w c imv shv hF a x wr a0 a1 x0 x1
  have hrl := rl_len c imv shv hF.ex
  have hp : turnP c a x wr = (-1, 0) := by unfold turnP; rw [ht]
  have hsh : shF c a x wr = c.sh := by unfold shF; rw [ht]
  rw [hp] at kt
  have e1 : c.tag.toList = [70, 69] := Img.toList_of c.tag 10 (by omega) hk
  have e2 : (a % 8192 == 510) = false := beq_false_of_ne hM
  have har : armF c a = false := by unfold armF; rw [if_pos hk, decide_eq_false hM]
  have hex : exF c a x = c.ex := by unfold exF; rw [if_neg]; rintro ⟨q1, q2, q3⟩; rw [hr] at q1; cases q1
  have hfin : ((c.rl imv shv).set 135 (.bool false)) = (watchF c a x wr).rl imv shv := by
    rw [rl_setArmed c imv shv false (by show List.length _ = 128; exact hF.ex)]
    unfold watchF; rw [hex, har, hsh]
  have g0 : (c.rl imv shv)[0]? = some (.string c.tag) := rfl
  have g5 : (c.rl imv shv)[5]? = some (.bool c.ram) := rfl
  have g6 : (c.rl imv shv)[6]? = some shv := rfl
  have g135 := rl_armed c imv shv hF.ex
  rw [hr] at g5
  have hz := zero_rl
  have hzs := zrl_size
  have hfl : (watchF c a x wr).ex.length = 128 := (watch_fine c hF a x wr x0).ex
  have hsl : (watchF c a x wr).sh = c.sh := hsh
  have him : (watchF c a x wr).im = c.im := rfl
  obtain ⟨him0, hs0, hs4⟩ := fine_pos c hF
  unfold RWPost
  have HU := hideR Try.underlying52
  have HI := hideR (show (Try.prog.info? 52).map (·.size) = some (c.rl imv shv).length by rw [hrl]; kernel_rfl)
  have HI2 := fun s => hideR (show (Try.prog.info? 52).map (·.size) = some ((watchF c a x wr).rl imv s).length by rw [rl_len (watchF c a x wr) imv s hfl]; kernel_rfl)
  have HIA := fun s => hideR (show (Try.prog.info? 52).map (·.size) = some ((watchF c a x wr).rl imv s).toArray.size by rw [List.size_toArray, rl_len (watchF c a x wr) imv s hfl]; kernel_rfl)
  have HZA := fun s => hideR (hzs.trans (show 136 = ((watchF c a x wr).rl imv s).toArray.size by rw [List.size_toArray, rl_len (watchF c a x wr) imv s hfl]))
  have HO := fun s (hs : s.oneCell' = true) => hideR (all_oneCell_toArray (rl_one (watchF c a x wr) (imv := imv) (shv := s) (by obtain ⟨_, _, _, e, _⟩ := h.hi; rw [e]; rfl) hs))
  have hsone : (shv : Value).oneCell' = true := by obtain ⟨_, _, _, e, _⟩ := h.hs; rw [e]; rfl
  have hb2 : Below W.heap.size W ((W.alloc (.cells (c.rl imv shv).toArray 52)).alloc (.cells zrl 52)) := ((Below.refl _ _).alloc (Nat.le_refl _) _).alloc (by simp) _
  have hB2 : ((W.alloc (.cells (c.rl imv shv).toArray 52)).alloc (.cells zrl 52)).heap[W.heap.size]? = some (.cells (c.rl imv shv).toArray 52 (0, 0)) := (heap_alloc_old _ _ (by simp)).trans (heap_alloc_new W _)
  have hR2 : ((W.alloc (.cells (c.rl imv shv).toArray 52)).alloc (.cells zrl 52)).heap[W.heap.size + 1]? = some (.cells zrl 52 (0, 0)) := by
    have := heap_alloc_new (W.alloc (.cells (c.rl imv shv).toArray 52)) (.cells zrl 52); simpa using this
  have hz2 : ((W.alloc (.cells (c.rl imv shv).toArray 52)).alloc (.cells zrl 52)).heap.size = W.heap.size + 2 := by simp
  have Hr2 := hideR (rangeL hB2)
  have HF := hideR hfin
  have Hh := hideR h
  have HG := hideR (And.intro hsl him)
  have HB2 := hideR hB2
  have HR2 := hideR hR2
  clear hfin hsl him ht hp hsh hex har hfl h hB2 hR2 hz hk
  have hz := zero_rl
  generalize (watchF c a x wr) = c' at *
  generalize c.rl imv shv = rl at *
  go_enter Try.func22, Try.ntmps22
  go_wp2_with (refine wpList_load_mid rfl _ _ rfl W.heap.size 0 rfl rl _ Hr2.out HU.out rfl HI.out ?_)
  generalize hW2 : (W.alloc (.cells rl.toArray 52)).alloc (.cells zrl 52) = W2 at *
  clear hW2
  refine (kt _).mono ?_
  rintro e w3 ⟨rfl, hb3⟩
  have hB3 := (hb3.block W.heap.size (by omega)).trans HB2.out
  have hR3 := (hb3.block (W.heap.size + 1) (by omega)).trans HR2.out
  have hz3 := hb3.size
  have hb03 := hb2.trans (hb3.mono (by omega))
  have d0 := (cellL hB3 0).trans g0
  have d5 := (cellL hB3 5).trans g5
  have d6 := (cellL hB3 6).trans g6
  have d135 := (cellL hB3 135).trans g135
  have fr135 := frozL hB3 135
  have hBF : (w3.setCell ⟨W.heap.size, 135, none⟩ (.bool false)).heap[W.heap.size]? = some (.cells (c'.rl imv shv).toArray 52 (0, 0)) := by
    have := (bsetL hB3 135 (.bool false))
    rw [HF.out] at this; exact this
  have HBF := hideR (rangeL hBF)
  have hRF : (w3.setCell ⟨W.heap.size, 135, none⟩ (.bool false)).heap[W.heap.size + 1]? = some (.cells zrl 52 (0, 0)) := (bothL hR3 135 (.bool false) (by omega))
  have HRF := hideR hRF
  have hbF : Below W.heap.size W (w3.setCell ⟨W.heap.size, 135, none⟩ (.bool false)) := hb03.setCell (Nat.le_refl _) _
  have HbF := hideR hbF
  clear hBF hRF hB3 hR3 hbF kt
  go_upto_region 9 with (fail)
  go_wp2_with (first | (refine wpList_load_mid rfl 52 _ rfl W.heap.size 0 rfl (c'.rl imv shv) _ HBF.out HU.out rfl (HI2 _).out ?_) | (refine wpList_store_row rfl 52 _ _ rfl (W.heap.size + 1) (c'.rl imv shv).toArray rfl rfl _ zrl HRF.out (HIA _).out (HZA _).out (HO _ hsone).out ?_))
  refine bodyPost_ret (results_cell_row rfl _ _ (W.heap.size + 1) 52 (c'.rl imv shv).toArray (0, 0) _ (by kernel_rfl) (setRow_heap _ _ zrl _ _ _ HRF.out) HU.out rfl (HIA _).out) rfl ?_
  have hbG := below_setRow HbF.out (show W.heap.size ≤ W.heap.size + 1 by omega) (c'.rl imv shv).toArray
  refine ⟨shv, rfl, ⟨?_, ?_⟩, hbG, .inl rfl⟩
  · rw [HG.out.2]; exact (Hh.out.below hbG).hi
  · rw [HG.out.1]; exact (Hh.out.below hbG).hs
set_option maxRecDepth 1000000 in
set_option maxHeartbeats 2000000 in
theorem rw_none_kno_r0 (W : World) (c : Ct) (imv shv : Value) (h : RefAt W c imv shv) (hF : Fine c) (a x : Int) (wr : Bool) (a0 : 0 ≤ a) (a1 : a ≤ 65535) (x0 : 0 ≤ x) (x1 : x ≤ 255) (ht : turnF c a x wr = none) (hr : c.ram = false) (hk : ¬ c.k = 10) (ha : c.armed = false) :
    Calls Try.prog 22 #[.agg (c.rl imv shv).toArray, .int .i64 a, .int .i64 x, .bool wr] W (RWPost W imv shv (watchF c a x wr)) := by
  have kt := fun w => rturned_any w c imv shv hF a x wr a0 a1 x0 x1
  have hrl := rl_len c imv shv hF.ex
  have hp : turnP c a x wr = (-1, 0) := by unfold turnP; rw [ht]
  have hsh : shF c a x wr = c.sh := by unfold shF; rw [ht]
  rw [hp] at kt
  have e1 : ([70, 69] == c.tag.toList) = false := idx10 c hk
  have e1' : (c.tag.toList == [70, 69]) = false := by rw [beq_eq_false_iff_ne] at e1 ⊢; exact fun h => e1 h.symm
  have har : armF c a = false := by unfold armF; rw [if_neg hk, ha]
  have hex : exF c a x = c.ex := by unfold exF; rw [if_neg]; rintro ⟨q1, q2, q3⟩; rw [hr] at q1; cases q1
  have hfin : ((c.rl imv shv).set 135 (.bool false)) = (watchF c a x wr).rl imv shv := by
    rw [rl_setArmed c imv shv false (by show List.length _ = 128; exact hF.ex)]
    unfold watchF; rw [hex, har, hsh]
  have g0 : (c.rl imv shv)[0]? = some (.string c.tag) := rfl
  have g5 : (c.rl imv shv)[5]? = some (.bool c.ram) := rfl
  have g6 : (c.rl imv shv)[6]? = some shv := rfl
  have g135 := rl_armed c imv shv hF.ex
  rw [hr] at g5
  have hz := zero_rl
  have hzs := zrl_size
  have hfl : (watchF c a x wr).ex.length = 128 := (watch_fine c hF a x wr x0).ex
  have hsl : (watchF c a x wr).sh = c.sh := hsh
  have him : (watchF c a x wr).im = c.im := rfl
  obtain ⟨him0, hs0, hs4⟩ := fine_pos c hF
  unfold RWPost
  have HU := hideR Try.underlying52
  have HI := hideR (show (Try.prog.info? 52).map (·.size) = some (c.rl imv shv).length by rw [hrl]; kernel_rfl)
  have HI2 := fun s => hideR (show (Try.prog.info? 52).map (·.size) = some ((watchF c a x wr).rl imv s).length by rw [rl_len (watchF c a x wr) imv s hfl]; kernel_rfl)
  have HIA := fun s => hideR (show (Try.prog.info? 52).map (·.size) = some ((watchF c a x wr).rl imv s).toArray.size by rw [List.size_toArray, rl_len (watchF c a x wr) imv s hfl]; kernel_rfl)
  have HZA := fun s => hideR (hzs.trans (show 136 = ((watchF c a x wr).rl imv s).toArray.size by rw [List.size_toArray, rl_len (watchF c a x wr) imv s hfl]))
  have HO := fun s (hs : s.oneCell' = true) => hideR (all_oneCell_toArray (rl_one (watchF c a x wr) (imv := imv) (shv := s) (by obtain ⟨_, _, _, e, _⟩ := h.hi; rw [e]; rfl) hs))
  have hsone : (shv : Value).oneCell' = true := by obtain ⟨_, _, _, e, _⟩ := h.hs; rw [e]; rfl
  have hb2 : Below W.heap.size W ((W.alloc (.cells (c.rl imv shv).toArray 52)).alloc (.cells zrl 52)) := ((Below.refl _ _).alloc (Nat.le_refl _) _).alloc (by simp) _
  have hB2 : ((W.alloc (.cells (c.rl imv shv).toArray 52)).alloc (.cells zrl 52)).heap[W.heap.size]? = some (.cells (c.rl imv shv).toArray 52 (0, 0)) := (heap_alloc_old _ _ (by simp)).trans (heap_alloc_new W _)
  have hR2 : ((W.alloc (.cells (c.rl imv shv).toArray 52)).alloc (.cells zrl 52)).heap[W.heap.size + 1]? = some (.cells zrl 52 (0, 0)) := by
    have := heap_alloc_new (W.alloc (.cells (c.rl imv shv).toArray 52)) (.cells zrl 52); simpa using this
  have hz2 : ((W.alloc (.cells (c.rl imv shv).toArray 52)).alloc (.cells zrl 52)).heap.size = W.heap.size + 2 := by simp
  have Hr2 := hideR (rangeL hB2)
  have HF := hideR hfin
  have Hh := hideR h
  have HG := hideR (And.intro hsl him)
  have HB2 := hideR hB2
  have HR2 := hideR hR2
  clear hfin hsl him ht hp hsh hex har hfl h hB2 hR2 hz hk ha
  have hz := zero_rl
  generalize (watchF c a x wr) = c' at *
  generalize c.rl imv shv = rl at *
  go_enter Try.func22, Try.ntmps22
  go_wp2_with (refine wpList_load_mid rfl _ _ rfl W.heap.size 0 rfl rl _ Hr2.out HU.out rfl HI.out ?_)
  generalize hW2 : (W.alloc (.cells rl.toArray 52)).alloc (.cells zrl 52) = W2 at *
  clear hW2
  refine (kt _).mono ?_
  rintro e w3 ⟨rfl, hb3⟩
  have hB3 := (hb3.block W.heap.size (by omega)).trans HB2.out
  have hR3 := (hb3.block (W.heap.size + 1) (by omega)).trans HR2.out
  have hz3 := hb3.size
  have hb03 := hb2.trans (hb3.mono (by omega))
  have d0 := (cellL hB3 0).trans g0
  have d5 := (cellL hB3 5).trans g5
  have d6 := (cellL hB3 6).trans g6
  have d135 := (cellL hB3 135).trans g135
  have fr135 := frozL hB3 135
  have hBF : (w3.setCell ⟨W.heap.size, 135, none⟩ (.bool false)).heap[W.heap.size]? = some (.cells (c'.rl imv shv).toArray 52 (0, 0)) := by
    have := (bsetL hB3 135 (.bool false))
    rw [HF.out] at this; exact this
  have HBF := hideR (rangeL hBF)
  have hRF : (w3.setCell ⟨W.heap.size, 135, none⟩ (.bool false)).heap[W.heap.size + 1]? = some (.cells zrl 52 (0, 0)) := (bothL hR3 135 (.bool false) (by omega))
  have HRF := hideR hRF
  have hbF : Below W.heap.size W (w3.setCell ⟨W.heap.size, 135, none⟩ (.bool false)) := hb03.setCell (Nat.le_refl _) _
  have HbF := hideR hbF
  clear hBF hRF hB3 hR3 hbF kt
  go_upto_region 9 with (fail)
  go_wp2_with (first | (refine wpList_load_mid rfl 52 _ rfl W.heap.size 0 rfl (c'.rl imv shv) _ HBF.out HU.out rfl (HI2 _).out ?_) | (refine wpList_store_row rfl 52 _ _ rfl (W.heap.size + 1) (c'.rl imv shv).toArray rfl rfl _ zrl HRF.out (HIA _).out (HZA _).out (HO _ hsone).out ?_))
  refine bodyPost_ret (results_cell_row rfl _ _ (W.heap.size + 1) 52 (c'.rl imv shv).toArray (0, 0) _ (by kernel_rfl) (setRow_heap _ _ zrl _ _ _ HRF.out) HU.out rfl (HIA _).out) rfl ?_
  have hbG := below_setRow HbF.out (show W.heap.size ≤ W.heap.size + 1 by omega) (c'.rl imv shv).toArray
  refine ⟨shv, rfl, ⟨?_, ?_⟩, hbG, .inl rfl⟩
  · rw [HG.out.2]; exact (Hh.out.below hbG).hi
  · rw [HG.out.1]; exact (Hh.out.below hbG).hs
set_option maxRecDepth 1000000 in
set_option maxHeartbeats 2000000 in
theorem rw_none_kno_r1 (W : World) (c : Ct) (imv shv : Value) (h : RefAt W c imv shv) (hF : Fine c) (a x : Int) (wr : Bool) (a0 : 0 ≤ a) (a1 : a ≤ 65535) (x0 : 0 ≤ x) (x1 : x ≤ 255) (ht : turnF c a x wr = none) (hr : c.ram = true) (y1 : a % 8192 < 4096) (hk : ¬ c.k = 10) (ha : c.armed = false) :
    Calls Try.prog 22 #[.agg (c.rl imv shv).toArray, .int .i64 a, .int .i64 x, .bool wr] W (RWPost W imv shv (watchF c a x wr)) := by
  have kt := fun w => rturned_any w c imv shv hF a x wr a0 a1 x0 x1
  have hrl := rl_len c imv shv hF.ex
  have hp : turnP c a x wr = (-1, 0) := by unfold turnP; rw [ht]
  have hsh : shF c a x wr = c.sh := by unfold shF; rw [ht]
  rw [hp] at kt
  have e1 : ([70, 69] == c.tag.toList) = false := idx10 c hk
  have e1' : (c.tag.toList == [70, 69]) = false := by rw [beq_eq_false_iff_ne] at e1 ⊢; exact fun h => e1 h.symm
  have har : armF c a = false := by unfold armF; rw [if_neg hk, ha]
  have hex : exF c a x = c.ex := by unfold exF; rw [if_neg]; rintro ⟨q1, q2, q3⟩; omega
  have n1 : ¬ 4096 ≤ a % 8192 := by omega
  have hfin : ((c.rl imv shv).set 135 (.bool false)) = (watchF c a x wr).rl imv shv := by
    rw [rl_setArmed c imv shv false (by show List.length _ = 128; exact hF.ex)]
    unfold watchF; rw [hex, har, hsh]
  have g0 : (c.rl imv shv)[0]? = some (.string c.tag) := rfl
  have g5 : (c.rl imv shv)[5]? = some (.bool c.ram) := rfl
  have g6 : (c.rl imv shv)[6]? = some shv := rfl
  have g135 := rl_armed c imv shv hF.ex
  rw [hr] at g5
  have hz := zero_rl
  have hzs := zrl_size
  have hfl : (watchF c a x wr).ex.length = 128 := (watch_fine c hF a x wr x0).ex
  have hsl : (watchF c a x wr).sh = c.sh := hsh
  have him : (watchF c a x wr).im = c.im := rfl
  obtain ⟨him0, hs0, hs4⟩ := fine_pos c hF
  unfold RWPost
  have HU := hideR Try.underlying52
  have HI := hideR (show (Try.prog.info? 52).map (·.size) = some (c.rl imv shv).length by rw [hrl]; kernel_rfl)
  have HI2 := fun s => hideR (show (Try.prog.info? 52).map (·.size) = some ((watchF c a x wr).rl imv s).length by rw [rl_len (watchF c a x wr) imv s hfl]; kernel_rfl)
  have HIA := fun s => hideR (show (Try.prog.info? 52).map (·.size) = some ((watchF c a x wr).rl imv s).toArray.size by rw [List.size_toArray, rl_len (watchF c a x wr) imv s hfl]; kernel_rfl)
  have HZA := fun s => hideR (hzs.trans (show 136 = ((watchF c a x wr).rl imv s).toArray.size by rw [List.size_toArray, rl_len (watchF c a x wr) imv s hfl]))
  have HO := fun s (hs : s.oneCell' = true) => hideR (all_oneCell_toArray (rl_one (watchF c a x wr) (imv := imv) (shv := s) (by obtain ⟨_, _, _, e, _⟩ := h.hi; rw [e]; rfl) hs))
  have hsone : (shv : Value).oneCell' = true := by obtain ⟨_, _, _, e, _⟩ := h.hs; rw [e]; rfl
  have hb2 : Below W.heap.size W ((W.alloc (.cells (c.rl imv shv).toArray 52)).alloc (.cells zrl 52)) := ((Below.refl _ _).alloc (Nat.le_refl _) _).alloc (by simp) _
  have hB2 : ((W.alloc (.cells (c.rl imv shv).toArray 52)).alloc (.cells zrl 52)).heap[W.heap.size]? = some (.cells (c.rl imv shv).toArray 52 (0, 0)) := (heap_alloc_old _ _ (by simp)).trans (heap_alloc_new W _)
  have hR2 : ((W.alloc (.cells (c.rl imv shv).toArray 52)).alloc (.cells zrl 52)).heap[W.heap.size + 1]? = some (.cells zrl 52 (0, 0)) := by
    have := heap_alloc_new (W.alloc (.cells (c.rl imv shv).toArray 52)) (.cells zrl 52); simpa using this
  have hz2 : ((W.alloc (.cells (c.rl imv shv).toArray 52)).alloc (.cells zrl 52)).heap.size = W.heap.size + 2 := by simp
  have Hr2 := hideR (rangeL hB2)
  have HF := hideR hfin
  have Hh := hideR h
  have HG := hideR (And.intro hsl him)
  have HB2 := hideR hB2
  have HR2 := hideR hR2
  clear hfin hsl him ht hp hsh hex har hfl h hB2 hR2 hz hk ha
  have hz := zero_rl
  generalize (watchF c a x wr) = c' at *
  generalize c.rl imv shv = rl at *
  go_enter Try.func22, Try.ntmps22
  go_wp2_with (refine wpList_load_mid rfl _ _ rfl W.heap.size 0 rfl rl _ Hr2.out HU.out rfl HI.out ?_)
  generalize hW2 : (W.alloc (.cells rl.toArray 52)).alloc (.cells zrl 52) = W2 at *
  clear hW2
  refine (kt _).mono ?_
  rintro e w3 ⟨rfl, hb3⟩
  have hB3 := (hb3.block W.heap.size (by omega)).trans HB2.out
  have hR3 := (hb3.block (W.heap.size + 1) (by omega)).trans HR2.out
  have hz3 := hb3.size
  have hb03 := hb2.trans (hb3.mono (by omega))
  have d0 := (cellL hB3 0).trans g0
  have d5 := (cellL hB3 5).trans g5
  have d6 := (cellL hB3 6).trans g6
  have d135 := (cellL hB3 135).trans g135
  have fr135 := frozL hB3 135
  have hBF : (w3.setCell ⟨W.heap.size, 135, none⟩ (.bool false)).heap[W.heap.size]? = some (.cells (c'.rl imv shv).toArray 52 (0, 0)) := by
    have := (bsetL hB3 135 (.bool false))
    rw [HF.out] at this; exact this
  have HBF := hideR (rangeL hBF)
  have hRF : (w3.setCell ⟨W.heap.size, 135, none⟩ (.bool false)).heap[W.heap.size + 1]? = some (.cells zrl 52 (0, 0)) := (bothL hR3 135 (.bool false) (by omega))
  have HRF := hideR hRF
  have hbF : Below W.heap.size W (w3.setCell ⟨W.heap.size, 135, none⟩ (.bool false)) := hb03.setCell (Nat.le_refl _) _
  have HbF := hideR hbF
  clear hBF hRF hB3 hR3 hbF kt
  go_upto_region 9 with (fail)
  go_wp2_with (first | (refine wpList_load_mid rfl 52 _ rfl W.heap.size 0 rfl (c'.rl imv shv) _ HBF.out HU.out rfl (HI2 _).out ?_) | (refine wpList_store_row rfl 52 _ _ rfl (W.heap.size + 1) (c'.rl imv shv).toArray rfl rfl _ zrl HRF.out (HIA _).out (HZA _).out (HO _ hsone).out ?_))
  refine bodyPost_ret (results_cell_row rfl _ _ (W.heap.size + 1) 52 (c'.rl imv shv).toArray (0, 0) _ (by kernel_rfl) (setRow_heap _ _ zrl _ _ _ HRF.out) HU.out rfl (HIA _).out) rfl ?_
  have hbG := below_setRow HbF.out (show W.heap.size ≤ W.heap.size + 1 by omega) (c'.rl imv shv).toArray
  refine ⟨shv, rfl, ⟨?_, ?_⟩, hbG, .inl rfl⟩
  · rw [HG.out.2]; exact (Hh.out.below hbG).hi
  · rw [HG.out.1]; exact (Hh.out.below hbG).hs
set_option maxRecDepth 1000000 in
set_option maxHeartbeats 2000000 in
theorem rw_none_kno_r2 (W : World) (c : Ct) (imv shv : Value) (h : RefAt W c imv shv) (hF : Fine c) (a x : Int) (wr : Bool) (a0 : 0 ≤ a) (a1 : a ≤ 65535) (x0 : 0 ≤ x) (x1 : x ≤ 255) (ht : turnF c a x wr = none) (hr : c.ram = true) (y1 : 4224 ≤ a % 8192) (hk : ¬ c.k = 10) (ha : c.armed = false) :
    Calls Try.prog 22 #[.agg (c.rl imv shv).toArray, .int .i64 a, .int .i64 x, .bool wr] W (RWPost W imv shv (watchF c a x wr)) := by
  have kt := fun w => rturned_any w c imv shv hF a x wr a0 a1 x0 x1
  have hrl := rl_len c imv shv hF.ex
  have hp : turnP c a x wr = (-1, 0) := by unfold turnP; rw [ht]
  have hsh : shF c a x wr = c.sh := by unfold shF; rw [ht]
  rw [hp] at kt
  have e1 : ([70, 69] == c.tag.toList) = false := idx10 c hk
  have e1' : (c.tag.toList == [70, 69]) = false := by rw [beq_eq_false_iff_ne] at e1 ⊢; exact fun h => e1 h.symm
  have har : armF c a = false := by unfold armF; rw [if_neg hk, ha]
  have hex : exF c a x = c.ex := by unfold exF; rw [if_neg]; rintro ⟨q1, q2, q3⟩; omega
  have n1 : 4096 ≤ a % 8192 := by omega
  have n2 : ¬ a % 8192 < 4224 := by omega
  have hfin : ((c.rl imv shv).set 135 (.bool false)) = (watchF c a x wr).rl imv shv := by
    rw [rl_setArmed c imv shv false (by show List.length _ = 128; exact hF.ex)]
    unfold watchF; rw [hex, har, hsh]
  have g0 : (c.rl imv shv)[0]? = some (.string c.tag) := rfl
  have g5 : (c.rl imv shv)[5]? = some (.bool c.ram) := rfl
  have g6 : (c.rl imv shv)[6]? = some shv := rfl
  have g135 := rl_armed c imv shv hF.ex
  rw [hr] at g5
  have hz := zero_rl
  have hzs := zrl_size
  have hfl : (watchF c a x wr).ex.length = 128 := (watch_fine c hF a x wr x0).ex
  have hsl : (watchF c a x wr).sh = c.sh := hsh
  have him : (watchF c a x wr).im = c.im := rfl
  obtain ⟨him0, hs0, hs4⟩ := fine_pos c hF
  unfold RWPost
  have HU := hideR Try.underlying52
  have HI := hideR (show (Try.prog.info? 52).map (·.size) = some (c.rl imv shv).length by rw [hrl]; kernel_rfl)
  have HI2 := fun s => hideR (show (Try.prog.info? 52).map (·.size) = some ((watchF c a x wr).rl imv s).length by rw [rl_len (watchF c a x wr) imv s hfl]; kernel_rfl)
  have HIA := fun s => hideR (show (Try.prog.info? 52).map (·.size) = some ((watchF c a x wr).rl imv s).toArray.size by rw [List.size_toArray, rl_len (watchF c a x wr) imv s hfl]; kernel_rfl)
  have HZA := fun s => hideR (hzs.trans (show 136 = ((watchF c a x wr).rl imv s).toArray.size by rw [List.size_toArray, rl_len (watchF c a x wr) imv s hfl]))
  have HO := fun s (hs : s.oneCell' = true) => hideR (all_oneCell_toArray (rl_one (watchF c a x wr) (imv := imv) (shv := s) (by obtain ⟨_, _, _, e, _⟩ := h.hi; rw [e]; rfl) hs))
  have hsone : (shv : Value).oneCell' = true := by obtain ⟨_, _, _, e, _⟩ := h.hs; rw [e]; rfl
  have hb2 : Below W.heap.size W ((W.alloc (.cells (c.rl imv shv).toArray 52)).alloc (.cells zrl 52)) := ((Below.refl _ _).alloc (Nat.le_refl _) _).alloc (by simp) _
  have hB2 : ((W.alloc (.cells (c.rl imv shv).toArray 52)).alloc (.cells zrl 52)).heap[W.heap.size]? = some (.cells (c.rl imv shv).toArray 52 (0, 0)) := (heap_alloc_old _ _ (by simp)).trans (heap_alloc_new W _)
  have hR2 : ((W.alloc (.cells (c.rl imv shv).toArray 52)).alloc (.cells zrl 52)).heap[W.heap.size + 1]? = some (.cells zrl 52 (0, 0)) := by
    have := heap_alloc_new (W.alloc (.cells (c.rl imv shv).toArray 52)) (.cells zrl 52); simpa using this
  have hz2 : ((W.alloc (.cells (c.rl imv shv).toArray 52)).alloc (.cells zrl 52)).heap.size = W.heap.size + 2 := by simp
  have Hr2 := hideR (rangeL hB2)
  have HF := hideR hfin
  have Hh := hideR h
  have HG := hideR (And.intro hsl him)
  have HB2 := hideR hB2
  have HR2 := hideR hR2
  clear hfin hsl him ht hp hsh hex har hfl h hB2 hR2 hz hk ha
  have hz := zero_rl
  generalize (watchF c a x wr) = c' at *
  generalize c.rl imv shv = rl at *
  go_enter Try.func22, Try.ntmps22
  go_wp2_with (refine wpList_load_mid rfl _ _ rfl W.heap.size 0 rfl rl _ Hr2.out HU.out rfl HI.out ?_)
  generalize hW2 : (W.alloc (.cells rl.toArray 52)).alloc (.cells zrl 52) = W2 at *
  clear hW2
  refine (kt _).mono ?_
  rintro e w3 ⟨rfl, hb3⟩
  have hB3 := (hb3.block W.heap.size (by omega)).trans HB2.out
  have hR3 := (hb3.block (W.heap.size + 1) (by omega)).trans HR2.out
  have hz3 := hb3.size
  have hb03 := hb2.trans (hb3.mono (by omega))
  have d0 := (cellL hB3 0).trans g0
  have d5 := (cellL hB3 5).trans g5
  have d6 := (cellL hB3 6).trans g6
  have d135 := (cellL hB3 135).trans g135
  have fr135 := frozL hB3 135
  have hBF : (w3.setCell ⟨W.heap.size, 135, none⟩ (.bool false)).heap[W.heap.size]? = some (.cells (c'.rl imv shv).toArray 52 (0, 0)) := by
    have := (bsetL hB3 135 (.bool false))
    rw [HF.out] at this; exact this
  have HBF := hideR (rangeL hBF)
  have hRF : (w3.setCell ⟨W.heap.size, 135, none⟩ (.bool false)).heap[W.heap.size + 1]? = some (.cells zrl 52 (0, 0)) := (bothL hR3 135 (.bool false) (by omega))
  have HRF := hideR hRF
  have hbF : Below W.heap.size W (w3.setCell ⟨W.heap.size, 135, none⟩ (.bool false)) := hb03.setCell (Nat.le_refl _) _
  have HbF := hideR hbF
  clear hBF hRF hB3 hR3 hbF kt
  go_upto_region 9 with (fail)
  go_wp2_with (first | (refine wpList_load_mid rfl 52 _ rfl W.heap.size 0 rfl (c'.rl imv shv) _ HBF.out HU.out rfl (HI2 _).out ?_) | (refine wpList_store_row rfl 52 _ _ rfl (W.heap.size + 1) (c'.rl imv shv).toArray rfl rfl _ zrl HRF.out (HIA _).out (HZA _).out (HO _ hsone).out ?_))
  refine bodyPost_ret (results_cell_row rfl _ _ (W.heap.size + 1) 52 (c'.rl imv shv).toArray (0, 0) _ (by kernel_rfl) (setRow_heap _ _ zrl _ _ _ HRF.out) HU.out rfl (HIA _).out) rfl ?_
  have hbG := below_setRow HbF.out (show W.heap.size ≤ W.heap.size + 1 by omega) (c'.rl imv shv).toArray
  refine ⟨shv, rfl, ⟨?_, ?_⟩, hbG, .inl rfl⟩
  · rw [HG.out.2]; exact (Hh.out.below hbG).hi
  · rw [HG.out.1]; exact (Hh.out.below hbG).hs
set_option maxRecDepth 1000000 in
set_option maxHeartbeats 2000000 in
theorem rw_some_k10y_r0 (W : World) (c : Ct) (imv shv : Value) (h : RefAt W c imv shv) (hF : Fine c) (a x : Int) (wr : Bool) (a0 : 0 ≤ a) (a1 : a ≤ 65535) (x0 : 0 ≤ x) (x1 : x ≤ 255) (i : Nat) (v : Int) (ht : turnF c a x wr = some (i, v)) (hr : c.ram = false) (hk : c.k = 10) (hM : a % 8192 = 510) :
    Calls Try.prog 22 #[.agg (c.rl imv shv).toArray, .int .i64 a, .int .i64 x, .bool wr] W (RWPost W imv shv (watchF c a x wr)) := by
  obtain ⟨sg, soff, scap, rfl, _, _⟩ := lies_row h.hs rfl (fine_pos c hF).2.1
  have kt := fun w => rturned_any w c imv (.slice (some ⟨sg, soff, none⟩) c.sh.length scap) hF a x wr a0 a1 x0 x1
  have hrl := rl_len c imv (.slice (some ⟨sg, soff, none⟩) c.sh.length scap) hF.ex
  have hp : turnP c a x wr = ((i : Int), v) := by unfold turnP; rw [ht]
  have hsh : shF c a x wr = c.sh.set i v := by unfold shF; rw [ht]
  rw [hp] at kt
  obtain ⟨v0, v1, hil⟩ := turn_in c hF a x wr x0 i v ht
  have e1 : c.tag.toList = [70, 69] := Img.toList_of c.tag 10 (by omega) hk
  have har : armF c a = true := by unfold armF; rw [if_pos hk, hM]; rfl
  have hex : exF c a x = c.ex := by unfold exF; rw [if_neg]; rintro ⟨q1, q2, q3⟩; rw [hr] at q1; cases q1
  have hfin : ∀ s', (((c.rl imv (.slice (some ⟨sg, soff, none⟩) c.sh.length scap)).set 6 s').set 135 (.bool true)) = (watchF c a x wr).rl imv s' := by
    intro s'
    rw [rl_sh c imv (.slice (some ⟨sg, soff, none⟩) c.sh.length scap) s' (shF c a x wr)]
    rw [rl_setArmed ({ c with sh := shF c a x wr } : Ct) imv s' true (by show List.length _ = 128; exact hF.ex)]
    unfold watchF; rw [hex, har]
  have g0 : (c.rl imv (.slice (some ⟨sg, soff, none⟩) c.sh.length scap))[0]? = some (.string c.tag) := rfl
  have g5 : (c.rl imv (.slice (some ⟨sg, soff, none⟩) c.sh.length scap))[5]? = some (.bool c.ram) := rfl
  have g6 : (c.rl imv (.slice (some ⟨sg, soff, none⟩) c.sh.length scap))[6]? = some (.slice (some ⟨sg, soff, none⟩) c.sh.length scap) := rfl
  have g135 := rl_armed c imv (.slice (some ⟨sg, soff, none⟩) c.sh.length scap) hF.ex
  rw [hr] at g5
  have hz := zero_rl
  have hzs := zrl_size
  have hfl : (watchF c a x wr).ex.length = 128 := (watch_fine c hF a x wr x0).ex
  have hsl : (watchF c a x wr).sh = c.sh.set i v := hsh
  have him : (watchF c a x wr).im = c.im := rfl
  obtain ⟨him0, hs0, hs4⟩ := fine_pos c hF
  unfold RWPost
  have HU := hideR Try.underlying52
  have HI := hideR (show (Try.prog.info? 52).map (·.size) = some (c.rl imv (.slice (some ⟨sg, soff, none⟩) c.sh.length scap)).length by rw [hrl]; kernel_rfl)
  have HI2 := fun s => hideR (show (Try.prog.info? 52).map (·.size) = some ((watchF c a x wr).rl imv s).length by rw [rl_len (watchF c a x wr) imv s hfl]; kernel_rfl)
  have HIA := fun s => hideR (show (Try.prog.info? 52).map (·.size) = some ((watchF c a x wr).rl imv s).toArray.size by rw [List.size_toArray, rl_len (watchF c a x wr) imv s hfl]; kernel_rfl)
  have HZA := fun s => hideR (hzs.trans (show 136 = ((watchF c a x wr).rl imv s).toArray.size by rw [List.size_toArray, rl_len (watchF c a x wr) imv s hfl]))
  have HO := fun s (hs : s.oneCell' = true) => hideR (all_oneCell_toArray (rl_one (watchF c a x wr) (imv := imv) (shv := s) (by obtain ⟨_, _, _, e, _⟩ := h.hi; rw [e]; rfl) hs))
  have hsone : ((.slice (some ⟨sg, soff, none⟩) c.sh.length scap) : Value).oneCell' = true := by obtain ⟨_, _, _, e, _⟩ := h.hs; rw [e]; rfl
  have hb2 : Below W.heap.size W ((W.alloc (.cells (c.rl imv (.slice (some ⟨sg, soff, none⟩) c.sh.length scap)).toArray 52)).alloc (.cells zrl 52)) := ((Below.refl _ _).alloc (Nat.le_refl _) _).alloc (by simp) _
  have hB2 : ((W.alloc (.cells (c.rl imv (.slice (some ⟨sg, soff, none⟩) c.sh.length scap)).toArray 52)).alloc (.cells zrl 52)).heap[W.heap.size]? = some (.cells (c.rl imv (.slice (some ⟨sg, soff, none⟩) c.sh.length scap)).toArray 52 (0, 0)) := (heap_alloc_old _ _ (by simp)).trans (heap_alloc_new W _)
  have hR2 : ((W.alloc (.cells (c.rl imv (.slice (some ⟨sg, soff, none⟩) c.sh.length scap)).toArray 52)).alloc (.cells zrl 52)).heap[W.heap.size + 1]? = some (.cells zrl 52 (0, 0)) := by
    have := heap_alloc_new (W.alloc (.cells (c.rl imv (.slice (some ⟨sg, soff, none⟩) c.sh.length scap)).toArray 52)) (.cells zrl 52); simpa using this
  have hz2 : ((W.alloc (.cells (c.rl imv (.slice (some ⟨sg, soff, none⟩) c.sh.length scap)).toArray 52)).alloc (.cells zrl 52)).heap.size = W.heap.size + 2 := by simp
  have Hr2 := hideR (rangeL hB2)
  have HF := hideR hfin
  have Hh := hideR h
  have HG := hideR (And.intro hsl him)
  have HB2 := hideR hB2
  have HR2 := hideR hR2
  clear hfin hsl him ht hp hsh hex har hfl h hB2 hR2 hz hk
  have hz := zero_rl
  generalize (watchF c a x wr) = c' at *
  generalize c.rl imv (.slice (some ⟨sg, soff, none⟩) c.sh.length scap) = rl at *
  go_enter Try.func22, Try.ntmps22
  go_wp2_with (refine wpList_load_mid rfl _ _ rfl W.heap.size 0 rfl rl _ Hr2.out HU.out rfl HI.out ?_)
  generalize hW2 : (W.alloc (.cells rl.toArray 52)).alloc (.cells zrl 52) = W2 at *
  clear hW2
  refine (kt _).mono ?_
  rintro e w3 ⟨rfl, hb3⟩
  have hB3 := (hb3.block W.heap.size (by omega)).trans HB2.out
  have hR3 := (hb3.block (W.heap.size + 1) (by omega)).trans HR2.out
  have hz3 := hb3.size
  have hb03 := hb2.trans (hb3.mono (by omega))
  have d0 := (cellL hB3 0).trans g0
  have d5 := (cellL hB3 5).trans g5
  have d6 := (cellL hB3 6).trans g6
  have d135 := (cellL hB3 135).trans g135
  have fr135 := frozL hB3 135
  obtain ⟨i0, hi, hz0, hz1, hz2'⟩ := info_parts info_i64
  have hown0 := World.ownsRow_lit (base := w3.heap.size) (e := 3) (size := 1) w3 #[] 0 (Nat.le_refl _) (by decide) rfl
  have hb30 : Below w3.heap.size w3 (w3.alloc (.cells #[] 3)) := (Below.refl _ _).alloc (Nat.le_refl _) _
  have hLs := hideR ((Hh.out.below hb03).hs.below hb30)
  have n0 : (0 : Int) ≤ (i : Int) := by omega
  have hil' : (i : Int) < (c.sh.length : Int) := by omega
  have d6a := (hb30.cell (p := ⟨W.heap.size, 6, none⟩) (by show W.heap.size < _; omega)).trans d6
  clear kt
  go_wp2_with (at_builtin; refine wpList_append_of rfl _ _ 42 rfl w3.heap.size 3 i0 (.int .i64 0) 1 8 Try.underlying42 hi hz0 hz1 hz2' rfl (by decide) _ _ _ rfl hown0 _ _ _ rfl hLs.out (ints_one _ _) (by simp only [maxLen]; omega) (by omega) hb30.size ?_)
  intro r1 w4 hown1 hgrow1
  have hb34 : Below w3.heap.size w3 w4 := hb30.grown hgrow1 hb30.size (fun k hk => by cases hk; exact Nat.le_refl _)
  obtain ⟨g, cap, rfl, hg, hg'⟩ := hown1.form hs0
  clear hown0 hgrow1 hb30
  have hB4 := (hb34.block W.heap.size (by omega)).trans hB3
  have hR4 := (hb34.block (W.heap.size + 1) (by omega)).trans hR3
  have hz4 := hb34.size
  have hb04 := hb03.trans (hb34.mono (by omega))
  clear d0 d5 d6 d135 fr135
  have d0 := (cellL hB4 0).trans g0
  have d5 := (cellL hB4 5).trans g5
  have d6 := (cellL hB4 6).trans g6
  have d135 := (cellL hB4 135).trans g135
  have fr135 := frozL hB4 135
  have fr6 := frozL hB4 6
  have cg : w4.cell? ⟨g, i, none⟩ = some (.int .i64 (c.sh.getD i 0)) := by
    rw [hown1.cellAt i (by omega), List.getElem?_map, List.getElem?_eq_getElem hil]; simp [List.getD, hil]
  have fg := hown1.frozenAt i
  have nBg : ¬ W.heap.size = g := by omega
  have nBg' : ¬ g = W.heap.size := by omega
  have hBF : (((w4.setCell ⟨W.heap.size, 6, none⟩ (.slice (some ⟨g, 0, none⟩) c.sh.length cap)).setCell ⟨g, i, none⟩ (.int .i64 v)).setCell ⟨W.heap.size, 135, none⟩ (.bool true)).heap[W.heap.size]? = some (.cells (c'.rl imv (.slice (some ⟨g, 0, none⟩) c.sh.length cap)).toArray 52 (0, 0)) := by
    have := bsetL (bothL (bsetL hB4 6 (.slice (some ⟨g, 0, none⟩) c.sh.length cap)) i (.int .i64 v) (by omega)) 135 (.bool true)
    rw [HF.out] at this; exact this
  have HBF := hideR (rangeL hBF)
  have hRF : (((w4.setCell ⟨W.heap.size, 6, none⟩ (.slice (some ⟨g, 0, none⟩) c.sh.length cap)).setCell ⟨g, i, none⟩ (.int .i64 v)).setCell ⟨W.heap.size, 135, none⟩ (.bool true)).heap[W.heap.size + 1]? = some (.cells zrl 52 (0, 0)) := bothL (bothL (bothL hR4 6 (.slice (some ⟨g, 0, none⟩) c.sh.length cap) (by omega)) i (.int .i64 v) (by omega)) 135 (.bool true) (by omega)
  have HRF := hideR hRF
  have hbF : Below W.heap.size W (((w4.setCell ⟨W.heap.size, 6, none⟩ (.slice (some ⟨g, 0, none⟩) c.sh.length cap)).setCell ⟨g, i, none⟩ (.int .i64 v)).setCell ⟨W.heap.size, 135, none⟩ (.bool true)) := ((hb04.setCell (Nat.le_refl _) _).setCell (by show W.heap.size ≤ g; omega) _).setCell (Nat.le_refl _) _
  have HbF := hideR hbF
  have hst := (ownsRow_moved hown1 (heap_setCell_other w4 ⟨W.heap.size, 6, none⟩ g (.slice (some ⟨g, 0, none⟩) c.sh.length cap) nBg')).stored i (.int .i64 v)
  have hst2 := ownsRow_moved (W' := (((w4.setCell ⟨W.heap.size, 6, none⟩ (.slice (some ⟨g, 0, none⟩) c.sh.length cap)).setCell ⟨g, i, none⟩ (.int .i64 v)).setCell ⟨W.heap.size, 135, none⟩ (.bool true))) hst.1 (heap_setCell_other _ ⟨W.heap.size, 135, none⟩ g _ nBg')
  have HST := hideR hst2
  clear hBF hRF hB3 hR3 hB4 hR4 hbF hst hst2 hown1
  go_upto_region 9 with (fail)
  go_wp2_with (first | (refine wpList_load_mid rfl 52 _ rfl W.heap.size 0 rfl (c'.rl imv (.slice (some ⟨g, 0, none⟩) c.sh.length cap)) _ HBF.out HU.out rfl (HI2 _).out ?_) | (refine wpList_store_row rfl 52 _ _ rfl (W.heap.size + 1) (c'.rl imv (.slice (some ⟨g, 0, none⟩) c.sh.length cap)).toArray rfl rfl _ zrl HRF.out (HIA _).out (HZA _).out (HO _ rfl).out ?_))
  refine bodyPost_ret (results_cell_row rfl _ _ (W.heap.size + 1) 52 (c'.rl imv (.slice (some ⟨g, 0, none⟩) c.sh.length cap)).toArray (0, 0) _ (by kernel_rfl) (setRow_heap _ _ zrl _ _ _ HRF.out) HU.out rfl (HIA _).out) rfl ?_
  have hbG := below_setRow HbF.out (show W.heap.size ≤ W.heap.size + 1 by omega) (c'.rl imv (.slice (some ⟨g, 0, none⟩) c.sh.length cap)).toArray
  refine ⟨_, rfl, ⟨?_, ?_⟩, hbG, .inr ⟨g, 0, _, _, rfl, by omega⟩⟩
  · rw [HG.out.2]; exact (Hh.out.below hbG).hi
  · rw [HG.out.1, List.length_set]
    have := Lies.of_owns (ownsRow_moved (W' := World.setRow _ (W.heap.size + 1) (c'.rl imv (.slice (some ⟨g, 0, none⟩) c.sh.length cap)).toArray) HST.out (setRow_other _ _ _ _ (by omega)))
    simpa [List.map_set] using this
set_option maxRecDepth 1000000 in
set_option maxHeartbeats 2000000 in
theorem rw_some_k10n_r0 (W : World) (c : Ct) (imv shv : Value) (h : RefAt W c imv shv) (hF : Fine c) (a x : Int) (wr : Bool) (a0 : 0 ≤ a) (a1 : a ≤ 65535) (x0 : 0 ≤ x) (x1 : x ≤ 255) (i : Nat) (v : Int) (ht : turnF c a x wr = some (i, v)) (hr : c.ram = false) (hk : c.k = 10) (hM : ¬ a % 8192 = 510) :
    Calls Try.prog 22 #[.agg (c.rl imv shv).toArray, .int .i64 a, .int .i64 x, .bool wr] W (RWPost W imv shv (watchF c a x wr)) := by
  obtain ⟨sg, soff, scap, rfl, _, _⟩ := lies_row h.hs rfl (fine_pos c hF).2.1
  have kt := fun w => rturned_any w c imv (.slice (some ⟨sg, soff, none⟩) c.sh.length scap) hF a x wr a0 a1 x0 x1
  have hrl := rl_len c imv (.slice (some ⟨sg, soff, none⟩) c.sh.length scap) hF.ex
  have hp : turnP c a x wr = ((i : Int), v) := by unfold turnP; rw [ht]
  have hsh : shF c a x wr = c.sh.set i v := by unfold shF; rw [ht]
  rw [hp] at kt
  obtain ⟨v0, v1, hil⟩ := turn_in c hF a x wr x0 i v ht
  have e1 : c.tag.toList = [70, 69] := Img.toList_of c.tag 10 (by omega) hk
  have e2 : (a % 8192 == 510) = false := beq_false_of_ne hM
  have har : armF c a = false := by unfold armF; rw [if_pos hk, decide_eq_false hM]
  have hex : exF c a x = c.ex := by unfold exF; rw [if_neg]; rintro ⟨q1, q2, q3⟩; rw [hr] at q1; cases q1
  have hfin : ∀ s', (((c.rl imv (.slice (some ⟨sg, soff, none⟩) c.sh.length scap)).set 6 s').set 135 (.bool false)) = (watchF c a x wr).rl imv s' := by
    intro s'
    rw [rl_sh c imv (.slice (some ⟨sg, soff, none⟩) c.sh.length scap) s' (shF c a x wr)]
    rw [rl_setArmed ({ c with sh := shF c a x wr } : Ct) imv s' false (by show List.length _ = 128; exact hF.ex)]
    unfold watchF; rw [hex, har]
  have g0 : (c.rl imv (.slice (some ⟨sg, soff, none⟩) c.sh.length scap))[0]? = some (.string c.tag) := rfl
  have g5 : (c.rl imv (.slice (some ⟨sg, soff, none⟩) c.sh.length scap))[5]? = some (.bool c.ram) := rfl
  have g6 : (c.rl imv (.slice (some ⟨sg, soff, none⟩) c.sh.length scap))[6]? = some (.slice (some ⟨sg, soff, none⟩) c.sh.length scap) := rfl
  have g135 := rl_armed c imv (.slice (some ⟨sg, soff, none⟩) c.sh.length scap) hF.ex
  rw [hr] at g5
  have hz := zero_rl
  have hzs := zrl_size
  have hfl : (watchF c a x wr).ex.length = 128 := (watch_fine c hF a x wr x0).ex
  have hsl : (watchF c a x wr).sh = c.sh.set i v := hsh
  have him : (watchF c a x wr).im = c.im := rfl
  obtain ⟨him0, hs0, hs4⟩ := fine_pos c hF
  unfold RWPost
  have HU := hideR Try.underlying52
  have HI := hideR (show (Try.prog.info? 52).map (·.size) = some (c.rl imv (.slice (some ⟨sg, soff, none⟩) c.sh.length scap)).length by rw [hrl]; kernel_rfl)
  have HI2 := fun s => hideR (show (Try.prog.info? 52).map (·.size) = some ((watchF c a x wr).rl imv s).length by rw [rl_len (watchF c a x wr) imv s hfl]; kernel_rfl)
  have HIA := fun s => hideR (show (Try.prog.info? 52).map (·.size) = some ((watchF c a x wr).rl imv s).toArray.size by rw [List.size_toArray, rl_len (watchF c a x wr) imv s hfl]; kernel_rfl)
  have HZA := fun s => hideR (hzs.trans (show 136 = ((watchF c a x wr).rl imv s).toArray.size by rw [List.size_toArray, rl_len (watchF c a x wr) imv s hfl]))
  have HO := fun s (hs : s.oneCell' = true) => hideR (all_oneCell_toArray (rl_one (watchF c a x wr) (imv := imv) (shv := s) (by obtain ⟨_, _, _, e, _⟩ := h.hi; rw [e]; rfl) hs))
  have hsone : ((.slice (some ⟨sg, soff, none⟩) c.sh.length scap) : Value).oneCell' = true := by obtain ⟨_, _, _, e, _⟩ := h.hs; rw [e]; rfl
  have hb2 : Below W.heap.size W ((W.alloc (.cells (c.rl imv (.slice (some ⟨sg, soff, none⟩) c.sh.length scap)).toArray 52)).alloc (.cells zrl 52)) := ((Below.refl _ _).alloc (Nat.le_refl _) _).alloc (by simp) _
  have hB2 : ((W.alloc (.cells (c.rl imv (.slice (some ⟨sg, soff, none⟩) c.sh.length scap)).toArray 52)).alloc (.cells zrl 52)).heap[W.heap.size]? = some (.cells (c.rl imv (.slice (some ⟨sg, soff, none⟩) c.sh.length scap)).toArray 52 (0, 0)) := (heap_alloc_old _ _ (by simp)).trans (heap_alloc_new W _)
  have hR2 : ((W.alloc (.cells (c.rl imv (.slice (some ⟨sg, soff, none⟩) c.sh.length scap)).toArray 52)).alloc (.cells zrl 52)).heap[W.heap.size + 1]? = some (.cells zrl 52 (0, 0)) := by
    have := heap_alloc_new (W.alloc (.cells (c.rl imv (.slice (some ⟨sg, soff, none⟩) c.sh.length scap)).toArray 52)) (.cells zrl 52); simpa using this
  have hz2 : ((W.alloc (.cells (c.rl imv (.slice (some ⟨sg, soff, none⟩) c.sh.length scap)).toArray 52)).alloc (.cells zrl 52)).heap.size = W.heap.size + 2 := by simp
  have Hr2 := hideR (rangeL hB2)
  have HF := hideR hfin
  have Hh := hideR h
  have HG := hideR (And.intro hsl him)
  have HB2 := hideR hB2
  have HR2 := hideR hR2
  clear hfin hsl him ht hp hsh hex har hfl h hB2 hR2 hz hk
  have hz := zero_rl
  generalize (watchF c a x wr) = c' at *
  generalize c.rl imv (.slice (some ⟨sg, soff, none⟩) c.sh.length scap) = rl at *
  go_enter Try.func22, Try.ntmps22
  go_wp2_with (refine wpList_load_mid rfl _ _ rfl W.heap.size 0 rfl rl _ Hr2.out HU.out rfl HI.out ?_)
  generalize hW2 : (W.alloc (.cells rl.toArray 52)).alloc (.cells zrl 52) = W2 at *
  clear hW2
  refine (kt _).mono ?_
  rintro e w3 ⟨rfl, hb3⟩
  have hB3 := (hb3.block W.heap.size (by omega)).trans HB2.out
  have hR3 := (hb3.block (W.heap.size + 1) (by omega)).trans HR2.out
  have hz3 := hb3.size
  have hb03 := hb2.trans (hb3.mono (by omega))
  have d0 := (cellL hB3 0).trans g0
  have d5 := (cellL hB3 5).trans g5
  have d6 := (cellL hB3 6).trans g6
  have d135 := (cellL hB3 135).trans g135
  have fr135 := frozL hB3 135
  obtain ⟨i0, hi, hz0, hz1, hz2'⟩ := info_parts info_i64
  have hown0 := World.ownsRow_lit (base := w3.heap.size) (e := 3) (size := 1) w3 #[] 0 (Nat.le_refl _) (by decide) rfl
  have hb30 : Below w3.heap.size w3 (w3.alloc (.cells #[] 3)) := (Below.refl _ _).alloc (Nat.le_refl _) _
  have hLs := hideR ((Hh.out.below hb03).hs.below hb30)
  have n0 : (0 : Int) ≤ (i : Int) := by omega
  have hil' : (i : Int) < (c.sh.length : Int) := by omega
  have d6a := (hb30.cell (p := ⟨W.heap.size, 6, none⟩) (by show W.heap.size < _; omega)).trans d6
  clear kt
  go_wp2_with (at_builtin; refine wpList_append_of rfl _ _ 42 rfl w3.heap.size 3 i0 (.int .i64 0) 1 8 Try.underlying42 hi hz0 hz1 hz2' rfl (by decide) _ _ _ rfl hown0 _ _ _ rfl hLs.out (ints_one _ _) (by simp only [maxLen]; omega) (by omega) hb30.size ?_)
  intro r1 w4 hown1 hgrow1
  have hb34 : Below w3.heap.size w3 w4 := hb30.grown hgrow1 hb30.size (fun k hk => by cases hk; exact Nat.le_refl _)
  obtain ⟨g, cap, rfl, hg, hg'⟩ := hown1.form hs0
  clear hown0 hgrow1 hb30
  have hB4 := (hb34.block W.heap.size (by omega)).trans hB3
  have hR4 := (hb34.block (W.heap.size + 1) (by omega)).trans hR3
  have hz4 := hb34.size
  have hb04 := hb03.trans (hb34.mono (by omega))
  clear d0 d5 d6 d135 fr135
  have d0 := (cellL hB4 0).trans g0
  have d5 := (cellL hB4 5).trans g5
  have d6 := (cellL hB4 6).trans g6
  have d135 := (cellL hB4 135).trans g135
  have fr135 := frozL hB4 135
  have fr6 := frozL hB4 6
  have cg : w4.cell? ⟨g, i, none⟩ = some (.int .i64 (c.sh.getD i 0)) := by
    rw [hown1.cellAt i (by omega), List.getElem?_map, List.getElem?_eq_getElem hil]; simp [List.getD, hil]
  have fg := hown1.frozenAt i
  have nBg : ¬ W.heap.size = g := by omega
  have nBg' : ¬ g = W.heap.size := by omega
  have hBF : (((w4.setCell ⟨W.heap.size, 6, none⟩ (.slice (some ⟨g, 0, none⟩) c.sh.length cap)).setCell ⟨g, i, none⟩ (.int .i64 v)).setCell ⟨W.heap.size, 135, none⟩ (.bool false)).heap[W.heap.size]? = some (.cells (c'.rl imv (.slice (some ⟨g, 0, none⟩) c.sh.length cap)).toArray 52 (0, 0)) := by
    have := bsetL (bothL (bsetL hB4 6 (.slice (some ⟨g, 0, none⟩) c.sh.length cap)) i (.int .i64 v) (by omega)) 135 (.bool false)
    rw [HF.out] at this; exact this
  have HBF := hideR (rangeL hBF)
  have hRF : (((w4.setCell ⟨W.heap.size, 6, none⟩ (.slice (some ⟨g, 0, none⟩) c.sh.length cap)).setCell ⟨g, i, none⟩ (.int .i64 v)).setCell ⟨W.heap.size, 135, none⟩ (.bool false)).heap[W.heap.size + 1]? = some (.cells zrl 52 (0, 0)) := bothL (bothL (bothL hR4 6 (.slice (some ⟨g, 0, none⟩) c.sh.length cap) (by omega)) i (.int .i64 v) (by omega)) 135 (.bool false) (by omega)
  have HRF := hideR hRF
  have hbF : Below W.heap.size W (((w4.setCell ⟨W.heap.size, 6, none⟩ (.slice (some ⟨g, 0, none⟩) c.sh.length cap)).setCell ⟨g, i, none⟩ (.int .i64 v)).setCell ⟨W.heap.size, 135, none⟩ (.bool false)) := ((hb04.setCell (Nat.le_refl _) _).setCell (by show W.heap.size ≤ g; omega) _).setCell (Nat.le_refl _) _
  have HbF := hideR hbF
  have hst := (ownsRow_moved hown1 (heap_setCell_other w4 ⟨W.heap.size, 6, none⟩ g (.slice (some ⟨g, 0, none⟩) c.sh.length cap) nBg')).stored i (.int .i64 v)
  have hst2 := ownsRow_moved (W' := (((w4.setCell ⟨W.heap.size, 6, none⟩ (.slice (some ⟨g, 0, none⟩) c.sh.length cap)).setCell ⟨g, i, none⟩ (.int .i64 v)).setCell ⟨W.heap.size, 135, none⟩ (.bool false))) hst.1 (heap_setCell_other _ ⟨W.heap.size, 135, none⟩ g _ nBg')
  have HST := hideR hst2
  clear hBF hRF hB3 hR3 hB4 hR4 hbF hst hst2 hown1
  go_upto_region 9 with (fail)
  go_wp2_with (first | (refine wpList_load_mid rfl 52 _ rfl W.heap.size 0 rfl (c'.rl imv (.slice (some ⟨g, 0, none⟩) c.sh.length cap)) _ HBF.out HU.out rfl (HI2 _).out ?_) | (refine wpList_store_row rfl 52 _ _ rfl (W.heap.size + 1) (c'.rl imv (.slice (some ⟨g, 0, none⟩) c.sh.length cap)).toArray rfl rfl _ zrl HRF.out (HIA _).out (HZA _).out (HO _ rfl).out ?_))
  refine bodyPost_ret (results_cell_row rfl _ _ (W.heap.size + 1) 52 (c'.rl imv (.slice (some ⟨g, 0, none⟩) c.sh.length cap)).toArray (0, 0) _ (by kernel_rfl) (setRow_heap _ _ zrl _ _ _ HRF.out) HU.out rfl (HIA _).out) rfl ?_
  have hbG := below_setRow HbF.out (show W.heap.size ≤ W.heap.size + 1 by omega) (c'.rl imv (.slice (some ⟨g, 0, none⟩) c.sh.length cap)).toArray
  refine ⟨_, rfl, ⟨?_, ?_⟩, hbG, .inr ⟨g, 0, _, _, rfl, by omega⟩⟩
  · rw [HG.out.2]; exact (Hh.out.below hbG).hi
  · rw [HG.out.1, List.length_set]
    have := Lies.of_owns (ownsRow_moved (W' := World.setRow _ (W.heap.size + 1) (c'.rl imv (.slice (some ⟨g, 0, none⟩) c.sh.length cap)).toArray) HST.out (setRow_other _ _ _ _ (by omega)))
    simpa [List.map_set] using this
set_option maxRecDepth 1000000 in
set_option maxHeartbeats 2000000 in
theorem rw_some_kno_r0 (W : World) (c : Ct) (imv shv : Value) (h : RefAt W c imv shv) (hF : Fine c) (a x : Int) (wr : Bool) (a0 : 0 ≤ a) (a1 : a ≤ 65535) (x0 : 0 ≤ x) (x1 : x ≤ 255) (i : Nat) (v : Int) (ht : turnF c a x wr = some (i, v)) (hr : c.ram = false) (hk : ¬ c.k = 10) (ha : c.armed = false) :
    Calls Try.prog 22 #[.agg (c.rl imv shv).toArray, .int .i64 a, .int .i64 x, .bool wr] W (RWPost W imv shv (watchF c a x wr)) := by
  obtain ⟨sg, soff, scap, rfl, _, _⟩ := lies_row h.hs rfl (fine_pos c hF).2.1
  have kt := fun w => rturned_any w c imv (.slice (some ⟨sg, soff, none⟩) c.sh.length scap) hF a x wr a0 a1 x0 x1
  have hrl := rl_len c imv (.slice (some ⟨sg, soff, none⟩) c.sh.length scap) hF.ex
  have hp : turnP c a x wr = ((i : Int), v) := by unfold turnP; rw [ht]
  have hsh : shF c a x wr = c.sh.set i v := by unfold shF; rw [ht]
  rw [hp] at kt
  obtain ⟨v0, v1, hil⟩ := turn_in c hF a x wr x0 i v ht
  have e1 : ([70, 69] == c.tag.toList) = false := idx10 c hk
  have e1' : (c.tag.toList == [70, 69]) = false := by rw [beq_eq_false_iff_ne] at e1 ⊢; exact fun h => e1 h.symm
  have har : armF c a = false := by unfold armF; rw [if_neg hk, ha]
  have hex : exF c a x = c.ex := by unfold exF; rw [if_neg]; rintro ⟨q1, q2, q3⟩; rw [hr] at q1; cases q1
  have hfin : ∀ s', (((c.rl imv (.slice (some ⟨sg, soff, none⟩) c.sh.length scap)).set 6 s').set 135 (.bool false)) = (watchF c a x wr).rl imv s' := by
    intro s'
    rw [rl_sh c imv (.slice (some ⟨sg, soff, none⟩) c.sh.length scap) s' (shF c a x wr)]
    rw [rl_setArmed ({ c with sh := shF c a x wr } : Ct) imv s' false (by show List.length _ = 128; exact hF.ex)]
    unfold watchF; rw [hex, har]
  have g0 : (c.rl imv (.slice (some ⟨sg, soff, none⟩) c.sh.length scap))[0]? = some (.string c.tag) := rfl
  have g5 : (c.rl imv (.slice (some ⟨sg, soff, none⟩) c.sh.length scap))[5]? = some (.bool c.ram) := rfl
  have g6 : (c.rl imv (.slice (some ⟨sg, soff, none⟩) c.sh.length scap))[6]? = some (.slice (some ⟨sg, soff, none⟩) c.sh.length scap) := rfl
  have g135 := rl_armed c imv (.slice (some ⟨sg, soff, none⟩) c.sh.length scap) hF.ex
  rw [hr] at g5
  have hz := zero_rl
  have hzs := zrl_size
  have hfl : (watchF c a x wr).ex.length = 128 := (watch_fine c hF a x wr x0).ex
  have hsl : (watchF c a x wr).sh = c.sh.set i v := hsh
  have him : (watchF c a x wr).im = c.im := rfl
  obtain ⟨him0, hs0, hs4⟩ := fine_pos c hF
  unfold RWPost
  have HU := hideR Try.underlying52
  have HI := hideR (show (Try.prog.info? 52).map (·.size) = some (c.rl imv (.slice (some ⟨sg, soff, none⟩) c.sh.length scap)).length by rw [hrl]; kernel_rfl)
  have HI2 := fun s => hideR (show (Try.prog.info? 52).map (·.size) = some ((watchF c a x wr).rl imv s).length by rw [rl_len (watchF c a x wr) imv s hfl]; kernel_rfl)
  have HIA := fun s => hideR (show (Try.prog.info? 52).map (·.size) = some ((watchF c a x wr).rl imv s).toArray.size by rw [List.size_toArray, rl_len (watchF c a x wr) imv s hfl]; kernel_rfl)
  have HZA := fun s => hideR (hzs.trans (show 136 = ((watchF c a x wr).rl imv s).toArray.size by rw [List.size_toArray, rl_len (watchF c a x wr) imv s hfl]))
  have HO := fun s (hs : s.oneCell' = true) => hideR (all_oneCell_toArray (rl_one (watchF c a x wr) (imv := imv) (shv := s) (by obtain ⟨_, _, _, e, _⟩ := h.hi; rw [e]; rfl) hs))
  have hsone : ((.slice (some ⟨sg, soff, none⟩) c.sh.length scap) : Value).oneCell' = true := by obtain ⟨_, _, _, e, _⟩ := h.hs; rw [e]; rfl
  have hb2 : Below W.heap.size W ((W.alloc (.cells (c.rl imv (.slice (some ⟨sg, soff, none⟩) c.sh.length scap)).toArray 52)).alloc (.cells zrl 52)) := ((Below.refl _ _).alloc (Nat.le_refl _) _).alloc (by simp) _
  have hB2 : ((W.alloc (.cells (c.rl imv (.slice (some ⟨sg, soff, none⟩) c.sh.length scap)).toArray 52)).alloc (.cells zrl 52)).heap[W.heap.size]? = some (.cells (c.rl imv (.slice (some ⟨sg, soff, none⟩) c.sh.length scap)).toArray 52 (0, 0)) := (heap_alloc_old _ _ (by simp)).trans (heap_alloc_new W _)
  have hR2 : ((W.alloc (.cells (c.rl imv (.slice (some ⟨sg, soff, none⟩) c.sh.length scap)).toArray 52)).alloc (.cells zrl 52)).heap[W.heap.size + 1]? = some (.cells zrl 52 (0, 0)) := by
    have := heap_alloc_new (W.alloc (.cells (c.rl imv (.slice (some ⟨sg, soff, none⟩) c.sh.length scap)).toArray 52)) (.cells zrl 52); simpa using this
  have hz2 : ((W.alloc (.cells (c.rl imv (.slice (some ⟨sg, soff, none⟩) c.sh.length scap)).toArray 52)).alloc (.cells zrl 52)).heap.size = W.heap.size + 2 := by simp
  have Hr2 := hideR (rangeL hB2)
  have HF := hideR hfin
  have Hh := hideR h
  have HG := hideR (And.intro hsl him)
  have HB2 := hideR hB2
  have HR2 := hideR hR2
  clear hfin hsl him ht hp hsh hex har hfl h hB2 hR2 hz hk ha
  have hz := zero_rl
  generalize (watchF c a x wr) = c' at *
  generalize c.rl imv (.slice (some ⟨sg, soff, none⟩) c.sh.length scap) = rl at *
  go_enter Try.func22, Try.ntmps22
  go_wp2_with (refine wpList_load_mid rfl _ _ rfl W.heap.size 0 rfl rl _ Hr2.out HU.out rfl HI.out ?_)
  generalize hW2 : (W.alloc (.cells rl.toArray 52)).alloc (.cells zrl 52) = W2 at *
  clear hW2
  refine (kt _).mono ?_
  rintro e w3 ⟨rfl, hb3⟩
  have hB3 := (hb3.block W.heap.size (by omega)).trans HB2.out
  have hR3 := (hb3.block (W.heap.size + 1) (by omega)).trans HR2.out
  have hz3 := hb3.size
  have hb03 := hb2.trans (hb3.mono (by omega))
  have d0 := (cellL hB3 0).trans g0
  have d5 := (cellL hB3 5).trans g5
  have d6 := (cellL hB3 6).trans g6
  have d135 := (cellL hB3 135).trans g135
  have fr135 := frozL hB3 135
  obtain ⟨i0, hi, hz0, hz1, hz2'⟩ := info_parts info_i64
  have hown0 := World.ownsRow_lit (base := w3.heap.size) (e := 3) (size := 1) w3 #[] 0 (Nat.le_refl _) (by decide) rfl
  have hb30 : Below w3.heap.size w3 (w3.alloc (.cells #[] 3)) := (Below.refl _ _).alloc (Nat.le_refl _) _
  have hLs := hideR ((Hh.out.below hb03).hs.below hb30)
  have n0 : (0 : Int) ≤ (i : Int) := by omega
  have hil' : (i : Int) < (c.sh.length : Int) := by omega
  have d6a := (hb30.cell (p := ⟨W.heap.size, 6, none⟩) (by show W.heap.size < _; omega)).trans d6
  clear kt
  go_wp2_with (at_builtin; refine wpList_append_of rfl _ _ 42 rfl w3.heap.size 3 i0 (.int .i64 0) 1 8 Try.underlying42 hi hz0 hz1 hz2' rfl (by decide) _ _ _ rfl hown0 _ _ _ rfl hLs.out (ints_one _ _) (by simp only [maxLen]; omega) (by omega) hb30.size ?_)
  intro r1 w4 hown1 hgrow1
  have hb34 : Below w3.heap.size w3 w4 := hb30.grown hgrow1 hb30.size (fun k hk => by cases hk; exact Nat.le_refl _)
  obtain ⟨g, cap, rfl, hg, hg'⟩ := hown1.form hs0
  clear hown0 hgrow1 hb30
  have hB4 := (hb34.block W.heap.size (by omega)).trans hB3
  have hR4 := (hb34.block (W.heap.size + 1) (by omega)).trans hR3
  have hz4 := hb34.size
  have hb04 := hb03.trans (hb34.mono (by omega))
  clear d0 d5 d6 d135 fr135
  have d0 := (cellL hB4 0).trans g0
  have d5 := (cellL hB4 5).trans g5
  have d6 := (cellL hB4 6).trans g6
  have d135 := (cellL hB4 135).trans g135
  have fr135 := frozL hB4 135
  have fr6 := frozL hB4 6
  have cg : w4.cell? ⟨g, i, none⟩ = some (.int .i64 (c.sh.getD i 0)) := by
    rw [hown1.cellAt i (by omega), List.getElem?_map, List.getElem?_eq_getElem hil]; simp [List.getD, hil]
  have fg := hown1.frozenAt i
  have nBg : ¬ W.heap.size = g := by omega
  have nBg' : ¬ g = W.heap.size := by omega
  have hBF : (((w4.setCell ⟨W.heap.size, 6, none⟩ (.slice (some ⟨g, 0, none⟩) c.sh.length cap)).setCell ⟨g, i, none⟩ (.int .i64 v)).setCell ⟨W.heap.size, 135, none⟩ (.bool false)).heap[W.heap.size]? = some (.cells (c'.rl imv (.slice (some ⟨g, 0, none⟩) c.sh.length cap)).toArray 52 (0, 0)) := by
    have := bsetL (bothL (bsetL hB4 6 (.slice (some ⟨g, 0, none⟩) c.sh.length cap)) i (.int .i64 v) (by omega)) 135 (.bool false)
    rw [HF.out] at this; exact this
  have HBF := hideR (rangeL hBF)
  have hRF : (((w4.setCell ⟨W.heap.size, 6, none⟩ (.slice (some ⟨g, 0, none⟩) c.sh.length cap)).setCell ⟨g, i, none⟩ (.int .i64 v)).setCell ⟨W.heap.size, 135, none⟩ (.bool false)).heap[W.heap.size + 1]? = some (.cells zrl 52 (0, 0)) := bothL (bothL (bothL hR4 6 (.slice (some ⟨g, 0, none⟩) c.sh.length cap) (by omega)) i (.int .i64 v) (by omega)) 135 (.bool false) (by omega)
  have HRF := hideR hRF
  have hbF : Below W.heap.size W (((w4.setCell ⟨W.heap.size, 6, none⟩ (.slice (some ⟨g, 0, none⟩) c.sh.length cap)).setCell ⟨g, i, none⟩ (.int .i64 v)).setCell ⟨W.heap.size, 135, none⟩ (.bool false)) := ((hb04.setCell (Nat.le_refl _) _).setCell (by show W.heap.size ≤ g; omega) _).setCell (Nat.le_refl _) _
  have HbF := hideR hbF
  have hst := (ownsRow_moved hown1 (heap_setCell_other w4 ⟨W.heap.size, 6, none⟩ g (.slice (some ⟨g, 0, none⟩) c.sh.length cap) nBg')).stored i (.int .i64 v)
  have hst2 := ownsRow_moved (W' := (((w4.setCell ⟨W.heap.size, 6, none⟩ (.slice (some ⟨g, 0, none⟩) c.sh.length cap)).setCell ⟨g, i, none⟩ (.int .i64 v)).setCell ⟨W.heap.size, 135, none⟩ (.bool false))) hst.1 (heap_setCell_other _ ⟨W.heap.size, 135, none⟩ g _ nBg')
  have HST := hideR hst2
  clear hBF hRF hB3 hR3 hB4 hR4 hbF hst hst2 hown1
  go_upto_region 9 with (fail)
  go_wp2_with (first | (refine wpList_load_mid rfl 52 _ rfl W.heap.size 0 rfl (c'.rl imv (.slice (some ⟨g, 0, none⟩) c.sh.length cap)) _ HBF.out HU.out rfl (HI2 _).out ?_) | (refine wpList_store_row rfl 52 _ _ rfl (W.heap.size + 1) (c'.rl imv (.slice (some ⟨g, 0, none⟩) c.sh.length cap)).toArray rfl rfl _ zrl HRF.out (HIA _).out (HZA _).out (HO _ rfl).out ?_))
  refine bodyPost_ret (results_cell_row rfl _ _ (W.heap.size + 1) 52 (c'.rl imv (.slice (some ⟨g, 0, none⟩) c.sh.length cap)).toArray (0, 0) _ (by kernel_rfl) (setRow_heap _ _ zrl _ _ _ HRF.out) HU.out rfl (HIA _).out) rfl ?_
  have hbG := below_setRow HbF.out (show W.heap.size ≤ W.heap.size + 1 by omega) (c'.rl imv (.slice (some ⟨g, 0, none⟩) c.sh.length cap)).toArray
  refine ⟨_, rfl, ⟨?_, ?_⟩, hbG, .inr ⟨g, 0, _, _, rfl, by omega⟩⟩
  · rw [HG.out.2]; exact (Hh.out.below hbG).hi
  · rw [HG.out.1, List.length_set]
    have := Lies.of_owns (ownsRow_moved (W' := World.setRow _ (W.heap.size + 1) (c'.rl imv (.slice (some ⟨g, 0, none⟩) c.sh.length cap)).toArray) HST.out (setRow_other _ _ _ _ (by omega)))
    simpa [List.map_set] using this
set_option maxRecDepth 1000000 in
set_option maxHeartbeats 2000000 in
theorem rw_some_kno_r1 (W : World) (c : Ct) (imv shv : Value) (h : RefAt W c imv shv) (hF : Fine c) (a x : Int) (wr : Bool) (a0 : 0 ≤ a) (a1 : a ≤ 65535) (x0 : 0 ≤ x) (x1 : x ≤ 255) (i : Nat) (v : Int) (ht : turnF c a x wr = some (i, v)) (hr : c.ram = true) (y1 : a % 8192 < 4096) (hk : ¬ c.k = 10) (ha : c.armed = false) :
    Calls Try.prog 22 #[.agg (c.rl imv shv).toArray, .int .i64 a, .int .i64 x, .bool wr] W (RWPost W imv shv (watchF c a x wr)) := by
  obtain ⟨sg, soff, scap, rfl, _, _⟩ := lies_row h.hs rfl (fine_pos c hF).2.1
  have kt := fun w => rturned_any w c imv (.slice (some ⟨sg, soff, none⟩) c.sh.length scap) hF a x wr a0 a1 x0 x1
  have hrl := rl_len c imv (.slice (some ⟨sg, soff, none⟩) c.sh.length scap) hF.ex
  have hp : turnP c a x wr = ((i : Int), v) := by unfold turnP; rw [ht]
  have hsh : shF c a x wr = c.sh.set i v := by unfold shF; rw [ht]
  rw [hp] at kt
  obtain ⟨v0, v1, hil⟩ := turn_in c hF a x wr x0 i v ht
  have e1 : ([70, 69] == c.tag.toList) = false := idx10 c hk
  have e1' : (c.tag.toList == [70, 69]) = false := by rw [beq_eq_false_iff_ne] at e1 ⊢; exact fun h => e1 h.symm
  have har : armF c a = false := by unfold armF; rw [if_neg hk, ha]
  have hex : exF c a x = c.ex := by unfold exF; rw [if_neg]; rintro ⟨q1, q2, q3⟩; omega
  have n1 : ¬ 4096 ≤ a % 8192 := by omega
  have hfin : ∀ s', (((c.rl imv (.slice (some ⟨sg, soff, none⟩) c.sh.length scap)).set 6 s').set 135 (.bool false)) = (watchF c a x wr).rl imv s' := by
    intro s'
    rw [rl_sh c imv (.slice (some ⟨sg, soff, none⟩) c.sh.length scap) s' (shF c a x wr)]
    rw [rl_setArmed ({ c with sh := shF c a x wr } : Ct) imv s' false (by show List.length _ = 128; exact hF.ex)]
    unfold watchF; rw [hex, har]
  have g0 : (c.rl imv (.slice (some ⟨sg, soff, none⟩) c.sh.length scap))[0]? = some (.string c.tag) := rfl
  have g5 : (c.rl imv (.slice (some ⟨sg, soff, none⟩) c.sh.length scap))[5]? = some (.bool c.ram) := rfl
  have g6 : (c.rl imv (.slice (some ⟨sg, soff, none⟩) c.sh.length scap))[6]? = some (.slice (some ⟨sg, soff, none⟩) c.sh.length scap) := rfl
  have g135 := rl_armed c imv (.slice (some ⟨sg, soff, none⟩) c.sh.length scap) hF.ex
  rw [hr] at g5
  have hz := zero_rl
  have hzs := zrl_size
  have hfl : (watchF c a x wr).ex.length = 128 := (watch_fine c hF a x wr x0).ex
  have hsl : (watchF c a x wr).sh = c.sh.set i v := hsh
  have him : (watchF c a x wr).im = c.im := rfl
  obtain ⟨him0, hs0, hs4⟩ := fine_pos c hF
  unfold RWPost
  have HU := hideR Try.underlying52
  have HI := hideR (show (Try.prog.info? 52).map (·.size) = some (c.rl imv (.slice (some ⟨sg, soff, none⟩) c.sh.length scap)).length by rw [hrl]; kernel_rfl)
  have HI2 := fun s => hideR (show (Try.prog.info? 52).map (·.size) = some ((watchF c a x wr).rl imv s).length by rw [rl_len (watchF c a x wr) imv s hfl]; kernel_rfl)
  have HIA := fun s => hideR (show (Try.prog.info? 52).map (·.size) = some ((watchF c a x wr).rl imv s).toArray.size by rw [List.size_toArray, rl_len (watchF c a x wr) imv s hfl]; kernel_rfl)
  have HZA := fun s => hideR (hzs.trans (show 136 = ((watchF c a x wr).rl imv s).toArray.size by rw [List.size_toArray, rl_len (watchF c a x wr) imv s hfl]))
  have HO := fun s (hs : s.oneCell' = true) => hideR (all_oneCell_toArray (rl_one (watchF c a x wr) (imv := imv) (shv := s) (by obtain ⟨_, _, _, e, _⟩ := h.hi; rw [e]; rfl) hs))
  have hsone : ((.slice (some ⟨sg, soff, none⟩) c.sh.length scap) : Value).oneCell' = true := by obtain ⟨_, _, _, e, _⟩ := h.hs; rw [e]; rfl
  have hb2 : Below W.heap.size W ((W.alloc (.cells (c.rl imv (.slice (some ⟨sg, soff, none⟩) c.sh.length scap)).toArray 52)).alloc (.cells zrl 52)) := ((Below.refl _ _).alloc (Nat.le_refl _) _).alloc (by simp) _
  have hB2 : ((W.alloc (.cells (c.rl imv (.slice (some ⟨sg, soff, none⟩) c.sh.length scap)).toArray 52)).alloc (.cells zrl 52)).heap[W.heap.size]? = some (.cells (c.rl imv (.slice (some ⟨sg, soff, none⟩) c.sh.length scap)).toArray 52 (0, 0)) := (heap_alloc_old _ _ (by simp)).trans (heap_alloc_new W _)
  have hR2 : ((W.alloc (.cells (c.rl imv (.slice (some ⟨sg, soff, none⟩) c.sh.length scap)).toArray 52)).alloc (.cells zrl 52)).heap[W.heap.size + 1]? = some (.cells zrl 52 (0, 0)) := by
    have := heap_alloc_new (W.alloc (.cells (c.rl imv (.slice (some ⟨sg, soff, none⟩) c.sh.length scap)).toArray 52)) (.cells zrl 52); simpa using this
  have hz2 : ((W.alloc (.cells (c.rl imv (.slice (some ⟨sg, soff, none⟩) c.sh.length scap)).toArray 52)).alloc (.cells zrl 52)).heap.size = W.heap.size + 2 := by simp
  have Hr2 := hideR (rangeL hB2)
  have HF := hideR hfin
  have Hh := hideR h
  have HG := hideR (And.intro hsl him)
  have HB2 := hideR hB2
  have HR2 := hideR hR2
  clear hfin hsl him ht hp hsh hex har hfl h hB2 hR2 hz hk ha
  have hz := zero_rl
  generalize (watchF c a x wr) = c' at *
  generalize c.rl imv (.slice (some ⟨sg, soff, none⟩) c.sh.length scap) = rl at *
  go_enter Try.func22, Try.ntmps22
  go_wp2_with (refine wpList_load_mid rfl _ _ rfl W.heap.size 0 rfl rl _ Hr2.out HU.out rfl HI.out ?_)
  generalize hW2 : (W.alloc (.cells rl.toArray 52)).alloc (.cells zrl 52) = W2 at *
  clear hW2
  refine (kt _).mono ?_
  rintro e w3 ⟨rfl, hb3⟩
  have hB3 := (hb3.block W.heap.size (by omega)).trans HB2.out
  have hR3 := (hb3.block (W.heap.size + 1) (by omega)).trans HR2.out
  have hz3 := hb3.size
  have hb03 := hb2.trans (hb3.mono (by omega))
  have d0 := (cellL hB3 0).trans g0
  have d5 := (cellL hB3 5).trans g5
  have d6 := (cellL hB3 6).trans g6
  have d135 := (cellL hB3 135).trans g135
  have fr135 := frozL hB3 135
  obtain ⟨i0, hi, hz0, hz1, hz2'⟩ := info_parts info_i64
  have hown0 := World.ownsRow_lit (base := w3.heap.size) (e := 3) (size := 1) w3 #[] 0 (Nat.le_refl _) (by decide) rfl
  have hb30 : Below w3.heap.size w3 (w3.alloc (.cells #[] 3)) := (Below.refl _ _).alloc (Nat.le_refl _) _
  have hLs := hideR ((Hh.out.below hb03).hs.below hb30)
  have n0 : (0 : Int) ≤ (i : Int) := by omega
  have hil' : (i : Int) < (c.sh.length : Int) := by omega
  have d6a := (hb30.cell (p := ⟨W.heap.size, 6, none⟩) (by show W.heap.size < _; omega)).trans d6
  clear kt
  go_wp2_with (at_builtin; refine wpList_append_of rfl _ _ 42 rfl w3.heap.size 3 i0 (.int .i64 0) 1 8 Try.underlying42 hi hz0 hz1 hz2' rfl (by decide) _ _ _ rfl hown0 _ _ _ rfl hLs.out (ints_one _ _) (by simp only [maxLen]; omega) (by omega) hb30.size ?_)
  intro r1 w4 hown1 hgrow1
  have hb34 : Below w3.heap.size w3 w4 := hb30.grown hgrow1 hb30.size (fun k hk => by cases hk; exact Nat.le_refl _)
  obtain ⟨g, cap, rfl, hg, hg'⟩ := hown1.form hs0
  clear hown0 hgrow1 hb30
  have hB4 := (hb34.block W.heap.size (by omega)).trans hB3
  have hR4 := (hb34.block (W.heap.size + 1) (by omega)).trans hR3
  have hz4 := hb34.size
  have hb04 := hb03.trans (hb34.mono (by omega))
  clear d0 d5 d6 d135 fr135
  have d0 := (cellL hB4 0).trans g0
  have d5 := (cellL hB4 5).trans g5
  have d6 := (cellL hB4 6).trans g6
  have d135 := (cellL hB4 135).trans g135
  have fr135 := frozL hB4 135
  have fr6 := frozL hB4 6
  have cg : w4.cell? ⟨g, i, none⟩ = some (.int .i64 (c.sh.getD i 0)) := by
    rw [hown1.cellAt i (by omega), List.getElem?_map, List.getElem?_eq_getElem hil]; simp [List.getD, hil]
  have fg := hown1.frozenAt i
  have nBg : ¬ W.heap.size = g := by omega
  have nBg' : ¬ g = W.heap.size := by omega
  have hBF : (((w4.setCell ⟨W.heap.size, 6, none⟩ (.slice (some ⟨g, 0, none⟩) c.sh.length cap)).setCell ⟨g, i, none⟩ (.int .i64 v)).setCell ⟨W.heap.size, 135, none⟩ (.bool false)).heap[W.heap.size]? = some (.cells (c'.rl imv (.slice (some ⟨g, 0, none⟩) c.sh.length cap)).toArray 52 (0, 0)) := by
    have := bsetL (bothL (bsetL hB4 6 (.slice (some ⟨g, 0, none⟩) c.sh.length cap)) i (.int .i64 v) (by omega)) 135 (.bool false)
    rw [HF.out] at this; exact this
  have HBF := hideR (rangeL hBF)
  have hRF : (((w4.setCell ⟨W.heap.size, 6, none⟩ (.slice (some ⟨g, 0, none⟩) c.sh.length cap)).setCell ⟨g, i, none⟩ (.int .i64 v)).setCell ⟨W.heap.size, 135, none⟩ (.bool false)).heap[W.heap.size + 1]? = some (.cells zrl 52 (0, 0)) := bothL (bothL (bothL hR4 6 (.slice (some ⟨g, 0, none⟩) c.sh.length cap) (by omega)) i (.int .i64 v) (by omega)) 135 (.bool false) (by omega)
  have HRF := hideR hRF
  have hbF : Below W.heap.size W (((w4.setCell ⟨W.heap.size, 6, none⟩ (.slice (some ⟨g, 0, none⟩) c.sh.length cap)).setCell ⟨g, i, none⟩ (.int .i64 v)).setCell ⟨W.heap.size, 135, none⟩ (.bool false)) := ((hb04.setCell (Nat.le_refl _) _).setCell (by show W.heap.size ≤ g; omega) _).setCell (Nat.le_refl _) _
  have HbF := hideR hbF
  have hst := (ownsRow_moved hown1 (heap_setCell_other w4 ⟨W.heap.size, 6, none⟩ g (.slice (some ⟨g, 0, none⟩) c.sh.length cap) nBg')).stored i (.int .i64 v)
  have hst2 := ownsRow_moved (W' := (((w4.setCell ⟨W.heap.size, 6, none⟩ (.slice (some ⟨g, 0, none⟩) c.sh.length cap)).setCell ⟨g, i, none⟩ (.int .i64 v)).setCell ⟨W.heap.size, 135, none⟩ (.bool false))) hst.1 (heap_setCell_other _ ⟨W.heap.size, 135, none⟩ g _ nBg')
  have HST := hideR hst2
  clear hBF hRF hB3 hR3 hB4 hR4 hbF hst hst2 hown1
  go_upto_region 9 with (fail)
  go_wp2_with (first | (refine wpList_load_mid rfl 52 _ rfl W.heap.size 0 rfl (c'.rl imv (.slice (some ⟨g, 0, none⟩) c.sh.length cap)) _ HBF.out HU.out rfl (HI2 _).out ?_) | (refine wpList_store_row rfl 52 _ _ rfl (W.heap.size + 1) (c'.rl imv (.slice (some ⟨g, 0, none⟩) c.sh.length cap)).toArray rfl rfl _ zrl HRF.out (HIA _).out (HZA _).out (HO _ rfl).out ?_))
  refine bodyPost_ret (results_cell_row rfl _ _ (W.heap.size + 1) 52 (c'.rl imv (.slice (some ⟨g, 0, none⟩) c.sh.length cap)).toArray (0, 0) _ (by kernel_rfl) (setRow_heap _ _ zrl _ _ _ HRF.out) HU.out rfl (HIA _).out) rfl ?_
  have hbG := below_setRow HbF.out (show W.heap.size ≤ W.heap.size + 1 by omega) (c'.rl imv (.slice (some ⟨g, 0, none⟩) c.sh.length cap)).toArray
  refine ⟨_, rfl, ⟨?_, ?_⟩, hbG, .inr ⟨g, 0, _, _, rfl, by omega⟩⟩
  · rw [HG.out.2]; exact (Hh.out.below hbG).hi
  · rw [HG.out.1, List.length_set]
    have := Lies.of_owns (ownsRow_moved (W' := World.setRow _ (W.heap.size + 1) (c'.rl imv (.slice (some ⟨g, 0, none⟩) c.sh.length cap)).toArray) HST.out (setRow_other _ _ _ _ (by omega)))
    simpa [List.map_set] using this
set_option maxRecDepth 1000000 in
set_option maxHeartbeats 2000000 in
theorem rw_some_kno_r2 (W : World) (c : Ct) (imv shv : Value) (h : RefAt W c imv shv) (hF : Fine c) (a x : Int) (wr : Bool) (a0 : 0 ≤ a) (a1 : a ≤ 65535) (x0 : 0 ≤ x) (x1 : x ≤ 255) (i : Nat) (v : Int) (ht : turnF c a x wr = some (i, v)) (hr : c.ram = true) (y1 : 4224 ≤ a % 8192) (hk : ¬ c.k = 10) (ha : c.armed = false) :
    Calls Try.prog 22 #[.agg (c.rl imv shv).toArray, .int .i64 a, .int .i64 x, .bool wr] W (RWPost W imv shv (watchF c a x wr)) := by
  obtain ⟨sg, soff, scap, rfl, _, _⟩ := lies_row h.hs rfl (fine_pos c hF).2.1
  have kt := fun w => rturned_any w c imv (.slice (some ⟨sg, soff, none⟩) c.sh.length scap) hF a x wr a0 a1 x0 x1
  have hrl := rl_len c imv (.slice (some ⟨sg, soff, none⟩) c.sh.length scap) hF.ex
  have hp : turnP c a x wr = ((i : Int), v) := by unfold turnP; rw [ht]
  have hsh : shF c a x wr = c.sh.set i v := by unfold shF; rw [ht]
  rw [hp] at kt
  obtain ⟨v0, v1, hil⟩ := turn_in c hF a x wr x0 i v ht
  have e1 : ([70, 69] == c.tag.toList) = false := idx10 c hk
  have e1' : (c.tag.toList == [70, 69]) = false := by rw [beq_eq_false_iff_ne] at e1 ⊢; exact fun h => e1 h.symm
  have har : armF c a = false := by unfold armF; rw [if_neg hk, ha]
  have hex : exF c a x = c.ex := by unfold exF; rw [if_neg]; rintro ⟨q1, q2, q3⟩; omega
  have n1 : 4096 ≤ a % 8192 := by omega
  have n2 : ¬ a % 8192 < 4224 := by omega
  have hfin : ∀ s', (((c.rl imv (.slice (some ⟨sg, soff, none⟩) c.sh.length scap)).set 6 s').set 135 (.bool false)) = (watchF c a x wr).rl imv s' := by
    intro s'
    rw [rl_sh c imv (.slice (some ⟨sg, soff, none⟩) c.sh.length scap) s' (shF c a x wr)]
    rw [rl_setArmed ({ c with sh := shF c a x wr } : Ct) imv s' false (by show List.length _ = 128; exact hF.ex)]
    unfold watchF; rw [hex, har]
  have g0 : (c.rl imv (.slice (some ⟨sg, soff, none⟩) c.sh.length scap))[0]? = some (.string c.tag) := rfl
  have g5 : (c.rl imv (.slice (some ⟨sg, soff, none⟩) c.sh.length scap))[5]? = some (.bool c.ram) := rfl
  have g6 : (c.rl imv (.slice (some ⟨sg, soff, none⟩) c.sh.length scap))[6]? = some (.slice (some ⟨sg, soff, none⟩) c.sh.length scap) := rfl
  have g135 := rl_armed c imv (.slice (some ⟨sg, soff, none⟩) c.sh.length scap) hF.ex
  rw [hr] at g5
  have hz := zero_rl
  have hzs := zrl_size
  have hfl : (watchF c a x wr).ex.length = 128 := (watch_fine c hF a x wr x0).ex
  have hsl : (watchF c a x wr).sh = c.sh.set i v := hsh
  have him : (watchF c a x wr).im = c.im := rfl
  obtain ⟨him0, hs0, hs4⟩ := fine_pos c hF
  unfold RWPost
  have HU := hideR Try.underlying52
  have HI := hideR (show (Try.prog.info? 52).map (·.size) = some (c.rl imv (.slice (some ⟨sg, soff, none⟩) c.sh.length scap)).length by rw [hrl]; kernel_rfl)
  have HI2 := fun s => hideR (show (Try.prog.info? 52).map (·.size) = some ((watchF c a x wr).rl imv s).length by rw [rl_len (watchF c a x wr) imv s hfl]; kernel_rfl)
  have HIA := fun s => hideR (show (Try.prog.info? 52).map (·.size) = some ((watchF c a x wr).rl imv s).toArray.size by rw [List.size_toArray, rl_len (watchF c a x wr) imv s hfl]; kernel_rfl)
  have HZA := fun s => hideR (hzs.trans (show 136 = ((watchF c a x wr).rl imv s).toArray.size by rw [List.size_toArray, rl_len (watchF c a x wr) imv s hfl]))
  have HO := fun s (hs : s.oneCell' = true) => hideR (all_oneCell_toArray (rl_one (watchF c a x wr) (imv := imv) (shv := s) (by obtain ⟨_, _, _, e, _⟩ := h.hi; rw [e]; rfl) hs))
  have hsone : ((.slice (some ⟨sg, soff, none⟩) c.sh.length scap) : Value).oneCell' = true := by obtain ⟨_, _, _, e, _⟩ := h.hs; rw [e]; rfl
  have hb2 : Below W.heap.size W ((W.alloc (.cells (c.rl imv (.slice (some ⟨sg, soff, none⟩) c.sh.length scap)).toArray 52)).alloc (.cells zrl 52)) := ((Below.refl _ _).alloc (Nat.le_refl _) _).alloc (by simp) _
  have hB2 : ((W.alloc (.cells (c.rl imv (.slice (some ⟨sg, soff, none⟩) c.sh.length scap)).toArray 52)).alloc (.cells zrl 52)).heap[W.heap.size]? = some (.cells (c.rl imv (.slice (some ⟨sg, soff, none⟩) c.sh.length scap)).toArray 52 (0, 0)) := (heap_alloc_old _ _ (by simp)).trans (heap_alloc_new W _)
  have hR2 : ((W.alloc (.cells (c.rl imv (.slice (some ⟨sg, soff, none⟩) c.sh.length scap)).toArray 52)).alloc (.cells zrl 52)).heap[W.heap.size + 1]? = some (.cells zrl 52 (0, 0)) := by
    have := heap_alloc_new (W.alloc (.cells (c.rl imv (.slice (some ⟨sg, soff, none⟩) c.sh.length scap)).toArray 52)) (.cells zrl 52); simpa using this
  have hz2 : ((W.alloc (.cells (c.rl imv (.slice (some ⟨sg, soff, none⟩) c.sh.length scap)).toArray 52)).alloc (.cells zrl 52)).heap.size = W.heap.size + 2 := by simp
  have Hr2 := hideR (rangeL hB2)
  have HF := hideR hfin
  have Hh := hideR h
  have HG := hideR (And.intro hsl him)
  have HB2 := hideR hB2
  have HR2 := hideR hR2
  clear hfin hsl him ht hp hsh hex har hfl h hB2 hR2 hz hk ha
  have hz := zero_rl
  generalize (watchF c a x wr) = c' at *
  generalize c.rl imv (.slice (some ⟨sg, soff, none⟩) c.sh.length scap) = rl at *
  go_enter Try.func22, Try.ntmps22
  go_wp2_with (refine wpList_load_mid rfl _ _ rfl W.heap.size 0 rfl rl _ Hr2.out HU.out rfl HI.out ?_)
  generalize hW2 : (W.alloc (.cells rl.toArray 52)).alloc (.cells zrl 52) = W2 at *
  clear hW2
  refine (kt _).mono ?_
  rintro e w3 ⟨rfl, hb3⟩
  have hB3 := (hb3.block W.heap.size (by omega)).trans HB2.out
  have hR3 := (hb3.block (W.heap.size + 1) (by omega)).trans HR2.out
  have hz3 := hb3.size
  have hb03 := hb2.trans (hb3.mono (by omega))
  have d0 := (cellL hB3 0).trans g0
  have d5 := (cellL hB3 5).trans g5
  have d6 := (cellL hB3 6).trans g6
  have d135 := (cellL hB3 135).trans g135
  have fr135 := frozL hB3 135
  obtain ⟨i0, hi, hz0, hz1, hz2'⟩ := info_parts info_i64
  have hown0 := World.ownsRow_lit (base := w3.heap.size) (e := 3) (size := 1) w3 #[] 0 (Nat.le_refl _) (by decide) rfl
  have hb30 : Below w3.heap.size w3 (w3.alloc (.cells #[] 3)) := (Below.refl _ _).alloc (Nat.le_refl _) _
  have hLs := hideR ((Hh.out.below hb03).hs.below hb30)
  have n0 : (0 : Int) ≤ (i : Int) := by omega
  have hil' : (i : Int) < (c.sh.length : Int) := by omega
  have d6a := (hb30.cell (p := ⟨W.heap.size, 6, none⟩) (by show W.heap.size < _; omega)).trans d6
  clear kt
  go_wp2_with (at_builtin; refine wpList_append_of rfl _ _ 42 rfl w3.heap.size 3 i0 (.int .i64 0) 1 8 Try.underlying42 hi hz0 hz1 hz2' rfl (by decide) _ _ _ rfl hown0 _ _ _ rfl hLs.out (ints_one _ _) (by simp only [maxLen]; omega) (by omega) hb30.size ?_)
  intro r1 w4 hown1 hgrow1
  have hb34 : Below w3.heap.size w3 w4 := hb30.grown hgrow1 hb30.size (fun k hk => by cases hk; exact Nat.le_refl _)
  obtain ⟨g, cap, rfl, hg, hg'⟩ := hown1.form hs0
  clear hown0 hgrow1 hb30
  have hB4 := (hb34.block W.heap.size (by omega)).trans hB3
  have hR4 := (hb34.block (W.heap.size + 1) (by omega)).trans hR3
  have hz4 := hb34.size
  have hb04 := hb03.trans (hb34.mono (by omega))
  clear d0 d5 d6 d135 fr135
  have d0 := (cellL hB4 0).trans g0
  have d5 := (cellL hB4 5).trans g5
  have d6 := (cellL hB4 6).trans g6
  have d135 := (cellL hB4 135).trans g135
  have fr135 := frozL hB4 135
  have fr6 := frozL hB4 6
  have cg : w4.cell? ⟨g, i, none⟩ = some (.int .i64 (c.sh.getD i 0)) := by
    rw [hown1.cellAt i (by omega), List.getElem?_map, List.getElem?_eq_getElem hil]; simp [List.getD, hil]
  have fg := hown1.frozenAt i
  have nBg : ¬ W.heap.size = g := by omega
  have nBg' : ¬ g = W.heap.size := by omega
  have hBF : (((w4.setCell ⟨W.heap.size, 6, none⟩ (.slice (some ⟨g, 0, none⟩) c.sh.length cap)).setCell ⟨g, i, none⟩ (.int .i64 v)).setCell ⟨W.heap.size, 135, none⟩ (.bool false)).heap[W.heap.size]? = some (.cells (c'.rl imv (.slice (some ⟨g, 0, none⟩) c.sh.length cap)).toArray 52 (0, 0)) := by
    have := bsetL (bothL (bsetL hB4 6 (.slice (some ⟨g, 0, none⟩) c.sh.length cap)) i (.int .i64 v) (by omega)) 135 (.bool false)
    rw [HF.out] at this; exact this
  have HBF := hideR (rangeL hBF)
  have hRF : (((w4.setCell ⟨W.heap.size, 6, none⟩ (.slice (some ⟨g, 0, none⟩) c.sh.length cap)).setCell ⟨g, i, none⟩ (.int .i64 v)).setCell ⟨W.heap.size, 135, none⟩ (.bool false)).heap[W.heap.size + 1]? = some (.cells zrl 52 (0, 0)) := bothL (bothL (bothL hR4 6 (.slice (some ⟨g, 0, none⟩) c.sh.length cap) (by omega)) i (.int .i64 v) (by omega)) 135 (.bool false) (by omega)
  have HRF := hideR hRF
  have hbF : Below W.heap.size W (((w4.setCell ⟨W.heap.size, 6, none⟩ (.slice (some ⟨g, 0, none⟩) c.sh.length cap)).setCell ⟨g, i, none⟩ (.int .i64 v)).setCell ⟨W.heap.size, 135, none⟩ (.bool false)) := ((hb04.setCell (Nat.le_refl _) _).setCell (by show W.heap.size ≤ g; omega) _).setCell (Nat.le_refl _) _
  have HbF := hideR hbF
  have hst := (ownsRow_moved hown1 (heap_setCell_other w4 ⟨W.heap.size, 6, none⟩ g (.slice (some ⟨g, 0, none⟩) c.sh.length cap) nBg')).stored i (.int .i64 v)
  have hst2 := ownsRow_moved (W' := (((w4.setCell ⟨W.heap.size, 6, none⟩ (.slice (some ⟨g, 0, none⟩) c.sh.length cap)).setCell ⟨g, i, none⟩ (.int .i64 v)).setCell ⟨W.heap.size, 135, none⟩ (.bool false))) hst.1 (heap_setCell_other _ ⟨W.heap.size, 135, none⟩ g _ nBg')
  have HST := hideR hst2
  clear hBF hRF hB3 hR3 hB4 hR4 hbF hst hst2 hown1
  go_upto_region 9 with (fail)
  go_wp2_with (first | (refine wpList_load_mid rfl 52 _ rfl W.heap.size 0 rfl (c'.rl imv (.slice (some ⟨g, 0, none⟩) c.sh.length cap)) _ HBF.out HU.out rfl (HI2 _).out ?_) | (refine wpList_store_row rfl 52 _ _ rfl (W.heap.size + 1) (c'.rl imv (.slice (some ⟨g, 0, none⟩) c.sh.length cap)).toArray rfl rfl _ zrl HRF.out (HIA _).out (HZA _).out (HO _ rfl).out ?_))
  refine bodyPost_ret (results_cell_row rfl _ _ (W.heap.size + 1) 52 (c'.rl imv (.slice (some ⟨g, 0, none⟩) c.sh.length cap)).toArray (0, 0) _ (by kernel_rfl) (setRow_heap _ _ zrl _ _ _ HRF.out) HU.out rfl (HIA _).out) rfl ?_
  have hbG := below_setRow HbF.out (show W.heap.size ≤ W.heap.size + 1 by omega) (c'.rl imv (.slice (some ⟨g, 0, none⟩) c.sh.length cap)).toArray
  refine ⟨_, rfl, ⟨?_, ?_⟩, hbG, .inr ⟨g, 0, _, _, rfl, by omega⟩⟩
  · rw [HG.out.2]; exact (Hh.out.below hbG).hi
  · rw [HG.out.1, List.length_set]
    have := Lies.of_owns (ownsRow_moved (W' := World.setRow _ (W.heap.size + 1) (c'.rl imv (.slice (some ⟨g, 0, none⟩) c.sh.length cap)).toArray) HST.out (setRow_other _ _ _ _ (by omega)))
    simpa [List.map_set] using this
set_option maxRecDepth 1000000 in
set_option maxHeartbeats 2000000 in
theorem rw_none_kno_hit (W : World) (c : Ct) (imv shv : Value) (h : RefAt W c imv shv) (hF : Fine c) (a x : Int) (wr : Bool) (a0 : 0 ≤ a) (a1 : a ≤ 65535) (x0 : 0 ≤ x) (x1 : x ≤ 255) (ht : turnF c a x wr = none) (hr : c.ram = true) (y1 : 4096 ≤ a % 8192) (y2 : a % 8192 < 4224) (hk : ¬ c.k = 10) (ha : c.armed = false) :
    Calls Try.prog 22 #[.agg (c.rl imv shv).toArray, .int .i64 a, .int .i64 x, .bool wr] W (RWPost W imv shv (watchF c a x wr)) := by
  have kt := fun w => rturned_any w c imv shv hF a x wr a0 a1 x0 x1
  have hrl := rl_len c imv shv hF.ex
  have hp : turnP c a x wr = (-1, 0) := by unfold turnP; rw [ht]
  have hsh : shF c a x wr = c.sh := by unfold shF; rw [ht]
  rw [hp] at kt
  have e1 : ([70, 69] == c.tag.toList) = false := idx10 c hk
  have e1' : (c.tag.toList == [70, 69]) = false := by rw [beq_eq_false_iff_ne] at e1 ⊢; exact fun h => e1 h.symm
  have har : armF c a = false := by unfold armF; rw [if_neg hk, ha]
  obtain ⟨j, hj⟩ := Int.eq_ofNat_of_zero_le (show 0 ≤ a % 8192 - 4096 by omega)
  have hjl : j < 128 := by omega
  have hex : exF c a x = c.ex.set j x := by unfold exF; rw [if_pos ⟨hr, y1, y2⟩, hj, Int.toNat_natCast]
  have w8 : IntKind.u8.wrap x = x := by show x % 256 = x; omega
  have j0 : ¬ (j : Int) < 0 := by omega
  have j1 : ¬ (128 : Int) ≤ (j : Int) := by omega
  have nj1 : ¬ 7 + j = 135 := by omega
  have nj2 : ¬ j = 128 := by omega
  have e2 : (a % 8192 == 510) = false := beq_false_of_ne (by omega)
  have hfin : (((c.rl imv shv).set (7 + j) (.int .u8 x)).set 135 (.bool false)) = (watchF c a x wr).rl imv shv := by
    rw [rl_setEx c imv shv j x (by show j < c.ex.length; rw [hF.ex]; exact hjl)]
    rw [rl_setArmed ({ c with ex := c.ex.set j x } : Ct) imv shv false (by show List.length _ = 128; rw [List.length_set]; exact hF.ex)]
    unfold watchF; rw [hex, har, hsh]
  have g0 : (c.rl imv shv)[0]? = some (.string c.tag) := rfl
  have g5 : (c.rl imv shv)[5]? = some (.bool c.ram) := rfl
  have g6 : (c.rl imv shv)[6]? = some shv := rfl
  have g135 := rl_armed c imv shv hF.ex
  rw [hr] at g5
  have g7 := rl_ex c imv shv hF.ex j hjl
  have hz := zero_rl
  have hzs := zrl_size
  have hfl : (watchF c a x wr).ex.length = 128 := (watch_fine c hF a x wr x0).ex
  have hsl : (watchF c a x wr).sh = c.sh := hsh
  have him : (watchF c a x wr).im = c.im := rfl
  obtain ⟨him0, hs0, hs4⟩ := fine_pos c hF
  unfold RWPost
  have HU := hideR Try.underlying52
  have HI := hideR (show (Try.prog.info? 52).map (·.size) = some (c.rl imv shv).length by rw [hrl]; kernel_rfl)
  have HI2 := fun s => hideR (show (Try.prog.info? 52).map (·.size) = some ((watchF c a x wr).rl imv s).length by rw [rl_len (watchF c a x wr) imv s hfl]; kernel_rfl)
  have HIA := fun s => hideR (show (Try.prog.info? 52).map (·.size) = some ((watchF c a x wr).rl imv s).toArray.size by rw [List.size_toArray, rl_len (watchF c a x wr) imv s hfl]; kernel_rfl)
  have HZA := fun s => hideR (hzs.trans (show 136 = ((watchF c a x wr).rl imv s).toArray.size by rw [List.size_toArray, rl_len (watchF c a x wr) imv s hfl]))
  have HO := fun s (hs : s.oneCell' = true) => hideR (all_oneCell_toArray (rl_one (watchF c a x wr) (imv := imv) (shv := s) (by obtain ⟨_, _, _, e, _⟩ := h.hi; rw [e]; rfl) hs))
  have hsone : (shv : Value).oneCell' = true := by obtain ⟨_, _, _, e, _⟩ := h.hs; rw [e]; rfl
  have hb2 : Below W.heap.size W ((W.alloc (.cells (c.rl imv shv).toArray 52)).alloc (.cells zrl 52)) := ((Below.refl _ _).alloc (Nat.le_refl _) _).alloc (by simp) _
  have hB2 : ((W.alloc (.cells (c.rl imv shv).toArray 52)).alloc (.cells zrl 52)).heap[W.heap.size]? = some (.cells (c.rl imv shv).toArray 52 (0, 0)) := (heap_alloc_old _ _ (by simp)).trans (heap_alloc_new W _)
  have hR2 : ((W.alloc (.cells (c.rl imv shv).toArray 52)).alloc (.cells zrl 52)).heap[W.heap.size + 1]? = some (.cells zrl 52 (0, 0)) := by
    have := heap_alloc_new (W.alloc (.cells (c.rl imv shv).toArray 52)) (.cells zrl 52); simpa using this
  have hz2 : ((W.alloc (.cells (c.rl imv shv).toArray 52)).alloc (.cells zrl 52)).heap.size = W.heap.size + 2 := by simp
  have Hr2 := hideR (rangeL hB2)
  have HF := hideR hfin
  have Hh := hideR h
  have HG := hideR (And.intro hsl him)
  have HB2 := hideR hB2
  have HR2 := hideR hR2
  clear hfin hsl him ht hp hsh hex har hfl h hB2 hR2 hz hk ha
  have hz := zero_rl
  generalize (watchF c a x wr) = c' at *
  generalize c.rl imv shv = rl at *
  go_enter Try.func22, Try.ntmps22
  go_wp2_with (refine wpList_load_mid rfl _ _ rfl W.heap.size 0 rfl rl _ Hr2.out HU.out rfl HI.out ?_)
  generalize hW2 : (W.alloc (.cells rl.toArray 52)).alloc (.cells zrl 52) = W2 at *
  clear hW2
  refine (kt _).mono ?_
  rintro e w3 ⟨rfl, hb3⟩
  have hB3 := (hb3.block W.heap.size (by omega)).trans HB2.out
  have hR3 := (hb3.block (W.heap.size + 1) (by omega)).trans HR2.out
  have hz3 := hb3.size
  have hb03 := hb2.trans (hb3.mono (by omega))
  have d0 := (cellL hB3 0).trans g0
  have d5 := (cellL hB3 5).trans g5
  have d6 := (cellL hB3 6).trans g6
  have d135 := (cellL hB3 135).trans g135
  have fr135 := frozL hB3 135
  have d7 := (cellL hB3 (7 + j)).trans g7
  have fr7 := frozL hB3 (7 + j)
  have fr7 := frozL hB3 (7 + j)
  have hBF : ((w3.setCell ⟨W.heap.size, 7 + j, none⟩ (.int .u8 x)).setCell ⟨W.heap.size, 135, none⟩ (.bool false)).heap[W.heap.size]? = some (.cells (c'.rl imv shv).toArray 52 (0, 0)) := by
    have := (bsetL (bsetL hB3 (7 + j) (.int .u8 x)) 135 (.bool false))
    rw [HF.out] at this; exact this
  have HBF := hideR (rangeL hBF)
  have hRF : ((w3.setCell ⟨W.heap.size, 7 + j, none⟩ (.int .u8 x)).setCell ⟨W.heap.size, 135, none⟩ (.bool false)).heap[W.heap.size + 1]? = some (.cells zrl 52 (0, 0)) := (bothL (bothL hR3 (7 + j) (.int .u8 x) (by omega)) 135 (.bool false) (by omega))
  have HRF := hideR hRF
  have hbF : Below W.heap.size W ((w3.setCell ⟨W.heap.size, 7 + j, none⟩ (.int .u8 x)).setCell ⟨W.heap.size, 135, none⟩ (.bool false)) := (hb03.setCell (Nat.le_refl _) _).setCell (Nat.le_refl _) _
  have HbF := hideR hbF
  clear hBF hRF hB3 hR3 hbF kt
  go_upto_region 9 with (fail)
  go_wp2_with (first | (refine wpList_load_mid rfl 52 _ rfl W.heap.size 0 rfl (c'.rl imv shv) _ HBF.out HU.out rfl (HI2 _).out ?_) | (refine wpList_store_row rfl 52 _ _ rfl (W.heap.size + 1) (c'.rl imv shv).toArray rfl rfl _ zrl HRF.out (HIA _).out (HZA _).out (HO _ hsone).out ?_))
  refine bodyPost_ret (results_cell_row rfl _ _ (W.heap.size + 1) 52 (c'.rl imv shv).toArray (0, 0) _ (by kernel_rfl) (setRow_heap _ _ zrl _ _ _ HRF.out) HU.out rfl (HIA _).out) rfl ?_
  have hbG := below_setRow HbF.out (show W.heap.size ≤ W.heap.size + 1 by omega) (c'.rl imv shv).toArray
  refine ⟨shv, rfl, ⟨?_, ?_⟩, hbG, .inl rfl⟩
  · rw [HG.out.2]; exact (Hh.out.below hbG).hi
  · rw [HG.out.1]; exact (Hh.out.below hbG).hs
theorem ram_k (c : Ct) (hF : Fine c) (h : c.ram = true) : c.k = 5 ∨ c.k = 7 ∨ c.k = 9 := by
  obtain ⟨h0, _, h2, _⟩ := fine_cases c hF
  rw [h2] at h
  have hk := (k_in c).2
  generalize c.k = k at *
  have hc : k = 0 ∨ k = 1 ∨ k = 2 ∨ k = 3 ∨ k = 4 ∨ k = 5 ∨ k = 6 ∨ k = 7 ∨ k = 8 ∨ k = 9 ∨ k = 10 := by omega
  rcases hc with rfl | rfl | rfl | rfl | rfl | rfl | rfl | rfl | rfl | rfl | rfl <;> simp [Img.extK] at h ⊢
theorem hit_none (c : Ct) (hF : Fine c) (h : c.ram = true) (a x : Int) (wr : Bool) (y2 : a % 8192 < 4224) : turnF c a x wr = none := by
  have hk := ram_k c hF h
  unfold turnF
  rcases hk with e | e | e <;> simp [e] <;> omega
theorem rwatch_any (W : World) (c : Ct) (imv shv : Value) (h : RefAt W c imv shv) (hF : Fine c) (ha : ¬ c.k = 10 → c.armed = false) (a x : Int) (wr : Bool) (a0 : 0 ≤ a) (a1 : a ≤ 65535) (x0 : 0 ≤ x) (x1 : x ≤ 255) :
    Calls Try.prog 22 #[.agg (c.rl imv shv).toArray, .int .i64 a, .int .i64 x, .bool wr] W (RWPost W imv shv (watchF c a x wr)) := by
  cases hr : c.ram
  · cases ht : turnF c a x wr with
    | none =>
      by_cases hk : c.k = 10
      · by_cases hM : a % 8192 = 510
        · exact rw_none_k10y_r0 W c imv shv h hF a x wr a0 a1 x0 x1 ht hr hk hM
        · exact rw_none_k10n_r0 W c imv shv h hF a x wr a0 a1 x0 x1 ht hr hk hM
      · exact rw_none_kno_r0 W c imv shv h hF a x wr a0 a1 x0 x1 ht hr hk (ha hk)
    | some p =>
      obtain ⟨i, v⟩ := p
      by_cases hk : c.k = 10
      · by_cases hM : a % 8192 = 510
        · exact rw_some_k10y_r0 W c imv shv h hF a x wr a0 a1 x0 x1 i v ht hr hk hM
        · exact rw_some_k10n_r0 W c imv shv h hF a x wr a0 a1 x0 x1 i v ht hr hk hM
      · exact rw_some_kno_r0 W c imv shv h hF a x wr a0 a1 x0 x1 i v ht hr hk (ha hk)
  · have hk : ¬ c.k = 10 := by have := ram_k c hF hr; omega
    by_cases y2 : a % 8192 < 4224
    · have ht := hit_none c hF hr a x wr y2
      by_cases y1 : a % 8192 < 4096
      · exact rw_none_kno_r1 W c imv shv h hF a x wr a0 a1 x0 x1 ht hr y1 hk (ha hk)
      · exact rw_none_kno_hit W c imv shv h hF a x wr a0 a1 x0 x1 ht hr (by omega) y2 hk (ha hk)
    · cases ht : turnF c a x wr with
      | none => exact rw_none_kno_r2 W c imv shv h hF a x wr a0 a1 x0 x1 ht hr (by omega) hk (ha hk)
      | some p =>
        obtain ⟨i, v⟩ := p
        exact rw_some_kno_r2 W c imv shv h hF a x wr a0 a1 x0 x1 i v ht hr (by omega) hk (ha hk)
end Go.Proofs.Ytfdmbgmhgbhggaa.Ca
