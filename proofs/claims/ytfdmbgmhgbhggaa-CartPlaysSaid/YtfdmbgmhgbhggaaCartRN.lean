/- The reference of package cart: New. -/
import Derived.Test.YtfdmbgmhgbhggaaCartRW
namespace Go.Proofs.Ytfdmbgmhgbhggaa.Ca
open Go.RowKit Go.Deep Go.Proofs.Ytfdmbgmhgbhggaa Go.Proofs.Ytfdmbgmhgbhggaa.Cl
set_option linter.unusedVariables false
set_option linter.unusedSimpArgs false
theorem results_cell2 {P : Program} {fn : Func} {p q : Tmp} {ty : TypeId} (h : fn.results = #[.cell p ty, .tmp q]) (tmps : Array Value) (w : World) (b : Nat) (cs : List Value) (d : TypeDesc) (v : Value)
    (hp : tmps.getD p undef = .pointer (some ⟨b, 0, none⟩)) (hq : tmps.getD q undef = v) (hc : w.rangeAt b 0 cs) (hu : P.underlying ty = some d) (hd : d.isRow = true) (hi : (P.info? ty).map (·.size) = some cs.length) :
    (results fn tmps).run P w = .ok (.tuple #[.agg cs.toArray, v]) w := by
  have hp' : tmps[p]?.getD undef = .pointer (some ⟨b, 0, none⟩) := by simpa using hp
  have hq' : tmps[q]?.getD undef = v := by simpa using hq
  simp [results, h, hp', hq', asAddr, run_loadVar_mid w b 0 ty cs d hc hu hd hi]
theorem below_setCells {B : Nat} {a : World} {g : Nat} (hg : B ≤ g) (cs : List Value) (o : Nat) {w : World} (h : Below B a w) : Below B a (w.setCells g o cs) := by
  induction cs generalizing o w with
  | nil => exact h
  | cons v r ih => exact ih (o + 1) (h.setCell hg v)
def over7 (cs : Array Value) (el : List Value) : Array Value := List.foldl (fun cs (x : Value × Nat) => cs.setIfInBounds (7 + x.2) x.1) cs el.zipIdx
theorem over7_size (cs : Array Value) (el : List Value) : (over7 cs el).size = cs.size := (Go.Great.foldl_set 7 el 0 cs).1
theorem over7_row (s1 s2 : Value) (B S Wi : Int) (tag : ByteArray) (r : Bool) (el : List Value) (hl : el.length = 128) :
    over7 (((((((zrl.setIfInBounds 0 (.string tag)).setIfInBounds 1 s1).setIfInBounds 2 (.int .i64 B)).setIfInBounds 3 (.int .i64 S)).setIfInBounds 4 (.int .i64 Wi)).setIfInBounds 5 (.bool r)).setIfInBounds 6 s2) el =
      (.string tag :: s1 :: .int .i64 B :: .int .i64 S :: .int .i64 Wi :: .bool r :: s2 :: (el ++ [.bool false])).toArray := by
  apply Array.ext_getElem?
  intro k
  have hz := zrl_size
  have h5 := (Go.Great.foldl_set 7 el 0 (((((((zrl.setIfInBounds 0 (.string tag)).setIfInBounds 1 s1).setIfInBounds 2 (.int .i64 B)).setIfInBounds 3 (.int .i64 S)).setIfInBounds 4 (.int .i64 Wi)).setIfInBounds 5 (.bool r)).setIfInBounds 6 s2)).2 k
  unfold over7
  rw [h5]
  simp only [Array.size_setIfInBounds, hz, hl]
  by_cases hk : 7 ≤ k ∧ k < 135
  · rw [if_pos (by omega)]
    obtain ⟨j, rfl⟩ : ∃ j, k = j + 1 + 1 + 1 + 1 + 1 + 1 + 1 := ⟨k - 7, by omega⟩
    simp only [List.getElem?_toArray, List.getElem?_cons_succ]
    rw [List.getElem?_append_left (by omega)]
    congr 1
  · rw [if_neg (by omega)]
    by_cases hk5 : k < 7
    · have hc : k = 0 ∨ k = 1 ∨ k = 2 ∨ k = 3 ∨ k = 4 ∨ k = 5 ∨ k = 6 := by omega
      rcases hc with rfl | rfl | rfl | rfl | rfl | rfl | rfl <;> simp [Array.getElem?_setIfInBounds, hz]
    · by_cases h135 : k = 135
      · subst h135
        have hlast : zrl[135]? = some (.bool false) := by kernel_rfl
        simp [Array.getElem?_setIfInBounds, hlast, hl]
      · rw [Array.getElem?_eq_none (by simp [hz]; omega), Array.getElem?_eq_none (by simp [hl]; omega)]
/-- What New hands back. -/
def RNPost (W : World) (imv : Value) (c : Ct) (e : Ending) (W' : World) : Prop := ∃ shv, e = .returned (.tuple #[.agg (c.rl imv shv).toArray, .int .i64 0]) ∧ RefAt W' c imv shv ∧ Below W.heap.size W W' ∧ Fr W.heap.size shv
set_option maxRecDepth 1000000 in
set_option maxHeartbeats 2000000 in
theorem rnew_err (W : World) (tag : ByteArray) (n : Nat) (ao : Option Addr) (cap : Nat) (el : List Value) (hn : n ≤ 1000000) (ok : Img.okK (Img.idx tag) n = false) (hel : el.length = 128) (er : Int) (her : Img.errK (Img.idx tag) n = er) (hne : ¬ er = 0) :
    Calls Try.prog 19 #[.string tag, .slice ao n cap, .agg el.toArray] W fun e W' => e = .returned (.tuple #[.agg zrl.toList.toArray, .int .i64 er]) ∧ Below W.heap.size W W' := by
  have kfit := fun w => rfit_any tag (n : Int) w (by omega) (by omega)
  rw [her] at kfit
  unfold Img.shape at kfit
  generalize Img.szK (Img.idx tag) n = S at *
  generalize Img.banksK (Img.idx tag) n = B at *
  generalize Img.winsK (Img.idx tag) n = Wi at *
  generalize Img.exK (Img.idx tag) n = X at *
  have hz := zero_rl
  have hzs := zrl_size
  have HU := hideR Try.underlying52
  have HI := hideR (show (Try.prog.info? 52).map (·.size) = some zrl.size by rw [hzs]; kernel_rfl)
  have HIL := hideR (show (Try.prog.info? 52).map (·.size) = some zrl.toList.length by rw [Array.length_toList, hzs]; kernel_rfl)
  have HO := hideR (show zrl.all (·.oneCell') = true by kernel_rfl)
  have hb2 : Below W.heap.size W ((W.alloc (.cells el.toArray 22)).alloc (.cells zrl 52)) := ((Below.refl _ _).alloc (Nat.le_refl _) _).alloc (by simp) _
  have hR2 : ((W.alloc (.cells el.toArray 22)).alloc (.cells zrl 52)).heap[W.heap.size + 1]? = some (.cells zrl 52 (0, 0)) := by
    have := heap_alloc_new (W.alloc (.cells el.toArray 22)) (.cells zrl 52); simpa using this
  have hz2 : ((W.alloc (.cells el.toArray 22)).alloc (.cells zrl 52)).heap.size = W.heap.size + 2 := by simp
  clear ok her
  go_enter Try.func19, Try.ntmps19
  go_wp2_with fail
  generalize (W.alloc (.cells el.toArray 22)).alloc (.cells zrl 52) = W2 at *
  refine (kfit _).mono ?_
  rintro e w3 ⟨rfl, hb3⟩
  have hR3 := (hb3.block (W.heap.size + 1) (by omega)).trans hR2
  have hb03 := hb2.trans (hb3.mono (by omega))
  have hs3 := hb3.size
  have hR4 := (heap_alloc_old w3 (.cells #[.int .i64 B, .int .i64 S, .int .i64 Wi, .bool X] 50) (show W.heap.size + 1 < w3.heap.size by omega)).trans hR3
  have HR4 := hideR hR4
  have hb04 := hb03.alloc (show W.heap.size ≤ w3.heap.size by omega) (.cells #[.int .i64 B, .int .i64 S, .int .i64 Wi, .bool X] 50)
  clear hR2 hR3 hR4 kfit
  go_upto_region 3 with (fail)
  go_wp2_with (refine wpList_store_row rfl 52 _ _ rfl (W.heap.size + 1) zrl rfl rfl _ zrl HR4.out HI.out rfl HO.out ?_)
  exact bodyPost_ret (results_cell2 rfl _ _ (W.heap.size + 1) zrl.toList _ (.int .i64 er) (by kernel_rfl) (by kernel_rfl) (rangeL (by simpa using setRow_heap _ _ zrl zrl _ _ HR4.out)) HU.out rfl HIL.out) rfl ⟨rfl, below_setRow hb04 (by omega) _⟩
set_option maxRecDepth 1000000 in
set_option maxHeartbeats 2000000 in
theorem rnew_ok (W : World) (tag : ByteArray) (imv : Value) (im ex : List Int) (hL : Lies W 1 imv im.length (im.map (Value.int .u8)))
    (ok : Img.okK (Img.idx tag) im.length = true) (hex : ex.length = 128) (hn : im.length ≤ 1000000) :
    Calls Try.prog 19 #[.string tag, imv, .agg (ex.map (Value.int .u8)).toArray] W (RNPost W imv ⟨tag, im, Img.firstK (Img.idx tag) im.length, ex, false⟩) := by
  obtain ⟨ao, cap, rfl⟩ : ∃ ao cap, imv = .slice ao im.length cap := by obtain ⟨_, ao, cap, e, _⟩ := hL; exact ⟨ao, cap, e⟩
  have kfit := fun w => rfit_any tag (im.length : Int) w (by omega) (by omega)
  have kown := fun w => rfown_any tag (im.length : Int) w (by omega) (by omega) ok
  have he0 : Img.errK (Img.idx tag) im.length = 0 := by
    have h1 : 0 ≤ Img.idx tag ∧ Img.fitsK (Img.idx tag) im.length = true := by simpa [Img.okK] using ok
    unfold Img.errK; rw [if_neg (by omega), if_pos h1.2]
  rw [he0] at kfit
  have hfl : (Img.firstK (Img.idx tag) im.length).length ≤ 1000000 := by
    unfold Img.firstK; repeat' split
    all_goals simp
  have HC : ∀ shv, (Ct.rl ⟨tag, im, Img.firstK (Img.idx tag) im.length, ex, false⟩ (.slice ao im.length cap) shv) =
      (.string tag :: .slice ao im.length cap :: .int .i64 (Img.banksK (Img.idx tag) im.length) :: .int .i64 (Img.szK (Img.idx tag) im.length) :: .int .i64 (Img.winsK (Img.idx tag) im.length) :: .bool (Img.exK (Img.idx tag) im.length) :: shv :: (ex.map (Value.int .u8) ++ [.bool false])) := fun _ => rfl
  have HLen := fun shv => hideR (rl_len ⟨tag, im, Img.firstK (Img.idx tag) im.length, ex, false⟩ (.slice ao im.length cap) shv hex)
  have HOne := fun shv (hs : shv.oneCell' = true) => hideR (rl_one ⟨tag, im, Img.firstK (Img.idx tag) im.length, ex, false⟩ (imv := .slice ao im.length cap) (shv := shv) rfl hs)
  unfold RNPost
  unfold Img.shape at kfit
  have hL' := hideR hL
  clear hL
  generalize hF : Img.firstK (Img.idx tag) im.length = F at *
  generalize hS : Img.szK (Img.idx tag) im.length = S at *
  generalize hB : Img.banksK (Img.idx tag) im.length = B at *
  generalize hWi : Img.winsK (Img.idx tag) im.length = Wi at *
  generalize hX : Img.exK (Img.idx tag) im.length = X at *
  have hel : (ex.map (Value.int .u8)).length = 128 := by simpa using hex
  have hone := ints_one .u8 ex
  generalize hEL : ex.map (Value.int .u8) = el at *
  have hz := zero_rl
  have hzs := zrl_size
  have HU := hideR Try.underlying52
  have hb2 : Below W.heap.size W ((W.alloc (.cells el.toArray 22)).alloc (.cells zrl 52)) := ((Below.refl _ _).alloc (Nat.le_refl _) _).alloc (by simp) _
  have hR2 : ((W.alloc (.cells el.toArray 22)).alloc (.cells zrl 52)).heap[W.heap.size + 1]? = some (.cells zrl 52 (0, 0)) := by
    have := heap_alloc_new (W.alloc (.cells el.toArray 22)) (.cells zrl 52); simpa using this
  have hE2 : ((W.alloc (.cells el.toArray 22)).alloc (.cells zrl 52)).heap[W.heap.size]? = some (.cells el.toArray 22 (0, 0)) := (heap_alloc_old _ _ (by simp)).trans (heap_alloc_new W _)
  have hz2 : ((W.alloc (.cells el.toArray 22)).alloc (.cells zrl 52)).heap.size = W.heap.size + 2 := by simp
  clear ok he0 hF hS hB hWi hX
  go_enter Try.func19, Try.ntmps19
  go_wp2_with fail
  generalize (W.alloc (.cells el.toArray 22)).alloc (.cells zrl 52) = W2 at *
  refine (kfit _).mono ?_
  rintro e w3 ⟨rfl, hb3⟩
  have hR3 := (hb3.block (W.heap.size + 1) (by omega)).trans hR2
  have hE3 := (hb3.block W.heap.size (by omega)).trans hE2
  have hb03 := hb2.trans (hb3.mono (by omega))
  have hs3 := hb3.size
  go_upto_region 4 with (fail)
  have hR4 := (heap_alloc_old w3 (.cells #[.int .i64 B, .int .i64 S, .int .i64 Wi, .bool X] 50) (show W.heap.size + 1 < w3.heap.size by omega)).trans hR3
  have hE4 := (heap_alloc_old w3 (.cells #[.int .i64 B, .int .i64 S, .int .i64 Wi, .bool X] 50) (show W.heap.size < w3.heap.size by omega)).trans hE3
  have t0 : (w3.alloc (.cells #[.int .i64 B, .int .i64 S, .int .i64 Wi, .bool X] 50)).cell? ⟨w3.heap.size, 0, none⟩ = some (.int .i64 B) := World.cell?_alloc_at _ _ _ _ rfl
  have t1 : (w3.alloc (.cells #[.int .i64 B, .int .i64 S, .int .i64 Wi, .bool X] 50)).cell? ⟨w3.heap.size, 1, none⟩ = some (.int .i64 S) := World.cell?_alloc_at _ _ _ _ rfl
  have t2 : (w3.alloc (.cells #[.int .i64 B, .int .i64 S, .int .i64 Wi, .bool X] 50)).cell? ⟨w3.heap.size, 2, none⟩ = some (.int .i64 Wi) := World.cell?_alloc_at _ _ _ _ rfl
  have t3 : (w3.alloc (.cells #[.int .i64 B, .int .i64 S, .int .i64 Wi, .bool X] 50)).cell? ⟨w3.heap.size, 3, none⟩ = some (.bool X) := World.cell?_alloc_at _ _ _ _ rfl
  have hb04 := hb03.alloc (show W.heap.size ≤ w3.heap.size by omega) (.cells #[.int .i64 B, .int .i64 S, .int .i64 Wi, .bool X] 50)
  have hs4 : (w3.alloc (.cells #[.int .i64 B, .int .i64 S, .int .i64 Wi, .bool X] 50)).heap.size = w3.heap.size + 1 := by simp
  generalize w3.alloc (.cells #[.int .i64 B, .int .i64 S, .int .i64 Wi, .bool X] 50) = w4 at *
  generalize hT : w3.heap.size = T at *
  have HR4 := hideR hR4
  have rE : w4.rangeAt W.heap.size 0 el := rangeL hE4
  have HB04 := hideR hb04
  have hT4 : T < w4.heap.size := by omega
  have hE4l : W.heap.size < w4.heap.size := by omega
  have hR4l : W.heap.size + 1 < w4.heap.size := by omega
  clear hR2 hR3 hR4 hE2 hE3 hE4 kfit hb3 hb03 hb2 hb04
  have hov : ∀ cs : Array Value, List.foldl (fun cs (x : Value × Nat) => cs.setIfInBounds (7 + x.2) x.1) cs el.zipIdx = over7 cs el := fun _ => rfl
  have hos : ∀ cs : Array Value, (over7 cs el).size = cs.size := fun cs => over7_size cs el
  have HRow := hideR (fun s1 s2 : Value => over7_row s1 s2 B S Wi tag X el hel)
  have hu22 := Try.underlying22
  have hi22 : (Try.prog.info? 22).map (·.size) = some el.length := by rw [hel]; kernel_rfl
  simp only [rowOf] at kown
  have HC' := hideR HC
  clear HC hone
  have hne0 : ¬ zrl = #[] := fun h => by rw [h] at hzs; simp at hzs
  have hTR : T ≠ W.heap.size + 1 := by omega
  have hER : W.heap.size ≠ W.heap.size + 1 := by omega
  have HST := hideR (fun (w : World) (h : w.heap[W.heap.size + 1]? = some (.cells zrl 52 (0, 0))) (g : Nat) =>
    show Sem.run Try.prog (storeCells ⟨W.heap.size + 1, 0, none⟩ (over7 (((((((zrl.setIfInBounds 0 (.string tag)).setIfInBounds 1 (.slice ao im.length cap)).setIfInBounds 2 (.int .i64 B)).setIfInBounds 3 (.int .i64 S)).setIfInBounds 4 (.int .i64 Wi)).setIfInBounds 5 (.bool X)).setIfInBounds 6 (.slice (some ⟨g, 0, none⟩) F.length F.length)) el).toList) w = .ok () (w.setRow (W.heap.size + 1) (Ct.rl ⟨tag, im, F, ex, false⟩ (.slice ao im.length cap) (.slice (some ⟨g, 0, none⟩) F.length F.length)).toArray) by
      rw [HRow.out, ← HC'.out]
      exact run_storeCells_from (P := Try.prog) (W.heap.size + 1) 52 _ 0 zrl w h (by rw [Nat.zero_add, hzs]; exact (HLen _).out) (HOne _ rfl).out)
  go_region_held3 (fun w' => w'.cell? ⟨T, 0, none⟩ = some (.int .i64 B) ∧ w'.cell? ⟨T, 1, none⟩ = some (.int .i64 S) ∧ w'.cell? ⟨T, 2, none⟩ = some (.int .i64 Wi) ∧ w'.cell? ⟨T, 3, none⟩ = some (.bool X) ∧ w'.rangeAt W.heap.size 0 el) (go_keep) ((go_at_call 42; refine (kown _).mono ?_; rintro e w6 ⟨g6, rfl, hg6, hh6, hb6⟩; have k0 := (hb6.cell (p := ⟨T, 0, none⟩) hT4).trans t0; have k1 := (hb6.cell (p := ⟨T, 1, none⟩) hT4).trans t1; have k2 := (hb6.cell (p := ⟨T, 2, none⟩) hT4).trans t2; have k3 := (hb6.cell (p := ⟨T, 3, none⟩) hT4).trans t3; have kr : w6.rangeAt W.heap.size 0 el := (fun j v hv => (hb6.cell (p := ⟨W.heap.size, 0 + j, none⟩) hE4l).trans (rE j v hv)); have h6R := (hb6.block (W.heap.size + 1) hR4l).trans HR4.out; have hst6 := HST.out w6 h6R g6; have HR6 := hideR h6R; clear h6R; have z0 := (cell_setRow_other w6 (W.heap.size + 1) (Ct.rl ⟨tag, im, F, ex, false⟩ (.slice ao im.length cap) (.slice (some ⟨g6, 0, none⟩) F.length F.length)).toArray ⟨T, 0, none⟩ hTR).trans k0; have z1 := (cell_setRow_other w6 (W.heap.size + 1) (Ct.rl ⟨tag, im, F, ex, false⟩ (.slice ao im.length cap) (.slice (some ⟨g6, 0, none⟩) F.length F.length)).toArray ⟨T, 1, none⟩ hTR).trans k1; have z2 := (cell_setRow_other w6 (W.heap.size + 1) (Ct.rl ⟨tag, im, F, ex, false⟩ (.slice ao im.length cap) (.slice (some ⟨g6, 0, none⟩) F.length F.length)).toArray ⟨T, 2, none⟩ hTR).trans k2; have z3 := (cell_setRow_other w6 (W.heap.size + 1) (Ct.rl ⟨tag, im, F, ex, false⟩ (.slice ao im.length cap) (.slice (some ⟨g6, 0, none⟩) F.length F.length)).toArray ⟨T, 3, none⟩ hTR).trans k3; have zr : (w6.setRow (W.heap.size + 1) (Ct.rl ⟨tag, im, F, ex, false⟩ (.slice ao im.length cap) (.slice (some ⟨g6, 0, none⟩) F.length F.length)).toArray).rangeAt W.heap.size 0 el := (fun j v hv => (cell_setRow_other w6 (W.heap.size + 1) (Ct.rl ⟨tag, im, F, ex, false⟩ (.slice ao im.length cap) (.slice (some ⟨g6, 0, none⟩) F.length F.length)).toArray ⟨W.heap.size, 0 + j, none⟩ hER).trans (kr j v hv))))
  go_wp2_with fail
  have hs6 := hb6.size
  have hg6l : g6 < w6.heap.size := (Array.getElem?_eq_some_iff.1 hh6).1
  have hB6 : Below W.heap.size W w6 := HB04.out.drew.trans (hb6.mono (by show W.heap.size ≤ w4.heap.size; omega))
  have hbG := below_setRow hB6 (show W.heap.size ≤ W.heap.size + 1 by omega) (Ct.rl ⟨tag, im, F, ex, false⟩ (.slice ao im.length cap) (.slice (some ⟨g6, 0, none⟩) F.length F.length)).toArray
  have hs1 := owns_of_block (base := W.heap.size) (show W.heap.size ≤ g6 by have : w4.heap.size ≤ g6 := hg6; omega) hh6 hfl
  refine bodyPost_ret (results_cell2 rfl _ _ (W.heap.size + 1) _ _ (.int .i64 0) (by kernel_rfl) (by kernel_rfl) (rangeL (setRow_heap _ _ zrl _ _ _ HR6.out)) HU.out rfl (by rw [(HLen _).out]; kernel_rfl)) rfl ?_
  refine ⟨_, rfl, ⟨hL'.out.below hbG, Lies.of_owns (ownsRow_moved hs1 (setRow_other _ _ _ _ (by have : w4.heap.size ≤ g6 := hg6; omega)))⟩, hbG, g6, 0, _, _, rfl, by have : w4.heap.size ≤ g6 := hg6; omega⟩
end Go.Proofs.Ytfdmbgmhgbhggaa.Ca
