/- Package cart: New. -/
import Derived.Test.YtfdmbgmhgbhggaaCartNew
import Derived.Deep.AppendLies
namespace Go.Proofs.Ytfdmbgmhgbhggaa.Ca
open Go.RowKit Go.Deep Go.Proofs.Ytfdmbgmhgbhggaa Go.Proofs.Ytfdmbgmhgbhggaa.Cl
set_option linter.unusedVariables false
set_option linter.unusedSimpArgs false
theorem range_alloc {w : World} {b : Nat} {el : List Value} (h : w.rangeAt b 0 el) (hb : b < w.heap.size) (o : Obj) : (w.alloc o).rangeAt b 0 el := fun j v hv => by
  rw [World.cell?_alloc_past _ _ _ hb]; exact h j v hv
/-- What New hands back. -/
def NewPost (W : World) (c : Ct) (e : Ending) (W' : World) : Prop :=
  ∃ b ib icap sb, e = .returned (.tuple #[.pointer (some ⟨b, 0, none⟩), .int .i64 0]) ∧ CartS W' W.heap.size b ib icap sb c.sh.length c ∧ Below W.heap.size W W'
set_option maxRecDepth 1000000 in
set_option maxHeartbeats 1000000 in
theorem new_ok (W : World) (tag : ByteArray) (ad : Addr) (cap : Nat) (im ex : List Int) (hL : Lies W 1 (.slice (some ad) im.length cap) im.length (im.map (Value.int .u8)))
    (ok : Img.okK (Img.idx tag) im.length = true) (hex : ex.length = 128) (hn : im.length ≤ 1000000) :
    Calls Try.prog 11 #[.string tag, .slice (some ad) im.length cap, .agg (ex.map (Value.int .u8)).toArray] W (NewPost W ⟨tag, im, Img.firstK (Img.idx tag) im.length, ex, false⟩) := by
  have kfit := fun w => fit_any tag (im.length : Int) w (by omega) (by omega)
  have kown := fun w => fown_any tag (im.length : Int) w (by omega) (by omega) ok
  have he0 : Img.errK (Img.idx tag) im.length = 0 := by
    have h1 : 0 ≤ Img.idx tag ∧ Img.fitsK (Img.idx tag) im.length = true := by simpa [Img.okK] using ok
    unfold Img.errK; rw [if_neg (by omega), if_pos h1.2]
  have hnb : 0 ≤ Img.banksK (Img.idx tag) im.length := by
    have h1 : 0 ≤ Img.idx tag ∧ Img.fitsK (Img.idx tag) im.length = true := by simpa [Img.okK] using ok
    simp only [Img.banksK, ok, if_true]
    refine Int.ediv_nonneg (by omega) ?_
    unfold Img.sizeK; repeat' split
    all_goals decide
  rw [he0] at kfit
  have hfl : (Img.firstK (Img.idx tag) im.length).length ≤ 1000000 := by
    unfold Img.firstK; repeat' split
    all_goals simp
  have hfp : 0 < (Img.firstK (Img.idx tag) im.length).length := by
    unfold Img.firstK; rw [if_pos ok]; repeat' split
    all_goals simp
  have HC : ∀ ib icap sb, (Ct.row ⟨tag, im, Img.firstK (Img.idx tag) im.length, ex, false⟩ ib icap sb (Img.firstK (Img.idx tag) im.length).length) =
      (.slice (some ⟨ib, 0, none⟩) im.length icap :: .int .i64 (Img.szK (Img.idx tag) im.length) :: .slice (some ⟨sb, 0, none⟩) (Img.firstK (Img.idx tag) im.length).length (Img.firstK (Img.idx tag) im.length).length :: .string tag :: .bool (Img.exK (Img.idx tag) im.length) :: (ex.map (Value.int .u8) ++ [.bool false])) := fun _ _ _ => rfl
  unfold NewPost
  unfold Img.shape at kfit
  have hL' := hideR hL
  clear hL
  generalize hF : Img.firstK (Img.idx tag) im.length = F at *
  generalize hS : Img.szK (Img.idx tag) im.length = S at *
  generalize hB : Img.banksK (Img.idx tag) im.length = B at *
  generalize hWi : Img.winsK (Img.idx tag) im.length = Wi at *
  generalize hX : Img.exK (Img.idx tag) im.length = X at *
  have hel : (ex.map (Value.int .u8)).length = 128 := by simpa using hex
  generalize hEL : ex.map (Value.int .u8) = el at *
  go_enter Try.func11, Try.ntmps11
  go_wp2_with fail
  refine (kfit _).mono ?_
  rintro e w1 ⟨rfl, hb1⟩
  go_wp2_with fail
  have hb4 : Below W.heap.size W (w1.alloc (.cells #[.int .i64 B, .int .i64 S, .int .i64 Wi, .bool X] 35)) :=
    (((Below.refl _ W).alloc (Nat.le_refl _) _).trans (hb1.mono (by simp))).alloc (by have := hb1.size; simp only [World.size_alloc] at this; omega) _
  have hE1 : w1.heap[W.heap.size]? = some (.cells el.toArray 22 (0, 0)) := (hb1.block _ (by simp)).trans (heap_alloc_new W _)
  have hT1 : W.heap.size < w1.heap.size := (Array.getElem?_eq_some_iff.1 hE1).1
  have cT1 : (w1.alloc (.cells #[.int .i64 B, .int .i64 S, .int .i64 Wi, .bool X] 35)).cell? ⟨w1.heap.size, 1, none⟩ = some (.int .i64 S) := World.cell?_alloc_at _ _ _ _ rfl
  have cT3 : (w1.alloc (.cells #[.int .i64 B, .int .i64 S, .int .i64 Wi, .bool X] 35)).cell? ⟨w1.heap.size, 3, none⟩ = some (.bool X) := World.cell?_alloc_at _ _ _ _ rfl
  have rE : (w1.alloc (.cells #[.int .i64 B, .int .i64 S, .int .i64 Wi, .bool X] 35)).rangeAt W.heap.size 0 el := fun j v hv => by
    rw [World.cell?_alloc_past _ _ _ (by show W.heap.size < _; exact hT1), cell_of_row w1 _ _ _ _ _ hE1]; simpa using hv
  have hT4 : w1.heap.size < (w1.alloc (.cells #[.int .i64 B, .int .i64 S, .int .i64 Wi, .bool X] 35)).heap.size := by simp
  generalize hw4 : w1.alloc (.cells #[.int .i64 B, .int .i64 S, .int .i64 Wi, .bool X] 35) = w4 at *
  clear hw4 hE1 hb1
  generalize hT : w1.heap.size = T at *
  generalize hE : W.heap.size = E at *
  have hL4 : Lies w4 1 (.slice (some ad) im.length cap) im.length (im.map (Value.int .u8)) := hL'.out.below (by rw [hE]; exact hb4)
  have HL4 := hideR hL4
  have Hnp := hideR (show 0 < im.length by
    have h1 : 0 ≤ Img.idx tag ∧ Img.fitsK (Img.idx tag) im.length = true := by simpa [Img.okK] using ok
    rcases Nat.eq_zero_or_pos im.length with h0 | h0
    · rw [h0] at h1
      have := h1.2
      have hk := (Img.idx_in tag).2
      generalize Img.idx tag = k at *
      have hc : k = 0 ∨ k = 1 ∨ k = 2 ∨ k = 3 ∨ k = 4 ∨ k = 5 ∨ k = 6 ∨ k = 7 ∨ k = 8 ∨ k = 9 ∨ k = 10 := by omega
      rcases hc with rfl | rfl | rfl | rfl | rfl | rfl | rfl | rfl | rfl | rfl | rfl <;> simp [Img.fitsK, Img.lenK] at this
    · exact h0)
  have hz := zero_cart
  have hzs := zrow_size
  have hov : ∀ cs : Array Value, List.foldl (fun cs (x : Value × Nat) => cs.setIfInBounds (5 + x.2) x.1) cs el.zipIdx = over cs el := fun _ => rfl
  have hos : ∀ cs : Array Value, (over cs el).size = cs.size := fun cs => over_size cs el
  have HRow := hideR (fun s1 s2 : Value => over_row s1 s2 S tag X el hel)
  have hu22 := Try.underlying22
  have hi22 : (Try.prog.info? 22).map (·.size) = some el.length := by rw [hel]; kernel_rfl
  simp only [rowOf] at kown
  have HC' := hideR HC
  have hb4' := hideR hb4
  clear hL' HC hL4 ok hex he0 hnb hF hS hB hWi hX hEL kfit hb4
  go_region_held3 (fun w' => w'.cell? ⟨T, 1, none⟩ = some (.int .i64 S) ∧ w'.cell? ⟨T, 3, none⟩ = some (.bool X) ∧ w'.rangeAt E 0 el) (go_keep) ((first | (skip; go_at_call 29; refine (clone_u8 w4.drew _ im (HL4.out.below (Below.refl _ _).drew) hn ⟨_, _, _, rfl⟩).mono ?_; rintro e w5 ⟨r5, rfl, hown5, hb5⟩; obtain ⟨g5, cap5, rfl, hg5, hg5'⟩ := hown5.form Hnp.out; have k1 := (hb5.cell (p := ⟨T, 1, none⟩) hT4).trans cT1; have k3 := (hb5.cell (p := ⟨T, 3, none⟩) hT4).trans cT3; have kr : w5.rangeAt E 0 el := (fun j v hv => (hb5.cell (p := ⟨E, 0 + j, none⟩) (Nat.lt_trans hT1 hT4)).trans (rE j v hv)); have hT5 : T < w5.heap.size := Nat.lt_of_lt_of_le hT4 hb5.size) | (go_at_call 30; refine (kown _).mono ?_; rintro e w6 ⟨g6, rfl, hg6, hh6, hb6⟩; have k1' := (hb6.cell (p := ⟨T, 1, none⟩) hT5).trans k1; have k3' := (hb6.cell (p := ⟨T, 3, none⟩) hT5).trans k3; have kr' : w6.rangeAt E 0 el := (fun j v hv => (hb6.cell (p := ⟨E, 0 + j, none⟩) (Nat.lt_trans hT1 hT5)).trans (kr j v hv)); have hE6 : E < w6.heap.size := Nat.lt_of_lt_of_le (Nat.lt_trans hT1 hT5) hb6.size; have kal := range_alloc kr' hE6)))
  simp only [HRow.out]
  go_wp2_with fail
  have hs4 : w4.drew.heap.size = w4.heap.size := rfl
  have hs5 := hb5.size
  have hs6 := hb6.size
  have hg6l : g6 < w6.heap.size := (Array.getElem?_eq_some_iff.1 hh6).1
  have hB5 : Below E W w5 := (hb4'.out.drew).trans (hb5.mono (by omega))
  have hB6 : Below E W w6 := hB5.trans (hb6.mono (by omega))
  have hs1 := owns_of_block (base := E) (by omega) hh6 hfl
  go_ret2
  subst hE
  refine ⟨w6.heap.size, g5, cap5, g6, rfl, ⟨?_, hs1.alloc _, fun i v hv => ?_, by simp only [World.size_alloc]; omega, by omega, by omega, by omega, by omega⟩, hB6.alloc (by omega) _⟩
  · rw [HC'.out]; exact heap_alloc_new w6 _
  · have hv' : im[i]? = some v := hv
    have hil : i < im.length := (List.getElem?_eq_some_iff.1 hv').1
    rw [World.cell?_alloc_past _ _ _ (by show g5 < _; omega), hb6.cell (p := ⟨g5, i, none⟩) hg5', hown5.cellAt i (by omega), List.getElem?_map, hv']
    rfl
set_option maxHeartbeats 1000000 in
theorem new_err (W : World) (tag : ByteArray) (v : Value) (n : Nat) (ao : Option Addr) (cap : Nat) (hv : v = .slice ao n cap) (el : List Value) (hn : n ≤ 1000000) (ok : Img.okK (Img.idx tag) n = false) :
    Calls Try.prog 11 #[.string tag, v, .agg el.toArray] W fun e W' => e = .returned (.tuple #[.pointer none, .int .i64 (Img.errK (Img.idx tag) n)]) ∧ Below W.heap.size W W' := by
  subst hv
  have kfit := fun w => fit_any tag (n : Int) w (by omega) (by omega)
  have he : Img.errK (Img.idx tag) n = 3 ∨ Img.errK (Img.idx tag) n = 4 := by
    unfold Img.errK
    split
    · exact .inl rfl
    · rename_i h
      have hf : Img.fitsK (Img.idx tag) n = false := by
        cases hf : Img.fitsK (Img.idx tag) n
        · rfl
        · simp [Img.okK, hf] at ok; omega
      rw [if_neg (by rw [hf]; simp)]
      exact .inr rfl
  unfold Img.shape at kfit
  generalize Img.errK (Img.idx tag) n = er at *
  generalize hS : Img.szK (Img.idx tag) n = S at *
  generalize hB : Img.banksK (Img.idx tag) n = B at *
  generalize hWi : Img.winsK (Img.idx tag) n = Wi at *
  generalize hX : Img.exK (Img.idx tag) n = X at *
  have hne : ¬ er = 0 := by omega
  clear hS hB hWi hX ok
  go_enter Try.func11, Try.ntmps11
  go_wp2_with fail
  refine (kfit _).mono ?_
  rintro e w1 ⟨rfl, hb1⟩
  have zs := hb1.size
  go_wp2_with fail
  go_ret2
  refine ⟨rfl, ?_⟩
  simp only [World.size_alloc] at zs
  exact (((Below.refl _ W).alloc (Nat.le_refl _) _).trans (hb1.mono (by simp))).alloc (by omega) _
end Go.Proofs.Ytfdmbgmhgbhggaa.Ca
