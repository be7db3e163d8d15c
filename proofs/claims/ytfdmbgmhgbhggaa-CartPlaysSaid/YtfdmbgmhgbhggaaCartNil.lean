/- Package cart: a cartridge that is not there; what the windows show, the extra RAM, a copy. -/
import Derived.Test.YtfdmbgmhgbhggaaCartNew
import Derived.Deep.AppendLies
namespace Go.Proofs.Ytfdmbgmhgbhggaa.Ca
open Go.RowKit Go.Deep Go.Proofs.Ytfdmbgmhgbhggaa Go.Proofs.Ytfdmbgmhgbhggaa.Cl
set_option linter.unusedVariables false
set_option linter.unusedSimpArgs false

theorem watch_nil (W : World) (a x : Int) (wr : Bool) : Calls Try.prog 14 #[.pointer none, .int .u16 a, .int .u8 x, .bool wr] W fun e W' => e = .returned (.tuple #[]) ∧ W' = W := by
  go_enter Try.func14, Try.ntmps14
  go_wp2_with fail
  first | exact bodyPost_end (results_none rfl _ _ _) rfl ⟨rfl, rfl⟩ | exact bodyPost_ret (results_none rfl _ _ _) rfl ⟨rfl, rfl⟩
theorem where_nil (W : World) (a : Int) (h0 : 0 ≤ a) (h1 : a ≤ 65535) : Calls Try.prog 16 #[.pointer none, .int .u16 a] W fun e W' => e = .returned (.int .i64 (-1)) ∧ W' = W := by
  go_enter Try.func16, Try.ntmps16
  go_wp2_with fail
  go_ret
  exact ⟨rfl, rfl⟩
theorem peek_nil (W : World) (a : Int) (h0 : 0 ≤ a) (h1 : a ≤ 65535) : Calls Try.prog 17 #[.pointer none, .int .u16 a] W fun e W' => e = .returned (.tuple #[.int .u8 0, .bool false]) ∧ W' = W := by
  go_enter Try.func17, Try.ntmps17
  go_wp2_with fail
  refine (where_nil W a h0 h1).mono ?_
  rintro e w' ⟨rfl, rfl⟩
  go_wp2_with fail
  go_ret2
  exact ⟨rfl, rfl⟩
theorem show_nil (W : World) : Calls Try.prog 15 #[.pointer none] W fun e W' => e = .returned (.slice none 0 0) ∧ W' = W := by
  go_enter Try.func15, Try.ntmps15
  go_wp2_with fail
  go_ret
  exact ⟨rfl, rfl⟩
theorem copy_nil (W : World) : Calls Try.prog 24 #[.pointer none] W fun e W' => e = .returned (.pointer none) ∧ W' = W := by
  go_enter Try.func24, Try.ntmps24
  go_wp2_with fail
  go_ret
  exact ⟨rfl, rfl⟩
def zex : Array Value := (List.replicate 128 (Value.int .u8 0)).toArray
theorem zero_ex (W : World) : (zeroValue 22).run Try.prog W = .ok (.agg zex) W := by kernel_rfl
theorem alloc_ex (w : World) : (Instr.alloc 22 true (.tuple #[])).run Try.prog w = .ok (.pointer (some ⟨w.heap.size, 0, none⟩)) (w.alloc (.cells zex 22)) := by kernel_rfl
theorem store_ex (W : World) (c : Array Value) (hc : c.size = 128) : (storeCells ⟨W.heap.size, 0, none⟩ zex.toList 0).run Try.prog (W.alloc (.cells c 22)) = .ok () (W.alloc (.cells zex 22)) :=
  run_storeCells_new W 22 c zex (by kernel_rfl) (hc.trans (by kernel_rfl)) (by kernel_rfl)
set_option maxRecDepth 1000000 in
set_option maxHeartbeats 1000000 in
theorem extra_nil (W : World) : Calls Try.prog 23 #[.pointer none] W fun e W' => e = .returned (.agg zex) ∧ Below W.heap.size W W' := by
  have hz := zero_ex
  have hs := store_ex W zex (by kernel_rfl)
  have hzs : zex.size = 128 := by kernel_rfl
  go_enter Try.func23, Try.ntmps23
  go_wp2_with fail
  refine bodyPost_ret (results_cell_row rfl _ _ W.heap.size 22 zex (0, 0) _ (by kernel_rfl) (heap_alloc_new W _) Try.underlying22 rfl (by kernel_rfl)) rfl ?_
  exact ⟨rfl, (Below.refl _ _).alloc (Nat.le_refl _) _⟩
theorem show_any (W : World) (base b ib icap sb scap : Nat) (c : Ct) (hS : CartS W base b ib icap sb scap c) (hF : Fine c) :
    Calls Try.prog 15 #[.pointer (some ⟨b, 0, none⟩)] W fun e W' => ∃ r, e = .returned r ∧ W'.ownsRow W.heap.size 3 1 r c.sh.length (c.sh.map (Value.int .i64)) ∧ Below W.heap.size W W' := by
  have c2 := hS.c2
  have hl : c.sh.length ≤ 4 := by
    obtain ⟨p1, p2, _⟩ := fine_nums c hF
    rcases p1 with e | e | e <;> rw [e] at p2 <;> omega
  have hLi : Lies W 1 (.slice (some ⟨sb, 0, none⟩) c.sh.length scap) c.sh.length (c.sh.map (Value.int .i64)) := Lies.of_owns hS.hs
  go_enter Try.func15, Try.ntmps15
  go_wp2_with fail
  refine (clone_int W _ c.sh hLi (by omega) ⟨_, _, _, rfl⟩).mono ?_
  rintro e w' ⟨r, rfl, hown, hb⟩
  go_wp2_with fail
  go_ret
  exact ⟨r, rfl, hown, hb⟩
set_option maxRecDepth 1000000 in
set_option maxHeartbeats 1000000 in
theorem extra_any (W : World) (base b ib icap sb scap : Nat) (c : Ct) (hS : CartS W base b ib icap sb scap c) (hF : Fine c) :
    Calls Try.prog 23 #[.pointer (some ⟨b, 0, none⟩)] W fun e W' => e = .returned (.agg (c.ex.map (Value.int .u8)).toArray) ∧ Below W.heap.size W W' := by
  have hz := zero_ex
  have hel : (c.ex.map (Value.int .u8)).length = 128 := by simpa using hF.ex
  have h1 := ints_one .u8 c.ex
  have hr : (W.alloc (.cells zex 22)).rangeAt b 5 (c.ex.map (Value.int .u8)) := fun j v hv => by
    rw [World.cell?_alloc_past _ _ _ hS.blt, hS.at, show 5 + j = j + 1 + 1 + 1 + 1 + 1 from by omega]
    simp only [Ct.row, List.getElem?_cons_succ]
    have hj := (List.getElem?_eq_some_iff.1 hv).1
    rw [List.getElem?_append_left (by omega)]
    exact hv
  generalize c.ex.map (Value.int .u8) = el at *
  have hu22 := Try.underlying22
  have hi22 : (Try.prog.info? 22).map (·.size) = some el.length := by rw [hel]; kernel_rfl
  have hs : (storeCells ⟨W.heap.size, 0, none⟩ el.toArray.toList 0).run Try.prog (W.alloc (.cells zex 22)) = .ok () (W.alloc (.cells el.toArray 22)) :=
    run_storeCells_new W 22 zex el.toArray (by rw [hi22]; simp) ((show zex.size = 128 from by kernel_rfl).trans (by simp [hel])) (by simpa using h1)
  have hs2 := hs
  simp only at hs2
  have hzs : zex.size = 128 := by kernel_rfl
  go_enter Try.func23, Try.ntmps23
  go_wp2_with fail
  refine wp_load_mid _ _ rfl b 5 rfl el _ hr hu22 rfl hi22 ?_
  go_wp2_with fail
  refine bodyPost_ret (results_cell_row rfl _ _ W.heap.size 22 el.toArray (0, 0) _ (by kernel_rfl) (heap_alloc_new W _) Try.underlying22 rfl (by rw [hi22]; simp)) rfl ?_
  exact ⟨rfl, (Below.refl _ _).alloc (Nat.le_refl _) _⟩
end Go.Proofs.Ytfdmbgmhgbhggaa.Ca
