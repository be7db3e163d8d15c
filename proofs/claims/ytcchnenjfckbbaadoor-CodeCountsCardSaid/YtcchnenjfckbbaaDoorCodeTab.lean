/- Package code: its tables; rows, modes, known. -/
import Derived.Test.YtcchnenjfckbbaaDoorCodeKinds
import Derived.Laws.Tables
import Derived.KernelRfl
import Derived.Deep.WholeRow
namespace Go.Proofs.YtcchnenjfckbbaaDoor.Co
open Go.RowKit Go.Maps Go.WideMaps Go.Deep Go.Proofs.Tryd
set_option linter.unusedVariables false
set_option linter.unusedSimpArgs false
def rowsL : List ByteArray := [
  ⟨#[66, 82, 75, 79, 82, 65, 74, 65, 77, 83, 76, 79, 78, 79, 80, 79, 82, 65, 65, 83, 76, 83, 76, 79, 80, 72, 80, 79, 82, 65, 65, 83, 76, 65, 78, 67, 78, 79, 80, 79, 82, 65, 65, 83, 76, 83, 76, 79]⟩,
  ⟨#[66, 80, 76, 79, 82, 65, 74, 65, 77, 83, 76, 79, 78, 79, 80, 79, 82, 65, 65, 83, 76, 83, 76, 79, 67, 76, 67, 79, 82, 65, 78, 79, 80, 83, 76, 79, 78, 79, 80, 79, 82, 65, 65, 83, 76, 83, 76, 79]⟩,
  ⟨#[74, 83, 82, 65, 78, 68, 74, 65, 77, 82, 76, 65, 66, 73, 84, 65, 78, 68, 82, 79, 76, 82, 76, 65, 80, 76, 80, 65, 78, 68, 82, 79, 76, 65, 78, 67, 66, 73, 84, 65, 78, 68, 82, 79, 76, 82, 76, 65]⟩,
  ⟨#[66, 77, 73, 65, 78, 68, 74, 65, 77, 82, 76, 65, 78, 79, 80, 65, 78, 68, 82, 79, 76, 82, 76, 65, 83, 69, 67, 65, 78, 68, 78, 79, 80, 82, 76, 65, 78, 79, 80, 65, 78, 68, 82, 79, 76, 82, 76, 65]⟩,
  ⟨#[82, 84, 73, 69, 79, 82, 74, 65, 77, 83, 82, 69, 78, 79, 80, 69, 79, 82, 76, 83, 82, 83, 82, 69, 80, 72, 65, 69, 79, 82, 76, 83, 82, 65, 76, 82, 74, 77, 80, 69, 79, 82, 76, 83, 82, 83, 82, 69]⟩,
  ⟨#[66, 86, 67, 69, 79, 82, 74, 65, 77, 83, 82, 69, 78, 79, 80, 69, 79, 82, 76, 83, 82, 83, 82, 69, 67, 76, 73, 69, 79, 82, 78, 79, 80, 83, 82, 69, 78, 79, 80, 69, 79, 82, 76, 83, 82, 83, 82, 69]⟩,
  ⟨#[82, 84, 83, 65, 68, 67, 74, 65, 77, 82, 82, 65, 78, 79, 80, 65, 68, 67, 82, 79, 82, 82, 82, 65, 80, 76, 65, 65, 68, 67, 82, 79, 82, 65, 82, 82, 74, 77, 80, 65, 68, 67, 82, 79, 82, 82, 82, 65]⟩,
  ⟨#[66, 86, 83, 65, 68, 67, 74, 65, 77, 82, 82, 65, 78, 79, 80, 65, 68, 67, 82, 79, 82, 82, 82, 65, 83, 69, 73, 65, 68, 67, 78, 79, 80, 82, 82, 65, 78, 79, 80, 65, 68, 67, 82, 79, 82, 82, 82, 65]⟩,
  ⟨#[78, 79, 80, 83, 84, 65, 78, 79, 80, 83, 65, 88, 83, 84, 89, 83, 84, 65, 83, 84, 88, 83, 65, 88, 68, 69, 89, 78, 79, 80, 84, 88, 65, 65, 78, 69, 83, 84, 89, 83, 84, 65, 83, 84, 88, 83, 65, 88]⟩,
  ⟨#[66, 67, 67, 83, 84, 65, 74, 65, 77, 83, 72, 65, 83, 84, 89, 83, 84, 65, 83, 84, 88, 83, 65, 88, 84, 89, 65, 83, 84, 65, 84, 88, 83, 84, 65, 83, 83, 72, 89, 83, 84, 65, 83, 72, 88, 83, 72, 65]⟩,
  ⟨#[76, 68, 89, 76, 68, 65, 76, 68, 88, 76, 65, 88, 76, 68, 89, 76, 68, 65, 76, 68, 88, 76, 65, 88, 84, 65, 89, 76, 68, 65, 84, 65, 88, 76, 88, 65, 76, 68, 89, 76, 68, 65, 76, 68, 88, 76, 65, 88]⟩,
  ⟨#[66, 67, 83, 76, 68, 65, 74, 65, 77, 76, 65, 88, 76, 68, 89, 76, 68, 65, 76, 68, 88, 76, 65, 88, 67, 76, 86, 76, 68, 65, 84, 83, 88, 76, 65, 83, 76, 68, 89, 76, 68, 65, 76, 68, 88, 76, 65, 88]⟩,
  ⟨#[67, 80, 89, 67, 77, 80, 78, 79, 80, 68, 67, 80, 67, 80, 89, 67, 77, 80, 68, 69, 67, 68, 67, 80, 73, 78, 89, 67, 77, 80, 68, 69, 88, 83, 66, 88, 67, 80, 89, 67, 77, 80, 68, 69, 67, 68, 67, 80]⟩,
  ⟨#[66, 78, 69, 67, 77, 80, 74, 65, 77, 68, 67, 80, 78, 79, 80, 67, 77, 80, 68, 69, 67, 68, 67, 80, 67, 76, 68, 67, 77, 80, 78, 79, 80, 68, 67, 80, 78, 79, 80, 67, 77, 80, 68, 69, 67, 68, 67, 80]⟩,
  ⟨#[67, 80, 88, 83, 66, 67, 78, 79, 80, 73, 83, 67, 67, 80, 88, 83, 66, 67, 73, 78, 67, 73, 83, 67, 73, 78, 88, 83, 66, 67, 78, 79, 80, 83, 66, 67, 67, 80, 88, 83, 66, 67, 73, 78, 67, 73, 83, 67]⟩,
  ⟨#[66, 69, 81, 83, 66, 67, 74, 65, 77, 73, 83, 67, 78, 79, 80, 83, 66, 67, 73, 78, 67, 73, 83, 67, 83, 69, 68, 83, 66, 67, 78, 79, 80, 73, 83, 67, 78, 79, 80, 83, 66, 67, 73, 78, 67, 73, 83, 67]⟩]
def rowsV : Array Value := (rowsL.map Value.string).toArray
def rowsB (r : Nat) : ByteArray := rowsL.getD r ⟨#[]⟩
def modesL : List ByteArray := [
  ⟨#[112, 105, 112, 105, 122, 122, 122, 122, 112, 109, 99, 109, 97, 97, 97, 97]⟩,
  ⟨#[114, 106, 112, 106, 120, 120, 120, 120, 112, 89, 112, 89, 88, 88, 88, 88]⟩,
  ⟨#[97, 105, 112, 105, 122, 122, 122, 122, 112, 109, 99, 109, 97, 97, 97, 97]⟩,
  ⟨#[114, 106, 112, 106, 120, 120, 120, 120, 112, 89, 112, 89, 88, 88, 88, 88]⟩,
  ⟨#[112, 105, 112, 105, 122, 122, 122, 122, 112, 109, 99, 109, 97, 97, 97, 97]⟩,
  ⟨#[114, 106, 112, 106, 120, 120, 120, 120, 112, 89, 112, 89, 88, 88, 88, 88]⟩,
  ⟨#[112, 105, 112, 105, 122, 122, 122, 122, 112, 109, 99, 109, 110, 97, 97, 97]⟩,
  ⟨#[114, 106, 112, 106, 120, 120, 120, 120, 112, 89, 112, 89, 88, 88, 88, 88]⟩,
  ⟨#[109, 105, 109, 105, 122, 122, 122, 122, 112, 109, 112, 109, 97, 97, 97, 97]⟩,
  ⟨#[114, 106, 112, 106, 120, 120, 121, 121, 112, 89, 112, 89, 88, 88, 89, 89]⟩,
  ⟨#[109, 105, 109, 105, 122, 122, 122, 122, 112, 109, 112, 109, 97, 97, 97, 97]⟩,
  ⟨#[114, 106, 112, 106, 120, 120, 121, 121, 112, 89, 112, 89, 88, 88, 89, 89]⟩,
  ⟨#[109, 105, 109, 105, 122, 122, 122, 122, 112, 109, 112, 109, 97, 97, 97, 97]⟩,
  ⟨#[114, 106, 112, 106, 120, 120, 120, 120, 112, 89, 112, 89, 88, 88, 88, 88]⟩,
  ⟨#[109, 105, 109, 105, 122, 122, 122, 122, 112, 109, 112, 109, 97, 97, 97, 97]⟩,
  ⟨#[114, 106, 112, 106, 120, 120, 120, 120, 112, 89, 112, 89, 88, 88, 88, 88]⟩]
def modesV : Array Value := (modesL.map Value.string).toArray
def modesB (r : Nat) : ByteArray := modesL.getD r ⟨#[]⟩
theorem wpList_buildc {P : Program} {ops : Array Oper} {rest : List Oper} {o : Oper} {a : Act} {w : World} {Q : Exit → Act → World → Prop} (hg : o.guard = none) (t : TypeId) (parts : Array (Nat × Operand)) (ho : o.op = .build t parts) (cells : Array Value)
    (hf : P.built t (parts.map fun (i, x) => (i, a.eval x)).toList = some cells)
    (h : wpList P ops Q rest (a.put o.dst (.agg cells)) w) : wpList P ops Q (o :: rest) a w := by
  refine wpList_build hg t parts ho (by rw [hf]; rfl) ?_
  rw [hf]; exact h
def zs : Array Value := (List.replicate 16 (Value.string ⟨#[]⟩)).toArray
theorem alloc_zs (w : World) : (Instr.alloc 40 true (.tuple #[])).run Tryd.prog w = .ok (.pointer (some ⟨w.heap.size, 0, none⟩)) (w.alloc (.cells zs 40)) := by kernel_rfl
theorem rows_store (W : World) (c : Array Value) (hc : c.size = 16) : (storeCells ⟨W.heap.size, 0, none⟩ rowsV.toList 0).run Tryd.prog (W.alloc (.cells c 40)) = .ok () (W.alloc (.cells rowsV 40)) :=
  run_storeCells_new W 40 c rowsV (by kernel_rfl) (hc.trans (by kernel_rfl)) (by kernel_rfl)
theorem rows_any (w : World) : Calls Tryd.prog 17 #[] w fun e w' => e = .returned (.agg rowsV) ∧ Below w.heap.size w w' := by
  have hst := rows_store w
  have hvs : rowsV.size = 16 := by kernel_rfl
  go_enter Tryd.func17, Tryd.ntmps17
  go_wp2_with (refine wpList_buildc rfl 40 _ rfl rowsV (by kernel_rfl) ?_)
  refine bodyPost_ret (results_cell_row rfl _ _ w.heap.size 40 rowsV (0, 0) _ (by kernel_rfl) (heap_alloc_new w _) Tryd.underlying40 rfl (by kernel_rfl)) rfl ?_
  exact ⟨rfl, (Below.refl _ _).alloc (Nat.le_refl _) _⟩
theorem rows_at (w : World) (r : Nat) (hr : r < 16) : (Instr.index 40 (.agg rowsV) (.int .i64 (r : Int))).run Tryd.prog w = .ok (.string (rowsB r)) w := by
  exact match r, hr with
  | 0, _ => by kernel_rfl
  | 1, _ => by kernel_rfl
  | 2, _ => by kernel_rfl
  | 3, _ => by kernel_rfl
  | 4, _ => by kernel_rfl
  | 5, _ => by kernel_rfl
  | 6, _ => by kernel_rfl
  | 7, _ => by kernel_rfl
  | 8, _ => by kernel_rfl
  | 9, _ => by kernel_rfl
  | 10, _ => by kernel_rfl
  | 11, _ => by kernel_rfl
  | 12, _ => by kernel_rfl
  | 13, _ => by kernel_rfl
  | 14, _ => by kernel_rfl
  | 15, _ => by kernel_rfl
  | (k + 16), h => absurd h (by omega)
theorem modes_store (W : World) (c : Array Value) (hc : c.size = 16) : (storeCells ⟨W.heap.size, 0, none⟩ modesV.toList 0).run Tryd.prog (W.alloc (.cells c 40)) = .ok () (W.alloc (.cells modesV 40)) :=
  run_storeCells_new W 40 c modesV (by kernel_rfl) (hc.trans (by kernel_rfl)) (by kernel_rfl)
theorem modes_any (w : World) : Calls Tryd.prog 19 #[] w fun e w' => e = .returned (.agg modesV) ∧ Below w.heap.size w w' := by
  have hst := modes_store w
  have hvs : modesV.size = 16 := by kernel_rfl
  go_enter Tryd.func19, Tryd.ntmps19
  go_wp2_with (refine wpList_buildc rfl 40 _ rfl modesV (by kernel_rfl) ?_)
  refine bodyPost_ret (results_cell_row rfl _ _ w.heap.size 40 modesV (0, 0) _ (by kernel_rfl) (heap_alloc_new w _) Tryd.underlying40 rfl (by kernel_rfl)) rfl ?_
  exact ⟨rfl, (Below.refl _ _).alloc (Nat.le_refl _) _⟩
theorem modes_at (w : World) (r : Nat) (hr : r < 16) : (Instr.index 40 (.agg modesV) (.int .i64 (r : Int))).run Tryd.prog w = .ok (.string (modesB r)) w := by
  exact match r, hr with
  | 0, _ => by kernel_rfl
  | 1, _ => by kernel_rfl
  | 2, _ => by kernel_rfl
  | 3, _ => by kernel_rfl
  | 4, _ => by kernel_rfl
  | 5, _ => by kernel_rfl
  | 6, _ => by kernel_rfl
  | 7, _ => by kernel_rfl
  | 8, _ => by kernel_rfl
  | 9, _ => by kernel_rfl
  | 10, _ => by kernel_rfl
  | 11, _ => by kernel_rfl
  | 12, _ => by kernel_rfl
  | 13, _ => by kernel_rfl
  | 14, _ => by kernel_rfl
  | 15, _ => by kernel_rfl
  | (k + 16), h => absurd h (by omega)
theorem rowsB_size : ∀ r < 16, (rowsB r).size = 48 := by decide +kernel
theorem modesB_size : ∀ r < 16, (modesB r).size = 16 := by decide +kernel
/-- Documented? -/
def others : List UInt8 := [83, 76, 79, 32, 82, 76, 65, 32, 83, 82, 69, 32, 82, 82, 65, 32, 83, 65, 88, 32, 76, 65, 88, 32, 68, 67, 80, 32, 73, 83, 67, 32, 65, 78, 67, 32, 65, 76, 82, 32, 65, 82, 82, 32, 65, 78, 69, 32, 83, 72, 65, 32, 84, 65, 83, 32, 83, 72, 89, 32, 83, 72, 88, 32, 76, 88, 65, 32, 76, 65, 83, 32, 83, 66, 88, 32, 74, 65, 77]
def knownF (op : Int) (l : List UInt8) : Bool := if op = 235 then false else if l = [78, 79, 80] ∧ ¬ op = 234 then false else !(Lib.contains others l)
theorem Gl.cell {w : World} (h : Gl w) : ∃ m, w.cell? ⟨1, 0, none⟩ = some (.int .i64 m) := h.mx
set_option maxRecDepth 100000 in
theorem known_any (op : Int) (s : ByteArray) (w : World) (hG : Gl w) : Calls Tryd.prog 20 #[.int .u8 op, .string s] w fun e w' => e = .returned (.bool (knownF op s.toList)) ∧ w = w' := by
  obtain ⟨m, hm⟩ := hG.mx
  have hd : (⟨#[83, 76, 79, 32, 82, 76, 65, 32, 83, 82, 69, 32, 82, 82, 65, 32, 83, 65, 88, 32, 76, 65, 88, 32, 68, 67, 80, 32, 73, 83, 67, 32, 65, 78, 67, 32, 65, 76, 82, 32, 65, 82, 82, 32, 65, 78, 69, 32, 83, 72, 65, 32, 84, 65, 83, 32, 83, 72, 89, 32, 83, 72, 88, 32, 76, 88, 65, 32, 76, 65, 83, 32, 83, 66, 88, 32, 74, 65, 77]⟩ : ByteArray).data.toList = others := rfl
  have kc := strings_Contains ⟨#[83, 76, 79, 32, 82, 76, 65, 32, 83, 82, 69, 32, 82, 82, 65, 32, 83, 65, 88, 32, 76, 65, 88, 32, 68, 67, 80, 32, 73, 83, 67, 32, 65, 78, 67, 32, 65, 76, 82, 32, 65, 82, 82, 32, 65, 78, 69, 32, 83, 72, 65, 32, 84, 65, 83, 32, 83, 72, 89, 32, 83, 72, 88, 32, 76, 88, 65, 32, 76, 65, 83, 32, 83, 66, 88, 32, 74, 65, 77]⟩ s m w (by decide) hm
  rw [hd] at kc
  have hl : s.data.toList = s.toList := (ByteArray.toList_eq s).symm
  rw [hl] at kc
  by_cases h1 : op = 235
  · subst h1
    go_enter Tryd.func20, Tryd.ntmps20
    go_wp2_with fail
    go_ret
    exact ⟨rfl, rfl⟩
  have b1 : (op == 235) = false := beq_false_of_ne h1
  by_cases h2 : s.toList = [78, 79, 80]
  · by_cases h3 : op = 234
    · subst h3
      have hk : knownF 234 s.toList = !(Lib.contains others s.toList) := by unfold knownF; rw [if_neg h1, if_neg (by simp)]
      rw [hk, h2]
      rw [h2] at kc
      have HK := Lib.hid kc
      go_enter Tryd.func20, Tryd.ntmps20
      go_wp2_with fail
      refine HK.out.mono ?_
      rintro e w' ⟨rfl, rfl⟩
      go_wp2_with fail
      go_ret
      exact ⟨rfl, rfl⟩
    · have hk : knownF op s.toList = false := by unfold knownF; rw [if_neg h1, if_pos ⟨h2, h3⟩]
      have b3 : (op == 234) = false := beq_false_of_ne h3
      rw [hk]
      clear kc hk
      go_enter Tryd.func20, Tryd.ntmps20
      go_wp2_with fail
      go_ret
      exact ⟨rfl, rfl⟩
  · have hk : knownF op s.toList = !(Lib.contains others s.toList) := by unfold knownF; rw [if_neg h1, if_neg (fun h => h2 h.1)]
    have b2 : (s.toList == [78, 79, 80]) = false := beq_false_of_ne h2
    rw [hk]
    have HK := Lib.hid kc
    clear kc hk
    go_enter Tryd.func20, Tryd.ntmps20
    go_wp2_with fail
    refine HK.out.mono ?_
    rintro e w' ⟨rfl, rfl⟩
    go_wp2_with fail
    go_ret
    exact ⟨rfl, rfl⟩
end Go.Proofs.YtcchnenjfckbbaaDoor.Co
