/- Package cell: the ring: its small methods. -/
import Derived.Test.YtcaffmkghllmgaaCell
import Derived.Deep.RegionHeld3
import Derived.Deep.OwnRows
namespace Go.Proofs.Ytcaffmkghllmgaa.Cl
open Go.RowKit Go.Deep
set_option linter.unusedVariables false
set_option linter.unusedSimpArgs false

/-- A ring at block b, with its room in block g. -/
structure RingS (RT ET : TypeId) (W : World) (b g room first n : Nat) (cs : List Value) : Prop where
  hb : W.heap[b]? = some (.cells #[.slice (some ⟨g, 0, none⟩) room room, .int .i64 first, .int .i64 n] RT (0, 0))
  hg : W.heap[g]? = some (.cells cs.toArray ET (0, 0))
  len : cs.length = room
  ne : b ≠ g
  first : first < room
  n : n ≤ room
  most : room ≤ 65536
/-- Nothing but these two blocks is another one. -/
structure Oth (b g : Nat) (W W' : World) : Prop where
  os : W'.os = W.os
  tape : W'.tape = W.tape
  output : W'.output = W.output
  size : W'.heap.size = W.heap.size
  block : ∀ k, k ≠ b → k ≠ g → W'.heap[k]? = W.heap[k]?
theorem Oth.refl (b g : Nat) (W : World) : Oth b g W W := ⟨rfl, rfl, rfl, rfl, fun _ _ _ => rfl⟩
theorem Oth.trans {b g : Nat} {A B C : World} (h : Oth b g A B) (k : Oth b g B C) : Oth b g A C :=
  ⟨k.os.trans h.os, k.tape.trans h.tape, k.output.trans h.output, k.size.trans h.size, fun i hi hj => (k.block i hi hj).trans (h.block i hi hj)⟩
theorem Oth.drew {b g : Nat} {A B : World} (h : Oth b g A B) : Oth b g A B.drew := ⟨h.os, h.tape, h.output, h.size, h.block⟩
theorem Oth.set {b g : Nat} {A B : World} (h : Oth b g A B) (p : Addr) (hp : p.block = b ∨ p.block = g) (u : Value) : Oth b g A (B.setCell p u) :=
  ⟨h.os, h.tape, h.output, by simpa using h.size, fun k hk hk' => (heap_setCell_other B p k u (by rcases hp with e | e <;> rw [e] <;> assumption)).trans (h.block k hk hk')⟩
theorem Oth.below {b g B : Nat} {w A C : World} (h : Oth b g A C) (hw : Below B w A) (hb : B ≤ b) (hg : B ≤ g) : Below B w C :=
  hw.trans ⟨h.os, h.tape, h.output, Nat.le_of_eq h.size.symm, fun k hk => h.block k (by omega) (by omega)⟩
section
variable {RT ET : TypeId} {W : World} {b g room first n : Nat} {cs : List Value}
theorem RingS.drew (h : RingS RT ET W b g room first n cs) : RingS RT ET W.drew b g room first n cs := ⟨h.hb, h.hg, h.len, h.ne, h.first, h.n, h.most⟩
theorem RingS.moved {W' : World} (h : RingS RT ET W b g room first n cs) (hk : W'.heap[b]? = W.heap[b]?) (hk' : W'.heap[g]? = W.heap[g]?) : RingS RT ET W' b g room first n cs := ⟨hk.trans h.hb, hk'.trans h.hg, h.len, h.ne, h.first, h.n, h.most⟩
theorem RingS.lt (h : RingS RT ET W b g room first n cs) : b < W.heap.size ∧ g < W.heap.size := ⟨(Array.getElem?_eq_some_iff.1 h.hb).1, (Array.getElem?_eq_some_iff.1 h.hg).1⟩
theorem RingS.below {W' : World} (h : RingS RT ET W b g room first n cs) (hb : Below W.heap.size W W') : RingS RT ET W' b g room first n cs := h.moved (hb.block _ h.lt.1) (hb.block _ h.lt.2)
theorem RingS.c0 (h : RingS RT ET W b g room first n cs) : W.cell? ⟨b, 0, none⟩ = some (.slice (some ⟨g, 0, none⟩) room room) := by rw [cell_of_row W b 0 _ _ _ h.hb]; rfl
theorem RingS.c1 (h : RingS RT ET W b g room first n cs) : W.cell? ⟨b, 1, none⟩ = some (.int .i64 first) := by rw [cell_of_row W b 1 _ _ _ h.hb]; rfl
theorem RingS.c2 (h : RingS RT ET W b g room first n cs) : W.cell? ⟨b, 2, none⟩ = some (.int .i64 n) := by rw [cell_of_row W b 2 _ _ _ h.hb]; rfl
theorem RingS.cg (h : RingS RT ET W b g room first n cs) (i : Nat) (hi : i < room) : W.cell? ⟨g, i, none⟩ = some (cs[i]'(by rw [h.len]; exact hi)) := by
  rw [cell_of_row W g i _ _ _ h.hg, List.getElem?_toArray, List.getElem?_eq_getElem]
theorem RingS.fb (h : RingS RT ET W b g room first n cs) (i : Nat) : W.frozen? ⟨b, i, none⟩ = false := frozen_of_row W b i _ _ h.hb
theorem RingS.fg (h : RingS RT ET W b g room first n cs) (i : Nat) : W.frozen? ⟨g, i, none⟩ = false := frozen_of_row W g i _ _ h.hg
theorem RingS.setG (h : RingS RT ET W b g room first n cs) (i : Nat) (u : Value) : RingS RT ET (W.setCell ⟨g, i, none⟩ u) b g room first n (cs.set i u) :=
  ⟨(heap_setCell_other W ⟨g, i, none⟩ b u h.ne).trans h.hb, by rw [heap_setCell_same W g i _ _ u h.hg]; simp, by simpa using h.len, h.ne, h.first, h.n, h.most⟩
theorem RingS.setN (h : RingS RT ET W b g room first n cs) (m : Nat) (hm : m ≤ room) (z : Int) (hz : z = m) : RingS RT ET (W.setCell ⟨b, 2, none⟩ (.int .i64 z)) b g room first m cs :=
  ⟨by rw [heap_setCell_same W b 2 _ _ _ h.hb, hz]; simp, (heap_setCell_other W ⟨b, 2, none⟩ g _ h.ne.symm).trans h.hg, h.len, h.ne, h.first, hm, h.most⟩
theorem RingS.setF (h : RingS RT ET W b g room first n cs) (m : Nat) (hm : m < room) (z : Int) (hz : z = m) : RingS RT ET (W.setCell ⟨b, 1, none⟩ (.int .i64 z)) b g room m n cs :=
  ⟨by rw [heap_setCell_same W b 1 _ _ _ h.hb, hz]; simp, (heap_setCell_other W ⟨b, 1, none⟩ g _ h.ne.symm).trans h.hg, h.len, h.ne, hm, h.n, h.most⟩
end


theorem none_string (w : World) : Calls Try.prog 38 #[] w fun e w' => e = .returned (.string ⟨#[]⟩) ∧ w' = w := by
  go_enter Try.func38, Try.ntmps38
  go_wp2_with fail
  go_ret
  exact ⟨rfl, rfl⟩
theorem len_string (W : World) (b g room first n : Nat) (cs : List Value) (h : RingS 94 9 W b g room first n cs) : Calls Try.prog 31 #[.pointer (some ⟨b, 0, none⟩)] W fun e w' => e = .returned (.int .i64 n) ∧ w' = W := by
  have h2 := h.c2
  go_enter Try.func31, Try.ntmps31
  go_wp2_with fail
  go_ret
  exact ⟨rfl, rfl⟩
theorem place_string (W : World) (b g room first n : Nat) (cs : List Value) (h : RingS 94 9 W b g room first n cs) (i : Nat) (hi : i ≤ 1000000) : Calls Try.prog 39 #[.pointer (some ⟨b, 0, none⟩), .int .i64 i] W fun e w' => e = .returned (.int .i64 (((first + i) % room : Nat) : Int)) ∧ w' = W.drew := by
  have h0 := h.c0
  have h1 := h.c1
  have h2 := h.c2
  have hf := h.first
  have hm := h.most
  have hs : IntKind.i64.wrap ((first : Int) + i) = first + i := IntWalk.i64_in _ (by omega)
  go_enter Try.func39, Try.ntmps39
  go_wp2_with fail
  go_region
  all_goals go_wp2
  all_goals go_ret
  all_goals exact ⟨by push_cast; rfl, rfl⟩

theorem putlt_string (W : World) (b g room first n : Nat) (cs : List Value) (h : RingS 94 9 W b g room first n cs) (hn : n < room) (x : ByteArray) : Calls Try.prog 29 #[.pointer (some ⟨b, 0, none⟩), .string x] W fun e w' => e = .returned (.tuple #[.string ⟨#[]⟩, .bool false]) ∧
    RingS 94 9 w' b g room first (n + 1) (cs.set ((first + n) % room) (.string x)) ∧ Oth b g W w' := by
  have h0 := h.c0
  have h1 := h.c1
  have h2 := h.c2
  have hf := h.first
  have hm := h.most
  have hp : (first + n) % room < room := Nat.mod_lt _ (by omega)
  have hcg := h.cg _ hp
  have hfg := h.fg ((first + n) % room)
  have hfb := h.fb 2
  have hne : ¬ b = g := h.ne
  have hne' : ¬ g = b := fun e => h.ne e.symm
  have k1 := fun W' (h' : RingS 94 9 W' b g room first n cs) => place_string W' b g room first n cs h' n (by omega)
  generalize hP : (first + n) % room = P at *
  have hP0 : (0 : Int) ≤ (P : Int) := by omega
  have hP1 : (P : Int) < room := by omega
  have k2 := none_string
  go_enter Try.func29, Try.ntmps29
  go_wp2_with fail
  go_region
  all_goals go_wp2_with fail
  go_region_held3 (fun W => W.cell? ⟨b, 0, none⟩ = some (.slice (some ⟨g, 0, none⟩) room room) ∧ W.cell? ⟨b, 1, none⟩ = some (.int .i64 first) ∧ W.cell? ⟨b, 2, none⟩ = some (.int .i64 n)) (go_keep) ((go_at_call 39; refine (k1 _ h.drew.drew).mono ?_; rintro e w' ⟨rfl, rfl⟩))
  all_goals go_wp2_with fail
  refine (k2 _).mono ?_
  rintro e w' ⟨rfl, rfl⟩
  go_wp2_with fail
  go_ret2
  exact ⟨rfl, ((h.setG P (.string x)).setN (n + 1) hn _ (by push_cast; rfl)).drew.drew.drew, (((Oth.refl b g W).set ⟨g, P, none⟩ (.inr rfl) _).set ⟨b, 2, none⟩ (.inl rfl) _).drew.drew.drew⟩
theorem putfull_string (W : World) (b g room first n : Nat) (cs : List Value) (h : RingS 94 9 W b g room first n cs) (hn : n = room) (x old : ByteArray) (ho : cs[first]? = some (.string old)) : Calls Try.prog 29 #[.pointer (some ⟨b, 0, none⟩), .string x] W fun e w' => e = .returned (.tuple #[.string old, .bool true]) ∧
    RingS 94 9 w' b g room ((first + 1) % room) n (cs.set first (.string x)) ∧ Oth b g W w' := by
  have h0 := h.c0
  have h1 := h.c1
  have h2 := h.c2
  have hf := h.first
  have hm := h.most
  have hcg : W.cell? ⟨g, first, none⟩ = some (.string old) := by
    rw [cell_of_row W g first _ _ _ h.hg, List.getElem?_toArray]; exact ho
  have hfg := h.fg first
  have hfb := h.fb 1
  have hne : ¬ b = g := h.ne
  have hne' : ¬ g = b := fun e => h.ne e.symm
  have k1 := fun W' (h' : RingS 94 9 W' b g room first n (cs.set first (.string x))) => (place_string W' b g room first n _ h' 1 (by omega) : Calls Try.prog 39 #[.pointer (some ⟨b, 0, none⟩), .int .i64 1] W' _)
  have hP1 : (first + 1) % room < room := Nat.mod_lt _ (by omega)
  generalize hP : (first + 1) % room = P at *
  have hf0 : (0 : Int) ≤ (first : Int) := by omega
  have hf1 : (first : Int) < room := by omega
  subst hn
  go_enter Try.func29, Try.ntmps29
  go_wp2_with fail
  go_region
  all_goals go_wp2_with fail
  go_region
  all_goals go_wp2_with fail
  go_region
  all_goals go_wp2_with fail
  refine (k1 _ (h.setG first _).drew.drew.drew).mono ?_
  rintro e w' ⟨rfl, rfl⟩
  go_wp2_with fail
  go_ret2
  exact ⟨rfl, ((h.setG first (.string x)).setF P hP1 _ rfl).drew.drew.drew.drew, (((Oth.refl b g W).set ⟨g, first, none⟩ (.inr rfl) _).set ⟨b, 1, none⟩ (.inl rfl) _).drew.drew.drew.drew⟩

theorem none_int (w : World) : Calls Try.prog 32 #[] w fun e w' => e = .returned (.int .i64 0) ∧ w' = w := by
  go_enter Try.func32, Try.ntmps32
  go_wp2_with fail
  go_ret
  exact ⟨rfl, rfl⟩
theorem len_int (W : World) (b g room first n : Nat) (cs : List Value) (h : RingS 77 3 W b g room first n cs) : Calls Try.prog 20 #[.pointer (some ⟨b, 0, none⟩)] W fun e w' => e = .returned (.int .i64 n) ∧ w' = W := by
  have h2 := h.c2
  go_enter Try.func20, Try.ntmps20
  go_wp2_with fail
  go_ret
  exact ⟨rfl, rfl⟩
theorem place_int (W : World) (b g room first n : Nat) (cs : List Value) (h : RingS 77 3 W b g room first n cs) (i : Nat) (hi : i ≤ 1000000) : Calls Try.prog 33 #[.pointer (some ⟨b, 0, none⟩), .int .i64 i] W fun e w' => e = .returned (.int .i64 (((first + i) % room : Nat) : Int)) ∧ w' = W.drew := by
  have h0 := h.c0
  have h1 := h.c1
  have h2 := h.c2
  have hf := h.first
  have hm := h.most
  have hs : IntKind.i64.wrap ((first : Int) + i) = first + i := IntWalk.i64_in _ (by omega)
  go_enter Try.func33, Try.ntmps33
  go_wp2_with fail
  go_region
  all_goals go_wp2
  all_goals go_ret
  all_goals exact ⟨by push_cast; rfl, rfl⟩

theorem putlt_int (W : World) (b g room first n : Nat) (cs : List Value) (h : RingS 77 3 W b g room first n cs) (hn : n < room) (x : Int) : Calls Try.prog 16 #[.pointer (some ⟨b, 0, none⟩), .int .i64 x] W fun e w' => e = .returned (.tuple #[.int .i64 0, .bool false]) ∧
    RingS 77 3 w' b g room first (n + 1) (cs.set ((first + n) % room) (.int .i64 x)) ∧ Oth b g W w' := by
  have h0 := h.c0
  have h1 := h.c1
  have h2 := h.c2
  have hf := h.first
  have hm := h.most
  have hp : (first + n) % room < room := Nat.mod_lt _ (by omega)
  have hcg := h.cg _ hp
  have hfg := h.fg ((first + n) % room)
  have hfb := h.fb 2
  have hne : ¬ b = g := h.ne
  have hne' : ¬ g = b := fun e => h.ne e.symm
  have k1 := fun W' (h' : RingS 77 3 W' b g room first n cs) => place_int W' b g room first n cs h' n (by omega)
  generalize hP : (first + n) % room = P at *
  have hP0 : (0 : Int) ≤ (P : Int) := by omega
  have hP1 : (P : Int) < room := by omega
  have k2 := none_int
  go_enter Try.func16, Try.ntmps16
  go_wp2_with fail
  go_region
  all_goals go_wp2_with fail
  go_region_held3 (fun W => W.cell? ⟨b, 0, none⟩ = some (.slice (some ⟨g, 0, none⟩) room room) ∧ W.cell? ⟨b, 1, none⟩ = some (.int .i64 first) ∧ W.cell? ⟨b, 2, none⟩ = some (.int .i64 n)) (go_keep) ((go_at_call 33; refine (k1 _ h.drew.drew).mono ?_; rintro e w' ⟨rfl, rfl⟩))
  all_goals go_wp2_with fail
  refine (k2 _).mono ?_
  rintro e w' ⟨rfl, rfl⟩
  go_wp2_with fail
  go_ret2
  exact ⟨rfl, ((h.setG P (.int .i64 x)).setN (n + 1) hn _ (by push_cast; rfl)).drew.drew.drew, (((Oth.refl b g W).set ⟨g, P, none⟩ (.inr rfl) _).set ⟨b, 2, none⟩ (.inl rfl) _).drew.drew.drew⟩
theorem putfull_int (W : World) (b g room first n : Nat) (cs : List Value) (h : RingS 77 3 W b g room first n cs) (hn : n = room) (x old : Int) (ho : cs[first]? = some (.int .i64 old)) : Calls Try.prog 16 #[.pointer (some ⟨b, 0, none⟩), .int .i64 x] W fun e w' => e = .returned (.tuple #[.int .i64 old, .bool true]) ∧
    RingS 77 3 w' b g room ((first + 1) % room) n (cs.set first (.int .i64 x)) ∧ Oth b g W w' := by
  have h0 := h.c0
  have h1 := h.c1
  have h2 := h.c2
  have hf := h.first
  have hm := h.most
  have hcg : W.cell? ⟨g, first, none⟩ = some (.int .i64 old) := by
    rw [cell_of_row W g first _ _ _ h.hg, List.getElem?_toArray]; exact ho
  have hfg := h.fg first
  have hfb := h.fb 1
  have hne : ¬ b = g := h.ne
  have hne' : ¬ g = b := fun e => h.ne e.symm
  have k1 := fun W' (h' : RingS 77 3 W' b g room first n (cs.set first (.int .i64 x))) => (place_int W' b g room first n _ h' 1 (by omega) : Calls Try.prog 33 #[.pointer (some ⟨b, 0, none⟩), .int .i64 1] W' _)
  have hP1 : (first + 1) % room < room := Nat.mod_lt _ (by omega)
  generalize hP : (first + 1) % room = P at *
  have hf0 : (0 : Int) ≤ (first : Int) := by omega
  have hf1 : (first : Int) < room := by omega
  subst hn
  go_enter Try.func16, Try.ntmps16
  go_wp2_with fail
  go_region
  all_goals go_wp2_with fail
  go_region
  all_goals go_wp2_with fail
  go_region
  all_goals go_wp2_with fail
  refine (k1 _ (h.setG first _).drew.drew.drew).mono ?_
  rintro e w' ⟨rfl, rfl⟩
  go_wp2_with fail
  go_ret2
  exact ⟨rfl, ((h.setG first (.int .i64 x)).setF P hP1 _ rfl).drew.drew.drew.drew, (((Oth.refl b g W).set ⟨g, first, none⟩ (.inr rfl) _).set ⟨b, 1, none⟩ (.inl rfl) _).drew.drew.drew.drew⟩
end Go.Proofs.Ytcaffmkghllmgaa.Cl
