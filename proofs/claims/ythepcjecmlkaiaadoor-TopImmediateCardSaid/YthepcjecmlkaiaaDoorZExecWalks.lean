/- The contracts of package exec's small methods. -/
import Derived.Test.YthepcjecmlkaiaaDoorZAluWalks
import Derived.Test.YthepcjecmlkaiaaDoorZExecPl
import Derived.RegionTactic
import Derived.Deep.RegionWith
namespace Go.Proofs.YthepcjecmlkaiaaDoor
open Go.RowKit
set_option linter.unusedVariables false
set_option linter.unusedSimpArgs false

theorem inBlock_far {id id' : Nat} {Q : Exit → Act → World → Prop} {a : Act} {w : World} (h : id' ≠ id) (hq : Q (.exit id') a w) : Exit.inBlock id Q (.exit id') a w := by
  simp only [Exit.inBlock, h, if_false]; exact hq
theorem inBlock_here {id : Nat} {Q : Exit → Act → World → Prop} {a : Act} {w : World} (hq : Q .normal a w) : Exit.inBlock id Q (.exit id) a w := by
  simp only [Exit.inBlock, if_true]; exact hq
theorem then_exit {id : Nat} {K : Act → World → Prop} {Q : Exit → Act → World → Prop} {a : Act} {w : World} (hq : Q (.exit id) a w) : Exit.then K Q (.exit id) a w := hq

theorem setCell_twice (w : World) (b o : Nat) (v u : Value) : (w.setCell ⟨b, o, none⟩ v).setCell ⟨b, o, none⟩ u = w.setCell ⟨b, o, none⟩ u := by
  unfold World.setCell
  congr 1
  apply Array.ext
  · simp
  · intro i h1 h2
    simp only [Array.getElem_modify]
    by_cases hi : b = i
    · simp only [hi, if_true]
      cases w.heap[i]'(by simpa using h2) <;> simp [Array.setIfInBounds_setIfInBounds]
    · simp [hi]

def rgU (r : Ex.Rg) : Value := .agg #[.int .u8 r.a, .int .u8 r.x, .int .u8 r.y, .int .u8 r.s, .int .u8 r.p, .int .u16 r.pc]

set_option maxRecDepth 100000 in
set_option maxHeartbeats 1000000 in
theorem fmark_any (b : Nat) (p v : Int) (w : World) (hc : w.cell? ⟨b, 4, none⟩ = some (.int .u8 p)) (hf : w.frozen? ⟨b, 4, none⟩ = false) (h0 : 0 ≤ p) (h1 : p ≤ 255) (g0 : 0 ≤ v) (g1 : v ≤ 255) :
    Calls Tryd.prog 21 #[.pointer (some ⟨b, 0, none⟩), .int .u8 v] w fun e w' => e = .returned (.int .u8 v) ∧ w' = w.setCell ⟨b, 4, none⟩ (.int .u8 (Alu.markF p v)) := by
  go_enter Tryd.func21, Tryd.ntmps21
  go_wp2_with fail
  refine (mark_any _ _ _ h0 h1 g0 g1).mono ?_
  rintro e w' ⟨rfl, rfl⟩
  go_wp2_with fail
  go_ret
  exact ⟨rfl, rfl⟩
set_option maxRecDepth 100000 in
set_option maxHeartbeats 1000000 in
theorem fcompare_any (b : Nat) (p t m : Int) (w : World) (hc : w.cell? ⟨b, 4, none⟩ = some (.int .u8 p)) (hf : w.frozen? ⟨b, 4, none⟩ = false) (h0 : 0 ≤ p) (h1 : p ≤ 255) (t0 : 0 ≤ t) (t1 : t ≤ 255) (g0 : 0 ≤ m) (g1 : m ≤ 255) :
    Calls Tryd.prog 24 #[.pointer (some ⟨b, 0, none⟩), .int .u8 t, .int .u8 m] w fun e w' => e = .returned (.tuple #[]) ∧ w' = w.setCell ⟨b, 4, none⟩ (.int .u8 (Alu.cmpQ t m p)) := by
  go_enter Tryd.func24, Tryd.ntmps24
  go_wp2_with fail
  refine (compare_any _ _ _ _ t0 t1 g0 g1 h0 h1).mono ?_
  rintro e w' ⟨rfl, rfl⟩
  go_wp2_with fail
  exact bodyPost_end (results_none rfl _ _ _) rfl ⟨rfl, rfl⟩
set_option maxRecDepth 100000 in
set_option maxHeartbeats 1000000 in
theorem fflag_any (b : Nat) (p f : Int) (x : Bool) (w : World) (hc : w.cell? ⟨b, 4, none⟩ = some (.int .u8 p)) (hf : w.frozen? ⟨b, 4, none⟩ = false) (h0 : 0 ≤ p) (h1 : p ≤ 255) (g : f = 1 ∨ f = 4 ∨ f = 8 ∨ f = 64) :
    Calls Tryd.prog 26 #[.pointer (some ⟨b, 0, none⟩), .int .u8 f, .bool x] w fun e w' => e = .returned (.tuple #[]) ∧ w' = w.setCell ⟨b, 4, none⟩ (.int .u8 (Alu.setF p f x)) := by
  have e1 := Ex.clear_set p f h0 h1 g
  have e2 := Ex.fill_set p f h0 h1 g
  clear g
  cases x
  · go_enter Tryd.func26, Tryd.ntmps26
    go_wp2_with fail
    exact bodyPost_end (results_none rfl _ _ _) rfl ⟨rfl, rfl⟩
  · go_enter Tryd.func26, Tryd.ntmps26
    go_wp2_with fail
    exact bodyPost_end (results_none rfl _ _ _) rfl ⟨rfl, setCell_twice _ _ _ _ _⟩

set_option maxRecDepth 100000 in
set_option maxHeartbeats 1000000 in
theorem fadd_any (b : Nat) (a p m : Int) (w : World) (hb : b < w.heap.size) (ha : w.cell? ⟨b, 0, none⟩ = some (.int .u8 a)) (hc : w.cell? ⟨b, 4, none⟩ = some (.int .u8 p)) (hg : w.frozen? ⟨b, 0, none⟩ = false) (hf : w.frozen? ⟨b, 4, none⟩ = false) (h0 : 0 ≤ p) (h1 : p ≤ 255) (a0 : 0 ≤ a) (a1 : a ≤ 255) (g0 : 0 ≤ m) (g1 : m ≤ 255) :
    Calls Tryd.prog 22 #[.pointer (some ⟨b, 0, none⟩), .int .u8 m] w fun e w' => e = .returned (.tuple #[]) ∧ ∃ w1, Below w.heap.size w w1 ∧ w' = (w1.setCell ⟨b, 0, none⟩ (.int .u8 (Alu.addV a m p))).setCell ⟨b, 4, none⟩ (.int .u8 (Alu.addQ a m p)) := by
  have hC := fun w' => add_any a m p w' a0 a1 g0 g1 h0 h1
  clear h0 h1 a0 a1 g0 g1
  go_enter Tryd.func22, Tryd.ntmps22
  go_wp2_with fail
  go_region_with (go_at_call 48; refine (hC _).mono ?_; rintro e w1 ⟨rfl, hw⟩; have c0 := (hw.cell (p := ⟨b, 0, none⟩) hb).trans ha; have c1 := (hw.cell (p := ⟨b, 4, none⟩) hb).trans hc; have c2 := (hw.frozen (p := ⟨b, 0, none⟩) hb).trans hg; have c3 := (hw.frozen (p := ⟨b, 4, none⟩) hb).trans hf)
  all_goals exact bodyPost_end (results_none rfl _ _ _) rfl ⟨rfl, w1, ((Below.refl _ w).drew).trans hw, rfl⟩
set_option maxRecDepth 100000 in
set_option maxHeartbeats 1000000 in
theorem fsub_any (b : Nat) (a p m : Int) (w : World) (hb : b < w.heap.size) (ha : w.cell? ⟨b, 0, none⟩ = some (.int .u8 a)) (hc : w.cell? ⟨b, 4, none⟩ = some (.int .u8 p)) (hg : w.frozen? ⟨b, 0, none⟩ = false) (hf : w.frozen? ⟨b, 4, none⟩ = false) (h0 : 0 ≤ p) (h1 : p ≤ 255) (a0 : 0 ≤ a) (a1 : a ≤ 255) (g0 : 0 ≤ m) (g1 : m ≤ 255) :
    Calls Tryd.prog 23 #[.pointer (some ⟨b, 0, none⟩), .int .u8 m] w fun e w' => e = .returned (.tuple #[]) ∧ ∃ w1, Below w.heap.size w w1 ∧ w' = (w1.setCell ⟨b, 0, none⟩ (.int .u8 (Alu.subV a m p))).setCell ⟨b, 4, none⟩ (.int .u8 (Alu.subQ a m p)) := by
  have hC := fun w' => sub_any a m p w' a0 a1 g0 g1 h0 h1
  clear h0 h1 a0 a1 g0 g1
  go_enter Tryd.func23, Tryd.ntmps23
  go_wp2_with fail
  go_region_with (go_at_call 49; refine (hC _).mono ?_; rintro e w1 ⟨rfl, hw⟩; have c0 := (hw.cell (p := ⟨b, 0, none⟩) hb).trans ha; have c1 := (hw.cell (p := ⟨b, 4, none⟩) hb).trans hc; have c2 := (hw.frozen (p := ⟨b, 0, none⟩) hb).trans hg; have c3 := (hw.frozen (p := ⟨b, 4, none⟩) hb).trans hf)
  all_goals exact bodyPost_end (results_none rfl _ _ _) rfl ⟨rfl, w1, ((Below.refl _ w).drew).trans hw, rfl⟩
end Go.Proofs.YthepcjecmlkaiaaDoor
