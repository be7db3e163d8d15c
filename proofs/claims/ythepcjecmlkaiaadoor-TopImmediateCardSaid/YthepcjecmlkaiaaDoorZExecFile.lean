/- The file of package exec: the cells of the registers while something is done to them. -/
import Derived.Test.YthepcjecmlkaiaaDoorZExecWalks
namespace Go.Proofs.YthepcjecmlkaiaaDoor
open Go.RowKit
set_option linter.unusedVariables false
set_option linter.unusedSimpArgs false
theorem wp_abs {P : Program} {c : Code} {a : Act} {w : World} {Q : Exit → Act → World → Prop} (S : World → Prop) (h : S w) (k : ∀ W, S W → c.wp P Q a W) : c.wp P Q a w := k w h
theorem calls_id {P : Program} {fn : Nat} {args : Array Value} {w : World} {Q : Ending → World → Prop} (h : Calls P fn args w Q) : Calls P fn args w Q := h
theorem calls_abs {P : Program} {fn : Nat} {args : Array Value} {w : World} {Q : Ending → World → Prop} (S : World → Prop) (h : S w) (k : ∀ W, S W → Calls P fn args W Q) : Calls P fn args w Q := k w h
structure FileS (n F : Nat) (a x y s p pc : Int) (w W : World) : Prop where
  c0 : W.cell? ⟨F + 1, 0, none⟩ = some (.int .u8 a)
  c1 : W.cell? ⟨F + 1, 1, none⟩ = some (.int .u8 x)
  c2 : W.cell? ⟨F + 1, 2, none⟩ = some (.int .u8 y)
  c3 : W.cell? ⟨F + 1, 3, none⟩ = some (.int .u8 s)
  c4 : W.cell? ⟨F + 1, 4, none⟩ = some (.int .u8 p)
  c5 : W.cell? ⟨F + 1, 5, none⟩ = some (.int .u16 pc)
  f0 : W.frozen? ⟨F + 1, 0, none⟩ = false
  f1 : W.frozen? ⟨F + 1, 1, none⟩ = false
  f2 : W.frozen? ⟨F + 1, 2, none⟩ = false
  f3 : W.frozen? ⟨F + 1, 3, none⟩ = false
  f4 : W.frozen? ⟨F + 1, 4, none⟩ = false
  f5 : W.frozen? ⟨F + 1, 5, none⟩ = false
  d0 : W.cell? ⟨F, 0, none⟩ = some (.int .u8 0)
  d1 : W.cell? ⟨F, 1, none⟩ = some (.int .u8 0)
  d2 : W.cell? ⟨F, 2, none⟩ = some (.int .u8 0)
  d3 : W.cell? ⟨F, 3, none⟩ = some (.int .u8 0)
  d4 : W.cell? ⟨F, 4, none⟩ = some (.int .u8 0)
  d5 : W.cell? ⟨F, 5, none⟩ = some (.int .u16 0)
  g0 : W.frozen? ⟨F, 0, none⟩ = false
  g1 : W.frozen? ⟨F, 1, none⟩ = false
  g2 : W.frozen? ⟨F, 2, none⟩ = false
  g3 : W.frozen? ⟨F, 3, none⟩ = false
  g4 : W.frozen? ⟨F, 4, none⟩ = false
  g5 : W.frozen? ⟨F, 5, none⟩ = false
  b : Below n w W
  hn : n ≤ F
  hF : F + 1 < W.heap.size
theorem cell_alloc2 (w : World) (o o' : Obj) (b i : Nat) (cs : Array Value) (T : TypeId) (hb : b = w.heap.size) (ho : o = .cells cs T) : ((w.alloc o).alloc o').cell? ⟨b, i, none⟩ = cs[i]? := by
  subst ho
  rw [World.cell?_alloc_past _ _ _ (by simp [hb]), World.cell?_alloc_at _ _ _ _ hb]
theorem frozen_alloc2 (w : World) (o o' : Obj) (b i : Nat) (cs : Array Value) (T : TypeId) (hb : b = w.heap.size) (ho : o = .cells cs T) : ((w.alloc o).alloc o').frozen? ⟨b, i, none⟩ = false := by
  subst ho
  rw [World.frozen?_alloc_past _ _ _ (by simp [hb]), World.frozen?_alloc_at _ _ _ _ hb]
theorem fileS_start (o : Obj) (a x y s p pc : Int) (w : World) : FileS w.heap.size (w.heap.size + 1) a x y s p pc w (((w.alloc o).alloc (.cells #[.int .u8 0, .int .u8 0, .int .u8 0, .int .u8 0, .int .u8 0, .int .u16 0] 24)).alloc (.cells #[.int .u8 a, .int .u8 x, .int .u8 y, .int .u8 s, .int .u8 p, .int .u16 pc] 56)) where
  c0 := (World.cell?_alloc_at _ _ _ _ (by simp)).trans rfl
  c1 := (World.cell?_alloc_at _ _ _ _ (by simp)).trans rfl
  c2 := (World.cell?_alloc_at _ _ _ _ (by simp)).trans rfl
  c3 := (World.cell?_alloc_at _ _ _ _ (by simp)).trans rfl
  c4 := (World.cell?_alloc_at _ _ _ _ (by simp)).trans rfl
  c5 := (World.cell?_alloc_at _ _ _ _ (by simp)).trans rfl
  f0 := World.frozen?_alloc_at _ _ _ _ (by simp)
  f1 := World.frozen?_alloc_at _ _ _ _ (by simp)
  f2 := World.frozen?_alloc_at _ _ _ _ (by simp)
  f3 := World.frozen?_alloc_at _ _ _ _ (by simp)
  f4 := World.frozen?_alloc_at _ _ _ _ (by simp)
  f5 := World.frozen?_alloc_at _ _ _ _ (by simp)
  d0 := (cell_alloc2 _ _ _ _ _ _ _ (by simp) rfl).trans rfl
  d1 := (cell_alloc2 _ _ _ _ _ _ _ (by simp) rfl).trans rfl
  d2 := (cell_alloc2 _ _ _ _ _ _ _ (by simp) rfl).trans rfl
  d3 := (cell_alloc2 _ _ _ _ _ _ _ (by simp) rfl).trans rfl
  d4 := (cell_alloc2 _ _ _ _ _ _ _ (by simp) rfl).trans rfl
  d5 := (cell_alloc2 _ _ _ _ _ _ _ (by simp) rfl).trans rfl
  g0 := frozen_alloc2 _ _ _ _ _ _ _ (by simp) rfl
  g1 := frozen_alloc2 _ _ _ _ _ _ _ (by simp) rfl
  g2 := frozen_alloc2 _ _ _ _ _ _ _ (by simp) rfl
  g3 := frozen_alloc2 _ _ _ _ _ _ _ (by simp) rfl
  g4 := frozen_alloc2 _ _ _ _ _ _ _ (by simp) rfl
  g5 := frozen_alloc2 _ _ _ _ _ _ _ (by simp) rfl
  b := (((Below.refl _ _).alloc (Nat.le_refl _) _).alloc (by simp) _).alloc (by simp; omega) _
  hn := by omega
  hF := by simp
theorem FileS.cell {n F : Nat} {a x y s p pc : Int} {w W W' : World} (h : FileS n F a x y s p pc w W) (g : Below W.heap.size W W') {b i : Nat} {v : Value} (hb : b ≤ F + 1) (hc : W.cell? ⟨b, i, none⟩ = some v) : W'.cell? ⟨b, i, none⟩ = some v := by
  have := h.hF
  rw [g.cell (by simp only []; omega)]; exact hc
theorem FileS.frozen {n F : Nat} {a x y s p pc : Int} {w W W' : World} (h : FileS n F a x y s p pc w W) (g : Below W.heap.size W W') {b i : Nat} (hb : b ≤ F + 1) (hc : W.frozen? ⟨b, i, none⟩ = false) : W'.frozen? ⟨b, i, none⟩ = false := by
  have := h.hF
  rw [g.frozen (by simp only []; omega)]; exact hc
theorem FileS.next {n F : Nat} {a x y s p pc : Int} {w W W' : World} (h : FileS n F a x y s p pc w W) (g : Below W.heap.size W W') (hw : n ≤ w.heap.size) (hs : w.heap.size ≤ W.heap.size) : FileS n F a x y s p pc w W' :=
  ⟨h.cell g (by omega) h.c0, h.cell g (by omega) h.c1, h.cell g (by omega) h.c2, h.cell g (by omega) h.c3, h.cell g (by omega) h.c4, h.cell g (by omega) h.c5,
   h.frozen g (by omega) h.f0, h.frozen g (by omega) h.f1, h.frozen g (by omega) h.f2, h.frozen g (by omega) h.f3, h.frozen g (by omega) h.f4, h.frozen g (by omega) h.f5,
   h.cell g (by omega) h.d0, h.cell g (by omega) h.d1, h.cell g (by omega) h.d2, h.cell g (by omega) h.d3, h.cell g (by omega) h.d4, h.cell g (by omega) h.d5,
   h.frozen g (by omega) h.g0, h.frozen g (by omega) h.g1, h.frozen g (by omega) h.g2, h.frozen g (by omega) h.g3, h.frozen g (by omega) h.g4, h.frozen g (by omega) h.g5,
   h.b.trans (g.mono (by omega)), h.hn, by have := h.hF; have := g.size; omega⟩
theorem FileS.drew {n F : Nat} {a x y s p pc : Int} {w W : World} (h : FileS n F a x y s p pc w W) : FileS n F a x y s p pc w W.drew :=
  ⟨h.c0, h.c1, h.c2, h.c3, h.c4, h.c5, h.f0, h.f1, h.f2, h.f3, h.f4, h.f5, h.d0, h.d1, h.d2, h.d3, h.d4, h.d5, h.g0, h.g1, h.g2, h.g3, h.g4, h.g5, h.b.drew, h.hn, h.hF⟩
theorem FileS.setP {n F : Nat} {a x y s p pc : Int} {w W : World} (h : FileS n F a x y s p pc w W) (q : Int) : FileS n F a x y s q pc w (W.setCell ⟨F + 1, 4, none⟩ (.int .u8 q)) := by
  obtain ⟨c0, c1, c2, c3, c4, c5, f0, f1, f2, f3, f4, f5, d0, d1, d2, d3, d4, d5, g0, g1, g2, g3, g4, g5, hb, hn, hF⟩ := h
  constructor
  all_goals first | assumption | (simp [go_sem, *]; done) | (exact hb.setCell (by simp only []; omega) _)
end Go.Proofs.YthepcjecmlkaiaaDoor
