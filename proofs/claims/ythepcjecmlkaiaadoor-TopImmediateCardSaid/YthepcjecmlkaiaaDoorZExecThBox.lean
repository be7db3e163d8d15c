/- The cells of registers in a block, and of a result's registers in the block behind it. -/
import Derived.Test.YthepcjecmlkaiaaDoorZExecFile
import Derived.Test.YthepcjecmlkaiaaDoorZExecPl
import Derived.RegionTactic
import Derived.Deep.RegionWith
import Derived.ChangeAlike
import Derived.BigRegion
namespace Go.Proofs.YthepcjecmlkaiaaDoor
open Go.RowKit
set_option linter.unusedVariables false
set_option linter.unusedSimpArgs false
structure BoxS (n F : Nat) (k l : IntKind) (a x y s p pc : Int) (w W : World) : Prop where
  c0 : W.cell? ⟨F, 0, none⟩ = some (.int k a)
  c1 : W.cell? ⟨F, 1, none⟩ = some (.int k x)
  c2 : W.cell? ⟨F, 2, none⟩ = some (.int k y)
  c3 : W.cell? ⟨F, 3, none⟩ = some (.int k s)
  c4 : W.cell? ⟨F, 4, none⟩ = some (.int k p)
  c5 : W.cell? ⟨F, 5, none⟩ = some (.int l pc)
  f0 : W.frozen? ⟨F, 0, none⟩ = false
  f1 : W.frozen? ⟨F, 1, none⟩ = false
  f2 : W.frozen? ⟨F, 2, none⟩ = false
  f3 : W.frozen? ⟨F, 3, none⟩ = false
  f4 : W.frozen? ⟨F, 4, none⟩ = false
  f5 : W.frozen? ⟨F, 5, none⟩ = false
  d0 : W.cell? ⟨F + 1, 0, none⟩ = some (.int k 0)
  d1 : W.cell? ⟨F + 1, 1, none⟩ = some (.int k 0)
  d2 : W.cell? ⟨F + 1, 2, none⟩ = some (.int k 0)
  d3 : W.cell? ⟨F + 1, 3, none⟩ = some (.int k 0)
  d4 : W.cell? ⟨F + 1, 4, none⟩ = some (.int k 0)
  d5 : W.cell? ⟨F + 1, 5, none⟩ = some (.int l 0)
  g0 : W.frozen? ⟨F + 1, 0, none⟩ = false
  g1 : W.frozen? ⟨F + 1, 1, none⟩ = false
  g2 : W.frozen? ⟨F + 1, 2, none⟩ = false
  g3 : W.frozen? ⟨F + 1, 3, none⟩ = false
  g4 : W.frozen? ⟨F + 1, 4, none⟩ = false
  g5 : W.frozen? ⟨F + 1, 5, none⟩ = false
  b : Below n w W
  hn : n ≤ F
  hF : F + 1 < W.heap.size
theorem boxS_start (k l : IntKind) (T T' : TypeId) (a x y s p pc : Int) (w : World) : BoxS w.heap.size w.heap.size k l a x y s p pc w ((w.alloc (.cells #[.int k a, .int k x, .int k y, .int k s, .int k p, .int l pc] T)).alloc (.cells #[.int k 0, .int k 0, .int k 0, .int k 0, .int k 0, .int l 0] T')) where
  c0 := (cell_alloc2 _ _ _ _ _ _ _ rfl rfl).trans rfl
  c1 := (cell_alloc2 _ _ _ _ _ _ _ rfl rfl).trans rfl
  c2 := (cell_alloc2 _ _ _ _ _ _ _ rfl rfl).trans rfl
  c3 := (cell_alloc2 _ _ _ _ _ _ _ rfl rfl).trans rfl
  c4 := (cell_alloc2 _ _ _ _ _ _ _ rfl rfl).trans rfl
  c5 := (cell_alloc2 _ _ _ _ _ _ _ rfl rfl).trans rfl
  f0 := frozen_alloc2 _ _ _ _ _ _ _ rfl rfl
  f1 := frozen_alloc2 _ _ _ _ _ _ _ rfl rfl
  f2 := frozen_alloc2 _ _ _ _ _ _ _ rfl rfl
  f3 := frozen_alloc2 _ _ _ _ _ _ _ rfl rfl
  f4 := frozen_alloc2 _ _ _ _ _ _ _ rfl rfl
  f5 := frozen_alloc2 _ _ _ _ _ _ _ rfl rfl
  d0 := (World.cell?_alloc_at _ _ _ _ (by simp)).trans rfl
  d1 := (World.cell?_alloc_at _ _ _ _ (by simp)).trans rfl
  d2 := (World.cell?_alloc_at _ _ _ _ (by simp)).trans rfl
  d3 := (World.cell?_alloc_at _ _ _ _ (by simp)).trans rfl
  d4 := (World.cell?_alloc_at _ _ _ _ (by simp)).trans rfl
  d5 := (World.cell?_alloc_at _ _ _ _ (by simp)).trans rfl
  g0 := World.frozen?_alloc_at _ _ _ _ (by simp)
  g1 := World.frozen?_alloc_at _ _ _ _ (by simp)
  g2 := World.frozen?_alloc_at _ _ _ _ (by simp)
  g3 := World.frozen?_alloc_at _ _ _ _ (by simp)
  g4 := World.frozen?_alloc_at _ _ _ _ (by simp)
  g5 := World.frozen?_alloc_at _ _ _ _ (by simp)
  b := ((Below.refl _ _).alloc (Nat.le_refl _) _).alloc (by simp) _
  hn := Nat.le_refl _
  hF := by simp
theorem BoxS.cell {n F : Nat} {k l : IntKind} {a x y s p pc : Int} {w W W' : World} (h : BoxS n F k l a x y s p pc w W) (g : Below W.heap.size W W') {b i : Nat} {v : Value} (hb : b ≤ F + 1) (hc : W.cell? ⟨b, i, none⟩ = some v) : W'.cell? ⟨b, i, none⟩ = some v := by
  have := h.hF
  rw [g.cell (by simp only []; omega)]; exact hc
theorem BoxS.frozen {n F : Nat} {k l : IntKind} {a x y s p pc : Int} {w W W' : World} (h : BoxS n F k l a x y s p pc w W) (g : Below W.heap.size W W') {b i : Nat} (hb : b ≤ F + 1) (hc : W.frozen? ⟨b, i, none⟩ = false) : W'.frozen? ⟨b, i, none⟩ = false := by
  have := h.hF
  rw [g.frozen (by simp only []; omega)]; exact hc
theorem BoxS.next {n F : Nat} {k l : IntKind} {a x y s p pc : Int} {w W W' : World} (h : BoxS n F k l a x y s p pc w W) (g : Below W.heap.size W W') (hw : n ≤ w.heap.size) (hs : w.heap.size ≤ W.heap.size) : BoxS n F k l a x y s p pc w W' :=
  ⟨h.cell g (by omega) h.c0, h.cell g (by omega) h.c1, h.cell g (by omega) h.c2, h.cell g (by omega) h.c3, h.cell g (by omega) h.c4, h.cell g (by omega) h.c5, h.frozen g (by omega) h.f0, h.frozen g (by omega) h.f1, h.frozen g (by omega) h.f2, h.frozen g (by omega) h.f3, h.frozen g (by omega) h.f4, h.frozen g (by omega) h.f5, h.cell g (by omega) h.d0, h.cell g (by omega) h.d1, h.cell g (by omega) h.d2, h.cell g (by omega) h.d3, h.cell g (by omega) h.d4, h.cell g (by omega) h.d5, h.frozen g (by omega) h.g0, h.frozen g (by omega) h.g1, h.frozen g (by omega) h.g2, h.frozen g (by omega) h.g3, h.frozen g (by omega) h.g4, h.frozen g (by omega) h.g5,
   h.b.trans (g.mono (by omega)), h.hn, by have := h.hF; have := g.size; omega⟩
theorem BoxS.drew {n F : Nat} {k l : IntKind} {a x y s p pc : Int} {w W : World} (h : BoxS n F k l a x y s p pc w W) : BoxS n F k l a x y s p pc w W.drew :=
  ⟨h.c0, h.c1, h.c2, h.c3, h.c4, h.c5, h.f0, h.f1, h.f2, h.f3, h.f4, h.f5, h.d0, h.d1, h.d2, h.d3, h.d4, h.d5, h.g0, h.g1, h.g2, h.g3, h.g4, h.g5, h.b.drew, h.hn, h.hF⟩
theorem BoxS.set0 {n F : Nat} {k l : IntKind} {a x y s p pc : Int} {w W : World} (h : BoxS n F k l a x y s p pc w W) (q : Int) : BoxS n F k l q x y s p pc w (W.setCell ⟨F, 0, none⟩ (.int k q)) := by
  obtain ⟨c0, c1, c2, c3, c4, c5, f0, f1, f2, f3, f4, f5, d0, d1, d2, d3, d4, d5, g0, g1, g2, g3, g4, g5, hb, hn, hF⟩ := h
  constructor
  all_goals first | assumption | (simp [go_sem, *]; done) | (exact hb.setCell (by simp only []; omega) _)
theorem BoxS.set1 {n F : Nat} {k l : IntKind} {a x y s p pc : Int} {w W : World} (h : BoxS n F k l a x y s p pc w W) (q : Int) : BoxS n F k l a q y s p pc w (W.setCell ⟨F, 1, none⟩ (.int k q)) := by
  obtain ⟨c0, c1, c2, c3, c4, c5, f0, f1, f2, f3, f4, f5, d0, d1, d2, d3, d4, d5, g0, g1, g2, g3, g4, g5, hb, hn, hF⟩ := h
  constructor
  all_goals first | assumption | (simp [go_sem, *]; done) | (exact hb.setCell (by simp only []; omega) _)
theorem BoxS.set2 {n F : Nat} {k l : IntKind} {a x y s p pc : Int} {w W : World} (h : BoxS n F k l a x y s p pc w W) (q : Int) : BoxS n F k l a x q s p pc w (W.setCell ⟨F, 2, none⟩ (.int k q)) := by
  obtain ⟨c0, c1, c2, c3, c4, c5, f0, f1, f2, f3, f4, f5, d0, d1, d2, d3, d4, d5, g0, g1, g2, g3, g4, g5, hb, hn, hF⟩ := h
  constructor
  all_goals first | assumption | (simp [go_sem, *]; done) | (exact hb.setCell (by simp only []; omega) _)
theorem BoxS.set3 {n F : Nat} {k l : IntKind} {a x y s p pc : Int} {w W : World} (h : BoxS n F k l a x y s p pc w W) (q : Int) : BoxS n F k l a x y q p pc w (W.setCell ⟨F, 3, none⟩ (.int k q)) := by
  obtain ⟨c0, c1, c2, c3, c4, c5, f0, f1, f2, f3, f4, f5, d0, d1, d2, d3, d4, d5, g0, g1, g2, g3, g4, g5, hb, hn, hF⟩ := h
  constructor
  all_goals first | assumption | (simp [go_sem, *]; done) | (exact hb.setCell (by simp only []; omega) _)
theorem BoxS.set4 {n F : Nat} {k l : IntKind} {a x y s p pc : Int} {w W : World} (h : BoxS n F k l a x y s p pc w W) (q : Int) : BoxS n F k l a x y s q pc w (W.setCell ⟨F, 4, none⟩ (.int k q)) := by
  obtain ⟨c0, c1, c2, c3, c4, c5, f0, f1, f2, f3, f4, f5, d0, d1, d2, d3, d4, d5, g0, g1, g2, g3, g4, g5, hb, hn, hF⟩ := h
  constructor
  all_goals first | assumption | (simp [go_sem, *]; done) | (exact hb.setCell (by simp only []; omega) _)
theorem BoxS.set5 {n F : Nat} {k l : IntKind} {a x y s p pc : Int} {w W : World} (h : BoxS n F k l a x y s p pc w W) (q : Int) : BoxS n F k l a x y s p q w (W.setCell ⟨F, 5, none⟩ (.int l q)) := by
  obtain ⟨c0, c1, c2, c3, c4, c5, f0, f1, f2, f3, f4, f5, d0, d1, d2, d3, d4, d5, g0, g1, g2, g3, g4, g5, hb, hn, hF⟩ := h
  constructor
  all_goals first | assumption | (simp [go_sem, *]; done) | (exact hb.setCell (by simp only []; omega) _)
end Go.Proofs.YthepcjecmlkaiaaDoor
/- The walks of exec.then. -/
namespace Go.Proofs.YthepcjecmlkaiaaDoor
open Go.RowKit
set_option linter.unusedVariables false
set_option linter.unusedSimpArgs false
set_option maxRecDepth 100000 in
set_option maxHeartbeats 4000000 in
theorem then_ASL (tag : ByteArray) (hk : tag.toList = [65, 83, 76]) (w : World) :
    Calls Tryd.prog 70 #[.string tag] w fun e w' => e = .returned (.string ⟨#[]⟩) ∧ w = w' := by
  have e0 : (tag.toList == [83, 76, 79]) = false := by rw [hk]; rfl
  have e1 : (tag.toList == [82, 76, 65]) = false := by rw [hk]; rfl
  have e2 : (tag.toList == [83, 82, 69]) = false := by rw [hk]; rfl
  have e3 : (tag.toList == [82, 82, 65]) = false := by rw [hk]; rfl
  have e4 : (tag.toList == [68, 67, 80]) = false := by rw [hk]; rfl
  have e5 : (tag.toList == [73, 83, 67]) = false := by rw [hk]; rfl
  clear hk
  go_enter Tryd.func70, Tryd.ntmps70
  (repeat (first | (with_reducible refine inBlock_far (by decide) ?_) | (with_reducible refine then_exit ?_) | (with_reducible refine inBlock_here ?_) | ((fail_if_success (with_reducible refine calls_id ?_)); go_step)))
  go_ret
  exact ⟨rfl, rfl⟩
set_option maxRecDepth 100000 in
set_option maxHeartbeats 4000000 in
theorem then_SLO (tag : ByteArray) (hk : tag.toList = [83, 76, 79]) (w : World) :
    Calls Tryd.prog 70 #[.string tag] w fun e w' => e = .returned (.string ⟨#[79, 82, 65]⟩) ∧ w = w' := by
  have e0 : (tag.toList == [83, 76, 79]) = true := by rw [hk]; rfl
  have e1 : (tag.toList == [82, 76, 65]) = false := by rw [hk]; rfl
  have e2 : (tag.toList == [83, 82, 69]) = false := by rw [hk]; rfl
  have e3 : (tag.toList == [82, 82, 65]) = false := by rw [hk]; rfl
  have e4 : (tag.toList == [68, 67, 80]) = false := by rw [hk]; rfl
  have e5 : (tag.toList == [73, 83, 67]) = false := by rw [hk]; rfl
  clear hk
  go_enter Tryd.func70, Tryd.ntmps70
  (repeat (first | (with_reducible refine inBlock_far (by decide) ?_) | (with_reducible refine then_exit ?_) | (with_reducible refine inBlock_here ?_) | ((fail_if_success (with_reducible refine calls_id ?_)); go_step)))
  go_ret
  exact ⟨rfl, rfl⟩
set_option maxRecDepth 100000 in
set_option maxHeartbeats 4000000 in
theorem then_ROL (tag : ByteArray) (hk : tag.toList = [82, 79, 76]) (w : World) :
    Calls Tryd.prog 70 #[.string tag] w fun e w' => e = .returned (.string ⟨#[]⟩) ∧ w = w' := by
  have e0 : (tag.toList == [83, 76, 79]) = false := by rw [hk]; rfl
  have e1 : (tag.toList == [82, 76, 65]) = false := by rw [hk]; rfl
  have e2 : (tag.toList == [83, 82, 69]) = false := by rw [hk]; rfl
  have e3 : (tag.toList == [82, 82, 65]) = false := by rw [hk]; rfl
  have e4 : (tag.toList == [68, 67, 80]) = false := by rw [hk]; rfl
  have e5 : (tag.toList == [73, 83, 67]) = false := by rw [hk]; rfl
  clear hk
  go_enter Tryd.func70, Tryd.ntmps70
  (repeat (first | (with_reducible refine inBlock_far (by decide) ?_) | (with_reducible refine then_exit ?_) | (with_reducible refine inBlock_here ?_) | ((fail_if_success (with_reducible refine calls_id ?_)); go_step)))
  go_ret
  exact ⟨rfl, rfl⟩
set_option maxRecDepth 100000 in
set_option maxHeartbeats 4000000 in
theorem then_RLA (tag : ByteArray) (hk : tag.toList = [82, 76, 65]) (w : World) :
    Calls Tryd.prog 70 #[.string tag] w fun e w' => e = .returned (.string ⟨#[65, 78, 68]⟩) ∧ w = w' := by
  have e0 : (tag.toList == [83, 76, 79]) = false := by rw [hk]; rfl
  have e1 : (tag.toList == [82, 76, 65]) = true := by rw [hk]; rfl
  have e2 : (tag.toList == [83, 82, 69]) = false := by rw [hk]; rfl
  have e3 : (tag.toList == [82, 82, 65]) = false := by rw [hk]; rfl
  have e4 : (tag.toList == [68, 67, 80]) = false := by rw [hk]; rfl
  have e5 : (tag.toList == [73, 83, 67]) = false := by rw [hk]; rfl
  clear hk
  go_enter Tryd.func70, Tryd.ntmps70
  (repeat (first | (with_reducible refine inBlock_far (by decide) ?_) | (with_reducible refine then_exit ?_) | (with_reducible refine inBlock_here ?_) | ((fail_if_success (with_reducible refine calls_id ?_)); go_step)))
  go_ret
  exact ⟨rfl, rfl⟩
set_option maxRecDepth 100000 in
set_option maxHeartbeats 4000000 in
theorem then_LSR (tag : ByteArray) (hk : tag.toList = [76, 83, 82]) (w : World) :
    Calls Tryd.prog 70 #[.string tag] w fun e w' => e = .returned (.string ⟨#[]⟩) ∧ w = w' := by
  have e0 : (tag.toList == [83, 76, 79]) = false := by rw [hk]; rfl
  have e1 : (tag.toList == [82, 76, 65]) = false := by rw [hk]; rfl
  have e2 : (tag.toList == [83, 82, 69]) = false := by rw [hk]; rfl
  have e3 : (tag.toList == [82, 82, 65]) = false := by rw [hk]; rfl
  have e4 : (tag.toList == [68, 67, 80]) = false := by rw [hk]; rfl
  have e5 : (tag.toList == [73, 83, 67]) = false := by rw [hk]; rfl
  clear hk
  go_enter Tryd.func70, Tryd.ntmps70
  (repeat (first | (with_reducible refine inBlock_far (by decide) ?_) | (with_reducible refine then_exit ?_) | (with_reducible refine inBlock_here ?_) | ((fail_if_success (with_reducible refine calls_id ?_)); go_step)))
  go_ret
  exact ⟨rfl, rfl⟩
set_option maxRecDepth 100000 in
set_option maxHeartbeats 4000000 in
theorem then_SRE (tag : ByteArray) (hk : tag.toList = [83, 82, 69]) (w : World) :
    Calls Tryd.prog 70 #[.string tag] w fun e w' => e = .returned (.string ⟨#[69, 79, 82]⟩) ∧ w = w' := by
  have e0 : (tag.toList == [83, 76, 79]) = false := by rw [hk]; rfl
  have e1 : (tag.toList == [82, 76, 65]) = false := by rw [hk]; rfl
  have e2 : (tag.toList == [83, 82, 69]) = true := by rw [hk]; rfl
  have e3 : (tag.toList == [82, 82, 65]) = false := by rw [hk]; rfl
  have e4 : (tag.toList == [68, 67, 80]) = false := by rw [hk]; rfl
  have e5 : (tag.toList == [73, 83, 67]) = false := by rw [hk]; rfl
  clear hk
  go_enter Tryd.func70, Tryd.ntmps70
  (repeat (first | (with_reducible refine inBlock_far (by decide) ?_) | (with_reducible refine then_exit ?_) | (with_reducible refine inBlock_here ?_) | ((fail_if_success (with_reducible refine calls_id ?_)); go_step)))
  go_ret
  exact ⟨rfl, rfl⟩
set_option maxRecDepth 100000 in
set_option maxHeartbeats 4000000 in
theorem then_ROR (tag : ByteArray) (hk : tag.toList = [82, 79, 82]) (w : World) :
    Calls Tryd.prog 70 #[.string tag] w fun e w' => e = .returned (.string ⟨#[]⟩) ∧ w = w' := by
  have e0 : (tag.toList == [83, 76, 79]) = false := by rw [hk]; rfl
  have e1 : (tag.toList == [82, 76, 65]) = false := by rw [hk]; rfl
  have e2 : (tag.toList == [83, 82, 69]) = false := by rw [hk]; rfl
  have e3 : (tag.toList == [82, 82, 65]) = false := by rw [hk]; rfl
  have e4 : (tag.toList == [68, 67, 80]) = false := by rw [hk]; rfl
  have e5 : (tag.toList == [73, 83, 67]) = false := by rw [hk]; rfl
  clear hk
  go_enter Tryd.func70, Tryd.ntmps70
  (repeat (first | (with_reducible refine inBlock_far (by decide) ?_) | (with_reducible refine then_exit ?_) | (with_reducible refine inBlock_here ?_) | ((fail_if_success (with_reducible refine calls_id ?_)); go_step)))
  go_ret
  exact ⟨rfl, rfl⟩
set_option maxRecDepth 100000 in
set_option maxHeartbeats 4000000 in
theorem then_RRA (tag : ByteArray) (hk : tag.toList = [82, 82, 65]) (w : World) :
    Calls Tryd.prog 70 #[.string tag] w fun e w' => e = .returned (.string ⟨#[65, 68, 67]⟩) ∧ w = w' := by
  have e0 : (tag.toList == [83, 76, 79]) = false := by rw [hk]; rfl
  have e1 : (tag.toList == [82, 76, 65]) = false := by rw [hk]; rfl
  have e2 : (tag.toList == [83, 82, 69]) = false := by rw [hk]; rfl
  have e3 : (tag.toList == [82, 82, 65]) = true := by rw [hk]; rfl
  have e4 : (tag.toList == [68, 67, 80]) = false := by rw [hk]; rfl
  have e5 : (tag.toList == [73, 83, 67]) = false := by rw [hk]; rfl
  clear hk
  go_enter Tryd.func70, Tryd.ntmps70
  (repeat (first | (with_reducible refine inBlock_far (by decide) ?_) | (with_reducible refine then_exit ?_) | (with_reducible refine inBlock_here ?_) | ((fail_if_success (with_reducible refine calls_id ?_)); go_step)))
  go_ret
  exact ⟨rfl, rfl⟩
set_option maxRecDepth 100000 in
set_option maxHeartbeats 4000000 in
theorem then_INC (tag : ByteArray) (hk : tag.toList = [73, 78, 67]) (w : World) :
    Calls Tryd.prog 70 #[.string tag] w fun e w' => e = .returned (.string ⟨#[]⟩) ∧ w = w' := by
  have e0 : (tag.toList == [83, 76, 79]) = false := by rw [hk]; rfl
  have e1 : (tag.toList == [82, 76, 65]) = false := by rw [hk]; rfl
  have e2 : (tag.toList == [83, 82, 69]) = false := by rw [hk]; rfl
  have e3 : (tag.toList == [82, 82, 65]) = false := by rw [hk]; rfl
  have e4 : (tag.toList == [68, 67, 80]) = false := by rw [hk]; rfl
  have e5 : (tag.toList == [73, 83, 67]) = false := by rw [hk]; rfl
  clear hk
  go_enter Tryd.func70, Tryd.ntmps70
  (repeat (first | (with_reducible refine inBlock_far (by decide) ?_) | (with_reducible refine then_exit ?_) | (with_reducible refine inBlock_here ?_) | ((fail_if_success (with_reducible refine calls_id ?_)); go_step)))
  go_ret
  exact ⟨rfl, rfl⟩
set_option maxRecDepth 100000 in
set_option maxHeartbeats 4000000 in
theorem then_DEC (tag : ByteArray) (hk : tag.toList = [68, 69, 67]) (w : World) :
    Calls Tryd.prog 70 #[.string tag] w fun e w' => e = .returned (.string ⟨#[]⟩) ∧ w = w' := by
  have e0 : (tag.toList == [83, 76, 79]) = false := by rw [hk]; rfl
  have e1 : (tag.toList == [82, 76, 65]) = false := by rw [hk]; rfl
  have e2 : (tag.toList == [83, 82, 69]) = false := by rw [hk]; rfl
  have e3 : (tag.toList == [82, 82, 65]) = false := by rw [hk]; rfl
  have e4 : (tag.toList == [68, 67, 80]) = false := by rw [hk]; rfl
  have e5 : (tag.toList == [73, 83, 67]) = false := by rw [hk]; rfl
  clear hk
  go_enter Tryd.func70, Tryd.ntmps70
  (repeat (first | (with_reducible refine inBlock_far (by decide) ?_) | (with_reducible refine then_exit ?_) | (with_reducible refine inBlock_here ?_) | ((fail_if_success (with_reducible refine calls_id ?_)); go_step)))
  go_ret
  exact ⟨rfl, rfl⟩
set_option maxRecDepth 100000 in
set_option maxHeartbeats 4000000 in
theorem then_ISC (tag : ByteArray) (hk : tag.toList = [73, 83, 67]) (w : World) :
    Calls Tryd.prog 70 #[.string tag] w fun e w' => e = .returned (.string ⟨#[83, 66, 67]⟩) ∧ w = w' := by
  have e0 : (tag.toList == [83, 76, 79]) = false := by rw [hk]; rfl
  have e1 : (tag.toList == [82, 76, 65]) = false := by rw [hk]; rfl
  have e2 : (tag.toList == [83, 82, 69]) = false := by rw [hk]; rfl
  have e3 : (tag.toList == [82, 82, 65]) = false := by rw [hk]; rfl
  have e4 : (tag.toList == [68, 67, 80]) = false := by rw [hk]; rfl
  have e5 : (tag.toList == [73, 83, 67]) = true := by rw [hk]; rfl
  clear hk
  go_enter Tryd.func70, Tryd.ntmps70
  (repeat (first | (with_reducible refine inBlock_far (by decide) ?_) | (with_reducible refine then_exit ?_) | (with_reducible refine inBlock_here ?_) | ((fail_if_success (with_reducible refine calls_id ?_)); go_step)))
  go_ret
  exact ⟨rfl, rfl⟩
set_option maxRecDepth 100000 in
set_option maxHeartbeats 4000000 in
theorem then_DCP (tag : ByteArray) (hk : tag.toList = [68, 67, 80]) (w : World) :
    Calls Tryd.prog 70 #[.string tag] w fun e w' => e = .returned (.string ⟨#[67, 77, 80]⟩) ∧ w = w' := by
  have e0 : (tag.toList == [83, 76, 79]) = false := by rw [hk]; rfl
  have e1 : (tag.toList == [82, 76, 65]) = false := by rw [hk]; rfl
  have e2 : (tag.toList == [83, 82, 69]) = false := by rw [hk]; rfl
  have e3 : (tag.toList == [82, 82, 65]) = false := by rw [hk]; rfl
  have e4 : (tag.toList == [68, 67, 80]) = true := by rw [hk]; rfl
  have e5 : (tag.toList == [73, 83, 67]) = false := by rw [hk]; rfl
  clear hk
  go_enter Tryd.func70, Tryd.ntmps70
  (repeat (first | (with_reducible refine inBlock_far (by decide) ?_) | (with_reducible refine then_exit ?_) | (with_reducible refine inBlock_here ?_) | ((fail_if_success (with_reducible refine calls_id ?_)); go_step)))
  go_ret
  exact ⟨rfl, rfl⟩
set_option maxRecDepth 100000 in
set_option maxHeartbeats 4000000 in
theorem then_other (tag : ByteArray) (hk : ∀ l ∈ Ex.tuNames, tag.toList ≠ l) (w : World) :
    Calls Tryd.prog 70 #[.string tag] w fun e w' => e = .returned (.string ⟨#[]⟩) ∧ w = w' := by
  have e0 : (tag.toList == [83, 76, 79]) = false := beq_eq_false_iff_ne.2 (hk _ (by decide))
  have e1 : (tag.toList == [82, 76, 65]) = false := beq_eq_false_iff_ne.2 (hk _ (by decide))
  have e2 : (tag.toList == [83, 82, 69]) = false := beq_eq_false_iff_ne.2 (hk _ (by decide))
  have e3 : (tag.toList == [82, 82, 65]) = false := beq_eq_false_iff_ne.2 (hk _ (by decide))
  have e4 : (tag.toList == [68, 67, 80]) = false := beq_eq_false_iff_ne.2 (hk _ (by decide))
  have e5 : (tag.toList == [73, 83, 67]) = false := beq_eq_false_iff_ne.2 (hk _ (by decide))
  clear hk
  go_enter Tryd.func70, Tryd.ntmps70
  (repeat (first | (with_reducible refine inBlock_far (by decide) ?_) | (with_reducible refine then_exit ?_) | (with_reducible refine inBlock_here ?_) | ((fail_if_success (with_reducible refine calls_id ?_)); go_step)))
  go_ret
  exact ⟨rfl, rfl⟩
end Go.Proofs.YthepcjecmlkaiaaDoor
