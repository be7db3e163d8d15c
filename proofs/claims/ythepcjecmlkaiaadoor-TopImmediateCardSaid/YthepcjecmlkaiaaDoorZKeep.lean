/- Blocks of cells that stay as they are while the world grows: what a walk keeps of its locals. -/
import Derived.Test.YthepcjecmlkaiaaDoorRows
import Derived.WalkKit
namespace Go.Proofs.YthepcjecmlkaiaaDoor
open Go.RowKit
set_option linter.unusedVariables false

def KS (w : World) (L : List (Nat × Array Value)) (W : World) : Prop :=
  Below w.heap.size w W ∧ w.heap.size ≤ W.heap.size ∧ ∀ x ∈ L, w.heap.size ≤ x.1 ∧ x.1 < W.heap.size ∧ (∀ i, W.cell? ⟨x.1, i, none⟩ = x.2[i]?) ∧ ∀ i, W.frozen? ⟨x.1, i, none⟩ = false
theorem KS.nil (w : World) : KS w [] w := ⟨Below.refl _ _, Nat.le_refl _, fun _ h => by cases h⟩
theorem KS.alloc {w W : World} {L : List (Nat × Array Value)} (h : KS w L W) (cs : Array Value) (T : TypeId) : KS w ((W.heap.size, cs) :: L) (W.alloc (.cells cs T)) := by
  obtain ⟨hb, hs, hk⟩ := h
  refine ⟨hb.alloc hs _, by simp only [World.size_alloc]; omega, fun x hx => ?_⟩
  rcases List.mem_cons.1 hx with rfl | hx
  · exact ⟨hs, by simp, fun i => World.cell?_alloc_at _ _ _ _ rfl, fun i => World.frozen?_alloc_at _ _ _ _ rfl⟩
  · obtain ⟨h0, h1, h2, h3⟩ := hk x hx
    refine ⟨h0, by simp only [World.size_alloc]; omega, fun i => ?_, fun i => ?_⟩
    · rw [World.cell?_alloc_past _ _ _ h1]; exact h2 i
    · rw [World.frozen?_alloc_past _ _ _ h1]; exact h3 i
theorem KS.below {w W W' : World} {L : List (Nat × Array Value)} (h : KS w L W) (g : Below W.heap.size W W') : KS w L W' := by
  obtain ⟨hb, hs, hk⟩ := h
  have gs := g.size
  refine ⟨hb.trans (g.mono hs), by omega, fun x hx => ?_⟩
  obtain ⟨h0, h1, h2, h3⟩ := hk x hx
  refine ⟨h0, by omega, fun i => ?_, fun i => ?_⟩
  · rw [g.cell h1]; exact h2 i
  · rw [g.frozen h1]; exact h3 i
theorem KS.drew {w W : World} {L : List (Nat × Array Value)} (h : KS w L W) : KS w L W.drew := ⟨h.1.drew, h.2.1, h.2.2⟩
theorem KS.sub {w W : World} {L L' : List (Nat × Array Value)} (h : KS w L W) (hs : ∀ x ∈ L', x ∈ L) : KS w L' W := ⟨h.1, h.2.1, fun x hx => h.2.2 x (hs x hx)⟩
theorem KS.at {w W : World} {L : List (Nat × Array Value)} (h : KS w L W) {B : Nat} {cs : Array Value} (hx : (B, cs) ∈ L) (i : Nat) : W.cell? ⟨B, i, none⟩ = cs[i]? := (h.2.2 _ hx).2.2.1 i
theorem KS.lt {w W : World} {L : List (Nat × Array Value)} (h : KS w L W) {B : Nat} {cs : Array Value} (hx : (B, cs) ∈ L) : B < W.heap.size := (h.2.2 _ hx).2.1
theorem KS.ge {w W : World} {L : List (Nat × Array Value)} (h : KS w L W) {B : Nat} {cs : Array Value} (hx : (B, cs) ∈ L) : w.heap.size ≤ B := (h.2.2 _ hx).1
theorem KS.thaw {w W : World} {L : List (Nat × Array Value)} (h : KS w L W) {B : Nat} {cs : Array Value} (hx : (B, cs) ∈ L) (i : Nat) : W.frozen? ⟨B, i, none⟩ = false := (h.2.2 _ hx).2.2.2 i
theorem wp_keep {P : Program} {c : Code} {a : Act} {w : World} {Q : Exit → Act → World → Prop} (S : World → Prop) (h : S w) (k : ∀ W, S W → c.wp P Q a W) : c.wp P Q a w := k w h
theorem calls_keep {P : Program} {fn : Nat} {args : Array Value} {w : World} {Q : Ending → World → Prop} (S : World → Prop) (h : S w) (k : ∀ W, S W → Calls P fn args W Q) : Calls P fn args w Q := k w h
end Go.Proofs.YthepcjecmlkaiaaDoor
