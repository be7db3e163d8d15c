/- A range over a function whose rounds always go on, where what the function tells of its things may speak of the world it ends in. -/
import Derived.RangeFuncNested
import Derived.RangeFuncBound
import Derived.RangeFuncCalls
import Derived.RangeFuncLeaves
import Derived.RangeFuncBox
import Derived.Shelf.Abstract
import Derived.Shelf.RegionOpen
import Derived.WalkKit
import Derived.OwnWalkIn
import Derived.TacticsInMore
import Derived.LoopNIn
import Derived.LoopIn
import Derived.Maps.AppendAt
import Derived.Test.YtbfdlfhidebjlaaFrKit
namespace Go.Proofs.Ytbfdlfhidebjlaa.Cl
open Go.RowKit Go.Shelf Go.Deep
set_option linter.unusedVariables false
set_option linter.unusedSimpArgs false

theorem range_on {α : Type} {F : Fence} {n : Nat} {P : Program} {g : Operand} {ps : Array Tmp} {assign body : Code} {Q : Exit → Act → World → Prop} {a : Act} {w : World}
    (hro : F.round = none) (h1 : 1 ≤ n) {gf : Nat} {lb : Array Value} (hg : a.eval g = .func (.func gf) #[] lb) (hFg : F.fn gf) (eg : ∀ args w, (callFunc gf args).run P w = .ok (.enter gf args) w)
    (N : Nat) (encs : α → Array Value) (hps : ∀ x, (encs x).size = ps.size) (S I : List α → World → Prop) (Kp : World → World → Prop)
    (hS : OwnFrom w.heap.size S) (hI : OwnFrom w.heap.size I) (h0 : I [] w)
    (hKt : ∀ {A B C : World}, Kp A B → Kp B C → Kp A C) (hKb : ∀ (W : World) (l : Nat) (o o' : Obj), w.heap.size ≤ l → W.heap[l]? = some o → o.isCells = false → Kp W (W.putObj l o'))
    (hit : ∀ (l : Nat) (J : List α → World → Prop) (W : World), Below w.heap.size w W → (∀ s A B, J s A → A.grownBy B none → J s B) →
      (∀ pre x W1, J pre W1 → pre.length < N → YieldAt F (n - 1 - 1) P l (encs x) W1 fun e W' => e = .returned (.bool true) ∧ J (pre ++ [x]) W' ∧ Kp W1 W') → J [] W →
      CallsIn F (n - 1) P gf (#[.func (.yield l) #[] #[]] ++ lb) W fun e W' => (∃ v, e = .returned v) ∧ ∃ xs, S xs W' ∧ J xs W')
    (a₁ : α → Act)
    (hassign : ∀ (l : Nat) (x : α) (W : World) (K : Act → World → Prop), K (a₁ x) W →
      assign.wpIn (F.inRound l) (n - 1 - 1) P (Exit.then K (fun _ _ _ => False)) { tmps := (ps.zip (encs x)).foldl (fun t (p, v) => t.setIfInBounds p v) a.tmps, defers := [] } W)
    (hbody : ∀ (l : Nat) (pre : List α) (x : α) (W : World), I pre W → pre.length < N → body.wpIn (F.inRound l) (n - 1 - 1) P (ownPostG w.heap.size Kp I (fun _ _ _ => False) (pre ++ [x]) W) (a₁ x) W)
    (hdone : ∀ (D : Nat) (xs : List α) (W : World), w.heap.size ≤ D → S xs W → I xs W → W.heap[D]? = some (.deferred (some [])) → Q .normal { a with defers := { target := .collected D, args := #[] } :: a.defers } W) :
    (Code.rangeFunc g ps assign body).wpIn F n P Q a w := by
  refine wpIn_rangeFunc fun fn hfn => ?_
  rw [hro]
  obtain ⟨R, hR⟩ : ∃ R : LoopState → Loop, R = fun st => { state := st, pending := none, fn, tmps := a.tmps, params := ps, assign, body, defers := w.heap.size } := ⟨_, rfl⟩
  have hsD : (w.alloc (.deferred (some []))).heap.size = w.heap.size + 1 := World.size_alloc _ _
  have hen := run_enterLoop_outer (w := w) (P := P) fn a.tmps ps assign body
  obtain ⟨W1, hW1⟩ : ∃ W1, W1 = (w.alloc (.deferred (some []))).alloc (.loop (R .ready)) := ⟨_, rfl⟩
  have hen' : (Instr.enterLoop fn a.tmps ps assign body none).run P w = .ok (w.heap.size + 1, [{ target := .collected w.heap.size, args := #[] }]) W1 := by rw [hW1, hR]; exact hen
  have hL : W1.heap[w.heap.size + 1]? = some (.loop (R .ready)) := by
    have := World.alloc_heap_new (w.alloc (.deferred (some []))) (.loop (R .ready)); rw [hsD] at this; rw [hW1]; exact this
  have hD : W1.heap[w.heap.size]? = some (.deferred (some [])) := by
    rw [hW1]; exact (Below.heap_alloc _ _ _ (by rw [hsD]; omega)).trans (World.alloc_heap_new w _)
  have hb : Below w.heap.size w W1 := by rw [hW1]; exact ((Below.refl _ w).alloc (Nat.le_refl _) _).alloc (by rw [hsD]; omega) _
  have hI1 : I [] W1 := by rw [hW1]; exact hI.alloc _ (hI.alloc _ h0)
  clear hen hW1
  have hLD : w.heap.size ≠ w.heap.size + 1 := by omega
  have hDL : w.heap.size ≤ w.heap.size + 1 := by omega
  have hps' : ∀ st x, (encs x).size = (R st).params.size := by rw [hR]; intro _ x; exact hps x
  have hst : ∀ st, (R st).state = st := by rw [hR]; intro _; rfl
  have hY : ∀ pre x W1, (I pre W1 ∧ W1.heap[w.heap.size + 1]? = some (.loop (R .ready)) ∧ W1.heap[w.heap.size]? = some (.deferred (some []))) → pre.length < N → YieldAt F (n - 1 - 1) P (w.heap.size + 1) (encs x) W1 fun e W' => e = .returned (.bool true) ∧ (I (pre ++ [x]) W' ∧ W'.heap[w.heap.size + 1]? = some (.loop (R .ready)) ∧ W'.heap[w.heap.size]? = some (.deferred (some []))) ∧ Kp W1 W' := by
    rintro pre x W ⟨hi, hl, hk⟩ hlen
    have hlt : w.heap.size + 1 < W.heap.size := (Array.getElem?_eq_some_iff.1 hl).1
    have hy := run_yield (P := P) (args := encs x) hl (hps' _ x)
    have hbg := run_beginRound (P := P) hl (hst _)
    obtain ⟨W2, hW2⟩ : ∃ W2, W2 = W.putObj (w.heap.size + 1) (.loop { R .ready with state := .busy }) := ⟨_, rfl⟩
    rw [← hW2] at hbg
    have hl2 : W2.heap[w.heap.size + 1]? = some (.loop { R .ready with state := .busy }) := by rw [hW2]; exact World.putObj_heap_same hlt
    have hk2 : W2.heap[w.heap.size]? = some (.deferred (some [])) := by rw [hW2]; exact (World.putObj_heap_other hLD).trans hk
    have hkp0 : Kp W W2 := by rw [hW2]; exact hKb _ _ _ _ hDL hl rfl
    have hi2 : I pre W2 := by rw [hW2]; exact hI.putObj _ hi hDL hl rfl
    rw [hR] at hy
    refine ⟨fn, _, assign, body, hy, roundIn_of_wpIn hfn (hassign _ x W _ ⟨W2, hbg, ?_⟩)⟩
    refine wpIn_mono (hbody _ pre x W2 hi2 hlen) ?_
    intro e a3 W3 hp
    cases e with
    | normal =>
      obtain ⟨hk3, hkp3, hi3⟩ := hp
      have hl3 := hk3.same _ _ hDL hl2 rfl
      have hd3 := hk3.same _ _ (Nat.le_refl _) hk2 rfl
      have her := run_endRound (P := P) none hl3
      have hRr : ({ ({ R .ready with state := .busy } : Loop) with state := (if (none : Option Code).isNone then .ready else .done), pending := none } : Loop) = R .ready := by rw [hR]; rfl
      rw [hRr] at her
      have e1 := hI.putObj (.loop (R .ready)) hi3 hDL hl3 rfl
      have e2 : (W3.putObj (w.heap.size + 1) (.loop (R .ready))).heap[w.heap.size + 1]? = some (.loop (R .ready)) := World.putObj_heap_same (Array.getElem?_eq_some_iff.1 hl3).1
      have e3 : (W3.putObj (w.heap.size + 1) (.loop (R .ready))).heap[w.heap.size]? = some (.deferred (some [])) := (World.putObj_heap_other hLD).trans hd3
      have e4 : Kp W (W3.putObj (w.heap.size + 1) (.loop (R .ready))) := hKt (hKt hkp0 hkp3) (hKb _ _ _ _ hDL hl3 rfl)
      exact ⟨_, _, her, rfl, ⟨e1, e2, e3⟩, e4⟩
    | ret => exact hp.2.elim
    | exit id => exact hp.2.elim
    | goto t => exact hp.2.elim
    | panic ch => exact hp.elim
    | outgrown => exact hp.elim
  have hJg : ∀ (s : List α) (A B : World), (I s A ∧ A.heap[w.heap.size + 1]? = some (.loop (R .ready)) ∧ A.heap[w.heap.size]? = some (.deferred (some []))) → A.grownBy B none → (I s B ∧ B.heap[w.heap.size + 1]? = some (.loop (R .ready)) ∧ B.heap[w.heap.size]? = some (.deferred (some []))) := fun s A B h hg' =>
    ⟨hI s A B none h.1 hg' (fun r e => by cases e), (hg'.block _ (Array.getElem?_eq_some_iff.1 h.2.1).1 (fun e => by cases e)).trans h.2.1, (hg'.block _ (Array.getElem?_eq_some_iff.1 h.2.2).1 (fun e => by cases e)).trans h.2.2⟩
  have hcall := hit (w.heap.size + 1) _ W1 hb hJg hY ⟨hI1, hL, hD⟩
  have hpn : (R .ready).pending = none := by rw [hR]
  refine ⟨w.heap.size + 1, [{ target := .collected w.heap.size, args := #[] }], W1, { target := .fn (.func gf) lb, args := #[.func (.yield (w.heap.size + 1)) #[] #[]] }, W1, gf, #[.func (.yield (w.heap.size + 1)) #[] #[]] ++ lb, W1, hen', ?_, ?_, ?_, fun _ => h1, ?_⟩
  · simp only [resolve, hg]
    simp [go_sem]
  · intro f' hf'; simp [Target.leads] at hf'; subst hf'; exact hFg
  · simp [invoke, go_sem, eg]
  · refine hcall.mono ?_
    rintro e W2 ⟨⟨v, rfl⟩, xs, hs, hi, hl, hd⟩
    have hel := run_endLoop (P := P) hl (by rw [hst]; simp)
    rw [hpn] at hel
    exact ⟨none, _, hel, hdone w.heap.size xs _ (Nat.le_refl _) (hS.putObj _ hs hDL hl rfl) (hI.putObj _ hi hDL hl rfl) ((World.putObj_heap_other hLD).trans hd)⟩
end Go.Proofs.Ytbfdlfhidebjlaa.Cl
