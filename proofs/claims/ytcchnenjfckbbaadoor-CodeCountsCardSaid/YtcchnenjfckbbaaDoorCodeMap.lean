/- Package code: kinds: which names have a kind of their own. -/
import Derived.Test.YtcchnenjfckbbaaDoorRows
import Derived.Test.YtcchnenjfckbbaaDoorShelf
import Derived.Maps.Own
import Derived.Maps.OwnSet
import Derived.Maps.OwnOps
import Derived.Maps.RangeWalk
import Derived.Maps.Views
import Derived.WalkKit
import Derived.WalkSpells
import Derived.WalkLawsBesides
import Derived.Below
namespace Go.Proofs.YtcchnenjfckbbaaDoor.Co
open Go.RowKit Go.Maps
set_option linter.unusedVariables false
set_option linter.unusedSimpArgs false

/-! ### What the package's variables hold -/
structure Gl (w : World) : Prop where
  tab : Lib.TabIs Tryd.prog w "strings.asciiSpace" .u8 Lib.asciiSpaceTab
  mx : ∃ m, w.cell? ⟨1, 0, none⟩ = some (.int .i64 m)
theorem gAscii : Tryd.prog.globalNamed "strings.asciiSpace" = some 0 := by kernel_rfl
theorem var_block {P : Program} {w : World} {n : String} {g : Nat} {cs : Array Value} (hg : P.globalNamed n = some g) (h : w.var? P n = some cs) : g < w.heap.size := by
  unfold World.var? at h
  rw [hg] at h
  simp only [Option.bind_some] at h
  cases hb : w.heap[g]? with
  | none => rw [hb] at h; simp at h
  | some o => exact (Array.getElem?_eq_some_iff.1 hb).1
theorem var_below {P : Program} {w w' : World} {n : String} {g : Nat} {cs : Array Value} (hg : P.globalNamed n = some g) (h : w.var? P n = some cs) (hb : Below w.heap.size w w') : w'.var? P n = some cs := by
  have hlt := var_block hg h
  unfold World.var? at h ⊢
  rw [hg] at h ⊢
  simp only [Option.bind_some] at h ⊢
  rw [hb.block g hlt]; exact h
theorem Gl.below {w w' : World} (h : Gl w) (hb : Below w.heap.size w w') : Gl w' := by
  obtain ⟨m, hm⟩ := h.mx
  exact ⟨var_below gAscii h.tab hb, m, (hb.cell (p := ⟨1, 0, none⟩) (block_lt_of_cell hm)).trans hm⟩

/-! ### The names, plainly -/
def base : List (List UInt8 × Int) := [([74, 77, 80], 7), ([74, 83, 82], 8), ([82, 84, 83], 9), ([82, 84, 73], 10), ([66, 82, 75], 11), ([74, 65, 77], 12)]
def text (g : Int) : List UInt8 :=
  if g = 3 then [65, 83, 76, 32, 76, 83, 82, 32, 82, 79, 76, 32, 82, 79, 82, 32, 73, 78, 67, 32, 68, 69, 67, 32, 83, 76, 79, 32, 82, 76, 65, 32, 83, 82, 69, 32, 82, 82, 65, 32, 68, 67, 80, 32, 73, 83, 67]
  else if g = 2 then [83, 84, 65, 32, 83, 84, 88, 32, 83, 84, 89, 32, 83, 65, 88, 32, 83, 72, 65, 32, 83, 72, 88, 32, 83, 72, 89, 32, 84, 65, 83]
  else if g = 5 then [80, 72, 65, 32, 80, 72, 80] else [80, 76, 65, 32, 80, 76, 80]
def names (g : Int) : List (List UInt8) := Lib.fields (text g)
def gs : List Int := [3, 2, 5, 6]
def baseO (l : List UInt8) : Option Int := base.lookup l
/-- What has been told so far: done of whole groups; of one group its first names. -/
def val (done : Int → Bool) (l : List UInt8) : Option Int := match baseO l with
  | some c => some c
  | none => gs.find? fun g => done g && (names g).contains l
def kindO (l : List UInt8) : Option Int := val (fun _ => true) l
theorem names_len : ∀ g ∈ gs, (names g).length ≤ 12 := by decide +kernel
theorem names_base : ∀ g ∈ gs, ∀ l ∈ names g, baseO l = none := by decide +kernel
theorem names_apart : ∀ g ∈ gs, ∀ h ∈ gs, ∀ l ∈ names g, (names h).contains l = true → h = g := by decide +kernel
theorem names_short : ∀ g ∈ gs, ∀ l ∈ names g, l.length ≤ 3 := by decide +kernel
theorem text_ascii : ∀ g ∈ gs, ∀ b ∈ text g, b.toNat < 128 := by decide +kernel
theorem text_short : ∀ g ∈ gs, (text g).length ≤ 60 := by decide +kernel
/-- A map that reads as that. -/
def Outs {H : Type} (D : DataW H) (f : List UInt8 → Option Int) : Prop := IsMap D ∧ ∀ l zd, D.atKey (.string l) zd = match f l with | some c => .lit (.int .u8 c) | none => zd
theorem Outs.put {H : Type} {D : DataW H} {f : List UInt8 → Option Int} (h : Outs D f) (l : List UInt8) (c : Int) : Outs (D.put (.string l) (.lit (.int .u8 c))) fun k => if k = l then some c else f k := by
  refine ⟨h.1.put _ _, fun k zd => ?_⟩
  by_cases e : k = l
  · subst e
    rw [atKey_put_same h.1 (by trivial)]; simp
  · rw [atKey_put_other (by simpa using e), h.2 k zd]; simp [e]
theorem Outs.cast {H : Type} {D : DataW H} {f g : List UInt8 → Option Int} (h : Outs D f) (e : ∀ l, f l = g l) : Outs D g := ⟨h.1, fun l zd => by rw [h.2 l zd, e l]⟩
theorem outs_nil {H : Type} : Outs (.map [] : DataW H) (fun _ => none) := ⟨⟨[], rfl⟩, fun _ _ => rfl⟩
/-- Group by group. -/
def part (done : Int → Bool) (g : Int) (j : Nat) (l : List UInt8) : Option Int := if ((names g).take j).contains l then some g else val done l
theorem part_zero (done : Int → Bool) (g : Int) (l : List UInt8) : part done g 0 l = val done l := by simp [part]
theorem part_step (done : Int → Bool) (g : Int) (j : Nat) (h : j < (names g).length) (l : List UInt8) : (if l = (names g)[j] then some g else part done g j l) = part done g (j + 1) l := by
  unfold part
  have hm : (((names g).take (j + 1)).contains l = true) ↔ (l = (names g)[j] ∨ ((names g).take j).contains l = true) := by
    rw [List.take_succ_eq_append_getElem h]
    simp only [List.contains_iff_mem, List.mem_append, List.mem_singleton]
    exact Or.comm
  by_cases e : l = (names g)[j]
  · rw [if_pos e, if_pos (hm.2 (.inl e))]
  · rw [if_neg e]
    by_cases e2 : ((names g).take j).contains l = true
    · rw [if_pos e2, if_pos (hm.2 (.inr e2))]
    · rw [if_neg e2, if_neg (fun h => (hm.1 h).elim e e2)]
theorem part_all (done : Int → Bool) (g : Int) (hg : g ∈ gs) (l : List UInt8) : part done g (names g).length l = val (fun x => done x || (x == g)) l := by
  unfold part
  rw [List.take_length]
  by_cases h : (names g).contains l = true
  · rw [if_pos h]
    have hm : l ∈ names g := by simpa using h
    have hb := names_base g hg l hm
    unfold val
    rw [hb]
    have key : ∀ x ∈ gs, ((fun x => (done x || x == g) && (names x).contains l) x) = (x == g) := fun x hx => by
      by_cases e : x = g
      · subst e; simp [hm]
      · have : (names x).contains l = false := by
          cases hc : (names x).contains l
          · rfl
          · exact absurd (names_apart g hg x hx l hm hc) e
        simp only [this, Bool.and_false]
        simp [e]
    have hf : gs.find? (fun x => (done x || x == g) && (names x).contains l) = gs.find? (fun x => x == g) := by
      clear hm hb h
      revert key
      generalize gs = L at hg
      intro key
      induction L with
      | nil => cases hg
      | cons y t ih =>
        have hy := key y (by simp)
        simp only [List.find?_cons]
        rw [show ((done y || y == g) && (names y).contains l) = (y == g) from hy]
        cases hyg : y == g
        · rcases List.mem_cons.1 hg with rfl | hg'
          · simp at hyg
          · exact ih hg' fun x hx => key x (List.mem_cons_of_mem _ hx)
        · rfl
    rw [hf]
    clear key hf hm hb h
    revert hg; revert g; decide +kernel
  · rw [if_neg h]
    unfold val
    cases baseO l with
    | some c => rfl
    | none =>
      show gs.find? (fun x => done x && (names x).contains l) = gs.find? (fun x => (done x || x == g) && (names x).contains l)
      congr 1
      funext x
      by_cases e : x = g
      · subst e
        simp only [Bool.not_eq_true] at h
        simp only [h, Bool.and_false]
      · rw [show (x == g) = false from beq_false_of_ne e, Bool.or_false]
end Go.Proofs.YtcchnenjfckbbaaDoor.Co
