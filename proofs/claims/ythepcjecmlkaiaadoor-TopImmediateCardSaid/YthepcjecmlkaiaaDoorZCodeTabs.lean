/- Package code: kinds: which names have a kind of their own. -/
import Derived.Test.YthepcjecmlkaiaaDoorRows
import Derived.Test.YthepcjecmlkaiaaDoorShelf
import Derived.Maps.Own
import Derived.Maps.OwnSet
import Derived.Maps.OwnOps
import Derived.Maps.RangeWalk
import Derived.Maps.Views
import Derived.WalkKit
import Derived.WalkSpells
import Derived.WalkLawsBesides
import Derived.Below
import Derived.Deep.Cut
import Derived.Maps.StringElems
import Derived.Lib.Hide
import Derived.Laws.Rows
import Derived.Laws.Tables
import Derived.KernelRfl
import Derived.Deep.WholeRow
import Derived.Deep.RegionHeld3
import Derived.IntWalk
namespace Go.Proofs.YthepcjecmlkaiaaDoor.Co
open Go.RowKit Go.Maps
set_option linter.unusedVariables false
set_option linter.unusedSimpArgs false

/-! ### What the package's variables hold -/
structure Gl (w : World) : Prop where
  tab : Lib.TabIs Tryd.prog w "strings.asciiSpace" .u8 Lib.asciiSpaceTab
  mx : ∃ m, w.cell? ⟨1, 0, none⟩ = some (.int .i64 m)
theorem gAscii : Tryd.prog.globalNamed "strings.asciiSpace" = some 0 := by kernel_rfl
theorem var_block {P : Program} {w : World} {n : String} {g : Nat} {cs : Array Value} (hg : P.globalNamed n = some g) (h : w.var? P n = some cs) : g < w.heap.size := by
  unfold World.var? at h
  rw [hg] at h
  simp only [Option.bind_some] at h
  cases hb : w.heap[g]? with
  | none => rw [hb] at h; simp at h
  | some o => exact (Array.getElem?_eq_some_iff.1 hb).1
theorem var_below {P : Program} {w w' : World} {n : String} {g : Nat} {cs : Array Value} (hg : P.globalNamed n = some g) (h : w.var? P n = some cs) (hb : Below w.heap.size w w') : w'.var? P n = some cs := by
  have hlt := var_block hg h
  unfold World.var? at h ⊢
  rw [hg] at h ⊢
  simp only [Option.bind_some] at h ⊢
  rw [hb.block g hlt]; exact h
theorem Gl.below {w w' : World} (h : Gl w) (hb : Below w.heap.size w w') : Gl w' := by
  obtain ⟨m, hm⟩ := h.mx
  exact ⟨var_below gAscii h.tab hb, m, (hb.cell (p := ⟨1, 0, none⟩) (block_lt_of_cell hm)).trans hm⟩

/-! ### The names, plainly -/
def base : List (List UInt8 × Int) := [([74, 77, 80], 7), ([74, 83, 82], 8), ([82, 84, 83], 9), ([82, 84, 73], 10), ([66, 82, 75], 11), ([74, 65, 77], 12)]
def text (g : Int) : List UInt8 :=
  if g = 3 then [65, 83, 76, 32, 76, 83, 82, 32, 82, 79, 76, 32, 82, 79, 82, 32, 73, 78, 67, 32, 68, 69, 67, 32, 83, 76, 79, 32, 82, 76, 65, 32, 83, 82, 69, 32, 82, 82, 65, 32, 68, 67, 80, 32, 73, 83, 67]
  else if g = 2 then [83, 84, 65, 32, 83, 84, 88, 32, 83, 84, 89, 32, 83, 65, 88, 32, 83, 72, 65, 32, 83, 72, 88, 32, 83, 72, 89, 32, 84, 65, 83]
  else if g = 5 then [80, 72, 65, 32, 80, 72, 80] else [80, 76, 65, 32, 80, 76, 80]
def names (g : Int) : List (List UInt8) := Lib.fields (text g)
def gs : List Int := [3, 2, 5, 6]
def baseO (l : List UInt8) : Option Int := base.lookup l
/-- What has been told so far: done of whole groups; of one group its first names. -/
def val (done : Int → Bool) (l : List UInt8) : Option Int := match baseO l with
  | some c => some c
  | none => gs.find? fun g => done g && (names g).contains l
def kindO (l : List UInt8) : Option Int := val (fun _ => true) l
theorem names_len : ∀ g ∈ gs, (names g).length ≤ 12 := by decide +kernel
theorem names_base : ∀ g ∈ gs, ∀ l ∈ names g, baseO l = none := by decide +kernel
theorem names_apart : ∀ g ∈ gs, ∀ h ∈ gs, ∀ l ∈ names g, (names h).contains l = true → h = g := by decide +kernel
theorem names_short : ∀ g ∈ gs, ∀ l ∈ names g, l.length ≤ 3 := by decide +kernel
theorem text_ascii : ∀ g ∈ gs, ∀ b ∈ text g, b.toNat < 128 := by decide +kernel
theorem text_short : ∀ g ∈ gs, (text g).length ≤ 60 := by decide +kernel
/-- A map that reads as that. -/
def Outs {H : Type} (D : DataW H) (f : List UInt8 → Option Int) : Prop := IsMap D ∧ ∀ l zd, D.atKey (.string l) zd = match f l with | some c => .lit (.int .u8 c) | none => zd
theorem Outs.put {H : Type} {D : DataW H} {f : List UInt8 → Option Int} (h : Outs D f) (l : List UInt8) (c : Int) : Outs (D.put (.string l) (.lit (.int .u8 c))) fun k => if k = l then some c else f k := by
  refine ⟨h.1.put _ _, fun k zd => ?_⟩
  by_cases e : k = l
  · subst e
    rw [atKey_put_same h.1 (by trivial)]; simp
  · rw [atKey_put_other (by simpa using e), h.2 k zd]; simp [e]
theorem Outs.cast {H : Type} {D : DataW H} {f g : List UInt8 → Option Int} (h : Outs D f) (e : ∀ l, f l = g l) : Outs D g := ⟨h.1, fun l zd => by rw [h.2 l zd, e l]⟩
theorem outs_nil {H : Type} : Outs (.map [] : DataW H) (fun _ => none) := ⟨⟨[], rfl⟩, fun _ _ => rfl⟩
/-- Group by group. -/
def part (done : Int → Bool) (g : Int) (j : Nat) (l : List UInt8) : Option Int := if ((names g).take j).contains l then some g else val done l
theorem part_zero (done : Int → Bool) (g : Int) (l : List UInt8) : part done g 0 l = val done l := by simp [part]
theorem part_step (done : Int → Bool) (g : Int) (j : Nat) (h : j < (names g).length) (l : List UInt8) : (if l = (names g)[j] then some g else part done g j l) = part done g (j + 1) l := by
  unfold part
  have hm : (((names g).take (j + 1)).contains l = true) ↔ (l = (names g)[j] ∨ ((names g).take j).contains l = true) := by
    rw [List.take_succ_eq_append_getElem h]
    simp only [List.contains_iff_mem, List.mem_append, List.mem_singleton]
    exact Or.comm
  by_cases e : l = (names g)[j]
  · rw [if_pos e, if_pos (hm.2 (.inl e))]
  · rw [if_neg e]
    by_cases e2 : ((names g).take j).contains l = true
    · rw [if_pos e2, if_pos (hm.2 (.inr e2))]
    · rw [if_neg e2, if_neg (fun h => (hm.1 h).elim e e2)]
theorem part_all (done : Int → Bool) (g : Int) (hg : g ∈ gs) (l : List UInt8) : part done g (names g).length l = val (fun x => done x || (x == g)) l := by
  unfold part
  rw [List.take_length]
  by_cases h : (names g).contains l = true
  · rw [if_pos h]
    have hm : l ∈ names g := by simpa using h
    have hb := names_base g hg l hm
    unfold val
    rw [hb]
    have key : ∀ x ∈ gs, ((fun x => (done x || x == g) && (names x).contains l) x) = (x == g) := fun x hx => by
      by_cases e : x = g
      · subst e; simp [hm]
      · have : (names x).contains l = false := by
          cases hc : (names x).contains l
          · rfl
          · exact absurd (names_apart g hg x hx l hm hc) e
        simp only [this, Bool.and_false]
        simp [e]
    have hf : gs.find? (fun x => (done x || x == g) && (names x).contains l) = gs.find? (fun x => x == g) := by
      clear hm hb h
      revert key
      generalize gs = L at hg
      intro key
      induction L with
      | nil => cases hg
      | cons y t ih =>
        have hy := key y (by simp)
        simp only [List.find?_cons]
        rw [show ((done y || y == g) && (names y).contains l) = (y == g) from hy]
        cases hyg : y == g
        · rcases List.mem_cons.1 hg with rfl | hg'
          · simp at hyg
          · exact ih hg' fun x hx => key x (List.mem_cons_of_mem _ hx)
        · rfl
    rw [hf]
    clear key hf hm hb h
    revert hg; revert g; decide +kernel
  · rw [if_neg h]
    unfold val
    cases baseO l with
    | some c => rfl
    | none =>
      show gs.find? (fun x => done x && (names x).contains l) = gs.find? (fun x => (done x || x == g) && (names x).contains l)
      congr 1
      funext x
      by_cases e : x = g
      · subst e
        simp only [Bool.not_eq_true] at h
        simp only [h, Bool.and_false]
      · rw [show (x == g) = false from beq_false_of_ne e, Bool.or_false]
end Go.Proofs.YthepcjecmlkaiaaDoor.Co
/- Package code: kinds, walked. -/
namespace Go.Proofs.YthepcjecmlkaiaaDoor.Co
open Go.RowKit Go.Maps Go.WideMaps Go.Proofs.Tryd
set_option linter.unusedVariables false
set_option linter.unusedSimpArgs false
/-- An entry of a map literal. -/
theorem wpList_insert_own {H : Type} {P : Program} (w : World) {ops : Array Oper} {rest : List Oper} {o : Oper} {a : Act} {Q : Exit → Act → World → Prop}
    (hg : o.guard = none) (m x v : Operand) (t : TypeId) (hop : o.op = Op.insert t m x v)
    (k e : TypeId) (K : Keyed P k) (ht : P.underlying t = some (.map k e)) (R : Value → Option (DataW H × List MemPlace)) (b n : Nat) (D : DataW H)
    (hm : a.eval m = .map (some b)) (hown : w.ownsMap P k R b n D) (hn : n < maxLen) (key val : Value) (kl : Lit) (hx : a.eval x = key) (hv : a.eval v = val) (hkey : keyOf P k key = some kl)
    (d : DataW H) (ps : List MemPlace) (hval : R val = some (d, ps))
    (hK : ∀ w', w'.ownsMap P k R b (n + 1) (D.put kl d) → w.grownBy w' (some b) → wpList P ops Q rest (a.put o.dst undef) w') :
    wpList P ops Q (o :: rest) a w := by
  refine wpList_plain hg fun K' hK' => ?_
  obtain ⟨w', hrun, r1, r2⟩ := hown.update K ht hn hkey hval
  unfold Oper.wp
  simp [execOp, hop, hm, hx, hv, hrun, Result.andThen]
  exact hK' _ _ (hK w' r1 r2)
theorem lawS : Keyed Tryd.prog 9 := string_keyed Tryd.underlying9
theorem lawK : Keyed Tryd.prog 27 := int_keyed Tryd.underlying27
def D0 : DataW Unit := ((((DataW.map []).put (.int .u8 3) (.lit (.string (text 3)))).put (.int .u8 2) (.lit (.string (text 2)))).put (.int .u8 5) (.lit (.string (text 5)))).put (.int .u8 6) (.lit (.string (text 6)))
theorem d0_at (x : Int) (zd : DataW Unit) : D0.atKey (.int .u8 x) zd = if x ∈ gs then .lit (.string (text x)) else zd := by
  have m0 : IsMap (DataW.map [] : DataW Unit) := ⟨[], rfl⟩
  unfold D0
  by_cases h6 : x = 6
  · subst h6; rw [atKey_put_same (((m0.put _ _).put _ _).put _ _) (by trivial)]; rfl
  rw [atKey_put_other (by simpa using h6)]
  by_cases h5 : x = 5
  · subst h5; rw [atKey_put_same ((m0.put _ _).put _ _) (by trivial)]; rfl
  rw [atKey_put_other (by simpa using h5)]
  by_cases h2 : x = 2
  · subst h2; rw [atKey_put_same (m0.put _ _) (by trivial)]; rfl
  rw [atKey_put_other (by simpa using h2)]
  by_cases h3 : x = 3
  · subst h3; rw [atKey_put_same m0 (by trivial)]; rfl
  rw [atKey_put_other (by simpa using h3)]
  rw [if_neg (by simp [gs, h6, h5, h2, h3])]
  rfl
theorem d0_in (x : Int) (c : List UInt8) (h : ∀ zd, D0.atKey (.int .u8 x) zd = .lit (.string c)) : x ∈ gs ∧ c = text x := by
  by_cases hx : x ∈ gs
  · have := h .nil
    rw [d0_at, if_pos hx] at this
    cases this; exact ⟨hx, rfl⟩
  · have := h .nil
    rw [d0_at, if_neg hx] at this
    cases this
theorem d0_has (x : Int) (hx : x ∈ gs) : Maps.has D0 (.int .u8 x) = true := has_true_of_atKey (y := .lit (.string (text x))) fun z => by rw [d0_at, if_pos hx]
theorem d0_size : Maps.size D0 = 4 := by kernel_rfl
theorem val_congr {f g : Int → Bool} (h : ∀ x ∈ gs, f x = g x) (l : List UInt8) : val f l = val g l := by
  unfold val
  cases baseO l with
  | some c => rfl
  | none =>
    show gs.find? (fun x => f x && (names x).contains l) = gs.find? (fun x => g x && (names x).contains l)
    revert h
    generalize gs = L
    intro h
    induction L with
    | nil => rfl
    | cons y t ih => simp only [List.find?_cons, h y (by simp), ih fun x hx => h x (List.mem_cons_of_mem _ hx)]
theorem same_u8 (g x : Int) : (Lit.int .u8 g).sameKey (.int .u8 x) = (g == x) := by
  by_cases e : g = x
  · subst e; rw [WideAt.sameKey_self (by trivial)]; simp
  · rw [Maps.sameKey_ne (by simpa using e), beq_false_of_ne e]
theorem owns_block {H : Type} {P : Program} {k : TypeId} {R : Value → Option (DataW H × List MemPlace)} {w w' : World} {b n : Nat} {D : DataW H} (h : w.ownsMap P k R b n D) (e : w'.heap[b]? = w.heap[b]?) : w'.ownsMap P k R b n D := by
  obtain ⟨es, clock, hb, F, hs, hD⟩ := h
  exact ⟨es, clock, e.trans hb, F, hs, hD⟩
theorem grown_alloc (w : World) (o : Obj) : w.grownBy (w.alloc o) none := World.grownBy_alloc w o none
/-- What kinds hands back. -/
def KPost (w : World) (e : Ending) (w' : World) : Prop := ∃ bm, e = .returned (.map (some bm)) ∧ Below w.heap.size w w' ∧ ∃ (D : DataW Unit) (n : Nat), w'.ownsMap Tryd.prog 9 (plainElem Tryd.prog 27) bm n D ∧ Outs D kindO
/-- The six that are told outright. -/
def D6 : DataW Unit := ((((((DataW.map []).put (.string [74, 77, 80]) (.lit (.int .u8 7))).put (.string [74, 83, 82]) (.lit (.int .u8 8))).put (.string [82, 84, 83]) (.lit (.int .u8 9))).put (.string [82, 84, 73]) (.lit (.int .u8 10))).put (.string [66, 82, 75]) (.lit (.int .u8 11))).put (.string [74, 65, 77]) (.lit (.int .u8 12))
theorem d6_outs : Outs D6 (val fun _ => false) := by
  refine (((((((outs_nil (H := Unit)).put [74, 77, 80] 7).put [74, 83, 82] 8).put [82, 84, 83] 9).put [82, 84, 73] 10).put [66, 82, 75] 11).put [74, 65, 77] 12).cast fun l => ?_
  by_cases e6 : l = [74, 65, 77]
  · subst e6; decide +kernel
  by_cases e5 : l = [66, 82, 75]
  · subst e5; decide +kernel
  by_cases e4 : l = [82, 84, 73]
  · subst e4; decide +kernel
  by_cases e3 : l = [82, 84, 83]
  · subst e3; decide +kernel
  by_cases e2 : l = [74, 83, 82]
  · subst e2; decide +kernel
  by_cases e1 : l = [74, 77, 80]
  · subst e1; decide +kernel
  rw [if_neg e6, if_neg e5, if_neg e4, if_neg e3, if_neg e2, if_neg e1]
  have hb : baseO l = none := by
    unfold baseO base
    simp only [List.lookup, beq_false_of_ne e1, beq_false_of_ne e2, beq_false_of_ne e3, beq_false_of_ne e4, beq_false_of_ne e5, beq_false_of_ne e6]
  unfold val
  rw [hb]
  exact (List.find?_eq_none.2 fun x _ => by simp).symm
set_option maxRecDepth 1000000 in
set_option maxHeartbeats 2000000 in
theorem kinds_any (w : World) (hG : Gl w) : Calls Tryd.prog 17 #[] w (KPost w) := by
  have hmm := @run_makeMap Tryd.prog
  have o0 := World.ownsMap_made (H := Unit) w Tryd.prog 9 (plainElem Tryd.prog 27)
  unfold KPost
  go_enter Tryd.func17, Tryd.ntmps17
  have hb0 : Below w.heap.size w (w.alloc (.map #[] 0)) := (Below.refl _ _).alloc (Nat.le_refl _) _
  go_upto_region 2 with (refine wpList_insert_own (H := Unit) _ rfl _ _ _ 47 rfl 9 27 lawS Tryd.underlying47 (plainElem Tryd.prog 27) _ _ _ rfl (by assumption) (by unfold maxLen; omega) _ _ _ rfl rfl (keyOf_string_mk Tryd.underlying9 (by decide)) _ [] (plainElem_int Tryd.underlying27 (by decide)) ?_; intro w1 o1 g1; have hb1 : Below w.heap.size w w1 := Below.grown (show Below w.heap.size w _ by assumption) g1 (Below.size (show Below w.heap.size w _ by assumption)) (fun k hk => by cases hk; exact Nat.le_refl _))
  have o6 : w1.ownsMap Tryd.prog 9 (plainElem Tryd.prog 27) w.heap.size 6 D6 := o1
  have hb6 := hb1
  obtain ⟨w6, rfl⟩ : ∃ w6 : World, w6 = w1 := ⟨_, rfl⟩
  have p0 := World.ownsMap_made (H := Unit) w6 Tryd.prog 27 (plainElem Tryd.prog 9)
  have hc0 : Below w6.heap.size w6 (w6.alloc (.map #[] 0)) := (Below.refl _ _).alloc (Nat.le_refl _) _
  clear o0 o1 hb1 hb0
  go_wp2_with (first | (refine wpList_insert_own (H := Unit) _ rfl _ _ _ 77 rfl 27 9 lawK Tryd.underlying77 (plainElem Tryd.prog 9) _ _ _ rfl (by assumption) (by unfold maxLen; omega) _ _ _ rfl rfl (Maps.keyOf_int_mk Tryd.underlying27 (by decide)) _ [] (plainElem_string Tryd.underlying9 (by decide)) ?_; intro w2 p2 g2; have hb2 : Below w6.heap.size w6 w2 := Below.grown (show Below w6.heap.size w6 _ by assumption) g2 (Below.size (show Below w6.heap.size w6 _ by assumption)) (fun k hk => by cases hk; exact Nat.le_refl _)) | (at_range; refine wpList_range_own _ rfl _ 77 rfl 27 9 lawK Tryd.underlying77 (plainElem Tryd.prog 9) _ _ _ rfl (by assumption) ?_; intro w3 hrg3 hg3 hs3))
  have hrg : w3.ranges Tryd.prog 27 (plainElem Tryd.prog 9) w6.heap.size w2.heap.size 4 D0 (Maps.has D0) (Maps.size D0) := hrg3
  rw [d0_size] at hrg
  have hbo : w.heap.size < w6.heap.size := o6.lt
  have hs26 := hb2.size
  have o3 : w3.ownsMap Tryd.prog 9 (plainElem Tryd.prog 27) w.heap.size 6 D6 := owns_block o6 ((hg3.block _ (by omega) (by simp)).trans (hb2.block _ hbo))
  have hb3 : Below w.heap.size w w3 := (hb6.trans (hb2.mono (by omega))).grown hg3 (by omega) (fun k hk => by cases hk)
  have hbr : w.heap.size ≤ w6.heap.size := by omega
  have hrr : w6.heap.size < w2.heap.size := p2.lt
  generalize w6.heap.size = br at *
  generalize w2.heap.size = rr at *
  clear hrg3 o6 p0 p2 hb2 hb6 hc0 hg3 hs3
  try go_frame
  go_loopw [2] (fun _ wr => ∃ (left : Lit → Bool) (cnt n : Nat) (D : DataW Unit), wr.ranges Tryd.prog 27 (plainElem Tryd.prog 9) br rr 4 D0 left cnt ∧ wr.ownsMap Tryd.prog 9 (plainElem Tryd.prog 27) w.heap.size n D ∧ Outs D (val fun g => !left (.int .u8 g)) ∧ n + 12 * cnt ≤ 54 ∧ Below w.heap.size w wr)
    (fun _ wr => wr.rangeLeft br rr)
  case atStart => exact ⟨_, _, 6, D6, hrg, o3, d6_outs.cast (val_congr fun x hx => by rw [d0_has x hx]; rfl), by omega, hb3⟩
  case round =>
    obtain ⟨left, cnt, n, D, hrg', ho, hD, hn, hb⟩ := hrel
    obtain ⟨wo, rfl⟩ : ∃ wo : World, wo = wr := ⟨_, rfl⟩
    clear hrg o3 hb3
    go_wp2_with (at_next; refine wpList_next_ranges _ rfl _ rfl 27 lawK (plainElem Tryd.prog 9) (Value.int .u8) Value.string (fun key kl h => by obtain ⟨x, rfl, _⟩ := Maps.keyOf_int_inv Tryd.underlying27 h; exact ⟨x, rfl⟩) (fun v y h => by obtain ⟨c, rfl, _⟩ := plainElem_string_inv Tryd.underlying9 h; exact ⟨c, rfl⟩) br rr 4 D0 left cnt rfl hrg' ?_ ?_)
    · intro hc0 hl0
      go_wp2_with fail
      go_ret
      exact ⟨_, rfl, hb, D, n, ho, hD.cast fun l => val_congr (fun x _ => by rw [hl0]; rfl) l⟩
    · intro x c kl y yp w4 cnt' hkey hlk hv hat hrg4 hlt hg4 hs4 hen
      obtain ⟨x', ex, rfl, hwx⟩ := Maps.keyOf_int_inv Tryd.underlying27 hkey
      cases ex
      obtain ⟨c', ec, ez, hcs⟩ := plainElem_string_inv Tryd.underlying9 hv
      cases ec
      cases ez
      obtain ⟨hx, hct⟩ := d0_in x _ hat
      clear hs4
      have hlo := ho.lt
      have o4 := owns_block ho (hg4.block w.heap.size hlo (by simp; omega))
      have hb4 : Below w.heap.size w w4 := hb.grown hg4 hb.size (fun k hk => by cases hk; omega)
      have hG4 := hG.below hb4
      have hsz : c.size = (text x).length := by rw [← hct]; rfl
      have htl := text_short x hx
      have kf := strings_Fields_laid c w4 (by omega) (fun j b hb => text_ascii x hx b (by rw [← hct]; exact List.mem_of_getElem? hb)) hG4.tab
      rw [hct] at kf
      have hN : Lib.fields (text x) = names x := rfl
      rw [hN] at kf
      have hnl := names_len x hx
      have HX := Lib.hid hx
      clear hct hN hsz htl hG4 hat hkey hv hcs hx
      go_wp2_with fail
      refine kf.mono ?_
      rintro e w' ⟨rfl, rfl⟩
      have hlen : ((names x).map fun l => Value.string ⟨l.toArray⟩).length = (names x).length := by simp
      have hN5 : (w4.alloc (.cells ((names x).map fun l => Value.string ⟨l.toArray⟩).toArray 9)).heap[w4.heap.size]? = some (.cells ((names x).map fun l => Value.string ⟨l.toArray⟩).toArray 9 (0, 0)) := heap_alloc_new w4 _
      have hb45 : Below w4.heap.size w4 (w4.alloc (.cells ((names x).map fun l => Value.string ⟨l.toArray⟩).toArray 9)) := (Below.refl _ _).alloc (Nat.le_refl _) _
      have hrg5 := hrg4.alloc (.cells ((names x).map fun l => Value.string ⟨l.toArray⟩).toArray 9)
      have o5 := o4.alloc (.cells ((names x).map fun l => Value.string ⟨l.toArray⟩).toArray 9)
      have hb5 := hb4.trans (hb45.mono hb4.size)
      have hrl := hrg4.lt
      have hbl := hrg4.owns.lt
      have hol := o4.lt
      have hNl : w4.heap.size < (w4.alloc (.cells ((names x).map fun l => Value.string ⟨l.toArray⟩).toArray 9)).heap.size := by simp
      generalize w4.alloc (.cells ((names x).map fun l => Value.string ⟨l.toArray⟩).toArray 9) = w5 at *
      generalize hNN : w4.heap.size = N at *
      have hbN : w.heap.size ≤ N := by omega
      have hwl := hrg'.left_eq
      clear hrg4 o4 hb4 hb45 kf hen hg4 ho hrg' hb
      go_wp2_with fail
      go_loopw [19] (fun i wr => ∃ (j n' : Nat) (D' : DataW Unit), j ≤ (names x).length ∧ i = .int .i64 j ∧ wr.ranges Tryd.prog 27 (plainElem Tryd.prog 9) br rr 4 D0 (fun z => left z && !z.sameKey (.int .u8 x)) cnt' ∧ wr.ownsMap Tryd.prog 9 (plainElem Tryd.prog 27) w.heap.size n' D' ∧ Outs D' (part (fun g => !left (.int .u8 g)) x j) ∧ n' ≤ n + j ∧ Below w.heap.size w wr ∧ wr.heap[N]? = some (.cells ((names x).map fun l => Value.string ⟨l.toArray⟩).toArray 9 (0, 0)))
        (fun i _ => (names x).length - (intOf i).toNat)
      case atStart => exact ⟨0, n, D, Nat.zero_le _, rfl, hrg5, o5, hD.cast fun l => (part_zero _ _ l).symm, by omega, hb5, hN5⟩
      case round =>
        clear hrg5 o5 hb5 hN5
        obtain ⟨j, n', D', hj, rfl, hrj, hoj, hDj, hnj, hbj, hNj⟩ := hrel
        by_cases hjl : j < (names x).length
        · have hcl : wr.cell? ⟨N, j, none⟩ = some (.string ⟨(names x)[j].toArray⟩) := by
            rw [cell_of_row wr N j _ _ _ hNj]; simp [hjl]
          have hps := part_step (fun g => !left (.int .u8 g)) x j hjl
          have hsh := names_short x HX.out (names x)[j] (List.getElem_mem hjl)
          have hDn := hDj.put (names x)[j] x
          generalize (names x)[j] = nm at *
          have hks : keyOf Tryd.prog 9 (.string ⟨nm.toArray⟩) = some (.string nm) := keyOf_string_mk Tryd.underlying9 (s := ⟨nm.toArray⟩) (by simp [ByteArray.size]; unfold maxLen; omega)
          have hval : plainElem (H := Unit) Tryd.prog 27 (.int .u8 x) = some (.lit (.int .u8 x), []) := plainElem_int Tryd.underlying27 hwx
          have i0 : (0 : Int) ≤ (j : Int) := by omega
          have i1 : (j : Int) < (names x).length := by omega
          have hm : n' < maxLen := by unfold maxLen; omega
          have hoL := hoj.lt
          have hNL : N < wr.heap.size := (Array.getElem?_eq_some_iff.1 hNj).1
          have HPS := Lib.hid hps
          have HNJ := Lib.hid hNj
          clear hps hNj
          go_wp2_with (at_mapUpdate; refine wpList_mapUpdate_own _ rfl _ _ _ 47 rfl 9 27 lawS Tryd.underlying47 (plainElem Tryd.prog 27) _ _ _ rfl hoj hm _ _ _ rfl rfl hks _ [] hval ?_; intro w7 o7 g7)
          go_roundw
          case rel => exact ⟨j + 1, n' + 1, _, by omega, by go_num, hrj.kept g7 (by simp; omega) (by simp; omega), o7, hDn.cast HPS.out, by omega, hbj.grown g7 hbj.size (fun k hk => by cases hk; exact Nat.le_refl _), (g7.block N hNL (by simp; omega)).trans HNJ.out⟩
          case measure => simp [intOf]; omega
        · obtain rfl : j = (names x).length := by omega
          go_wp2_with fail
          go_roundw
          case rel => exact ⟨_, cnt', n', D', hrj, hoj, hDj.cast fun l => (part_all _ x HX.out l).trans (val_congr (fun g _ => by rw [same_u8]; simp) l), by omega, hbj⟩
          case measure => rw [hrj.left_eq, hwl]; exact hlt
/-- What a look-up answers. -/
theorem kinds_look {w : World} {bm n : Nat} {D : DataW Unit} (ho : w.ownsMap Tryd.prog 9 (plainElem Tryd.prog 27) bm n D) (hD : Outs D kindO) (s : ByteArray) (hs : s.size ≤ maxLen) :
    (Instr.lookup 47 (.map (some bm)) (.string s) true).run Tryd.prog w = .ok (.tuple #[.int .u8 ((kindO s.data.toList).getD 0), .bool (kindO s.data.toList).isSome]) w := by
  have hz : (zeroValue 27).run Tryd.prog w = .ok (.int .u8 0) w := by kernel_rfl
  obtain ⟨v, ps, hrun, hv⟩ := ho.look_ok lawS Tryd.underlying47 hz (plainElem_int (H := Unit) Tryd.underlying27 (by decide)) (keyOf_string_mk Tryd.underlying9 hs)
  have hat := hD.2 s.data.toList
  cases hk : kindO s.data.toList with
  | some c =>
    rw [hk] at hat
    have hh : Maps.has D (.string s.data.toList) = true := has_true_of_atKey hat
    obtain ⟨a, rfl, he, _⟩ := plainElem_int_inv Tryd.underlying27 hv
    rw [hat] at he
    cases he
    rw [hrun, hh]; rfl
  | none =>
    rw [hk] at hat
    have hh : Maps.has D (.string s.data.toList) = false := has_false_of_atKey hat
    obtain ⟨a, rfl, he, _⟩ := plainElem_int_inv Tryd.underlying27 hv
    rw [hat] at he
    cases he
    rw [hrun, hh]; rfl
end Go.Proofs.YthepcjecmlkaiaaDoor.Co
/- Package code: its tables; rows, modes, known. -/
namespace Go.Proofs.YthepcjecmlkaiaaDoor.Co
open Go.RowKit Go.Maps Go.WideMaps Go.Deep Go.Proofs.Tryd
set_option linter.unusedVariables false
set_option linter.unusedSimpArgs false
def rowsL : List ByteArray := [
  ⟨#[66, 82, 75, 79, 82, 65, 74, 65, 77, 83, 76, 79, 78, 79, 80, 79, 82, 65, 65, 83, 76, 83, 76, 79, 80, 72, 80, 79, 82, 65, 65, 83, 76, 65, 78, 67, 78, 79, 80, 79, 82, 65, 65, 83, 76, 83, 76, 79]⟩,
  ⟨#[66, 80, 76, 79, 82, 65, 74, 65, 77, 83, 76, 79, 78, 79, 80, 79, 82, 65, 65, 83, 76, 83, 76, 79, 67, 76, 67, 79, 82, 65, 78, 79, 80, 83, 76, 79, 78, 79, 80, 79, 82, 65, 65, 83, 76, 83, 76, 79]⟩,
  ⟨#[74, 83, 82, 65, 78, 68, 74, 65, 77, 82, 76, 65, 66, 73, 84, 65, 78, 68, 82, 79, 76, 82, 76, 65, 80, 76, 80, 65, 78, 68, 82, 79, 76, 65, 78, 67, 66, 73, 84, 65, 78, 68, 82, 79, 76, 82, 76, 65]⟩,
  ⟨#[66, 77, 73, 65, 78, 68, 74, 65, 77, 82, 76, 65, 78, 79, 80, 65, 78, 68, 82, 79, 76, 82, 76, 65, 83, 69, 67, 65, 78, 68, 78, 79, 80, 82, 76, 65, 78, 79, 80, 65, 78, 68, 82, 79, 76, 82, 76, 65]⟩,
  ⟨#[82, 84, 73, 69, 79, 82, 74, 65, 77, 83, 82, 69, 78, 79, 80, 69, 79, 82, 76, 83, 82, 83, 82, 69, 80, 72, 65, 69, 79, 82, 76, 83, 82, 65, 76, 82, 74, 77, 80, 69, 79, 82, 76, 83, 82, 83, 82, 69]⟩,
  ⟨#[66, 86, 67, 69, 79, 82, 74, 65, 77, 83, 82, 69, 78, 79, 80, 69, 79, 82, 76, 83, 82, 83, 82, 69, 67, 76, 73, 69, 79, 82, 78, 79, 80, 83, 82, 69, 78, 79, 80, 69, 79, 82, 76, 83, 82, 83, 82, 69]⟩,
  ⟨#[82, 84, 83, 65, 68, 67, 74, 65, 77, 82, 82, 65, 78, 79, 80, 65, 68, 67, 82, 79, 82, 82, 82, 65, 80, 76, 65, 65, 68, 67, 82, 79, 82, 65, 82, 82, 74, 77, 80, 65, 68, 67, 82, 79, 82, 82, 82, 65]⟩,
  ⟨#[66, 86, 83, 65, 68, 67, 74, 65, 77, 82, 82, 65, 78, 79, 80, 65, 68, 67, 82, 79, 82, 82, 82, 65, 83, 69, 73, 65, 68, 67, 78, 79, 80, 82, 82, 65, 78, 79, 80, 65, 68, 67, 82, 79, 82, 82, 82, 65]⟩,
  ⟨#[78, 79, 80, 83, 84, 65, 78, 79, 80, 83, 65, 88, 83, 84, 89, 83, 84, 65, 83, 84, 88, 83, 65, 88, 68, 69, 89, 78, 79, 80, 84, 88, 65, 65, 78, 69, 83, 84, 89, 83, 84, 65, 83, 84, 88, 83, 65, 88]⟩,
  ⟨#[66, 67, 67, 83, 84, 65, 74, 65, 77, 83, 72, 65, 83, 84, 89, 83, 84, 65, 83, 84, 88, 83, 65, 88, 84, 89, 65, 83, 84, 65, 84, 88, 83, 84, 65, 83, 83, 72, 89, 83, 84, 65, 83, 72, 88, 83, 72, 65]⟩,
  ⟨#[76, 68, 89, 76, 68, 65, 76, 68, 88, 76, 65, 88, 76, 68, 89, 76, 68, 65, 76, 68, 88, 76, 65, 88, 84, 65, 89, 76, 68, 65, 84, 65, 88, 76, 88, 65, 76, 68, 89, 76, 68, 65, 76, 68, 88, 76, 65, 88]⟩,
  ⟨#[66, 67, 83, 76, 68, 65, 74, 65, 77, 76, 65, 88, 76, 68, 89, 76, 68, 65, 76, 68, 88, 76, 65, 88, 67, 76, 86, 76, 68, 65, 84, 83, 88, 76, 65, 83, 76, 68, 89, 76, 68, 65, 76, 68, 88, 76, 65, 88]⟩,
  ⟨#[67, 80, 89, 67, 77, 80, 78, 79, 80, 68, 67, 80, 67, 80, 89, 67, 77, 80, 68, 69, 67, 68, 67, 80, 73, 78, 89, 67, 77, 80, 68, 69, 88, 83, 66, 88, 67, 80, 89, 67, 77, 80, 68, 69, 67, 68, 67, 80]⟩,
  ⟨#[66, 78, 69, 67, 77, 80, 74, 65, 77, 68, 67, 80, 78, 79, 80, 67, 77, 80, 68, 69, 67, 68, 67, 80, 67, 76, 68, 67, 77, 80, 78, 79, 80, 68, 67, 80, 78, 79, 80, 67, 77, 80, 68, 69, 67, 68, 67, 80]⟩,
  ⟨#[67, 80, 88, 83, 66, 67, 78, 79, 80, 73, 83, 67, 67, 80, 88, 83, 66, 67, 73, 78, 67, 73, 83, 67, 73, 78, 88, 83, 66, 67, 78, 79, 80, 83, 66, 67, 67, 80, 88, 83, 66, 67, 73, 78, 67, 73, 83, 67]⟩,
  ⟨#[66, 69, 81, 83, 66, 67, 74, 65, 77, 73, 83, 67, 78, 79, 80, 83, 66, 67, 73, 78, 67, 73, 83, 67, 83, 69, 68, 83, 66, 67, 78, 79, 80, 73, 83, 67, 78, 79, 80, 83, 66, 67, 73, 78, 67, 73, 83, 67]⟩]
def rowsV : Array Value := (rowsL.map Value.string).toArray
def rowsB (r : Nat) : ByteArray := rowsL.getD r ⟨#[]⟩
def modesL : List ByteArray := [
  ⟨#[112, 105, 112, 105, 122, 122, 122, 122, 112, 109, 99, 109, 97, 97, 97, 97]⟩,
  ⟨#[114, 106, 112, 106, 120, 120, 120, 120, 112, 89, 112, 89, 88, 88, 88, 88]⟩,
  ⟨#[97, 105, 112, 105, 122, 122, 122, 122, 112, 109, 99, 109, 97, 97, 97, 97]⟩,
  ⟨#[114, 106, 112, 106, 120, 120, 120, 120, 112, 89, 112, 89, 88, 88, 88, 88]⟩,
  ⟨#[112, 105, 112, 105, 122, 122, 122, 122, 112, 109, 99, 109, 97, 97, 97, 97]⟩,
  ⟨#[114, 106, 112, 106, 120, 120, 120, 120, 112, 89, 112, 89, 88, 88, 88, 88]⟩,
  ⟨#[112, 105, 112, 105, 122, 122, 122, 122, 112, 109, 99, 109, 110, 97, 97, 97]⟩,
  ⟨#[114, 106, 112, 106, 120, 120, 120, 120, 112, 89, 112, 89, 88, 88, 88, 88]⟩,
  ⟨#[109, 105, 109, 105, 122, 122, 122, 122, 112, 109, 112, 109, 97, 97, 97, 97]⟩,
  ⟨#[114, 106, 112, 106, 120, 120, 121, 121, 112, 89, 112, 89, 88, 88, 89, 89]⟩,
  ⟨#[109, 105, 109, 105, 122, 122, 122, 122, 112, 109, 112, 109, 97, 97, 97, 97]⟩,
  ⟨#[114, 106, 112, 106, 120, 120, 121, 121, 112, 89, 112, 89, 88, 88, 89, 89]⟩,
  ⟨#[109, 105, 109, 105, 122, 122, 122, 122, 112, 109, 112, 109, 97, 97, 97, 97]⟩,
  ⟨#[114, 106, 112, 106, 120, 120, 120, 120, 112, 89, 112, 89, 88, 88, 88, 88]⟩,
  ⟨#[109, 105, 109, 105, 122, 122, 122, 122, 112, 109, 112, 109, 97, 97, 97, 97]⟩,
  ⟨#[114, 106, 112, 106, 120, 120, 120, 120, 112, 89, 112, 89, 88, 88, 88, 88]⟩]
def modesV : Array Value := (modesL.map Value.string).toArray
def modesB (r : Nat) : ByteArray := modesL.getD r ⟨#[]⟩
theorem wpList_buildc {P : Program} {ops : Array Oper} {rest : List Oper} {o : Oper} {a : Act} {w : World} {Q : Exit → Act → World → Prop} (hg : o.guard = none) (t : TypeId) (parts : Array (Nat × Operand)) (ho : o.op = .build t parts) (cells : Array Value)
    (hf : P.built t (parts.map fun (i, x) => (i, a.eval x)).toList = some cells)
    (h : wpList P ops Q rest (a.put o.dst (.agg cells)) w) : wpList P ops Q (o :: rest) a w := by
  refine wpList_build hg t parts ho (by rw [hf]; rfl) ?_
  rw [hf]; exact h
def zs : Array Value := (List.replicate 16 (Value.string ⟨#[]⟩)).toArray
theorem alloc_zs (w : World) : (Instr.alloc 42 true (.tuple #[])).run Tryd.prog w = .ok (.pointer (some ⟨w.heap.size, 0, none⟩)) (w.alloc (.cells zs 42)) := by kernel_rfl
theorem rows_store (W : World) (c : Array Value) (hc : c.size = 16) : (storeCells ⟨W.heap.size, 0, none⟩ rowsV.toList 0).run Tryd.prog (W.alloc (.cells c 42)) = .ok () (W.alloc (.cells rowsV 42)) :=
  run_storeCells_new W 42 c rowsV (by kernel_rfl) (hc.trans (by kernel_rfl)) (by kernel_rfl)
theorem rows_any (w : World) : Calls Tryd.prog 13 #[] w fun e w' => e = .returned (.agg rowsV) ∧ Below w.heap.size w w' := by
  have hst := rows_store w
  have hvs : rowsV.size = 16 := by kernel_rfl
  go_enter Tryd.func13, Tryd.ntmps13
  go_wp2_with (refine wpList_buildc rfl 42 _ rfl rowsV (by kernel_rfl) ?_)
  refine bodyPost_ret (results_cell_row rfl _ _ w.heap.size 42 rowsV (0, 0) _ (by kernel_rfl) (heap_alloc_new w _) Tryd.underlying42 rfl (by kernel_rfl)) rfl ?_
  exact ⟨rfl, (Below.refl _ _).alloc (Nat.le_refl _) _⟩
theorem rows_at (w : World) (r : Nat) (hr : r < 16) : (Instr.index 42 (.agg rowsV) (.int .i64 (r : Int))).run Tryd.prog w = .ok (.string (rowsB r)) w := by
  exact match r, hr with
  | 0, _ => by kernel_rfl
  | 1, _ => by kernel_rfl
  | 2, _ => by kernel_rfl
  | 3, _ => by kernel_rfl
  | 4, _ => by kernel_rfl
  | 5, _ => by kernel_rfl
  | 6, _ => by kernel_rfl
  | 7, _ => by kernel_rfl
  | 8, _ => by kernel_rfl
  | 9, _ => by kernel_rfl
  | 10, _ => by kernel_rfl
  | 11, _ => by kernel_rfl
  | 12, _ => by kernel_rfl
  | 13, _ => by kernel_rfl
  | 14, _ => by kernel_rfl
  | 15, _ => by kernel_rfl
  | (k + 16), h => absurd h (by omega)
theorem modes_store (W : World) (c : Array Value) (hc : c.size = 16) : (storeCells ⟨W.heap.size, 0, none⟩ modesV.toList 0).run Tryd.prog (W.alloc (.cells c 42)) = .ok () (W.alloc (.cells modesV 42)) :=
  run_storeCells_new W 42 c modesV (by kernel_rfl) (hc.trans (by kernel_rfl)) (by kernel_rfl)
theorem modes_any (w : World) : Calls Tryd.prog 15 #[] w fun e w' => e = .returned (.agg modesV) ∧ Below w.heap.size w w' := by
  have hst := modes_store w
  have hvs : modesV.size = 16 := by kernel_rfl
  go_enter Tryd.func15, Tryd.ntmps15
  go_wp2_with (refine wpList_buildc rfl 42 _ rfl modesV (by kernel_rfl) ?_)
  refine bodyPost_ret (results_cell_row rfl _ _ w.heap.size 42 modesV (0, 0) _ (by kernel_rfl) (heap_alloc_new w _) Tryd.underlying42 rfl (by kernel_rfl)) rfl ?_
  exact ⟨rfl, (Below.refl _ _).alloc (Nat.le_refl _) _⟩
theorem modes_at (w : World) (r : Nat) (hr : r < 16) : (Instr.index 42 (.agg modesV) (.int .i64 (r : Int))).run Tryd.prog w = .ok (.string (modesB r)) w := by
  exact match r, hr with
  | 0, _ => by kernel_rfl
  | 1, _ => by kernel_rfl
  | 2, _ => by kernel_rfl
  | 3, _ => by kernel_rfl
  | 4, _ => by kernel_rfl
  | 5, _ => by kernel_rfl
  | 6, _ => by kernel_rfl
  | 7, _ => by kernel_rfl
  | 8, _ => by kernel_rfl
  | 9, _ => by kernel_rfl
  | 10, _ => by kernel_rfl
  | 11, _ => by kernel_rfl
  | 12, _ => by kernel_rfl
  | 13, _ => by kernel_rfl
  | 14, _ => by kernel_rfl
  | 15, _ => by kernel_rfl
  | (k + 16), h => absurd h (by omega)
theorem rowsB_size : ∀ r < 16, (rowsB r).size = 48 := by decide +kernel
theorem modesB_size : ∀ r < 16, (modesB r).size = 16 := by decide +kernel
/-- Documented? -/
def others : List UInt8 := [83, 76, 79, 32, 82, 76, 65, 32, 83, 82, 69, 32, 82, 82, 65, 32, 83, 65, 88, 32, 76, 65, 88, 32, 68, 67, 80, 32, 73, 83, 67, 32, 65, 78, 67, 32, 65, 76, 82, 32, 65, 82, 82, 32, 65, 78, 69, 32, 83, 72, 65, 32, 84, 65, 83, 32, 83, 72, 89, 32, 83, 72, 88, 32, 76, 88, 65, 32, 76, 65, 83, 32, 83, 66, 88, 32, 74, 65, 77]
def knownF (op : Int) (l : List UInt8) : Bool := if op = 235 then false else if l = [78, 79, 80] ∧ ¬ op = 234 then false else !(Lib.contains others l)
theorem Gl.cell {w : World} (h : Gl w) : ∃ m, w.cell? ⟨1, 0, none⟩ = some (.int .i64 m) := h.mx
set_option maxRecDepth 100000 in
theorem known_any (op : Int) (s : ByteArray) (w : World) (hG : Gl w) : Calls Tryd.prog 16 #[.int .u8 op, .string s] w fun e w' => e = .returned (.bool (knownF op s.toList)) ∧ w = w' := by
  obtain ⟨m, hm⟩ := hG.mx
  have hd : (⟨#[83, 76, 79, 32, 82, 76, 65, 32, 83, 82, 69, 32, 82, 82, 65, 32, 83, 65, 88, 32, 76, 65, 88, 32, 68, 67, 80, 32, 73, 83, 67, 32, 65, 78, 67, 32, 65, 76, 82, 32, 65, 82, 82, 32, 65, 78, 69, 32, 83, 72, 65, 32, 84, 65, 83, 32, 83, 72, 89, 32, 83, 72, 88, 32, 76, 88, 65, 32, 76, 65, 83, 32, 83, 66, 88, 32, 74, 65, 77]⟩ : ByteArray).data.toList = others := rfl
  have kc := strings_Contains ⟨#[83, 76, 79, 32, 82, 76, 65, 32, 83, 82, 69, 32, 82, 82, 65, 32, 83, 65, 88, 32, 76, 65, 88, 32, 68, 67, 80, 32, 73, 83, 67, 32, 65, 78, 67, 32, 65, 76, 82, 32, 65, 82, 82, 32, 65, 78, 69, 32, 83, 72, 65, 32, 84, 65, 83, 32, 83, 72, 89, 32, 83, 72, 88, 32, 76, 88, 65, 32, 76, 65, 83, 32, 83, 66, 88, 32, 74, 65, 77]⟩ s m w (by decide) hm
  rw [hd] at kc
  have hl : s.data.toList = s.toList := (ByteArray.toList_eq s).symm
  rw [hl] at kc
  by_cases h1 : op = 235
  · subst h1
    go_enter Tryd.func16, Tryd.ntmps16
    go_wp2_with fail
    go_ret
    exact ⟨rfl, rfl⟩
  have b1 : (op == 235) = false := beq_false_of_ne h1
  by_cases h2 : s.toList = [78, 79, 80]
  · by_cases h3 : op = 234
    · subst h3
      have hk : knownF 234 s.toList = !(Lib.contains others s.toList) := by unfold knownF; rw [if_neg h1, if_neg (by simp)]
      rw [hk, h2]
      rw [h2] at kc
      have HK := Lib.hid kc
      go_enter Tryd.func16, Tryd.ntmps16
      go_wp2_with fail
      refine HK.out.mono ?_
      rintro e w' ⟨rfl, rfl⟩
      go_wp2_with fail
      go_ret
      exact ⟨rfl, rfl⟩
    · have hk : knownF op s.toList = false := by unfold knownF; rw [if_neg h1, if_pos ⟨h2, h3⟩]
      have b3 : (op == 234) = false := beq_false_of_ne h3
      rw [hk]
      clear kc hk
      go_enter Tryd.func16, Tryd.ntmps16
      go_wp2_with fail
      go_ret
      exact ⟨rfl, rfl⟩
  · have hk : knownF op s.toList = !(Lib.contains others s.toList) := by unfold knownF; rw [if_neg h1, if_neg (fun h => h2 h.1)]
    have b2 : (s.toList == [78, 79, 80]) = false := beq_false_of_ne h2
    rw [hk]
    have HK := Lib.hid kc
    clear kc hk
    go_enter Tryd.func16, Tryd.ntmps16
    go_wp2_with fail
    refine HK.out.mono ?_
    rintro e w' ⟨rfl, rfl⟩
    go_wp2_with fail
    go_ret
    exact ⟨rfl, rfl⟩
end Go.Proofs.YthepcjecmlkaiaaDoor.Co
/- Package code: Of. -/
namespace Go.Proofs.YthepcjecmlkaiaaDoor.Co
open Go.RowKit Go.Maps Go.WideMaps Go.Deep Go.Proofs.Tryd
set_option linter.unusedVariables false
set_option linter.unusedSimpArgs false
def signs : List UInt8 := [112, 99, 109, 122, 120, 121, 97, 88, 89, 105, 106, 114, 110]
def nmB (r c : Nat) : ByteArray := (rowsB r).extract (3 * c) (3 * (c + 1))
def mdI (r c : Nat) : Int := Lib.indexByte signs ((modesB r).data.toList.getD c 0)
/-- What a code is. -/
def nameO (o : Nat) : ByteArray := nmB (o / 16) (o % 16)
def modeO (o : Nat) : Int := mdI (o / 16) (o % 16)
def kindF (nm : List UInt8) (md : Int) : Int := match kindO nm with | some k => k | none => if md = 11 then 4 else if md = 0 then 0 else 1
def kindC (o : Nat) : Int := kindF (nameO o).data.toList (modeO o)
def knownC (o : Nat) : Bool := knownF o (nameO o).toList
def codeV (o : Nat) : Value := .agg #[.string (nameO o), .int .u8 (modeO o), .int .u8 (kindC o), .bool (knownC o)]
theorem mdI_in : ∀ r < 16, ∀ c < 16, 0 ≤ mdI r c ∧ mdI r c ≤ 12 := by decide +kernel
theorem nmB_size : ∀ r < 16, ∀ c < 16, (nmB r c).size = 3 := by decide +kernel
theorem bcell {W w1 : World} (hb : Below W.heap.size W w1) : (∀ b o, b < W.heap.size → w1.cell? ⟨b, o, none⟩ = W.cell? ⟨b, o, none⟩) ∧ (∀ b o, b < W.heap.size → w1.frozen? ⟨b, o, none⟩ = W.frozen? ⟨b, o, none⟩) :=
  ⟨fun b o h => hb.cell (p := ⟨b, o, none⟩) h, fun b o h => hb.frozen (p := ⟨b, o, none⟩) h⟩
set_option maxRecDepth 1000000 in
set_option maxHeartbeats 2000000 in
theorem of_rc (r c o : Nat) (ho : o = 16 * r + c) (hr : r < 16) (hc : c < 16) (w : World) (hG : Gl w) (nm : ByteArray) (md : Int) (kn : Bool) (HNM : Hid ((rowsB r).extract (3 * c) (3 * (c + 1)) = nm)) (HMD : Hid (mdI r c = md)) (HKN : Hid (knownF o nm.toList = kn)) :
    Calls Tryd.prog 5 #[.int .u8 (o : Int)] w fun e w' => e = .returned (.agg #[.string nm, .int .u8 md, .int .u8 (kindF nm.data.toList md), .bool kn]) ∧ Below w.heap.size w w' := by
  have q1 : (o : Int) / 16 = (r : Int) := by omega
  have q2 : (o : Int) % 16 = (c : Int) := by omega
  have o0 : (0 : Int) ≤ (o : Int) := by omega
  have o1 : (o : Int) ≤ 255 := by omega
  have r0 : (0 : Int) ≤ (r : Int) := by omega
  have r1 : (r : Int) < 16 := by omega
  have c0 : (0 : Int) ≤ (c : Int) := by omega
  have c1 : (c : Int) < 16 := by omega
  have hs := rowsB_size r hr
  have hm := modesB_size r hr
  have hix := fun w => rows_at w r hr
  have hiy := fun w => modes_at w r hr
  have m1 : IntKind.i64.wrap (3 * (c : Int)) = 3 * (c : Int) := IntWalk.i64_in _ (by omega)
  have m2 : IntKind.i64.wrap ((c : Int) + 1) = (c : Int) + 1 := IntWalk.i64_in _ (by omega)
  have m3 : IntKind.i64.wrap (3 * ((c : Int) + 1)) = 3 * ((c : Int) + 1) := IntWalk.i64_in _ (by omega)
  obtain ⟨d0, d1⟩ := mdI_in r hr c hc
  have hnz : nm.size = 3 := by rw [← HNM.out]; exact nmB_size r hr c hc
  rw [HMD.out] at d0 d1
  have hib : ∀ (h : c < (modesB r).size), Lib.indexByte signs ((((modesB r)[c]).toNat : Int).toNat.toUInt8) = md := fun h => by
    rw [← HMD.out]
    unfold mdI
    congr 1
    rw [Int.toNat_natCast]
    have hh : c < (modesB r).data.toList.length := h
    rw [List.getD_eq_getElem?_getD, List.getElem?_eq_getElem hh]
    show UInt8.ofNat (UInt8.toNat _) = _
    rw [UInt8.ofNat_toNat]
    rfl
  have w8 : IntKind.u8.wrap md = md := by show md % 256 = md; omega
  have HN := Lib.hid hnz
  have HIB := Lib.hid hib
  clear ho hib
  go_enter Tryd.func5, Tryd.ntmps5
  go_wp2_with fail
  refine (rows_any _).mono ?_
  rintro e w1 ⟨rfl, hb1⟩
  obtain ⟨hc1, hf1⟩ := bcell hb1
  have hz1 : w.heap.size + 1 ≤ w1.heap.size := by have := hb1.size; simpa using this
  have hbw1 : Below w.heap.size w w1 := ((Below.refl _ _).alloc (Nat.le_refl _) _).trans (hb1.mono (by simp))
  go_wp2_with fail
  rw [HNM.out]
  clear hs hix
  refine (modes_any _).mono ?_
  rintro e w2 ⟨rfl, hb2⟩
  obtain ⟨hc2, hf2⟩ := bcell hb2
  have hz2 : w1.heap.size + 1 ≤ w2.heap.size := by have := hb2.size; simpa using this
  have hbw2 : Below w.heap.size w w2 := (hbw1.alloc (by omega) _).trans (hb2.mono (by simp; omega))
  go_wp2_with fail
  refine ((strings_IndexByte _ _ _).mono fun e w' h => And.intro h.1 h.2.symm).mono ?_
  rintro e w' ⟨rfl, rfl⟩
  have hsg : (⟨#[112, 99, 109, 122, 120, 121, 97, 88, 89, 105, 106, 114, 110]⟩ : ByteArray).data.toList = signs := rfl
  rw [hsg, HIB.out]
  clear hsg hiy HIB
  go_wp2_with fail
  have hbw3 : Below w.heap.size w (w2.setCell ⟨w1.heap.size, 1, none⟩ (.int .u8 md)) := hbw2.setCell (show w.heap.size ≤ w1.heap.size by omega) _
  have kk := known_any o nm _ (hG.below hbw3)
  rw [HKN.out] at kk
  refine kk.mono ?_
  rintro e w' ⟨rfl, rfl⟩
  go_wp2_with fail
  have hC2 : w2.heap[w1.heap.size]? = some (.cells #[.string nm, .int .u8 0, .int .u8 0, .bool false] 29 (0, 0)) := (hb2.block _ (by simp)).trans (heap_alloc_new w1 _)
  have hB1 : w1.heap[w.heap.size]? = some (.cells #[.string ⟨#[]⟩, .int .u8 0, .int .u8 0, .bool false] 29 (0, 0)) := (hb1.block _ (by simp)).trans (heap_alloc_new w _)
  have hB2 : w2.heap[w.heap.size]? = some (.cells #[.string ⟨#[]⟩, .int .u8 0, .int .u8 0, .bool false] 29 (0, 0)) := (hb2.block _ (by simp; omega)).trans ((heap_alloc_old w1 _ (by omega)).trans hB1)
  have hC5 : ((w2.setCell ⟨w1.heap.size, 1, none⟩ (.int .u8 md)).setCell ⟨w1.heap.size, 3, none⟩ (.bool kn)).heap[w1.heap.size]? = some (.cells #[.string nm, .int .u8 md, .int .u8 0, .bool kn] 29 (0, 0)) := by
    rw [heap_setCell_same _ _ _ _ _ _ (heap_setCell_same _ _ _ _ _ _ hC2)]; simp
  have hB5 : ((w2.setCell ⟨w1.heap.size, 1, none⟩ (.int .u8 md)).setCell ⟨w1.heap.size, 3, none⟩ (.bool kn)).heap[w.heap.size]? = some (.cells #[.string ⟨#[]⟩, .int .u8 0, .int .u8 0, .bool false] 29 (0, 0)) := by
    rw [heap_setCell_other _ ⟨w1.heap.size, 3, none⟩ _ _ (by show w.heap.size ≠ w1.heap.size; omega), heap_setCell_other _ ⟨w1.heap.size, 1, none⟩ _ _ (by show w.heap.size ≠ w1.heap.size; omega)]; exact hB2
  have hbw5 : Below w.heap.size w ((w2.setCell ⟨w1.heap.size, 1, none⟩ (.int .u8 md)).setCell ⟨w1.heap.size, 3, none⟩ (.bool kn)) := hbw3.setCell (show w.heap.size ≤ w1.heap.size by omega) _
  have hCB : w.heap.size ≠ w1.heap.size := by omega
  have hCl : w.heap.size ≤ w1.heap.size := by omega
  generalize (w2.setCell ⟨w1.heap.size, 1, none⟩ (.int .u8 md)).setCell ⟨w1.heap.size, 3, none⟩ (.bool kn) = w5 at *
  clear kk
  generalize w1.heap.size = C at *
  clear hc1 hf1 hc2 hf2 hbw1 hbw2 hbw3 hb1 hb2 hz1 hz2 hC2 hB1 hB2
  have hC0 : w5.cell? ⟨C, 0, none⟩ = some (.string nm) := by rw [cell_of_row w5 C 0 _ _ _ hC5]; rfl
  have hCw : C < w5.heap.size := (Array.getElem?_eq_some_iff.1 hC5).1
  have hBw : w.heap.size < w5.heap.size := (Array.getElem?_eq_some_iff.1 hB5).1
  have hsz : nm.size ≤ maxLen := by rw [HN.out]; unfold maxLen; omega
  have HC5 := Lib.hid hC5
  have HB5 := Lib.hid hB5
  clear hC5 hB5
  go_region_held3 (fun w' => w'.cell? ⟨C, 0, none⟩ = some (.string nm)) (go_keep) ((go_at_call 17; refine (kinds_any _ (hG.below hbw5.drew)).mono ?_; rintro e w6 ⟨bm, rfl, hb6, D, n, hoD, hOD⟩; have z0 := (hb6.cell (p := ⟨C, 0, none⟩) hCw).trans hC0; have hl := kinds_look hoD hOD nm hsz))
  have hC6 := (hb6.block C hCw).trans HC5.out
  have hB6 := (hb6.block w.heap.size hBw).trans HB5.out
  have hbw6 : Below w.heap.size w w6 := hbw5.drew.trans (hb6.mono (Nat.le_of_lt hBw))
  have e0 : w6.cell? ⟨C, 0, none⟩ = some (.string nm) := by rw [cell_of_row w6 C 0 _ _ _ hC6]; rfl
  have e1 : w6.cell? ⟨C, 1, none⟩ = some (.int .u8 md) := by rw [cell_of_row w6 C 1 _ _ _ hC6]; rfl
  have e2 : w6.cell? ⟨C, 2, none⟩ = some (.int .u8 0) := by rw [cell_of_row w6 C 2 _ _ _ hC6]; rfl
  have e3 : w6.cell? ⟨C, 3, none⟩ = some (.bool kn) := by rw [cell_of_row w6 C 3 _ _ _ hC6]; rfl
  have g2 : w6.frozen? ⟨C, 2, none⟩ = false := frozen_of_row w6 C 2 _ _ hC6
  have b0 : w6.cell? ⟨w.heap.size, 0, none⟩ = some (.string ⟨#[]⟩) := by rw [cell_of_row w6 _ 0 _ _ _ hB6]; rfl
  have b1 : w6.cell? ⟨w.heap.size, 1, none⟩ = some (.int .u8 0) := by rw [cell_of_row w6 _ 1 _ _ _ hB6]; rfl
  have b2 : w6.cell? ⟨w.heap.size, 2, none⟩ = some (.int .u8 0) := by rw [cell_of_row w6 _ 2 _ _ _ hB6]; rfl
  have b3 : w6.cell? ⟨w.heap.size, 3, none⟩ = some (.bool false) := by rw [cell_of_row w6 _ 3 _ _ _ hB6]; rfl
  have fb0 : w6.frozen? ⟨w.heap.size, 0, none⟩ = false := frozen_of_row w6 _ 0 _ _ hB6
  have fb1 : w6.frozen? ⟨w.heap.size, 1, none⟩ = false := frozen_of_row w6 _ 1 _ _ hB6
  have fb2 : w6.frozen? ⟨w.heap.size, 2, none⟩ = false := frozen_of_row w6 _ 2 _ _ hB6
  have fb3 : w6.frozen? ⟨w.heap.size, 3, none⟩ = false := frozen_of_row w6 _ 3 _ _ hB6
  have nCB : ¬ C = w.heap.size := fun h => hCB h.symm
  have nBC : ¬ w.heap.size = C := hCB
  clear hC0 z0 hl hC6 hB6 hoD hOD hCw hBw hsz hb6 hbw5 HC5 HB5 hG
  cases hK : kindO nm.data.toList with
  | some k =>
    have HKF := Lib.hid (show kindF nm.data.toList md = k by unfold kindF; rw [hK])
    clear hK
    go_wp2_with fail
    exact bodyPost_ret (v := .agg #[.string nm, .int .u8 md, .int .u8 k, .bool kn]) (by simp [results, results5, go_sem, b0, b1, b2, b3, nCB, nBC]) rfl ⟨by rw [HKF.out], ((((hbw6.setCell hCl _).setCell (Nat.le_refl _) _).setCell (Nat.le_refl _) _).setCell (Nat.le_refl _) _).setCell (Nat.le_refl _) _⟩
  | none =>
    by_cases m11 : md = 11
    · have HKF := Lib.hid (show kindF nm.data.toList 11 = 4 by unfold kindF; rw [hK]; rfl)
      clear hK
      obtain rfl := m11
      go_wp2_with fail
      exact bodyPost_ret (v := .agg #[.string nm, .int .u8 11, .int .u8 4, .bool kn]) (by simp [results, results5, go_sem, b0, b1, b2, b3, nCB, nBC]) rfl ⟨by rw [HKF.out], ((((hbw6.setCell hCl _).setCell (Nat.le_refl _) _).setCell (Nat.le_refl _) _).setCell (Nat.le_refl _) _).setCell (Nat.le_refl _) _⟩
    · by_cases m0 : md = 0
      · have HKF := Lib.hid (show kindF nm.data.toList 0 = 0 by unfold kindF; rw [hK]; rfl)
        clear hK
        obtain rfl := m0
        go_wp2_with fail
        exact bodyPost_ret (v := .agg #[.string nm, .int .u8 0, .int .u8 0, .bool kn]) (by simp [results, results5, go_sem, b0, b1, b2, b3, nCB, nBC]) rfl ⟨by rw [HKF.out], (((hbw6.setCell (Nat.le_refl _) _).setCell (Nat.le_refl _) _).setCell (Nat.le_refl _) _).setCell (Nat.le_refl _) _⟩
      · have HKF := Lib.hid (show kindF nm.data.toList md = 1 by unfold kindF; rw [hK]; simp [m11, m0])
        have x11 : (md == 11) = false := beq_false_of_ne m11
        have x0 : (md == 0) = false := beq_false_of_ne m0
        have y0 : (md != 0) = true := by simp [m0]
        clear hK
        go_wp2_with fail
        exact bodyPost_ret (v := .agg #[.string nm, .int .u8 md, .int .u8 1, .bool kn]) (by simp [results, results5, go_sem, b0, b1, b2, b3, nCB, nBC]) rfl ⟨by rw [HKF.out], ((((hbw6.setCell hCl _).setCell (Nat.le_refl _) _).setCell (Nat.le_refl _) _).setCell (Nat.le_refl _) _).setCell (Nat.le_refl _) _⟩
theorem of_any (o : Nat) (ho : o < 256) (w : World) (hG : Gl w) : Calls Tryd.prog 5 #[.int .u8 (o : Int)] w fun e w' => e = .returned (codeV o) ∧ Below w.heap.size w w' :=
  of_rc (o / 16) (o % 16) o (by omega) (by omega) (by omega) w hG _ _ _ (Lib.hid rfl) (Lib.hid rfl) (Lib.hid rfl)
end Go.Proofs.YthepcjecmlkaiaaDoor.Co
