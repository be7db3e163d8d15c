/- Package code: kinds, walked. -/
import Derived.Test.YtcchnenjfckbbaaDoorCodeMap
import Derived.Deep.Cut
import Derived.Maps.StringElems
import Derived.Lib.Hide
import Derived.Laws.Rows
namespace Go.Proofs.YtcchnenjfckbbaaDoor.Co
open Go.RowKit Go.Maps Go.WideMaps Go.Proofs.Tryd
set_option linter.unusedVariables false
set_option linter.unusedSimpArgs false
/-- An entry of a map literal. -/
theorem wpList_insert_own {H : Type} {P : Program} (w : World) {ops : Array Oper} {rest : List Oper} {o : Oper} {a : Act} {Q : Exit → Act → World → Prop}
    (hg : o.guard = none) (m x v : Operand) (t : TypeId) (hop : o.op = Op.insert t m x v)
    (k e : TypeId) (K : Keyed P k) (ht : P.underlying t = some (.map k e)) (R : Value → Option (DataW H × List MemPlace)) (b n : Nat) (D : DataW H)
    (hm : a.eval m = .map (some b)) (hown : w.ownsMap P k R b n D) (hn : n < maxLen) (key val : Value) (kl : Lit) (hx : a.eval x = key) (hv : a.eval v = val) (hkey : keyOf P k key = some kl)
    (d : DataW H) (ps : List MemPlace) (hval : R val = some (d, ps))
    (hK : ∀ w', w'.ownsMap P k R b (n + 1) (D.put kl d) → w.grownBy w' (some b) → wpList P ops Q rest (a.put o.dst undef) w') :
    wpList P ops Q (o :: rest) a w := by
  refine wpList_plain hg fun K' hK' => ?_
  obtain ⟨w', hrun, r1, r2⟩ := hown.update K ht hn hkey hval
  unfold Oper.wp
  simp [execOp, hop, hm, hx, hv, hrun, Result.andThen]
  exact hK' _ _ (hK w' r1 r2)
theorem lawS : Keyed Tryd.prog 9 := string_keyed Tryd.underlying9
theorem lawK : Keyed Tryd.prog 23 := int_keyed Tryd.underlying23
def D0 : DataW Unit := ((((DataW.map []).put (.int .u8 3) (.lit (.string (text 3)))).put (.int .u8 2) (.lit (.string (text 2)))).put (.int .u8 5) (.lit (.string (text 5)))).put (.int .u8 6) (.lit (.string (text 6)))
theorem d0_at (x : Int) (zd : DataW Unit) : D0.atKey (.int .u8 x) zd = if x ∈ gs then .lit (.string (text x)) else zd := by
  have m0 : IsMap (DataW.map [] : DataW Unit) := ⟨[], rfl⟩
  unfold D0
  by_cases h6 : x = 6
  · subst h6; rw [atKey_put_same (((m0.put _ _).put _ _).put _ _) (by trivial)]; rfl
  rw [atKey_put_other (by simpa using h6)]
  by_cases h5 : x = 5
  · subst h5; rw [atKey_put_same ((m0.put _ _).put _ _) (by trivial)]; rfl
  rw [atKey_put_other (by simpa using h5)]
  by_cases h2 : x = 2
  · subst h2; rw [atKey_put_same (m0.put _ _) (by trivial)]; rfl
  rw [atKey_put_other (by simpa using h2)]
  by_cases h3 : x = 3
  · subst h3; rw [atKey_put_same m0 (by trivial)]; rfl
  rw [atKey_put_other (by simpa using h3)]
  rw [if_neg (by simp [gs, h6, h5, h2, h3])]
  rfl
theorem d0_in (x : Int) (c : List UInt8) (h : ∀ zd, D0.atKey (.int .u8 x) zd = .lit (.string c)) : x ∈ gs ∧ c = text x := by
  by_cases hx : x ∈ gs
  · have := h .nil
    rw [d0_at, if_pos hx] at this
    cases this; exact ⟨hx, rfl⟩
  · have := h .nil
    rw [d0_at, if_neg hx] at this
    cases this
theorem d0_has (x : Int) (hx : x ∈ gs) : Maps.has D0 (.int .u8 x) = true := has_true_of_atKey (y := .lit (.string (text x))) fun z => by rw [d0_at, if_pos hx]
theorem d0_size : Maps.size D0 = 4 := by kernel_rfl
theorem val_congr {f g : Int → Bool} (h : ∀ x ∈ gs, f x = g x) (l : List UInt8) : val f l = val g l := by
  unfold val
  cases baseO l with
  | some c => rfl
  | none =>
    show gs.find? (fun x => f x && (names x).contains l) = gs.find? (fun x => g x && (names x).contains l)
    revert h
    generalize gs = L
    intro h
    induction L with
    | nil => rfl
    | cons y t ih => simp only [List.find?_cons, h y (by simp), ih fun x hx => h x (List.mem_cons_of_mem _ hx)]
theorem same_u8 (g x : Int) : (Lit.int .u8 g).sameKey (.int .u8 x) = (g == x) := by
  by_cases e : g = x
  · subst e; rw [WideAt.sameKey_self (by trivial)]; simp
  · rw [Maps.sameKey_ne (by simpa using e), beq_false_of_ne e]
theorem owns_block {H : Type} {P : Program} {k : TypeId} {R : Value → Option (DataW H × List MemPlace)} {w w' : World} {b n : Nat} {D : DataW H} (h : w.ownsMap P k R b n D) (e : w'.heap[b]? = w.heap[b]?) : w'.ownsMap P k R b n D := by
  obtain ⟨es, clock, hb, F, hs, hD⟩ := h
  exact ⟨es, clock, e.trans hb, F, hs, hD⟩
theorem grown_alloc (w : World) (o : Obj) : w.grownBy (w.alloc o) none := World.grownBy_alloc w o none
/-- What kinds hands back. -/
def KPost (w : World) (e : Ending) (w' : World) : Prop := ∃ bm, e = .returned (.map (some bm)) ∧ Below w.heap.size w w' ∧ ∃ (D : DataW Unit) (n : Nat), w'.ownsMap Tryd.prog 9 (plainElem Tryd.prog 23) bm n D ∧ Outs D kindO
/-- The six that are told outright. -/
def D6 : DataW Unit := ((((((DataW.map []).put (.string [74, 77, 80]) (.lit (.int .u8 7))).put (.string [74, 83, 82]) (.lit (.int .u8 8))).put (.string [82, 84, 83]) (.lit (.int .u8 9))).put (.string [82, 84, 73]) (.lit (.int .u8 10))).put (.string [66, 82, 75]) (.lit (.int .u8 11))).put (.string [74, 65, 77]) (.lit (.int .u8 12))
theorem d6_outs : Outs D6 (val fun _ => false) := by
  refine (((((((outs_nil (H := Unit)).put [74, 77, 80] 7).put [74, 83, 82] 8).put [82, 84, 83] 9).put [82, 84, 73] 10).put [66, 82, 75] 11).put [74, 65, 77] 12).cast fun l => ?_
  by_cases e6 : l = [74, 65, 77]
  · subst e6; decide +kernel
  by_cases e5 : l = [66, 82, 75]
  · subst e5; decide +kernel
  by_cases e4 : l = [82, 84, 73]
  · subst e4; decide +kernel
  by_cases e3 : l = [82, 84, 83]
  · subst e3; decide +kernel
  by_cases e2 : l = [74, 83, 82]
  · subst e2; decide +kernel
  by_cases e1 : l = [74, 77, 80]
  · subst e1; decide +kernel
  rw [if_neg e6, if_neg e5, if_neg e4, if_neg e3, if_neg e2, if_neg e1]
  have hb : baseO l = none := by
    unfold baseO base
    simp only [List.lookup, beq_false_of_ne e1, beq_false_of_ne e2, beq_false_of_ne e3, beq_false_of_ne e4, beq_false_of_ne e5, beq_false_of_ne e6]
  unfold val
  rw [hb]
  exact (List.find?_eq_none.2 fun x _ => by simp).symm
set_option maxRecDepth 1000000 in
set_option maxHeartbeats 2000000 in
theorem kinds_any (w : World) (hG : Gl w) : Calls Tryd.prog 21 #[] w (KPost w) := by
  have hmm := @run_makeMap Tryd.prog
  have o0 := World.ownsMap_made (H := Unit) w Tryd.prog 9 (plainElem Tryd.prog 23)
  unfold KPost
  go_enter Tryd.func21, Tryd.ntmps21
  have hb0 : Below w.heap.size w (w.alloc (.map #[] 0)) := (Below.refl _ _).alloc (Nat.le_refl _) _
  go_upto_region 2 with (refine wpList_insert_own (H := Unit) _ rfl _ _ _ 45 rfl 9 23 lawS Tryd.underlying45 (plainElem Tryd.prog 23) _ _ _ rfl (by assumption) (by unfold maxLen; omega) _ _ _ rfl rfl (keyOf_string_mk Tryd.underlying9 (by decide)) _ [] (plainElem_int Tryd.underlying23 (by decide)) ?_; intro w1 o1 g1; have hb1 : Below w.heap.size w w1 := Below.grown (show Below w.heap.size w _ by assumption) g1 (Below.size (show Below w.heap.size w _ by assumption)) (fun k hk => by cases hk; exact Nat.le_refl _))
  have o6 : w1.ownsMap Tryd.prog 9 (plainElem Tryd.prog 23) w.heap.size 6 D6 := o1
  have hb6 := hb1
  obtain ⟨w6, rfl⟩ : ∃ w6 : World, w6 = w1 := ⟨_, rfl⟩
  have p0 := World.ownsMap_made (H := Unit) w6 Tryd.prog 23 (plainElem Tryd.prog 9)
  have hc0 : Below w6.heap.size w6 (w6.alloc (.map #[] 0)) := (Below.refl _ _).alloc (Nat.le_refl _) _
  clear o0 o1 hb1 hb0
  go_wp2_with (first | (refine wpList_insert_own (H := Unit) _ rfl _ _ _ 58 rfl 23 9 lawK Tryd.underlying58 (plainElem Tryd.prog 9) _ _ _ rfl (by assumption) (by unfold maxLen; omega) _ _ _ rfl rfl (Maps.keyOf_int_mk Tryd.underlying23 (by decide)) _ [] (plainElem_string Tryd.underlying9 (by decide)) ?_; intro w2 p2 g2; have hb2 : Below w6.heap.size w6 w2 := Below.grown (show Below w6.heap.size w6 _ by assumption) g2 (Below.size (show Below w6.heap.size w6 _ by assumption)) (fun k hk => by cases hk; exact Nat.le_refl _)) | (at_range; refine wpList_range_own _ rfl _ 58 rfl 23 9 lawK Tryd.underlying58 (plainElem Tryd.prog 9) _ _ _ rfl (by assumption) ?_; intro w3 hrg3 hg3 hs3))
  have hrg : w3.ranges Tryd.prog 23 (plainElem Tryd.prog 9) w6.heap.size w2.heap.size 4 D0 (Maps.has D0) (Maps.size D0) := hrg3
  rw [d0_size] at hrg
  have hbo : w.heap.size < w6.heap.size := o6.lt
  have hs26 := hb2.size
  have o3 : w3.ownsMap Tryd.prog 9 (plainElem Tryd.prog 23) w.heap.size 6 D6 := owns_block o6 ((hg3.block _ (by omega) (by simp)).trans (hb2.block _ hbo))
  have hb3 : Below w.heap.size w w3 := (hb6.trans (hb2.mono (by omega))).grown hg3 (by omega) (fun k hk => by cases hk)
  have hbr : w.heap.size ≤ w6.heap.size := by omega
  have hrr : w6.heap.size < w2.heap.size := p2.lt
  generalize w6.heap.size = br at *
  generalize w2.heap.size = rr at *
  clear hrg3 o6 p0 p2 hb2 hb6 hc0 hg3 hs3
  try go_frame
  go_loopw [2] (fun _ wr => ∃ (left : Lit → Bool) (cnt n : Nat) (D : DataW Unit), wr.ranges Tryd.prog 23 (plainElem Tryd.prog 9) br rr 4 D0 left cnt ∧ wr.ownsMap Tryd.prog 9 (plainElem Tryd.prog 23) w.heap.size n D ∧ Outs D (val fun g => !left (.int .u8 g)) ∧ n + 12 * cnt ≤ 54 ∧ Below w.heap.size w wr)
    (fun _ wr => wr.rangeLeft br rr)
  case atStart => exact ⟨_, _, 6, D6, hrg, o3, d6_outs.cast (val_congr fun x hx => by rw [d0_has x hx]; rfl), by omega, hb3⟩
  case round =>
    obtain ⟨left, cnt, n, D, hrg', ho, hD, hn, hb⟩ := hrel
    obtain ⟨wo, rfl⟩ : ∃ wo : World, wo = wr := ⟨_, rfl⟩
    clear hrg o3 hb3
    go_wp2_with (at_next; refine wpList_next_ranges _ rfl _ rfl 23 lawK (plainElem Tryd.prog 9) (Value.int .u8) Value.string (fun key kl h => by obtain ⟨x, rfl, _⟩ := Maps.keyOf_int_inv Tryd.underlying23 h; exact ⟨x, rfl⟩) (fun v y h => by obtain ⟨c, rfl, _⟩ := plainElem_string_inv Tryd.underlying9 h; exact ⟨c, rfl⟩) br rr 4 D0 left cnt rfl hrg' ?_ ?_)
    · intro hc0 hl0
      go_wp2_with fail
      go_ret
      exact ⟨_, rfl, hb, D, n, ho, hD.cast fun l => val_congr (fun x _ => by rw [hl0]; rfl) l⟩
    · intro x c kl y yp w4 cnt' hkey hlk hv hat hrg4 hlt hg4 hs4 hen
      obtain ⟨x', ex, rfl, hwx⟩ := Maps.keyOf_int_inv Tryd.underlying23 hkey
      cases ex
      obtain ⟨c', ec, ez, hcs⟩ := plainElem_string_inv Tryd.underlying9 hv
      cases ec
      cases ez
      obtain ⟨hx, hct⟩ := d0_in x _ hat
      clear hs4
      have hlo := ho.lt
      have o4 := owns_block ho (hg4.block w.heap.size hlo (by simp; omega))
      have hb4 : Below w.heap.size w w4 := hb.grown hg4 hb.size (fun k hk => by cases hk; omega)
      have hG4 := hG.below hb4
      have hsz : c.size = (text x).length := by rw [← hct]; rfl
      have htl := text_short x hx
      have kf := strings_Fields_laid c w4 (by omega) (fun j b hb => text_ascii x hx b (by rw [← hct]; exact List.mem_of_getElem? hb)) hG4.tab
      rw [hct] at kf
      have hN : Lib.fields (text x) = names x := rfl
      rw [hN] at kf
      have hnl := names_len x hx
      have HX := Lib.hid hx
      clear hct hN hsz htl hG4 hat hkey hv hcs hx
      go_wp2_with fail
      refine kf.mono ?_
      rintro e w' ⟨rfl, rfl⟩
      have hlen : ((names x).map fun l => Value.string ⟨l.toArray⟩).length = (names x).length := by simp
      have hN5 : (w4.alloc (.cells ((names x).map fun l => Value.string ⟨l.toArray⟩).toArray 9)).heap[w4.heap.size]? = some (.cells ((names x).map fun l => Value.string ⟨l.toArray⟩).toArray 9 (0, 0)) := heap_alloc_new w4 _
      have hb45 : Below w4.heap.size w4 (w4.alloc (.cells ((names x).map fun l => Value.string ⟨l.toArray⟩).toArray 9)) := (Below.refl _ _).alloc (Nat.le_refl _) _
      have hrg5 := hrg4.alloc (.cells ((names x).map fun l => Value.string ⟨l.toArray⟩).toArray 9)
      have o5 := o4.alloc (.cells ((names x).map fun l => Value.string ⟨l.toArray⟩).toArray 9)
      have hb5 := hb4.trans (hb45.mono hb4.size)
      have hrl := hrg4.lt
      have hbl := hrg4.owns.lt
      have hol := o4.lt
      have hNl : w4.heap.size < (w4.alloc (.cells ((names x).map fun l => Value.string ⟨l.toArray⟩).toArray 9)).heap.size := by simp
      generalize w4.alloc (.cells ((names x).map fun l => Value.string ⟨l.toArray⟩).toArray 9) = w5 at *
      generalize hNN : w4.heap.size = N at *
      have hbN : w.heap.size ≤ N := by omega
      have hwl := hrg'.left_eq
      clear hrg4 o4 hb4 hb45 kf hen hg4 ho hrg' hb
      go_wp2_with fail
      go_loopw [19] (fun i wr => ∃ (j n' : Nat) (D' : DataW Unit), j ≤ (names x).length ∧ i = .int .i64 j ∧ wr.ranges Tryd.prog 23 (plainElem Tryd.prog 9) br rr 4 D0 (fun z => left z && !z.sameKey (.int .u8 x)) cnt' ∧ wr.ownsMap Tryd.prog 9 (plainElem Tryd.prog 23) w.heap.size n' D' ∧ Outs D' (part (fun g => !left (.int .u8 g)) x j) ∧ n' ≤ n + j ∧ Below w.heap.size w wr ∧ wr.heap[N]? = some (.cells ((names x).map fun l => Value.string ⟨l.toArray⟩).toArray 9 (0, 0)))
        (fun i _ => (names x).length - (intOf i).toNat)
      case atStart => exact ⟨0, n, D, Nat.zero_le _, rfl, hrg5, o5, hD.cast fun l => (part_zero _ _ l).symm, by omega, hb5, hN5⟩
      case round =>
        clear hrg5 o5 hb5 hN5
        obtain ⟨j, n', D', hj, rfl, hrj, hoj, hDj, hnj, hbj, hNj⟩ := hrel
        by_cases hjl : j < (names x).length
        · have hcl : wr.cell? ⟨N, j, none⟩ = some (.string ⟨(names x)[j].toArray⟩) := by
            rw [cell_of_row wr N j _ _ _ hNj]; simp [hjl]
          have hps := part_step (fun g => !left (.int .u8 g)) x j hjl
          have hsh := names_short x HX.out (names x)[j] (List.getElem_mem hjl)
          have hDn := hDj.put (names x)[j] x
          generalize (names x)[j] = nm at *
          have hks : keyOf Tryd.prog 9 (.string ⟨nm.toArray⟩) = some (.string nm) := keyOf_string_mk Tryd.underlying9 (s := ⟨nm.toArray⟩) (by simp [ByteArray.size]; unfold maxLen; omega)
          have hval : plainElem (H := Unit) Tryd.prog 23 (.int .u8 x) = some (.lit (.int .u8 x), []) := plainElem_int Tryd.underlying23 hwx
          have i0 : (0 : Int) ≤ (j : Int) := by omega
          have i1 : (j : Int) < (names x).length := by omega
          have hm : n' < maxLen := by unfold maxLen; omega
          have hoL := hoj.lt
          have hNL : N < wr.heap.size := (Array.getElem?_eq_some_iff.1 hNj).1
          have HPS := Lib.hid hps
          have HNJ := Lib.hid hNj
          clear hps hNj
          go_wp2_with (at_mapUpdate; refine wpList_mapUpdate_own _ rfl _ _ _ 45 rfl 9 23 lawS Tryd.underlying45 (plainElem Tryd.prog 23) _ _ _ rfl hoj hm _ _ _ rfl rfl hks _ [] hval ?_; intro w7 o7 g7)
          go_roundw
          case rel => exact ⟨j + 1, n' + 1, _, by omega, by go_num, hrj.kept g7 (by simp; omega) (by simp; omega), o7, hDn.cast HPS.out, by omega, hbj.grown g7 hbj.size (fun k hk => by cases hk; exact Nat.le_refl _), (g7.block N hNL (by simp; omega)).trans HNJ.out⟩
          case measure => simp [intOf]; omega
        · obtain rfl : j = (names x).length := by omega
          go_wp2_with fail
          go_roundw
          case rel => exact ⟨_, cnt', n', D', hrj, hoj, hDj.cast fun l => (part_all _ x HX.out l).trans (val_congr (fun g _ => by rw [same_u8]; simp) l), by omega, hbj⟩
          case measure => rw [hrj.left_eq, hwl]; exact hlt
/-- What a look-up answers. -/
theorem kinds_look {w : World} {bm n : Nat} {D : DataW Unit} (ho : w.ownsMap Tryd.prog 9 (plainElem Tryd.prog 23) bm n D) (hD : Outs D kindO) (s : ByteArray) (hs : s.size ≤ maxLen) :
    (Instr.lookup 45 (.map (some bm)) (.string s) true).run Tryd.prog w = .ok (.tuple #[.int .u8 ((kindO s.data.toList).getD 0), .bool (kindO s.data.toList).isSome]) w := by
  have hz : (zeroValue 23).run Tryd.prog w = .ok (.int .u8 0) w := by kernel_rfl
  obtain ⟨v, ps, hrun, hv⟩ := ho.look_ok lawS Tryd.underlying45 hz (plainElem_int (H := Unit) Tryd.underlying23 (by decide)) (keyOf_string_mk Tryd.underlying9 hs)
  have hat := hD.2 s.data.toList
  cases hk : kindO s.data.toList with
  | some c =>
    rw [hk] at hat
    have hh : Maps.has D (.string s.data.toList) = true := has_true_of_atKey hat
    obtain ⟨a, rfl, he, _⟩ := plainElem_int_inv Tryd.underlying23 hv
    rw [hat] at he
    cases he
    rw [hrun, hh]; rfl
  | none =>
    rw [hk] at hat
    have hh : Maps.has D (.string s.data.toList) = false := has_false_of_atKey hat
    obtain ⟨a, rfl, he, _⟩ := plainElem_int_inv Tryd.underlying23 hv
    rw [hat] at he
    cases he
    rw [hrun, hh]; rfl
end Go.Proofs.YtcchnenjfckbbaaDoor.Co
