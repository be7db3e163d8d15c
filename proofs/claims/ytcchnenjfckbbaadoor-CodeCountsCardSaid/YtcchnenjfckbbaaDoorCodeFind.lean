/- Package code: Find. -/
import Derived.Test.YtcchnenjfckbbaaDoorCodeAll
namespace Go.Proofs.YtcchnenjfckbbaaDoor.Co
open Go.RowKit Go.Shelf Go.Deep
attribute [local go_sem] Oper.semAt_some
set_option linter.unusedVariables false
set_option linter.unusedSimpArgs false
/-- Is a code of that name and mode? -/
def hit (s : ByteArray) (md : Int) (x : Nat) : Bool := (nameO x).toList == s.toList && modeO x == md
def fst (s : ByteArray) (md : Int) (l : List Nat) : Option Nat := l.find? (hit s md)
def sure (s : ByteArray) (md : Int) (l : List Nat) : Option Nat := l.find? fun x => hit s md x && knownC x
def findO (s : ByteArray) (md : Int) : Option Nat := (sure s md (List.range 256)).or (fst s md (List.range 256))
def outV : Option Nat → Value
  | some x => .int .u8 (x : Int)
  | none => .int .u8 0
theorem box_kept {A B : World} {b : Nat} {t : TypeId} {v : Value} {row : Option Nat} (h : Boxed A b t v) (hg : A.grownBy B row) (hr : ∀ r, row = some r → ∃ o : Obj, A.heap[r]? = some o ∧ o.isCells = false) : Boxed B b t v :=
  boxed_own b t (fun _ : Unit => v) () A B row h hg hr
/-- What lies at the loop's rounds. -/
structure FS (n : Nat) (s : ByteArray) (md : Int) (o f : Value) (W : World) : Prop where
  b0 : Boxed W n 9 (.string s)
  b1 : Boxed W (n + 1) 22 (.int .u8 md)
  b2 : Boxed W (n + 1 + 1) 5 (.int .u8 0)
  b3 : Boxed W (n + 1 + 1 + 1) 4 (.bool false)
  b4 : Boxed W (n + 1 + 1 + 1 + 1) 5 o
  b5 : Boxed W (n + 1 + 1 + 1 + 1 + 1) 4 f
theorem FS.own {n : Nat} {s : ByteArray} {md : Int} {o f : Value} {A B : World} {row : Option Nat} (h : FS n s md o f A) (hg : A.grownBy B row) (hr : ∀ r, row = some r → ∃ o : Obj, A.heap[r]? = some o ∧ o.isCells = false) : FS n s md o f B :=
  ⟨box_kept h.b0 hg hr, box_kept h.b1 hg hr, box_kept h.b2 hg hr, box_kept h.b3 hg hr, box_kept h.b4 hg hr, box_kept h.b5 hg hr⟩

theorem fst_snoc (s : ByteArray) (md : Int) (pre : List Nat) (x : Nat) : fst s md (pre ++ [x]) = (fst s md pre).or (if hit s md x then some x else none) := by
  unfold fst
  rw [List.find?_append]
  congr 1
  simp [List.find?_cons]
  cases hit s md x <;> rfl
theorem sure_snoc (s : ByteArray) (md : Int) (pre : List Nat) (x : Nat) : sure s md (pre ++ [x]) = (sure s md pre).or (if hit s md x && knownC x then some x else none) := by
  unfold sure
  rw [List.find?_append]
  congr 1
  simp [List.find?_cons]
  cases hit s md x <;> cases knownC x <;> rfl
theorem sure_pre (s : ByteArray) (md : Int) (pre L : List Nat) (x : Nat) (h : pre <+: L) (hx : sure s md pre = some x) : sure s md L = some x := by
  obtain ⟨r, rfl⟩ := h
  unfold sure at hx ⊢
  rw [List.find?_append, hx]; rfl
/-- A round's own. -/
def AxF (w : World) (s : ByteArray) (md : Int) (x : Nat) (a : Act) (W : World) : Prop :=
  ∃ C, w.heap.size + 1 + 1 + 1 + 1 + 1 + 1 ≤ C ∧ W.heap[C]? = some (.cells #[.string (nameO x), .int .u8 (modeO x), .int .u8 (kindC x), .bool (knownC x)] 25 (0, 0)) ∧
    a = { tmps := #[.string s, .int .u8 md, .pointer (some ⟨w.heap.size, 0, none⟩), .pointer (some ⟨w.heap.size + 1, 0, none⟩), .pointer (some ⟨w.heap.size + 1 + 1, 0, none⟩), .pointer (some ⟨w.heap.size + 1 + 1 + 1, 0, none⟩), .pointer (some ⟨w.heap.size + 1 + 1 + 1 + 1, 0, none⟩), .pointer (some ⟨w.heap.size + 1 + 1 + 1 + 1 + 1, 0, none⟩), .int .u8 (x : Int), .pointer (some ⟨C, 0, none⟩), .func (.func 33) #[] #[], .int .u8 (x : Int), codeV x, undef, undef, undef, undef, undef, undef, undef, undef, undef, undef, undef, undef, undef, undef, undef, undef, undef, undef], defers := [] }
/-- How a round leaves, found. -/
def IxF (w : World) (s : ByteArray) (md : Int) (c : Code) (pre : List Nat) (W : World) : Prop :=
  c = .ret ∧ ∃ x, sure s md pre = some x ∧ Boxed W (w.heap.size + 1 + 1) 5 (.int .u8 (x : Int)) ∧ Boxed W (w.heap.size + 1 + 1 + 1) 4 (.bool true) ∧ Below w.heap.size w W
def IF (w : World) (s : ByteArray) (md : Int) (pre : List Nat) (W : World) : Prop :=
  sure s md pre = none ∧ FS w.heap.size s md (outV (fst s md pre)) (.bool (fst s md pre).isSome) W ∧ Below w.heap.size w W

theorem done_end (w : World) (s : ByteArray) (md : Int) (W : World) (D : Nat) (hD : w.heap.size + 1 + 1 + 1 + 1 + 1 + 1 ≤ D) (hB : Below w.heap.size w W) (h2 : Boxed W (w.heap.size + 1 + 1) 5 (.int .u8 0)) (h3 : Boxed W (w.heap.size + 1 + 1 + 1) 4 (.bool false)) (hK : W.heap[D]? = some (.deferred (some [])))
    (o : Int) (f : Bool) (hfo : findO s md = if f then some o.toNat else none) (ho : o = (o.toNat : Int)) (ho' : f = false → o = 0) (tm : Array Value) (h4 : tm[4]?.getD undef = .pointer (some ⟨w.heap.size + 1 + 1, 0, none⟩)) (h5 : tm[5]?.getD undef = .pointer (some ⟨w.heap.size + 1 + 1 + 1, 0, none⟩)) :
    bodyPostM Fence.wide 5 Tryd.prog Tryd.f14 (fun e W' => e = .returned (.tuple #[outV (findO s md), .bool (findO s md).isSome]) ∧ Below w.heap.size w W') .ret { tmps := tm, defers := [{ target := .collected D, args := #[] }] } ((W.setCell ⟨w.heap.size + 1 + 1, 0, none⟩ (.int .u8 o)).setCell ⟨w.heap.size + 1 + 1 + 1, 0, none⟩ (.bool f)).drew := by
  have q2 : Boxed ((W.setCell ⟨w.heap.size + 1 + 1, 0, none⟩ (.int .u8 o)).setCell ⟨w.heap.size + 1 + 1 + 1, 0, none⟩ (.bool f)).drew (w.heap.size + 1 + 1) 5 (.int .u8 o) := ((h2.set _).other (by omega) _).kept (drawnBy _) (by simp)
  have q3 : Boxed ((W.setCell ⟨w.heap.size + 1 + 1, 0, none⟩ (.int .u8 o)).setCell ⟨w.heap.size + 1 + 1 + 1, 0, none⟩ (.bool f)).drew (w.heap.size + 1 + 1 + 1) 4 (.bool f) := ((h3.other (by omega) _).set _).kept (drawnBy _) (by simp)
  have hK' : ((W.setCell ⟨w.heap.size + 1 + 1, 0, none⟩ (.int .u8 o)).setCell ⟨w.heap.size + 1 + 1 + 1, 0, none⟩ (.bool f)).drew.heap[D]? = some (.deferred (some [])) := by
    show ((W.setCell ⟨w.heap.size + 1 + 1, 0, none⟩ (.int .u8 o)).setCell ⟨w.heap.size + 1 + 1 + 1, 0, none⟩ (.bool f)).heap[D]? = _
    rw [heap_setCell_other _ ⟨w.heap.size + 1 + 1 + 1, 0, none⟩ _ _ (by show D ≠ w.heap.size + 1 + 1 + 1; omega), heap_setCell_other _ ⟨w.heap.size + 1 + 1, 0, none⟩ _ _ (by show D ≠ w.heap.size + 1 + 1; omega)]; exact hK
  have hB' : Below w.heap.size w ((W.setCell ⟨w.heap.size + 1 + 1, 0, none⟩ (.int .u8 o)).setCell ⟨w.heap.size + 1 + 1 + 1, 0, none⟩ (.bool f)).drew := ((hB.setCell (by show w.heap.size ≤ w.heap.size + 1 + 1; omega) _).setCell (by show w.heap.size ≤ w.heap.size + 1 + 1 + 1; omega) _).drew
  generalize ((W.setCell ⟨w.heap.size + 1 + 1, 0, none⟩ (.int .u8 o)).setCell ⟨w.heap.size + 1 + 1 + 1, 0, none⟩ (.bool f)).drew = V at *
  have k2 := (box_kept q2 (grownBy_putObj' V D (.deferred none)) (fun r e => by cases e; exact ⟨_, hK', rfl⟩)).cell
  have k3 := (box_kept q3 (grownBy_putObj' V D (.deferred none)) (fun r e => by cases e; exact ⟨_, hK', rfl⟩)).cell
  refine ⟨by simp, .inl ⟨_, _, rfl, run_takeDeferred hK', ?_⟩⟩
  refine ⟨.tuple #[.int .u8 o, .bool f], by simp [results, Tryd.results14, go_sem, h4, h5, k2, k3], ?_, hB'.trans (belowK_b (w := w) (Nat.le_refl _) V D _ _ (by omega) hK' rfl rfl)⟩
  rw [hfo]
  cases f with
  | true => show _ = Ending.returned (.tuple #[.int .u8 ((o.toNat : Int)), .bool true]); rw [← ho]
  | false => rw [ho' rfl]; rfl

set_option maxRecDepth 100000 in
set_option maxHeartbeats 2000000 in
theorem find_any (s : ByteArray) (md : Int) (w : World) (hG : Gl w) :
    Calls Tryd.prog 14 #[.string s, .int .u8 md] w fun e W' => e = .returned (.tuple #[outV (findO s md), .bool (findO s md).isSome]) ∧ Below w.heap.size w W' := by
  refine (callsIn_wide (n := 5)).1 ?_
  refine callsIn_of_wp_marks Tryd.func14 rfl trivial ?_ rfl
  simp only [Tryd.ntmps14, List.size_toArray, List.length_cons, List.length_nil, Nat.reduceAdd, Nat.reduceSub, Array.replicate_succ, Array.replicate_zero, List.push_toArray, List.append_toArray, List.nil_append, List.cons_append]
  gi_wp2_with fail
  refine ⟨trivial, (all_any Fence.wide _ trivial rfl _).mono ?_⟩
  rintro e w' ⟨rfl, rfl⟩
  gi_wp2_with fail
  have hFS : FS w.heap.size s md (.int .u8 0) (.bool false) ((((((w.alloc (.cells #[.string s] 9)).alloc (.cells #[.int .u8 md] 22)).alloc (.cells #[.int .u8 0] 5)).alloc (.cells #[.bool false] 4)).alloc (.cells #[.int .u8 0] 5)).alloc (.cells #[.bool false] 4)) := by
    have e0 := Boxed.new w 9 (.string s)
    have e1 := Boxed.new (w.alloc (.cells #[.string s] 9)) 22 (.int .u8 md)
    have e2 := Boxed.new ((w.alloc (.cells #[.string s] 9)).alloc (.cells #[.int .u8 md] 22)) 5 (.int .u8 0)
    have e3 := Boxed.new (((w.alloc (.cells #[.string s] 9)).alloc (.cells #[.int .u8 md] 22)).alloc (.cells #[.int .u8 0] 5)) 4 (.bool false)
    have e4 := Boxed.new ((((w.alloc (.cells #[.string s] 9)).alloc (.cells #[.int .u8 md] 22)).alloc (.cells #[.int .u8 0] 5)).alloc (.cells #[.bool false] 4)) 5 (.int .u8 0)
    have e5 := Boxed.new (((((w.alloc (.cells #[.string s] 9)).alloc (.cells #[.int .u8 md] 22)).alloc (.cells #[.int .u8 0] 5)).alloc (.cells #[.bool false] 4)).alloc (.cells #[.int .u8 0] 5)) 4 (.bool false)
    simp only [World.size_alloc] at e1 e2 e3 e4 e5
    exact ⟨((((e0.alloc _).alloc _).alloc _).alloc _).alloc _, (((e1.alloc _).alloc _).alloc _).alloc _, ((e2.alloc _).alloc _).alloc _, (e3.alloc _).alloc _, e4.alloc _, e5⟩
  have hB0 : Below w.heap.size w ((((((w.alloc (.cells #[.string s] 9)).alloc (.cells #[.int .u8 md] 22)).alloc (.cells #[.int .u8 0] 5)).alloc (.cells #[.bool false] 4)).alloc (.cells #[.int .u8 0] 5)).alloc (.cells #[.bool false] 4)) :=
    ((((((Below.refl _ w).alloc (Nat.le_refl _) _).alloc (by simp) _).alloc (by simp; omega) _).alloc (by simp; omega) _).alloc (by simp; omega) _).alloc (by simp; omega) _
  have hz6 : ((((((w.alloc (.cells #[.string s] 9)).alloc (.cells #[.int .u8 md] 22)).alloc (.cells #[.int .u8 0] 5)).alloc (.cells #[.bool false] 4)).alloc (.cells #[.int .u8 0] 5)).alloc (.cells #[.bool false] 4)).heap.size = w.heap.size + 1 + 1 + 1 + 1 + 1 + 1 := by simp only [World.size_alloc]
  generalize ((((((w.alloc (.cells #[.string s] 9)).alloc (.cells #[.int .u8 md] 22)).alloc (.cells #[.int .u8 0] 5)).alloc (.cells #[.bool false] 4)).alloc (.cells #[.int .u8 0] 5)).alloc (.cells #[.bool false] 4)) = v6 at *
  refine wpIn_rangeFunc_ownH rfl (by decide) (gf := 33) (lb := #[]) rfl trivial (enters_of Tryd.func33 (by kernel_rfl) rfl)
    (all_stops _ (by decide) w hG v6 hB0) belowK_t (belowK_b (by omega)) (Below.refl _ _) (fun _ => rfl)
    (IF w s md) (IxF w s md)
    (fun pre A B row h hg hr => ⟨h.1, h.2.1.own hg (fun r e => (hr r e).2), h.2.2.grown hg h.2.2.size (fun k e => by have := (hr k e).1; omega)⟩)
    (fun c pre A B row h hg hr => by obtain ⟨rfl, x, h1, h2, h3, h4⟩ := h; exact ⟨rfl, x, h1, box_kept h2 hg (fun r e => (hr r e).2), box_kept h3 hg (fun r e => (hr r e).2), h4.grown hg h4.size (fun k e => by have := (hr k e).1; omega)⟩)
    ⟨rfl, hFS, hB0⟩
    (AxF w s md)
    (fun x a' _ A B row h hg hr => by
      obtain ⟨C, hC, h1, h2⟩ := h
      exact ⟨C, hC, (hg.block C (Array.getElem?_eq_some_iff.1 h1).1 (fun e => by obtain ⟨o, ho, hc⟩ := (hr C e.symm).2; rw [h1] at ho; cases ho; cases hc)).trans h1, h2⟩)
    ?assign ?body ?done ?stop
  case assign =>
    intro l pre x W K hI hK
    simp only [encO, codeV]
    gi_wp2
    exact hK _ _ (KeepsFrom.of_grownBy (World.grownBy_alloc W _ none) (fun j e => by cases e)) ((Below.refl _ W).alloc hI.2.2.size _) ⟨hI.1, hI.2.1.own (World.grownBy_alloc W _ none) (fun r e => by cases e), hI.2.2.alloc hI.2.2.size _⟩ ⟨W.heap.size, by have := hI.2.1.b5.lt; omega, World.alloc_heap_new W _, rfl⟩
  case body =>
    rintro l pre x a' W hl ⟨r, hr⟩ ⟨hsu, hS, hB⟩ ⟨C, hC, hCr, rfl⟩ hlt
    have c0 : W.cell? ⟨C, 0, none⟩ = some (.string (nameO x)) := by rw [cell_of_row W C 0 _ _ _ hCr]; rfl
    have c1 : W.cell? ⟨C, 1, none⟩ = some (.int .u8 (modeO x)) := by rw [cell_of_row W C 1 _ _ _ hCr]; rfl
    have c3 : W.cell? ⟨C, 3, none⟩ = some (.bool (knownC x)) := by rw [cell_of_row W C 3 _ _ _ hCr]; rfl
    have s0 := hS.b0.cell
    have s1 := hS.b1.cell
    have s5 := hS.b5.cell
    have s2 := hS.b2.cell
    have s3 := hS.b3.cell
    have s4 := hS.b4.cell
    have f2 := hS.b2.frozen
    have f3 := hS.b3.frozen
    have f4 := hS.b4.frozen
    have f5 := hS.b5.frozen
    have hcl : codeV x = .agg #[.string (nameO x), .int .u8 (modeO x), .int .u8 (kindC x), .bool (knownC x)] := rfl
    have hsn := sure_snoc s md pre x
    have hfn := fst_snoc s md pre x
    rw [hsu] at hsn
    have HSN := Lib.hid hsn
    have HFN := Lib.hid hfn
    have HS := Lib.hid hS
    clear hsn hfn hS
    by_cases hn : (nameO x).toList = s.toList
    · by_cases hm : modeO x = md
      · have hm' : (modeO x != md) = false := by simp [hm]
        have HH : hit s md x = true := by
          unfold hit
          rw [hn, hm, Bool.and_eq_true]
          exact ⟨beq_iff_eq.2 rfl, beq_iff_eq.2 rfl⟩
        by_cases hk : knownC x = true
        · have HX := Lib.hid (show sure s md (pre ++ [x]) = some x by rw [HSN.out, HH, hk]; rfl)
          clear HH
          gi_wp2
          have hS := HS.out
          exact ⟨(KeepsFrom.of_grownBy (grownBy_setCell' W (w.heap.size + 1 + 1) _) (fun j e => by cases e; omega)).trans (KeepsFrom.of_grownBy (grownBy_setCell' _ (w.heap.size + 1 + 1 + 1) _) (fun j e => by cases e; omega)),
            rfl, x, HX.out, (hS.b2.set _).other (by omega) _, (hS.b3.other (by omega) _).set _, (hB.setCell (by show w.heap.size ≤ w.heap.size + 1 + 1; omega) _).setCell (by show w.heap.size ≤ w.heap.size + 1 + 1 + 1; omega) _⟩
        · have hk' : knownC x = false := by simpa using hk
          have HX := Lib.hid (show sure s md (pre ++ [x]) = none by rw [HSN.out, HH, hk']; rfl)
          clear hk
          have HH := Lib.hid HH
          cases hfp : fst s md pre with
          | some y =>
            rw [hfp] at s5
            have s5' : W.cell? ⟨w.heap.size + 1 + 1 + 1 + 1 + 1, 0, none⟩ = some (.bool true) := s5
            clear s5
            gi_wp2
            have hS := HS.out
            rw [hfp] at hS
            exact ⟨KeepsFrom.refl _ _, Below.refl _ _, HX.out, by rw [HFN.out, hfp]; exact hS, hB⟩
          | none =>
            rw [hfp] at s5
            have s5' : W.cell? ⟨w.heap.size + 1 + 1 + 1 + 1 + 1, 0, none⟩ = some (.bool false) := s5
            clear s5
            gi_wp2
            have hS := HS.out
            refine ⟨(KeepsFrom.of_grownBy (grownBy_setCell' W (w.heap.size + 1 + 1 + 1 + 1) _) (fun j e => by cases e; omega)).trans (KeepsFrom.of_grownBy (grownBy_setCell' _ (w.heap.size + 1 + 1 + 1 + 1 + 1) _) (fun j e => by cases e; omega)),
              ((Below.refl _ _).setCell (by show w.heap.size ≤ w.heap.size + 1 + 1 + 1 + 1; omega) _).setCell (by show w.heap.size ≤ w.heap.size + 1 + 1 + 1 + 1 + 1; omega) _, HX.out, ?_, (hB.setCell (by show w.heap.size ≤ w.heap.size + 1 + 1 + 1 + 1; omega) _).setCell (by show w.heap.size ≤ w.heap.size + 1 + 1 + 1 + 1 + 1; omega) _⟩
            rw [HFN.out, hfp, HH.out]
            exact ⟨(hS.b0.other (by omega) _).other (by omega) _, (hS.b1.other (by omega) _).other (by omega) _, (hS.b2.other (by omega) _).other (by omega) _, (hS.b3.other (by omega) _).other (by omega) _, (hS.b4.set _).other (by omega) _, (hS.b5.other (by omega) _).set _⟩
      · have hm' : (modeO x != md) = true := by simp [hm]
        have HH : hit s md x = false := by simp [hit, hm]
        gi_wp2
        exact ⟨KeepsFrom.refl _ _, Below.refl _ _, by rw [HSN.out, HH]; rfl, by rw [HFN.out, HH]; have hS := HS.out; simpa using hS, hB⟩
    · have HH : hit s md x = false := by
        unfold hit
        rw [beq_false_of_ne hn]
        rfl
      gi_wp2
      exact ⟨KeepsFrom.refl _ _, Below.refl _ _, by rw [HSN.out, HH]; rfl, by rw [HFN.out, HH]; have hS := HS.out; simpa using hS, hB⟩
  case done =>
    rintro D ys W hD rfl ⟨hsu, hS, hB⟩ hK
    have s2 := hS.b2.cell
    have s3 := hS.b3.cell
    have s4 := hS.b4.cell
    have s5 := hS.b5.cell
    have f2 := hS.b2.frozen
    have f3 := hS.b3.frozen
    have hmx : (Tryd.prog).follows .mixedOrders = true := by kernel_rfl
    have hSb := Lib.hid hS
    clear hS
    have hend := fun (o : Int) (f : Bool) (hfo : findO s md = if f then some o.toNat else none) (ho : o = (o.toNat : Int)) (ho' : f = false → o = 0) (tm : Array Value) (h4 : tm[4]?.getD undef = .pointer (some ⟨w.heap.size + 1 + 1, 0, none⟩)) (h5 : tm[5]?.getD undef = .pointer (some ⟨w.heap.size + 1 + 1 + 1, 0, none⟩)) =>
      (done_end w s md W D (by omega) hB hSb.out.b2 hSb.out.b3 hK o f hfo ho ho' tm h4 h5 : bodyPostM Fence.wide 5 Tryd.prog Tryd.f14 (fun e W' => e = .returned (.tuple #[outV (findO s md), .bool (findO s md).isSome]) ∧ Below w.heap.size w W') .ret { tmps := tm, defers := [{ target := .collected D, args := #[] }] } ((W.setCell ⟨w.heap.size + 1 + 1, 0, none⟩ (.int .u8 o)).setCell ⟨w.heap.size + 1 + 1 + 1, 0, none⟩ (.bool f)).drew)
    have HE := Lib.hid hend
    clear hend
    cases hfp : fst s md (List.range 256) with
    | none =>
      have hfo : findO s md = none := by unfold findO; rw [hsu, hfp]; rfl
      have HFO := Lib.hid hfo
      clear hfo
      rw [hfp] at s4 s5
      have s4' : W.cell? ⟨w.heap.size + 1 + 1 + 1 + 1, 0, none⟩ = some (.int .u8 0) := s4
      have s5' : W.cell? ⟨w.heap.size + 1 + 1 + 1 + 1 + 1, 0, none⟩ = some (.bool false) := s5
      clear s4 s5
      gi_wp2_with fail
      gi_region_with_o (fail)
      all_goals gi_wp2
      all_goals exact HE.out 0 false (by rw [HFO.out]; rfl) rfl (fun _ => rfl) _ rfl rfl
    | some y =>
      have hfo : findO s md = some y := by unfold findO; rw [hsu, hfp]; rfl
      have HFO := Lib.hid hfo
      clear hfo
      rw [hfp] at s4 s5
      have s4' : W.cell? ⟨w.heap.size + 1 + 1 + 1 + 1, 0, none⟩ = some (.int .u8 (y : Int)) := s4
      have s5' : W.cell? ⟨w.heap.size + 1 + 1 + 1 + 1 + 1, 0, none⟩ = some (.bool true) := s5
      clear s4 s5
      gi_wp2_with fail
      gi_region_with_o (fail)
      all_goals gi_wp2
      all_goals exact HE.out (y : Int) true (by rw [HFO.out]; rfl) (by simp) (fun h => by cases h) _ rfl rfl
  case stop =>
    rintro D c pre W hD hpre ⟨rfl, x, h1, h2, h3, h4⟩ hK
    have k2 := (box_kept h2 (grownBy_putObj' W D (.deferred none)) (fun r e => by cases e; exact ⟨_, hK, rfl⟩)).cell
    have k3 := (box_kept h3 (grownBy_putObj' W D (.deferred none)) (fun r e => by cases e; exact ⟨_, hK, rfl⟩)).cell
    have hfo : findO s md = some x := by unfold findO; rw [sure_pre s md pre _ x hpre h1]; rfl
    gi_wp2
    refine ⟨by simp, .inl ⟨_, _, rfl, run_takeDeferred hK, ?_⟩⟩
    refine ⟨.tuple #[.int .u8 (x : Int), .bool true], by simp [results, Tryd.results14, go_sem, k2, k3], by rw [hfo]; rfl, h4.trans (belowK_b (w := w) (Nat.le_refl _) W D _ _ (by omega) hK rfl rfl)⟩
end Go.Proofs.YtcchnenjfckbbaaDoor.Co
