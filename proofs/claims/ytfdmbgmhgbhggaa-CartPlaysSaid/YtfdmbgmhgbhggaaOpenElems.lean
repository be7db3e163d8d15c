/- An argument that is a slice of structs, opened: the cells that lie in it. -/
import Derived.Test.YtfdmbgmhgbhggaaCell
import Derived.Test.YtfdmbgmhgbhggaaAppendOf
import Derived.Test.YtfdmbgmhgbhggaaFrame
import Derived.Lib.SmallJoins
namespace Go.Proofs.Ytfdmbgmhgbhggaa.Cl
open Go.ChangeShapes Go.WideShapes Go.ChangeAt Go.RowKit Go.Joins Go.Deep
set_option linter.unusedVariables false
theorem flat_at {α : Type} {s : Nat} (hs : 0 < s) : ∀ (L : List (List α)), (∀ l ∈ L, l.length = s) → ∀ i u, L.flatten[i]? = some u → ∃ l, L[i / s]? = some l ∧ l[i % s]? = some u
  | [], _, i, u, h => by simp at h
  | l :: t, hl, i, u, h => by
    rw [List.flatten_cons] at h
    have h0 := hl l (by simp)
    by_cases hi : i < s
    · rw [List.getElem?_append_left (by omega)] at h
      rw [Nat.div_eq_of_lt hi, Nat.mod_eq_of_lt hi]
      exact ⟨l, rfl, h⟩
    · rw [List.getElem?_append_right (by omega), h0] at h
      obtain ⟨l', h1, h2⟩ := flat_at hs t (fun l h => hl l (List.mem_cons_of_mem _ h)) (i - s) u h
      have e1 : i / s = (i - s) / s + 1 := by
        have := Nat.div_eq_sub_div hs (by omega : s ≤ i)
        exact this
      have e2 : i % s = (i - s) % s := Nat.mod_eq_sub_mod (by omega)
      rw [e1, e2]
      exact ⟨l', by simpa using h1, h2⟩
theorem flat_length {α : Type} {s : Nat} : ∀ (L : List (List α)), (∀ l ∈ L, l.length = s) → L.flatten.length = L.length * s
  | [], _ => by simp
  | l :: t, hl => by
    have := flat_length t fun l h => hl l (List.mem_cons_of_mem _ h)
    rw [List.flatten_cons, List.length_append, hl l (by simp), this, List.length_cons, Nat.add_mul]
    omega
theorem choice_list {α β : Type} {f : β → α} {q : β → Prop} : ∀ (L : List α), (∀ a ∈ L, ∃ b, a = f b ∧ q b) → ∃ R : List β, L = R.map f ∧ ∀ b ∈ R, q b
  | [], _ => ⟨[], rfl, fun b h => by cases h⟩
  | a :: t, h => by
    obtain ⟨R, rfl, hR⟩ := choice_list t fun a ha => h a (List.mem_cons_of_mem _ ha)
    obtain ⟨b, rfl, hb⟩ := h a (by simp)
    refine ⟨b :: R, rfl, fun c hc => ?_⟩
    rcases List.mem_cons.1 hc with rfl | hc
    · exact hb
    · exact hR c hc
theorem open_elems {H : Type} {enc : TypeId × Value → H} {P : Program} {W : World} {t e : TypeId} {ao : Option Addr} {n c : Nat} {d : DataW H} {p : List MemPlace} (s : Nat) (hs : P.cellsOf e = s) (hs0 : 0 < s)
    (ht : P.underlying t = some (.slice e)) (h : DataW.Trod enc P W 0 (fun _ => true) true t (.slice ao n c) d p) (hlt : ∀ x ∈ p, x.block < W.heap.size) :
    ∃ css : List (List Value), css.length = n ∧ (∀ cs ∈ css, cs.length = s ∧ ∃ fuel y, DataW.trod enc P W 0 (fun _ => true) true fuel e cs = some y) ∧ Lies W s (.slice ao n c) n css.flatten := by
  obtain ⟨fuel, hf⟩ := h
  rcases DataW.trod_slice ht hf with ⟨h0, _⟩ | ⟨a, len, cap, elems, rest, m, _, h1, h2, hb, hl, hm, hlen, hel, hsp, hns⟩
  · simp [Value.cells] at h0
    obtain ⟨rfl, rfl, rfl⟩ := h0
    exact ⟨[], rfl, fun cs h => by (cases h), ⟨by simp, none, 0, rfl, ⟨Nat.le_refl _, fun _ => rfl⟩, .inl rfl⟩⟩
  · simp [Value.cells] at h1
    obtain ⟨rfl, rfl, rfl⟩ := h1
    simp only [Prod.mk.injEq] at h2
    obtain ⟨rfl, rfl⟩ := h2
    rw [hs] at hel hlt
    have each : ∀ i, i < n → ∃ cs, W.cells? 0 (a.add (i * s)) s = some cs ∧ ∃ y, DataW.trod enc P W 0 (fun _ => true) true m e cs = some y := by
      intro i hi
      have := hel i hi
      rw [List.getElem?_eq_getElem (by omega), Option.bind_eq_some_iff] at this
      obtain ⟨cs, h1, h2⟩ := this
      exact ⟨cs, h1, _, h2⟩
    have build : ∀ k, k ≤ n → ∃ css : List (List Value), css.length = k ∧ ∀ i cs, css[i]? = some cs → W.cells? 0 (a.add (i * s)) s = some cs ∧ ∃ y, DataW.trod enc P W 0 (fun _ => true) true m e cs = some y := by
      intro k
      induction k with
      | zero => exact fun _ => ⟨[], rfl, fun i cs h => by simp at h⟩
      | succ k ih =>
        intro hk
        obtain ⟨css, hcl, hcs⟩ := ih (by omega)
        obtain ⟨cs, g1, g2⟩ := each k (by omega)
        refine ⟨css ++ [cs], by simp [hcl], fun i cs' hi => ?_⟩
        rw [List.getElem?_append] at hi
        split at hi
        · exact hcs i cs' hi
        · have hik : i = k := by
            have := (List.getElem?_eq_some_iff.1 hi).1
            simp at this; omega
          subst hik
          rw [hcl, Nat.sub_self] at hi
          obtain rfl : cs = cs' := by simpa using hi
          exact ⟨g1, g2⟩
    obtain ⟨css, hcl, hcs⟩ := build n (Nat.le_refl _)
    have hall : ∀ cs ∈ css, cs.length = s := fun cs hcm => by
      obtain ⟨i, hi⟩ := List.getElem?_of_mem hcm
      exact (World.cells?_some (hcs i cs hi).1).2.1
    refine ⟨css, hcl, fun cs hcm => ?_, ?_⟩
    · obtain ⟨i, hi⟩ := List.getElem?_of_mem hcm
      obtain ⟨y, hy⟩ := (hcs i cs hi).2
      exact ⟨hall cs hcm, m, y, hy⟩
    · refine ⟨by rw [flat_length css hall, hcl], some a, c, rfl, ⟨hl, fun h => by cases h⟩, ?_⟩
      by_cases hn : n = 0
      · exact .inl hn
      · right
        obtain ⟨b, off, spot⟩ := a
        have hat : ∀ i u, css.flatten[i]? = some u → W.cell? ((⟨b, off, spot⟩ : Addr).add i) = some u := by
          intro i u hu
          obtain ⟨cs, g1, g2⟩ := flat_at hs0 css hall i u hu
          have := (World.cells?_some (hcs _ cs g1).1).2.2 (i % s) (Nat.mod_lt _ hs0)
          rw [g2, Addr.add_add, Nat.div_add_mod'] at this
          exact this
        have h00 : 0 < css.flatten.length := by rw [flat_length css hall, hcl]; exact Nat.mul_pos (by omega) hs0
        have hspot : spot = none := by simpa [Addr.add] using World.cell?_spot (hat 0 _ (List.getElem?_eq_getElem h00))
        subst hspot
        refine ⟨b, off, rfl, hlt (.cell b off) (List.mem_append_left _ (MemPlace.mem_row.2 ⟨0, Nat.mul_pos (by omega) hs0, by simp⟩)), fun i u hu => ?_⟩
        have := hat i u hu
        rwa [add0] at this
theorem two_ints {H : Type} {enc : TypeId × Value → H} {P : Program} {W : World} {base : Nat} {spare : Nat → Bool} {held : Bool} {fuel : Nat} {t : TypeId} {f0 f1 : Field} {cs : List Value} {y : DataW H × List MemPlace} (k k' : IntKind)
    (hs : P.underlying t = some (.struct #[f0, f1])) (hone : oneCellFields P #[f0, f1] = true) (u0 : P.underlying f0.type = some (.int k)) (u1 : P.underlying f1.type = some (.int k')) (hl : cs.length = 2)
    (h : DataW.trod enc P W base spare held fuel t cs = some y) : ∃ p : Int × Int, cs = [.int k p.1, .int k' p.2] ∧ (Lit.int k p.1).wf = true ∧ (Lit.int k' p.2).wf = true := by
  match cs, hl with
  | [c0, c1], _ =>
    obtain ⟨xs, n, _, hx, _, hlen, hg⟩ := DataW.trod_struct hs h
    match xs, hlen with
    | [y0, y1], _ =>
      obtain ⟨o0, e0⟩ := hone_of hone 0 f0 rfl
      have g0 : DataW.trod enc P W base spare held n f0.type [c0] = some y0 := by simpa [o0, e0] using hg 0 f0 rfl
      obtain ⟨n0, z0, -, w0⟩ := DataW.trod_int u0 g0
      obtain rfl : c0 = _ := by simpa using z0
      obtain ⟨o1, e1⟩ := hone_of hone 1 f1 rfl
      have g1 : DataW.trod enc P W base spare held n f1.type [c1] = some y1 := by simpa [o1, e1] using hg 1 f1 rfl
      obtain ⟨n1, z1, -, w1⟩ := DataW.trod_int u1 g1
      obtain rfl : c1 = _ := by simpa using z1
      exact ⟨(n0, n1), rfl, w0, w1⟩
/-- A slice of pairs of whole numbers. -/
theorem open_pairs {H : Type} {enc : TypeId × Value → H} {P : Program} {W : World} {t e : TypeId} {f0 f1 : Field} {ao : Option Addr} {n c : Nat} {d : DataW H} {p : List MemPlace} (k : IntKind)
    (ht : P.underlying t = some (.slice e)) (hs : P.underlying e = some (.struct #[f0, f1])) (hone : oneCellFields P #[f0, f1] = true) (hC : P.cellsOf e = 2) (u0 : P.underlying f0.type = some (.int k)) (u1 : P.underlying f1.type = some (.int .i64))
    (h : DataW.Trod enc P W 0 (fun _ => true) true t (.slice ao n c) d p) (hlt : ∀ x ∈ p, x.block < W.heap.size) :
    ∃ R : List Rn, R.length = n ∧ Lies W 2 (.slice ao R.length c) R.length (rcs k R) ∧ ∀ p ∈ R, (Lit.int k p.1).wf = true ∧ (Lit.int .i64 p.2).wf = true := by
  obtain ⟨css, hl, hall, hL⟩ := open_elems 2 hC (by decide) ht h hlt
  obtain ⟨R, rfl, hR⟩ := choice_list (f := fun p : Rn => [Value.int k p.1, .int .i64 p.2]) css fun cs hcs => by
    obtain ⟨h2, fuel, y, hy⟩ := hall cs hcs
    exact two_ints k .i64 hs hone u0 u1 h2 hy
  have hn : R.length = n := by simpa using hl
  subst hn
  exact ⟨R, rfl, by simpa [rcs, List.flatMap] using hL, hR⟩
end Go.Proofs.Ytfdmbgmhgbhggaa.Cl
