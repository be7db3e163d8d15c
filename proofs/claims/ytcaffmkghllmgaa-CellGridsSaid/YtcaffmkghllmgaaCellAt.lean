/- Package cell: one thing of a ring; the youngest taken out. -/
import Derived.Test.YtcaffmkghllmgaaCellRingD
import Derived.Deep.RegionHeld3
namespace Go.Proofs.Ytcaffmkghllmgaa.Cl
open Go.RowKit Go.Deep
set_option linter.unusedVariables false
set_option linter.unusedSimpArgs false

theorem len_nil (W : World) : Calls Try.prog 20 #[.pointer none] W fun e w' => e = .returned (.int .i64 0) ∧ w' = W := by
  go_enter Try.func20, Try.ntmps20
  go_wp2_with fail
  go_ret
  exact ⟨rfl, rfl⟩
theorem at_nil (W : World) (i : Int) : Calls Try.prog 19 #[.pointer none, .int .i64 i] W fun e w' => e = .returned (.tuple #[.int .i64 0, .bool false]) ∧ w' = W := by
  by_cases hi : i < 0
  · go_enter Try.func19, Try.ntmps19
    go_wp2_with fail
    refine (none_int W).mono ?_
    rintro e w' ⟨rfl, he⟩
    rw [he]
    go_wp2_with fail
    go_ret2
    exact ⟨rfl, rfl⟩
  · have hi' : 0 ≤ i := by omega
    go_enter Try.func19, Try.ntmps19
    go_wp2_with fail
    refine (len_nil W).mono ?_
    rintro e w' ⟨rfl, he⟩
    rw [he]
    go_wp2_with fail
    refine (none_int W).mono ?_
    rintro e w' ⟨rfl, he⟩
    rw [he]
    go_wp2_with fail
    go_ret2
    exact ⟨rfl, rfl⟩
/-- What is told of a place, and whether there is one. -/
def atV (D : List Int) (i : Int) : Int := if 0 ≤ i ∧ i < D.length then D[i.toNat]?.getD 0 else 0
def atB (D : List Int) (i : Int) : Bool := decide (0 ≤ i ∧ i < D.length)
theorem at_out (W : World) (b g room : Nat) (D : List Int) (h : RingD W b g room D) (i : Int) (hi : ¬ (0 ≤ i ∧ i < D.length)) :
    Calls Try.prog 19 #[.pointer (some ⟨b, 0, none⟩), .int .i64 i] W fun e w' => e = .returned (.tuple #[.int .i64 0, .bool false]) ∧ w' = W := by
  by_cases hn : i < 0
  · go_enter Try.func19, Try.ntmps19
    go_wp2_with fail
    refine (none_int W).mono ?_
    rintro e w' ⟨rfl, he⟩
    rw [he]
    go_wp2_with fail
    go_ret2
    exact ⟨rfl, rfl⟩
  · have hi' : 0 ≤ i := by omega
    have hi2 : (D.length : Int) ≤ i := by omega
    clear hi
    go_enter Try.func19, Try.ntmps19
    go_wp2_with fail
    refine (len_ring W b g room D h).mono ?_
    rintro e w' ⟨rfl, he⟩
    rw [he]
    go_wp2_with fail
    refine (none_int W).mono ?_
    rintro e w' ⟨rfl, he⟩
    rw [he]
    go_wp2_with fail
    go_ret2
    exact ⟨rfl, rfl⟩
theorem at_in (W : World) (b g room : Nat) (D : List Int) (h : RingD W b g room D) (i : Nat) (hi : i < D.length) :
    Calls Try.prog 19 #[.pointer (some ⟨b, 0, none⟩), .int .i64 i] W fun e w' => e = .returned (.tuple #[.int .i64 D[i], .bool true]) ∧ w' = W.drew.drew := by
  have hD := h
  obtain ⟨first, cs, hS, hc⟩ := h
  have hroom := hS.n
  have hmost := hS.most
  have hf := hS.first
  have hp : (first + i) % room < room := Nat.mod_lt _ (by omega)
  have hcg : W.cell? ⟨g, (first + i) % room, none⟩ = some (.int .i64 D[i]) := by
    rw [cell_of_row W g _ _ _ _ hS.hg, List.getElem?_toArray]; exact hc i _ (List.getElem?_eq_getElem hi)
  have k1 := place_int W.drew b g room first D.length cs hS.drew i (by omega)
  have h0 := hS.c0
  generalize D[i] = X at *
  generalize (first + i) % room = P at *
  have hP0 : (0 : Int) ≤ (P : Int) := by omega
  have hP1 : (P : Int) < room := by omega
  have hi1 : (i : Int) < D.length := by omega
  go_enter Try.func19, Try.ntmps19
  go_wp2_with fail
  refine (len_ring W b g room D hD).mono ?_
  rintro e w' ⟨rfl, he⟩
  rw [he]
  go_wp2_with fail
  go_region_held3 (fun w' => w'.cell? ⟨b, 0, none⟩ = some (.slice (some ⟨g, 0, none⟩) room room) ∧ w'.cell? ⟨g, P, none⟩ = some (.int .i64 X)) (go_keep) ((go_at_call 33; refine k1.mono ?_; rintro e w' ⟨rfl, rfl⟩))
  all_goals go_wp2
  all_goals go_ret2
  all_goals exact ⟨rfl, rfl⟩
theorem at_ring (W : World) (b g room : Nat) (D : List Int) (h : RingD W b g room D) (i : Int) :
    Calls Try.prog 19 #[.pointer (some ⟨b, 0, none⟩), .int .i64 i] W fun e w' => e = .returned (.tuple #[.int .i64 (atV D i), .bool (atB D i)]) ∧ RingD w' b g room D ∧ Oth b g W w' := by
  by_cases hi : 0 ≤ i ∧ i < D.length
  · obtain ⟨k, rfl⟩ : ∃ k : Nat, i = k := ⟨i.toNat, by omega⟩
    have hk : k < D.length := by omega
    refine (at_in W b g room D h k hk).mono ?_
    rintro e w' ⟨rfl, rfl⟩
    refine ⟨?_, h.drew.drew, (Oth.refl b g W).drew.drew⟩
    have e1 : atV D (k : Int) = D[k] := by rw [atV, if_pos hi, Int.toNat_natCast, List.getElem?_eq_getElem hk]; rfl
    have e2 : atB D (k : Int) = true := decide_eq_true hi
    rw [e1, e2]
  · refine (at_out W b g room D h i hi).mono ?_
    rintro e w' ⟨rfl, he⟩
    rw [he]
    have e1 : atV D i = 0 := if_neg hi
    have e2 : atB D i = false := decide_eq_false hi
    rw [e1, e2]
    exact ⟨rfl, h, Oth.refl b g W⟩
theorem pop_nil (W : World) : Calls Try.prog 18 #[.pointer none] W fun e w' => e = .returned (.tuple #[.int .i64 0, .bool false]) ∧ w' = W := by
  go_enter Try.func18, Try.ntmps18
  go_wp2_with fail
  refine (len_nil W).mono ?_
  rintro e w' ⟨rfl, he⟩
  rw [he]
  go_wp2_with fail
  refine (at_nil W (-1)).mono ?_
  rintro e w' ⟨rfl, he⟩
  rw [he]
  go_wp2_with fail
  go_ret2
  exact ⟨rfl, rfl⟩
theorem pop_empty (W : World) (b g room : Nat) (h : RingD W b g room []) : Calls Try.prog 18 #[.pointer (some ⟨b, 0, none⟩)] W fun e w' => e = .returned (.tuple #[.int .i64 0, .bool false]) ∧ w' = W := by
  go_enter Try.func18, Try.ntmps18
  go_wp2_with fail
  refine (len_ring W b g room [] h).mono ?_
  rintro e w' ⟨rfl, he⟩
  rw [he]
  go_wp2_with fail
  refine (at_out W b g room [] h (-1) (by decide)).mono ?_
  rintro e w' ⟨rfl, he⟩
  rw [he]
  go_wp2_with fail
  go_ret2
  exact ⟨rfl, rfl⟩
theorem pop_full (W : World) (b g room : Nat) (D : List Int) (x : Int) (h : RingD W b g room (D ++ [x])) : Calls Try.prog 18 #[.pointer (some ⟨b, 0, none⟩)] W fun e w' => e = .returned (.tuple #[.int .i64 x, .bool true]) ∧ RingD w' b g room D ∧ Oth b g W w' := by
  have hat := at_in W b g room (D ++ [x]) h D.length (by simp)
  rw [show (D ++ [x])[D.length]'(by simp) = x from by simp] at hat
  have hD := h
  obtain ⟨first, cs, hS, hc⟩ := h
  rw [show (D ++ [x]).length = D.length + 1 from by simp] at hS
  have hroom := hS.n
  have hmost := hS.most
  have hf := hS.first
  have hll : (D ++ [x]).length = D.length + 1 := by simp
  have hp : (first + D.length) % room < room := Nat.mod_lt _ (by omega)
  have h0 := hS.c0
  have h1 := hS.c1
  have h2 := hS.c2
  have hfb := hS.fb 2
  have hcg := hS.cg _ hp
  have hfg := hS.fg ((first + D.length) % room)
  have hne : ¬ b = g := hS.ne
  have hne' : ¬ g = b := fun e => hS.ne e.symm
  have hS2 : RingS 77 3 (W.setCell ⟨b, 2, none⟩ (.int .i64 D.length)) b g room first D.length cs := hS.setN D.length (by omega) _ rfl
  have k1 := place_int _ b g room first D.length cs hS2.drew.drew.drew D.length (by omega)
  have hfin := fun P => (hS2.setG P (.int .i64 0))
  have s0 := hS2.c0
  have s2 := hS2.c2
  have sg := hS2.cg _ hp
  have sf := hS2.fg ((first + D.length) % room)
  generalize hPe : (first + D.length) % room = P at *
  generalize hc0 : cs[P]'(by rw [hS.len]; exact hp) = C0 at *
  have S0 := hideR s0
  have S2 := hideR s2
  have SG := hideR sg
  have SF := hideR sf
  clear s0 s2 sg sf
  have hP0 : (0 : Int) ≤ (P : Int) := by omega
  have hP1 : (P : Int) < room := by omega
  have k2 := none_int
  go_enter Try.func18, Try.ntmps18
  go_wp2_with fail
  refine (len_ring W b g room _ hD).mono ?_
  rintro e w' ⟨rfl, he⟩
  rw [he]
  clear he
  rw [hll]
  go_wp2_with fail
  refine hat.mono ?_
  rintro e w' ⟨rfl, he⟩
  rw [he]
  clear he
  go_wp2_with fail
  have s0 := S0.out
  have s2 := S2.out
  have sg := SG.out
  have sf := SF.out
  clear h0 h1 h2 hcg hfg
  go_region_held3 (fun w' => w'.cell? ⟨b, 0, none⟩ = some (.slice (some ⟨g, 0, none⟩) room room) ∧ w'.cell? ⟨b, 2, none⟩ = some (.int .i64 D.length)) (go_keep) (first | (go_at_call 33; refine k1.mono ?_; rintro e w' ⟨rfl, rfl⟩) | (go_at_call 32; refine (k2 _).mono ?_; rintro e w' ⟨rfl, he'⟩; rw [he']; clear he'))
  all_goals go_wp2
  all_goals go_ret2
  all_goals refine ⟨rfl, ⟨first, _, (hfin P).drew.drew.drew.drew, ?_⟩, (((Oth.refl b g W).set ⟨b, 2, none⟩ (.inl rfl) _).set ⟨g, P, none⟩ (.inr rfl) _).drew.drew.drew.drew⟩
  all_goals
    intro i y hy
    have hi : i < D.length := (List.getElem?_eq_some_iff.1 hy).1
    rw [List.getElem?_set_ne (by rw [← hPe, modform hf (by omega), modform hf (by omega)]; split <;> split <;> omega)]
    exact hc i y (by rw [List.getElem?_append_left hi]; exact hy)
end Go.Proofs.Ytcaffmkghllmgaa.Cl
