/- The Go law CellGrids: its walk. -/
import Derived.Test.YtcaffmkghllmgaaCellAwake
import Derived.Test.YtcaffmkghllmgaaCellOwnW
import Derived.Test.YtcaffmkghllmgaaOpenElems
import Derived.BigQuiet
import Derived.Test.YtcaffmkghllmgaaCellRef
namespace Go.Proofs.Ytcaffmkghllmgaa.cellGrids
open Go.RowKit Go.Deep Go.Proofs.Ytcaffmkghllmgaa.Cl Go.Proofs.Ytcaffmkghllmgaa.cellOwn
set_option linter.unusedVariables false
set_option linter.unusedSimpArgs false

abbrev Dt := Int × Int × Int
def dcs (L : List Dt) : List Value := L.flatMap fun p => [.int .i64 p.1, .int .i64 p.2.1, .int .i64 p.2.2]
theorem dcs_at (R : List Dt) (i : Nat) (h : i < R.length) : (dcs R)[i * 3]? = some (.int .i64 R[i].1) ∧ (dcs R)[i * 3 + 1]? = some (.int .i64 R[i].2.1) ∧ (dcs R)[i * 3 + 2]? = some (.int .i64 R[i].2.2) := by
  induction R generalizing i with
  | nil => simp at h
  | cons p t ih =>
    cases i with
    | zero => simp [dcs]
    | succ i =>
      have := ih i (by simpa using h)
      rw [show (i + 1) * 3 = i * 3 + 3 from by omega]
      simpa [dcs] using this
/-- What stands at a place behind these dots. -/
def look (l : List Dt) (x y : Int) : Int := l.foldl (fun a p => if p.1 = x ∧ p.2.1 = y then p.2.2 else a) 7
theorem look_snoc (l : List Dt) (p : Dt) (x y : Int) : look (l ++ [p]) x y = if p.1 = x ∧ p.2.1 = y then p.2.2 else look l x y := by simp [look]
theorem look_take (l : List Dt) (k : Nat) (h : k < l.length) (x y : Int) : look (l.take (k + 1)) x y = if l[k].1 = x ∧ l[k].2.1 = y then l[k].2.2 else look (l.take k) x y := by
  rw [List.take_succ_eq_append_getElem h, look_snoc]
/-- The grid's things are what was set last. -/
def MOk (M : List (List Int)) (n h : Nat) (l : List Dt) : Prop := ∀ y, y < h → ∃ row, M[y]? = some row ∧ row.length = n ∧ ∀ x, x < n → row[x]? = some (look l x y)
theorem MOk.zero (n h : Nat) : MOk (List.replicate h (List.replicate n 7)) n h [] := fun y hy =>
  ⟨List.replicate n 7, by rw [List.getElem?_replicate, if_pos hy], by simp, fun x hx => by rw [List.getElem?_replicate, if_pos hx]; rfl⟩
theorem MOk.out {M : List (List Int)} {n h : Nat} {l : List Dt} (hM : MOk M n h l) (p : Dt) (hp : ¬ (0 ≤ p.1 ∧ p.1 < n ∧ 0 ≤ p.2.1 ∧ p.2.1 < h)) : MOk M n h (l ++ [p]) := fun y hy => by
  obtain ⟨row, h1, h2, h3⟩ := hM y hy
  refine ⟨row, h1, h2, fun x hx => ?_⟩
  rw [look_snoc, if_neg (fun e => hp (by omega))]
  exact h3 x hx
theorem MOk.set {M : List (List Int)} {n h : Nat} {l : List Dt} (hM : MOk M n h l) (hl : M.length = h) (x y : Nat) (v : Int) (hx : x < n) (hy : y < h) : MOk (setM M y x v) n h (l ++ [((x : Int), (y : Int), v)]) := fun y' hy' => by
  obtain ⟨row, h1, h2, h3⟩ := hM y' hy'
  unfold setM
  by_cases e : y' = y
  · subst e
    refine ⟨row.set x v, ?_, by simpa using h2, fun x' hx' => ?_⟩
    · rw [List.getElem?_set_self (by omega), h1]; rfl
    · rw [look_snoc]
      by_cases ex : x' = x
      · subst ex
        rw [List.getElem?_set_self (by omega), if_pos ⟨rfl, rfl⟩]
      · rw [List.getElem?_set_ne (fun h => ex h.symm), if_neg (fun h => ex (by have := h.1; simp only at this; omega))]
        exact h3 x' hx'
  · refine ⟨row, ?_, h2, fun x' hx' => ?_⟩
    · rw [List.getElem?_set_ne (fun h => e h.symm)]; exact h1
    · rw [look_snoc, if_neg (fun h => e (by have := h.2; simp only at this; omega))]
      exact h3 x' hx'

theorem newgrid_nil (w : World) (n h fill : Int) (hb : n < 1 ∨ h < 1 ∨ 1024 < n ∨ 1024 < h) : Calls Try.prog 22 #[.int .i64 n, .int .i64 h, .int .i64 fill] w fun e w' => e = .returned (.pointer none) ∧ w' = w := by
  by_cases h1 : n < 1
  · clear hb
    go_enter Try.func22, Try.ntmps22
    go_wp2_with fail
    go_ret
    exact ⟨rfl, rfl⟩
  by_cases h2 : h < 1
  · clear hb
    go_enter Try.func22, Try.ntmps22
    go_wp2_with fail
    go_ret
    exact ⟨rfl, rfl⟩
  by_cases h3 : 1024 < n
  · clear hb
    go_enter Try.func22, Try.ntmps22
    go_wp2_with fail
    go_ret
    exact ⟨rfl, rfl⟩
  · have h4 : 1024 < h := by omega
    clear hb
    go_enter Try.func22, Try.ntmps22
    go_wp2_with fail
    go_ret
    exact ⟨rfl, rfl⟩

theorem dots_key (w h : Int) (P : Prop) (h1 : w < 1 → P) (h2 : ¬ w < 1 → h < 1 → P) (h3 : ¬ w < 1 → ¬ h < 1 → 1024 < w → P) (h4 : ¬ w < 1 → ¬ h < 1 → ¬ 1024 < w → 1024 < h → P) (hb : w < 1 ∨ h < 1 ∨ 1024 < w ∨ 1024 < h) : P := by
  by_cases a : w < 1
  · exact h1 a
  by_cases b : h < 1
  · exact h2 a b
  by_cases c : 1024 < w
  · exact h3 a b c
  · exact h4 a b c (by rcases hb with h | h | h | h; exact absurd h a; exact absurd h b; exact absurd h c; exact h)

set_option maxRecDepth 1000000 in
set_option maxHeartbeats 800000 in
theorem cellGrids_bad (w h : Int) (va : Value) (L : List Dt) (W : World) (hb : w < 1 ∨ h < 1 ∨ 1024 < w ∨ 1024 < h) (hx : Lies W 3 va L.length (dcs L)) :
    Calls Try.prog 7 #[.int .i64 w, .int .i64 h, va] W fun e W' => e = .returned (.bool true) ∧ Below W.heap.size W W' := by
  obtain ⟨_, ao, cap, rfl, _, _⟩ := hx
  have hnew := newgrid_nil W w h 7 hb
  by_cases g1 : (100 : Int) < L.length
  · go_enter Try.func7, Try.ntmps7
    go_wp2_with fail
    go_ret
    exact ⟨rfl, Below.refl _ _⟩
  by_cases g2 : 60 < w ∧ w ≤ 1024
  · obtain ⟨g21, g22⟩ := g2
    go_enter Try.func7, Try.ntmps7
    go_wp2_with fail
    go_ret
    exact ⟨rfl, Below.refl _ _⟩
  by_cases g3 : 60 < h ∧ h ≤ 1024
  · obtain ⟨g31, g32⟩ := g3
    by_cases g4 : 60 < w
    · have g5 : ¬ w ≤ 1024 := fun e => g2 ⟨g4, e⟩
      clear g2
      go_enter Try.func7, Try.ntmps7
      go_wp2_with fail
      go_ret
      exact ⟨rfl, Below.refl _ _⟩
    · clear g2
      go_enter Try.func7, Try.ntmps7
      go_wp2_with fail
      go_ret
      exact ⟨rfl, Below.refl _ _⟩
  have key := fun P h1 h2 h3 h4 => dots_key w h P h1 h2 h3 h4 hb
  clear hb
  refine key _ (fun k1 => ?_) (fun k1 k2 => ?_) (fun k1 k2 k3 => ?_) (fun k1 k2 k3 k4 => ?_)
  all_goals clear key
  · have q1 : ¬ 60 < w := by omega
    have q3 : ¬ 60 < h ∨ ¬ h ≤ 1024 := by omega
    clear g2 g3
    rcases q3 with q3 | q3
    · go_enter Try.func7, Try.ntmps7
      go_wp2_with fail
      refine hnew.mono ?_
      rintro e w' ⟨rfl, he⟩
      rw [he]
      clear he
      go_wp2_with fail
      refine (size_nil W).mono ?_
      rintro e w' ⟨rfl, he⟩
      rw [he]
      clear he
      go_wp2_with fail
      refine (get_nil W 0 0).mono ?_
      rintro e w' ⟨rfl, he⟩
      rw [he]
      clear he
      go_wp2_with fail
      refine (set_nil W 0 0 1).mono ?_
      rintro e w' ⟨rfl, he⟩
      rw [he]
      clear he
      go_wp2_with fail
      refine (row_nil W 0).mono ?_
      rintro e w' ⟨rfl, he⟩
      rw [he]
      clear he
      go_wp2_with fail
      refine (awake_any W).mono ?_
      rintro e w9 ⟨rfl, hb9⟩
      go_wp2_with fail
      go_ret
      exact ⟨rfl, hb9⟩
    · go_enter Try.func7, Try.ntmps7
      go_wp2_with fail
      refine hnew.mono ?_
      rintro e w' ⟨rfl, he⟩
      rw [he]
      clear he
      go_wp2_with fail
      refine (size_nil W).mono ?_
      rintro e w' ⟨rfl, he⟩
      rw [he]
      clear he
      go_wp2_with fail
      refine (get_nil W 0 0).mono ?_
      rintro e w' ⟨rfl, he⟩
      rw [he]
      clear he
      go_wp2_with fail
      refine (set_nil W 0 0 1).mono ?_
      rintro e w' ⟨rfl, he⟩
      rw [he]
      clear he
      go_wp2_with fail
      refine (row_nil W 0).mono ?_
      rintro e w' ⟨rfl, he⟩
      rw [he]
      clear he
      go_wp2_with fail
      refine (awake_any W).mono ?_
      rintro e w9 ⟨rfl, hb9⟩
      go_wp2_with fail
      go_ret
      exact ⟨rfl, hb9⟩
  · have q1 : ¬ 60 < h := by omega
    have q3 : ¬ 60 < w ∨ ¬ w ≤ 1024 := by omega
    clear g2 g3
    rcases q3 with q3 | q3
    · go_enter Try.func7, Try.ntmps7
      go_wp2_with fail
      refine hnew.mono ?_
      rintro e w' ⟨rfl, he⟩
      rw [he]
      clear he
      go_wp2_with fail
      refine (size_nil W).mono ?_
      rintro e w' ⟨rfl, he⟩
      rw [he]
      clear he
      go_wp2_with fail
      refine (get_nil W 0 0).mono ?_
      rintro e w' ⟨rfl, he⟩
      rw [he]
      clear he
      go_wp2_with fail
      refine (set_nil W 0 0 1).mono ?_
      rintro e w' ⟨rfl, he⟩
      rw [he]
      clear he
      go_wp2_with fail
      refine (row_nil W 0).mono ?_
      rintro e w' ⟨rfl, he⟩
      rw [he]
      clear he
      go_wp2_with fail
      refine (awake_any W).mono ?_
      rintro e w9 ⟨rfl, hb9⟩
      go_wp2_with fail
      go_ret
      exact ⟨rfl, hb9⟩
    · go_enter Try.func7, Try.ntmps7
      go_wp2_with fail
      refine hnew.mono ?_
      rintro e w' ⟨rfl, he⟩
      rw [he]
      clear he
      go_wp2_with fail
      refine (size_nil W).mono ?_
      rintro e w' ⟨rfl, he⟩
      rw [he]
      clear he
      go_wp2_with fail
      refine (get_nil W 0 0).mono ?_
      rintro e w' ⟨rfl, he⟩
      rw [he]
      clear he
      go_wp2_with fail
      refine (set_nil W 0 0 1).mono ?_
      rintro e w' ⟨rfl, he⟩
      rw [he]
      clear he
      go_wp2_with fail
      refine (row_nil W 0).mono ?_
      rintro e w' ⟨rfl, he⟩
      rw [he]
      clear he
      go_wp2_with fail
      refine (awake_any W).mono ?_
      rintro e w9 ⟨rfl, hb9⟩
      go_wp2_with fail
      go_ret
      exact ⟨rfl, hb9⟩
  · have q1 : ¬ w ≤ 1024 := by omega
    have q3 : ¬ 60 < h ∨ ¬ h ≤ 1024 := by omega
    clear g2 g3
    rcases q3 with q3 | q3
    · go_enter Try.func7, Try.ntmps7
      go_wp2_with fail
      refine hnew.mono ?_
      rintro e w' ⟨rfl, he⟩
      rw [he]
      clear he
      go_wp2_with fail
      refine (size_nil W).mono ?_
      rintro e w' ⟨rfl, he⟩
      rw [he]
      clear he
      go_wp2_with fail
      refine (get_nil W 0 0).mono ?_
      rintro e w' ⟨rfl, he⟩
      rw [he]
      clear he
      go_wp2_with fail
      refine (set_nil W 0 0 1).mono ?_
      rintro e w' ⟨rfl, he⟩
      rw [he]
      clear he
      go_wp2_with fail
      refine (row_nil W 0).mono ?_
      rintro e w' ⟨rfl, he⟩
      rw [he]
      clear he
      go_wp2_with fail
      refine (awake_any W).mono ?_
      rintro e w9 ⟨rfl, hb9⟩
      go_wp2_with fail
      go_ret
      exact ⟨rfl, hb9⟩
    · go_enter Try.func7, Try.ntmps7
      go_wp2_with fail
      refine hnew.mono ?_
      rintro e w' ⟨rfl, he⟩
      rw [he]
      clear he
      go_wp2_with fail
      refine (size_nil W).mono ?_
      rintro e w' ⟨rfl, he⟩
      rw [he]
      clear he
      go_wp2_with fail
      refine (get_nil W 0 0).mono ?_
      rintro e w' ⟨rfl, he⟩
      rw [he]
      clear he
      go_wp2_with fail
      refine (set_nil W 0 0 1).mono ?_
      rintro e w' ⟨rfl, he⟩
      rw [he]
      clear he
      go_wp2_with fail
      refine (row_nil W 0).mono ?_
      rintro e w' ⟨rfl, he⟩
      rw [he]
      clear he
      go_wp2_with fail
      refine (awake_any W).mono ?_
      rintro e w9 ⟨rfl, hb9⟩
      go_wp2_with fail
      go_ret
      exact ⟨rfl, hb9⟩
  · have q1 : ¬ h ≤ 1024 := by omega
    have q5 : decide (h ≤ 1024) = false := decide_eq_false q1
    have q3 : ¬ 60 < w := by omega
    clear g2 g3
    go_enter Try.func7, Try.ntmps7
    go_wp2_with fail
    refine hnew.mono ?_
    rintro e w' ⟨rfl, he⟩
    rw [he]
    clear he
    go_wp2_with fail
    refine (size_nil W).mono ?_
    rintro e w' ⟨rfl, he⟩
    rw [he]
    clear he
    go_wp2_with fail
    refine (get_nil W 0 0).mono ?_
    rintro e w' ⟨rfl, he⟩
    rw [he]
    clear he
    go_wp2_with fail
    refine (set_nil W 0 0 1).mono ?_
    rintro e w' ⟨rfl, he⟩
    rw [he]
    clear he
    go_wp2_with fail
    refine (row_nil W 0).mono ?_
    rintro e w' ⟨rfl, he⟩
    rw [he]
    clear he
    go_wp2_with fail
    refine (awake_any W).mono ?_
    rintro e w9 ⟨rfl, hb9⟩
    go_wp2_with fail
    go_ret
    exact ⟨rfl, hb9⟩

inductive Side (n : Nat) (x : Int) : Prop
  | lo (h : x < 0)
  | mid (k : Nat) (h : x = k) (hk : k < n)
  | hi (h : 0 ≤ x) (h' : (n : Int) ≤ x)
theorem side (n : Nat) (x : Int) : Side n x := by
  by_cases h : x < 0
  · exact .lo h
  by_cases h' : (n : Int) ≤ x
  · exact .hi (by omega) h'
  · exact .mid x.toNat (by omega) (by omega)

set_option maxRecDepth 1000000 in
set_option maxHeartbeats 100000000 in
theorem cellGrids_good (n h : Nat) (va : Value) (L : List Dt) (W : World) (n0 : 1 ≤ n) (n1 : n ≤ 60) (h0 : 1 ≤ h) (h1 : h ≤ 60) (hx : Lies W 3 va L.length (dcs L)) :
    Calls Try.prog 7 #[.int .i64 n, .int .i64 h, va] W fun e W' => e = .returned (.bool true) ∧ Below W.heap.size W W' := by
  obtain ⟨_, ao, cap, rfl, _, hcs⟩ := hx
  by_cases g1 : (100 : Int) < L.length
  · go_enter Try.func7, Try.ntmps7
    go_wp2_with fail
    go_ret
    exact ⟨rfl, Below.refl _ _⟩
  have hLl : L.length ≤ 100 := by omega
  have a1 : ¬ (60 : Int) < n := by omega
  have a2 : ¬ (60 : Int) < h := by omega
  have a3 : (1 : Int) ≤ n := by omega
  have a4 : (1 : Int) ≤ h := by omega
  have a5 : (n : Int) ≤ 1024 := by omega
  have a6 : (h : Int) ≤ 1024 := by omega
  go_enter Try.func7, Try.ntmps7
  go_wp2_with fail
  refine (newgrid_int W n h 7 n0 (by omega) h0 (by omega)).mono ?_
  rintro e w1 ⟨gr, capr, rs, rfl, hrl, hg1, hgr1, hb1⟩
  have hM1 := MOk.zero n h
  have hML1 := hg1.len
  generalize List.replicate h (List.replicate n (7 : Int)) = M1 at *
  have hsz := size_in w1 _ _ _ _ _ _ _ hg1 (by omega)
  rw [hrl] at hsz
  have hgd := hg1.drew
  clear hg1
  go_wp2_with fail
  refine hsz.mono ?_
  rintro e w2 ⟨rfl, rfl⟩
  clear hsz
  have hb2 := hb1.drew
  clear hb1
  go_wp2
  go_loopw [13] (fun i wr => ∃ (k : Nat) (M : List (List Int)), k ≤ L.length ∧ i = .int .i64 k ∧ GridS wr W.heap.size W.heap.size gr capr n rs M ∧ M.length = h ∧ MOk M n h (L.take k) ∧ Below W.heap.size W wr) (fun i _ => L.length - (intOf i).toNat)
  case atStart => exact ⟨0, M1, Nat.zero_le _, rfl, hgd, by omega, by simpa using hM1, hb2⟩
  case round =>
    obtain ⟨k, M, hk, rfl, hg, hML, hMO, hnx⟩ := hrel
    clear hgd hM1 hML1 hb2
    by_cases hkl : k < L.length
    · obtain ⟨b, off, rfl, hb, hc⟩ := hcs.resolve_left (by omega)
      have hat := dcs_at L k hkl
      have c0 : wr.cell? ⟨b, off + k * 3, none⟩ = some (.int .i64 L[k].1) := (hnx.cell hb).trans (hc _ _ hat.1)
      have c1 : wr.cell? ⟨b, off + k * 3 + 1, none⟩ = some (.int .i64 L[k].2.1) := (hnx.cell hb).trans (hc (k * 3 + 1) _ hat.2.1)
      have c2 : wr.cell? ⟨b, off + k * 3 + 2, none⟩ = some (.int .i64 L[k].2.2) := (hnx.cell hb).trans (hc (k * 3 + 2) _ hat.2.2)
      have hk0 : (0 : Int) ≤ (k : Int) := by omega
      have hk1 : (k : Int) < L.length := by omega
      have htk : L.take (k + 1) = L.take k ++ [L[k]] := List.take_succ_eq_append_getElem hkl
      obtain ⟨X, Y, V, hD⟩ : ∃ X Y V, L[k] = (X, Y, V) := ⟨_, _, _, rfl⟩
      rw [hD] at htk c0 c1 c2
      simp only at c0 c1 c2
      have hgd := hg.drew
      have kout := fun hh => set_out wr.drew _ _ _ _ _ _ _ hgd X Y V hh
      have kin := fun (x y : Nat) (hx : x < n) (hy : y < h) => set_in wr.drew _ _ _ _ _ _ _ hgd x y V hx (by omega)
      rw [hrl] at kout
      have HMO := hideR hMO
      have HG := hideR hgd
      clear hMO hg hgd hat hc hcs hD
      rcases side n X with hX | ⟨x, rfl, hx⟩ | ⟨hX0, hX⟩ <;> rcases side h Y with hY | ⟨y, rfl, hy⟩ | ⟨hY0, hY⟩
      · as_aux_lemma =>
        have hh : ¬ (0 ≤ X ∧ X < (n : Int) ∧ 0 ≤ Y ∧ Y < (h : Int)) := by omega
        have hset := kout hh
        have hMn := HMO.out.out (X, Y, V) hh
        rw [← htk] at hMn
        have HMn := hideR hMn
        clear kout kin htk hMn hh
        go_wp2_with fail
        go_region_held3 (fun w' => w'.cell? ⟨b, off + k * 3, none⟩ = some (.int .i64 X) ∧ w'.cell? ⟨b, off + k * 3 + 1, none⟩ = some (.int .i64 Y) ∧ w'.cell? ⟨b, off + k * 3 + 2, none⟩ = some (.int .i64 V)) (go_keep) ((go_at_call 25; refine hset.mono ?_; rintro e w' ⟨rfl, he⟩; rw [he]; clear he))
        all_goals go_wp2
        all_goals go_roundw
        all_goals first
          | (show _ < _; simp [intOf]; omega)
          | exact ⟨k + 1, M, hkl, by go_num, HG.out, hML, HMn.out, hnx.drew⟩
      · as_aux_lemma =>
        have hh : ¬ (0 ≤ X ∧ X < (n : Int) ∧ 0 ≤ (y : Int) ∧ (y : Int) < (h : Int)) := by omega
        have hset := kout hh
        have hMn := HMO.out.out (X, (y : Int), V) hh
        rw [← htk] at hMn
        have HMn := hideR hMn
        have hy0 : (0 : Int) ≤ (y : Int) := by omega
        have hy1 : (y : Int) < h := by omega
        clear kout kin htk hMn hh
        go_wp2_with fail
        go_region_held3 (fun w' => w'.cell? ⟨b, off + k * 3, none⟩ = some (.int .i64 X) ∧ w'.cell? ⟨b, off + k * 3 + 1, none⟩ = some (.int .i64 (y : Int)) ∧ w'.cell? ⟨b, off + k * 3 + 2, none⟩ = some (.int .i64 V)) (go_keep) ((go_at_call 25; refine hset.mono ?_; rintro e w' ⟨rfl, he⟩; rw [he]; clear he))
        all_goals go_wp2
        all_goals go_roundw
        all_goals first
          | (show _ < _; simp [intOf]; omega)
          | exact ⟨k + 1, M, hkl, by go_num, HG.out, hML, HMn.out, hnx.drew⟩
      · as_aux_lemma =>
        have hh : ¬ (0 ≤ X ∧ X < (n : Int) ∧ 0 ≤ Y ∧ Y < (h : Int)) := by omega
        have hset := kout hh
        have hMn := HMO.out.out (X, Y, V) hh
        rw [← htk] at hMn
        have HMn := hideR hMn
        have hy2 : ¬ Y < (h : Int) := by omega
        clear kout kin htk hMn hh
        go_wp2_with fail
        go_region_held3 (fun w' => w'.cell? ⟨b, off + k * 3, none⟩ = some (.int .i64 X) ∧ w'.cell? ⟨b, off + k * 3 + 1, none⟩ = some (.int .i64 Y) ∧ w'.cell? ⟨b, off + k * 3 + 2, none⟩ = some (.int .i64 V)) (go_keep) ((go_at_call 25; refine hset.mono ?_; rintro e w' ⟨rfl, he⟩; rw [he]; clear he))
        all_goals go_wp2
        all_goals go_roundw
        all_goals first
          | (show _ < _; simp [intOf]; omega)
          | exact ⟨k + 1, M, hkl, by go_num, HG.out, hML, HMn.out, hnx.drew⟩
      · as_aux_lemma =>
        have hh : ¬ (0 ≤ (x : Int) ∧ (x : Int) < (n : Int) ∧ 0 ≤ Y ∧ Y < (h : Int)) := by omega
        have hset := kout hh
        have hMn := HMO.out.out ((x : Int), Y, V) hh
        rw [← htk] at hMn
        have HMn := hideR hMn
        have hx0 : (0 : Int) ≤ (x : Int) := by omega
        have hx1 : (x : Int) < n := by omega
        clear kout kin htk hMn hh
        go_wp2_with fail
        go_region_held3 (fun w' => w'.cell? ⟨b, off + k * 3, none⟩ = some (.int .i64 (x : Int)) ∧ w'.cell? ⟨b, off + k * 3 + 1, none⟩ = some (.int .i64 Y) ∧ w'.cell? ⟨b, off + k * 3 + 2, none⟩ = some (.int .i64 V)) (go_keep) ((go_at_call 25; refine hset.mono ?_; rintro e w' ⟨rfl, he⟩; rw [he]; clear he))
        all_goals go_wp2
        all_goals go_roundw
        all_goals first
          | (show _ < _; simp [intOf]; omega)
          | exact ⟨k + 1, M, hkl, by go_num, HG.out, hML, HMn.out, hnx.drew⟩
      · as_aux_lemma =>
        have hset := kin x y hx hy
        have hMn := HMO.out.set hML x y V hx hy
        rw [← htk] at hMn
        have HMn := hideR hMn
        have hMLn : (setM M y x V).length = h := by simp [setM, hML]
        have hx0 : (0 : Int) ≤ (x : Int) := by omega
        have hx1 : (x : Int) < n := by omega
        have hy0 : (0 : Int) ≤ (y : Int) := by omega
        have hy1 : (y : Int) < h := by omega
        have hrb := (HG.out.above rs[y] (List.getElem_mem (by omega))).1
        have hbr : ¬ b = rs[y] := by omega
        have hrb' : ¬ rs[y] = b := by omega
        generalize rs[y]'(by omega) = r at *
        clear kout kin htk hMn
        go_wp2_with fail
        go_region_held3 (fun w' => w'.cell? ⟨b, off + k * 3, none⟩ = some (.int .i64 x) ∧ w'.cell? ⟨b, off + k * 3 + 1, none⟩ = some (.int .i64 y) ∧ w'.cell? ⟨b, off + k * 3 + 2, none⟩ = some (.int .i64 V)) (go_keep) ((go_at_call 25; refine hset.mono ?_; rintro e w' ⟨rfl, hgs, he⟩; have HGS := hideR hgs; clear hgs; subst he))
        all_goals go_wp2
        all_goals go_roundw
        all_goals first
          | (show _ < _; simp [intOf]; omega)
          | exact ⟨k + 1, setM M y x V, hkl, by go_num, HGS.out, hMLn, HMn.out, hnx.drew.setCell hrb _⟩
      · as_aux_lemma =>
        have hh : ¬ (0 ≤ (x : Int) ∧ (x : Int) < (n : Int) ∧ 0 ≤ Y ∧ Y < (h : Int)) := by omega
        have hset := kout hh
        have hMn := HMO.out.out ((x : Int), Y, V) hh
        rw [← htk] at hMn
        have HMn := hideR hMn
        have hx0 : (0 : Int) ≤ (x : Int) := by omega
        have hx1 : (x : Int) < n := by omega
        have hy2 : ¬ Y < (h : Int) := by omega
        clear kout kin htk hMn hh
        go_wp2_with fail
        go_region_held3 (fun w' => w'.cell? ⟨b, off + k * 3, none⟩ = some (.int .i64 (x : Int)) ∧ w'.cell? ⟨b, off + k * 3 + 1, none⟩ = some (.int .i64 Y) ∧ w'.cell? ⟨b, off + k * 3 + 2, none⟩ = some (.int .i64 V)) (go_keep) ((go_at_call 25; refine hset.mono ?_; rintro e w' ⟨rfl, he⟩; rw [he]; clear he))
        all_goals go_wp2
        all_goals go_roundw
        all_goals first
          | (show _ < _; simp [intOf]; omega)
          | exact ⟨k + 1, M, hkl, by go_num, HG.out, hML, HMn.out, hnx.drew⟩
      · as_aux_lemma =>
        have hh : ¬ (0 ≤ X ∧ X < (n : Int) ∧ 0 ≤ Y ∧ Y < (h : Int)) := by omega
        have hset := kout hh
        have hMn := HMO.out.out (X, Y, V) hh
        rw [← htk] at hMn
        have HMn := hideR hMn
        have hx2 : ¬ X < (n : Int) := by omega
        clear kout kin htk hMn hh
        go_wp2_with fail
        go_region_held3 (fun w' => w'.cell? ⟨b, off + k * 3, none⟩ = some (.int .i64 X) ∧ w'.cell? ⟨b, off + k * 3 + 1, none⟩ = some (.int .i64 Y) ∧ w'.cell? ⟨b, off + k * 3 + 2, none⟩ = some (.int .i64 V)) (go_keep) ((go_at_call 25; refine hset.mono ?_; rintro e w' ⟨rfl, he⟩; rw [he]; clear he))
        all_goals go_wp2
        all_goals go_roundw
        all_goals first
          | (show _ < _; simp [intOf]; omega)
          | exact ⟨k + 1, M, hkl, by go_num, HG.out, hML, HMn.out, hnx.drew⟩
      · as_aux_lemma =>
        have hh : ¬ (0 ≤ X ∧ X < (n : Int) ∧ 0 ≤ (y : Int) ∧ (y : Int) < (h : Int)) := by omega
        have hset := kout hh
        have hMn := HMO.out.out (X, (y : Int), V) hh
        rw [← htk] at hMn
        have HMn := hideR hMn
        have hx2 : ¬ X < (n : Int) := by omega
        have hy0 : (0 : Int) ≤ (y : Int) := by omega
        have hy1 : (y : Int) < h := by omega
        clear kout kin htk hMn hh
        go_wp2_with fail
        go_region_held3 (fun w' => w'.cell? ⟨b, off + k * 3, none⟩ = some (.int .i64 X) ∧ w'.cell? ⟨b, off + k * 3 + 1, none⟩ = some (.int .i64 (y : Int)) ∧ w'.cell? ⟨b, off + k * 3 + 2, none⟩ = some (.int .i64 V)) (go_keep) ((go_at_call 25; refine hset.mono ?_; rintro e w' ⟨rfl, he⟩; rw [he]; clear he))
        all_goals go_wp2
        all_goals go_roundw
        all_goals first
          | (show _ < _; simp [intOf]; omega)
          | exact ⟨k + 1, M, hkl, by go_num, HG.out, hML, HMn.out, hnx.drew⟩
      · as_aux_lemma =>
        have hh : ¬ (0 ≤ X ∧ X < (n : Int) ∧ 0 ≤ Y ∧ Y < (h : Int)) := by omega
        have hset := kout hh
        have hMn := HMO.out.out (X, Y, V) hh
        rw [← htk] at hMn
        have HMn := hideR hMn
        have hx2 : ¬ X < (n : Int) := by omega
        have hy2 : ¬ Y < (h : Int) := by omega
        clear kout kin htk hMn hh
        go_wp2_with fail
        go_region_held3 (fun w' => w'.cell? ⟨b, off + k * 3, none⟩ = some (.int .i64 X) ∧ w'.cell? ⟨b, off + k * 3 + 1, none⟩ = some (.int .i64 Y) ∧ w'.cell? ⟨b, off + k * 3 + 2, none⟩ = some (.int .i64 V)) (go_keep) ((go_at_call 25; refine hset.mono ?_; rintro e w' ⟨rfl, he⟩; rw [he]; clear he))
        all_goals go_wp2
        all_goals go_roundw
        all_goals first
          | (show _ < _; simp [intOf]; omega)
          | exact ⟨k + 1, M, hkl, by go_num, HG.out, hML, HMn.out, hnx.drew⟩
    · obtain rfl : k = L.length := by omega
      rw [List.take_length] at hMO
      have HMO := hideR hMO
      clear hMO
      go_wp2
      go_loopw [16] (fun i wq => ∃ i' : Nat, i' ≤ L.length ∧ i = .int .i64 i' ∧ GridS wq W.heap.size W.heap.size gr capr n rs M ∧ Below W.heap.size W wq) (fun i _ => L.length - (intOf i).toNat)
      case atStart => exact ⟨0, Nat.zero_le _, rfl, hg, hnx⟩
      case round =>
        obtain ⟨i, hi, rfl, hgq, hnq⟩ := hrel
        by_cases hil : i < L.length
        · obtain ⟨b, off, rfl, hb, hc⟩ := hcs.resolve_left (by omega)
          have hat := dcs_at L i hil
          have c0 : wr.cell? ⟨b, off + i * 3, none⟩ = some (.int .i64 L[i].1) := (hnq.cell hb).trans (hc _ _ hat.1)
          have c1 : wr.cell? ⟨b, off + i * 3 + 1, none⟩ = some (.int .i64 L[i].2.1) := (hnq.cell hb).trans (hc (i * 3 + 1) _ hat.2.1)
          have hi0 : (0 : Int) ≤ (i : Int) := by omega
          have hi1 : (i : Int) < L.length := by omega
          have hgd := hgq.drew
          have gout := fun X Y hh => get_out wr.drew _ _ _ _ _ _ _ hgd X Y hh
          have gin := fun (x y : Nat) (hx : x < n) (hy : y < h) v row hM hv => get_in wr.drew _ _ _ _ _ _ _ hgd x y hx (by omega) v row hM hv
          have rout := fun Y hh => row_out wr.drew _ _ _ _ _ _ _ hgd Y hh
          have rin := fun (y : Nat) (hy : y < h) row hM => row_in wr.drew _ _ _ _ _ _ _ hgd y (by omega) (by omega) (by omega) row hM
          rw [hrl] at gout rout
          have HG := hideR hgd
          have HC := hideR hc
          have hsq := hnq.size
          have HI := hideR (And.intro hat.1 hat.2.1)
          generalize L[i].1 = X at *
          generalize L[i].2.1 = Y at *
          clear hgq hgd hat hc hcs
          rcases side n X with hX | ⟨x, rfl, hx⟩ | ⟨hX0, hX⟩ <;> rcases side h Y with hY | ⟨y, rfl, hy⟩ | ⟨hY0, hY⟩
          · as_aux_lemma =>
            have hyy : ¬ (0 ≤ Y ∧ Y < (h : Int)) := by omega
            have krow := rout Y hyy
            clear hyy
            have hh : ¬ (0 ≤ X ∧ X < (n : Int) ∧ 0 ≤ Y ∧ Y < (h : Int)) := by omega
            have kget := gout X Y hh
            clear hh
            clear gout gin rout rin
            go_wp2_with fail
            go_region_held3 (fun w' => w'.cell? ⟨b, off + i * 3, none⟩ = some (.int .i64 X) ∧ w'.cell? ⟨b, off + i * 3 + 1, none⟩ = some (.int .i64 Y)) (go_keep) ((go_at_call 24; refine kget.mono ?_; rintro e w' ⟨rfl, he⟩; rw [he]; clear he))
            go_wp2_with fail
            refine krow.mono ?_
            rintro e wz ⟨rfl, he⟩
            have hbz : Below W.heap.size W wz := by rw [he]; exact hnq.drew
            have HGZ : Hid (GridS wz W.heap.size W.heap.size gr capr n rs M) := by rw [he]; exact HG.out
            clear he krow kget
            have z0 : wz.cell? ⟨b, off + i * 3, none⟩ = some (.int .i64 X) := (hbz.cell hb).trans (HC.out _ _ HI.out.1)
            have z1 : wz.cell? ⟨b, off + i * 3 + 1, none⟩ = some (.int .i64 Y) := (hbz.cell hb).trans (HC.out (i * 3 + 1) _ HI.out.2)
            go_wp2
            go_loopw [21, 22] (fun wv j wz' => ∃ j' : Nat, j' ≤ L.length ∧ j = .int .i64 j' ∧ wv = .int .i64 (look (L.take j') X Y) ∧ Below wz.heap.size wz wz') (fun _ j _ => L.length - (intOf j).toNat)
            case atStart => exact ⟨0, Nat.zero_le _, rfl, rfl, Below.refl _ _⟩
            case round =>
              obtain ⟨j, hj, rfl, rfl, hnz⟩ := hrel
              have hnW := hbz.trans (hnz.mono hbz.size)
              have d0 : wr.cell? ⟨b, off + i * 3, none⟩ = some (.int .i64 X) := (hnW.cell hb).trans (HC.out _ _ HI.out.1)
              have d1 : wr.cell? ⟨b, off + i * 3 + 1, none⟩ = some (.int .i64 Y) := (hnW.cell hb).trans (HC.out (i * 3 + 1) _ HI.out.2)
              by_cases hjl : j < L.length
              · have hat := dcs_at L j hjl
                have e0 : wr.cell? ⟨b, off + j * 3, none⟩ = some (.int .i64 L[j].1) := (hnW.cell hb).trans (HC.out _ _ hat.1)
                have e1 : wr.cell? ⟨b, off + j * 3 + 1, none⟩ = some (.int .i64 L[j].2.1) := (hnW.cell hb).trans (HC.out (j * 3 + 1) _ hat.2.1)
                have e2 : wr.cell? ⟨b, off + j * 3 + 2, none⟩ = some (.int .i64 L[j].2.2) := (hnW.cell hb).trans (HC.out (j * 3 + 2) _ hat.2.2)
                have hlk := look_take L j hjl X Y
                have hj0 : (0 : Int) ≤ (j : Int) := by omega
                have hj1 : (j : Int) < L.length := by omega
                generalize L[j].1 = A0 at *
                generalize L[j].2.1 = A1 at *
                generalize L[j].2.2 = A2 at *
                generalize look (L.take j) X Y = wv at *
                clear hat
                by_cases q0 : A0 = X
                · have b0 : (A0 == X) = true := by rw [q0]; simp
                  by_cases q1 : A1 = Y
                  · have b1 : (A1 == Y) = true := by rw [q1]; simp
                    rw [if_pos ⟨q0, q1⟩] at hlk
                    have HL := hideR hlk
                    clear hlk q0 q1
                    go_wp2_with fail
                    go_quiet (fail)
                    go_wp2
                    go_roundw
                    case rel => exact ⟨j + 1, hjl, by go_num, by rw [HL.out], below_drewN hnz _⟩
                    case measure => simp [intOf]; omega
                  · have b1 : (A1 == Y) = false := beq_false_of_ne q1
                    rw [if_neg (fun e => q1 e.2)] at hlk
                    have HL := hideR hlk
                    clear hlk q0 q1
                    go_wp2_with fail
                    go_quiet (fail)
                    go_wp2
                    go_roundw
                    case rel => exact ⟨j + 1, hjl, by go_num, by rw [HL.out], below_drewN hnz _⟩
                    case measure => simp [intOf]; omega
                · have b0 : (A0 == X) = false := beq_false_of_ne q0
                  rw [if_neg (fun e => q0 e.1)] at hlk
                  have HL := hideR hlk
                  clear hlk q0
                  go_wp2_with fail
                  go_quiet (fail)
                  go_wp2
                  go_roundw
                  case rel => exact ⟨j + 1, hjl, by go_num, by rw [HL.out], below_drewN hnz _⟩
                  case measure => simp [intOf]; omega
              · obtain rfl : j = L.length := by omega
                rw [List.take_length]
                have hgw := HGZ.out.below (by omega) hnz
                have HGW := hideR hgw
                clear hgw
                generalize look L X Y = wv at *
                go_wp2
                go_roundw
                case rel => exact ⟨i + 1, hil, by go_num, HGW.out, hnW⟩
                case measure => simp [intOf]; omega
          · as_aux_lemma =>
            have hy0 : (0 : Int) ≤ (y : Int) := by omega
            have hy1 : (y : Int) < h := by omega
            obtain ⟨row, hMy, hrowl, hrowx⟩ := HMO.out y hy
            have krow := rin y hy row hMy
            have hh : ¬ (0 ≤ X ∧ X < (n : Int) ∧ 0 ≤ (y : Int) ∧ (y : Int) < (h : Int)) := by omega
            have kget := gout X (y : Int) hh
            clear hh
            clear gout gin rout rin
            go_wp2_with fail
            go_region_held3 (fun w' => w'.cell? ⟨b, off + i * 3, none⟩ = some (.int .i64 X) ∧ w'.cell? ⟨b, off + i * 3 + 1, none⟩ = some (.int .i64 (y : Int))) (go_keep) ((go_at_call 24; refine kget.mono ?_; rintro e w' ⟨rfl, he⟩; rw [he]; clear he))
            go_wp2_with fail
            refine krow.mono ?_
            rintro e wz ⟨rv, rfl, hownz, hbzz⟩
            have hbz := hnq.drew.trans (hbzz.mono hsq)
            obtain ⟨gv, cv, rfl, _, _⟩ := hownz.form (by omega)
            rw [hrowl] at hownz
            rw [hrowl]
            have hgz := HG.out.below (by omega) hbzz
            have HGZ := hideR hgz
            clear hgz krow kget
            clear hownz
            have z0 : wz.cell? ⟨b, off + i * 3, none⟩ = some (.int .i64 X) := (hbz.cell hb).trans (HC.out _ _ HI.out.1)
            have z1 : wz.cell? ⟨b, off + i * 3 + 1, none⟩ = some (.int .i64 (y : Int)) := (hbz.cell hb).trans (HC.out (i * 3 + 1) _ HI.out.2)
            go_wp2
            go_loopw [21, 22] (fun wv j wz' => ∃ j' : Nat, j' ≤ L.length ∧ j = .int .i64 j' ∧ wv = .int .i64 (look (L.take j') X (y : Int)) ∧ Below wz.heap.size wz wz') (fun _ j _ => L.length - (intOf j).toNat)
            case atStart => exact ⟨0, Nat.zero_le _, rfl, rfl, Below.refl _ _⟩
            case round =>
              obtain ⟨j, hj, rfl, rfl, hnz⟩ := hrel
              have hnW := hbz.trans (hnz.mono hbz.size)
              have d0 : wr.cell? ⟨b, off + i * 3, none⟩ = some (.int .i64 X) := (hnW.cell hb).trans (HC.out _ _ HI.out.1)
              have d1 : wr.cell? ⟨b, off + i * 3 + 1, none⟩ = some (.int .i64 (y : Int)) := (hnW.cell hb).trans (HC.out (i * 3 + 1) _ HI.out.2)
              by_cases hjl : j < L.length
              · have hat := dcs_at L j hjl
                have e0 : wr.cell? ⟨b, off + j * 3, none⟩ = some (.int .i64 L[j].1) := (hnW.cell hb).trans (HC.out _ _ hat.1)
                have e1 : wr.cell? ⟨b, off + j * 3 + 1, none⟩ = some (.int .i64 L[j].2.1) := (hnW.cell hb).trans (HC.out (j * 3 + 1) _ hat.2.1)
                have e2 : wr.cell? ⟨b, off + j * 3 + 2, none⟩ = some (.int .i64 L[j].2.2) := (hnW.cell hb).trans (HC.out (j * 3 + 2) _ hat.2.2)
                have hlk := look_take L j hjl X (y : Int)
                have hj0 : (0 : Int) ≤ (j : Int) := by omega
                have hj1 : (j : Int) < L.length := by omega
                generalize L[j].1 = A0 at *
                generalize L[j].2.1 = A1 at *
                generalize L[j].2.2 = A2 at *
                generalize look (L.take j) X (y : Int) = wv at *
                clear hat
                by_cases q0 : A0 = X
                · have b0 : (A0 == X) = true := by rw [q0]; simp
                  by_cases q1 : A1 = (y : Int)
                  · have b1 : (A1 == (y : Int)) = true := by rw [q1]; simp
                    rw [if_pos ⟨q0, q1⟩] at hlk
                    have HL := hideR hlk
                    clear hlk q0 q1
                    go_wp2_with fail
                    go_quiet (fail)
                    go_wp2
                    go_roundw
                    case rel => exact ⟨j + 1, hjl, by go_num, by rw [HL.out], below_drewN hnz _⟩
                    case measure => simp [intOf]; omega
                  · have b1 : (A1 == (y : Int)) = false := beq_false_of_ne q1
                    rw [if_neg (fun e => q1 e.2)] at hlk
                    have HL := hideR hlk
                    clear hlk q0 q1
                    go_wp2_with fail
                    go_quiet (fail)
                    go_wp2
                    go_roundw
                    case rel => exact ⟨j + 1, hjl, by go_num, by rw [HL.out], below_drewN hnz _⟩
                    case measure => simp [intOf]; omega
                · have b0 : (A0 == X) = false := beq_false_of_ne q0
                  rw [if_neg (fun e => q0 e.1)] at hlk
                  have HL := hideR hlk
                  clear hlk q0
                  go_wp2_with fail
                  go_quiet (fail)
                  go_wp2
                  go_roundw
                  case rel => exact ⟨j + 1, hjl, by go_num, by rw [HL.out], below_drewN hnz _⟩
                  case measure => simp [intOf]; omega
              · obtain rfl : j = L.length := by omega
                rw [List.take_length]
                have hgw := HGZ.out.below (by omega) hnz
                have HGW := hideR hgw
                clear hgw
                generalize look L X (y : Int) = wv at *
                go_wp2
                go_roundw
                case rel => exact ⟨i + 1, hil, by go_num, HGW.out, hnW⟩
                case measure => simp [intOf]; omega
          · as_aux_lemma =>
            have hyy : ¬ (0 ≤ Y ∧ Y < (h : Int)) := by omega
            have krow := rout Y hyy
            clear hyy
            have hy2 : ¬ Y < (h : Int) := by omega
            have hh : ¬ (0 ≤ X ∧ X < (n : Int) ∧ 0 ≤ Y ∧ Y < (h : Int)) := by omega
            have kget := gout X Y hh
            clear hh
            clear gout gin rout rin
            go_wp2_with fail
            go_region_held3 (fun w' => w'.cell? ⟨b, off + i * 3, none⟩ = some (.int .i64 X) ∧ w'.cell? ⟨b, off + i * 3 + 1, none⟩ = some (.int .i64 Y)) (go_keep) ((go_at_call 24; refine kget.mono ?_; rintro e w' ⟨rfl, he⟩; rw [he]; clear he))
            go_wp2_with fail
            refine krow.mono ?_
            rintro e wz ⟨rfl, he⟩
            have hbz : Below W.heap.size W wz := by rw [he]; exact hnq.drew
            have HGZ : Hid (GridS wz W.heap.size W.heap.size gr capr n rs M) := by rw [he]; exact HG.out
            clear he krow kget
            have z0 : wz.cell? ⟨b, off + i * 3, none⟩ = some (.int .i64 X) := (hbz.cell hb).trans (HC.out _ _ HI.out.1)
            have z1 : wz.cell? ⟨b, off + i * 3 + 1, none⟩ = some (.int .i64 Y) := (hbz.cell hb).trans (HC.out (i * 3 + 1) _ HI.out.2)
            go_wp2
            go_loopw [21, 22] (fun wv j wz' => ∃ j' : Nat, j' ≤ L.length ∧ j = .int .i64 j' ∧ wv = .int .i64 (look (L.take j') X Y) ∧ Below wz.heap.size wz wz') (fun _ j _ => L.length - (intOf j).toNat)
            case atStart => exact ⟨0, Nat.zero_le _, rfl, rfl, Below.refl _ _⟩
            case round =>
              obtain ⟨j, hj, rfl, rfl, hnz⟩ := hrel
              have hnW := hbz.trans (hnz.mono hbz.size)
              have d0 : wr.cell? ⟨b, off + i * 3, none⟩ = some (.int .i64 X) := (hnW.cell hb).trans (HC.out _ _ HI.out.1)
              have d1 : wr.cell? ⟨b, off + i * 3 + 1, none⟩ = some (.int .i64 Y) := (hnW.cell hb).trans (HC.out (i * 3 + 1) _ HI.out.2)
              by_cases hjl : j < L.length
              · have hat := dcs_at L j hjl
                have e0 : wr.cell? ⟨b, off + j * 3, none⟩ = some (.int .i64 L[j].1) := (hnW.cell hb).trans (HC.out _ _ hat.1)
                have e1 : wr.cell? ⟨b, off + j * 3 + 1, none⟩ = some (.int .i64 L[j].2.1) := (hnW.cell hb).trans (HC.out (j * 3 + 1) _ hat.2.1)
                have e2 : wr.cell? ⟨b, off + j * 3 + 2, none⟩ = some (.int .i64 L[j].2.2) := (hnW.cell hb).trans (HC.out (j * 3 + 2) _ hat.2.2)
                have hlk := look_take L j hjl X Y
                have hj0 : (0 : Int) ≤ (j : Int) := by omega
                have hj1 : (j : Int) < L.length := by omega
                generalize L[j].1 = A0 at *
                generalize L[j].2.1 = A1 at *
                generalize L[j].2.2 = A2 at *
                generalize look (L.take j) X Y = wv at *
                clear hat
                by_cases q0 : A0 = X
                · have b0 : (A0 == X) = true := by rw [q0]; simp
                  by_cases q1 : A1 = Y
                  · have b1 : (A1 == Y) = true := by rw [q1]; simp
                    rw [if_pos ⟨q0, q1⟩] at hlk
                    have HL := hideR hlk
                    clear hlk q0 q1
                    go_wp2_with fail
                    go_quiet (fail)
                    go_wp2
                    go_roundw
                    case rel => exact ⟨j + 1, hjl, by go_num, by rw [HL.out], below_drewN hnz _⟩
                    case measure => simp [intOf]; omega
                  · have b1 : (A1 == Y) = false := beq_false_of_ne q1
                    rw [if_neg (fun e => q1 e.2)] at hlk
                    have HL := hideR hlk
                    clear hlk q0 q1
                    go_wp2_with fail
                    go_quiet (fail)
                    go_wp2
                    go_roundw
                    case rel => exact ⟨j + 1, hjl, by go_num, by rw [HL.out], below_drewN hnz _⟩
                    case measure => simp [intOf]; omega
                · have b0 : (A0 == X) = false := beq_false_of_ne q0
                  rw [if_neg (fun e => q0 e.1)] at hlk
                  have HL := hideR hlk
                  clear hlk q0
                  go_wp2_with fail
                  go_quiet (fail)
                  go_wp2
                  go_roundw
                  case rel => exact ⟨j + 1, hjl, by go_num, by rw [HL.out], below_drewN hnz _⟩
                  case measure => simp [intOf]; omega
              · obtain rfl : j = L.length := by omega
                rw [List.take_length]
                have hgw := HGZ.out.below (by omega) hnz
                have HGW := hideR hgw
                clear hgw
                generalize look L X Y = wv at *
                go_wp2
                go_roundw
                case rel => exact ⟨i + 1, hil, by go_num, HGW.out, hnW⟩
                case measure => simp [intOf]; omega
          · as_aux_lemma =>
            have hx0 : (0 : Int) ≤ (x : Int) := by omega
            have hx1 : (x : Int) < n := by omega
            have hyy : ¬ (0 ≤ Y ∧ Y < (h : Int)) := by omega
            have krow := rout Y hyy
            clear hyy
            have hh : ¬ (0 ≤ (x : Int) ∧ (x : Int) < (n : Int) ∧ 0 ≤ Y ∧ Y < (h : Int)) := by omega
            have kget := gout (x : Int) Y hh
            clear hh
            clear gout gin rout rin
            go_wp2_with fail
            go_region_held3 (fun w' => w'.cell? ⟨b, off + i * 3, none⟩ = some (.int .i64 (x : Int)) ∧ w'.cell? ⟨b, off + i * 3 + 1, none⟩ = some (.int .i64 Y)) (go_keep) ((go_at_call 24; refine kget.mono ?_; rintro e w' ⟨rfl, he⟩; rw [he]; clear he))
            go_wp2_with fail
            refine krow.mono ?_
            rintro e wz ⟨rfl, he⟩
            have hbz : Below W.heap.size W wz := by rw [he]; exact hnq.drew
            have HGZ : Hid (GridS wz W.heap.size W.heap.size gr capr n rs M) := by rw [he]; exact HG.out
            clear he krow kget
            have z0 : wz.cell? ⟨b, off + i * 3, none⟩ = some (.int .i64 (x : Int)) := (hbz.cell hb).trans (HC.out _ _ HI.out.1)
            have z1 : wz.cell? ⟨b, off + i * 3 + 1, none⟩ = some (.int .i64 Y) := (hbz.cell hb).trans (HC.out (i * 3 + 1) _ HI.out.2)
            go_wp2
            go_loopw [21, 22] (fun wv j wz' => ∃ j' : Nat, j' ≤ L.length ∧ j = .int .i64 j' ∧ wv = .int .i64 (look (L.take j') (x : Int) Y) ∧ Below wz.heap.size wz wz') (fun _ j _ => L.length - (intOf j).toNat)
            case atStart => exact ⟨0, Nat.zero_le _, rfl, rfl, Below.refl _ _⟩
            case round =>
              obtain ⟨j, hj, rfl, rfl, hnz⟩ := hrel
              have hnW := hbz.trans (hnz.mono hbz.size)
              have d0 : wr.cell? ⟨b, off + i * 3, none⟩ = some (.int .i64 (x : Int)) := (hnW.cell hb).trans (HC.out _ _ HI.out.1)
              have d1 : wr.cell? ⟨b, off + i * 3 + 1, none⟩ = some (.int .i64 Y) := (hnW.cell hb).trans (HC.out (i * 3 + 1) _ HI.out.2)
              by_cases hjl : j < L.length
              · have hat := dcs_at L j hjl
                have e0 : wr.cell? ⟨b, off + j * 3, none⟩ = some (.int .i64 L[j].1) := (hnW.cell hb).trans (HC.out _ _ hat.1)
                have e1 : wr.cell? ⟨b, off + j * 3 + 1, none⟩ = some (.int .i64 L[j].2.1) := (hnW.cell hb).trans (HC.out (j * 3 + 1) _ hat.2.1)
                have e2 : wr.cell? ⟨b, off + j * 3 + 2, none⟩ = some (.int .i64 L[j].2.2) := (hnW.cell hb).trans (HC.out (j * 3 + 2) _ hat.2.2)
                have hlk := look_take L j hjl (x : Int) Y
                have hj0 : (0 : Int) ≤ (j : Int) := by omega
                have hj1 : (j : Int) < L.length := by omega
                generalize L[j].1 = A0 at *
                generalize L[j].2.1 = A1 at *
                generalize L[j].2.2 = A2 at *
                generalize look (L.take j) (x : Int) Y = wv at *
                clear hat
                by_cases q0 : A0 = (x : Int)
                · have b0 : (A0 == (x : Int)) = true := by rw [q0]; simp
                  by_cases q1 : A1 = Y
                  · have b1 : (A1 == Y) = true := by rw [q1]; simp
                    rw [if_pos ⟨q0, q1⟩] at hlk
                    have HL := hideR hlk
                    clear hlk q0 q1
                    go_wp2_with fail
                    go_quiet (fail)
                    go_wp2
                    go_roundw
                    case rel => exact ⟨j + 1, hjl, by go_num, by rw [HL.out], below_drewN hnz _⟩
                    case measure => simp [intOf]; omega
                  · have b1 : (A1 == Y) = false := beq_false_of_ne q1
                    rw [if_neg (fun e => q1 e.2)] at hlk
                    have HL := hideR hlk
                    clear hlk q0 q1
                    go_wp2_with fail
                    go_quiet (fail)
                    go_wp2
                    go_roundw
                    case rel => exact ⟨j + 1, hjl, by go_num, by rw [HL.out], below_drewN hnz _⟩
                    case measure => simp [intOf]; omega
                · have b0 : (A0 == (x : Int)) = false := beq_false_of_ne q0
                  rw [if_neg (fun e => q0 e.1)] at hlk
                  have HL := hideR hlk
                  clear hlk q0
                  go_wp2_with fail
                  go_quiet (fail)
                  go_wp2
                  go_roundw
                  case rel => exact ⟨j + 1, hjl, by go_num, by rw [HL.out], below_drewN hnz _⟩
                  case measure => simp [intOf]; omega
              · obtain rfl : j = L.length := by omega
                rw [List.take_length]
                have hgw := HGZ.out.below (by omega) hnz
                have HGW := hideR hgw
                clear hgw
                generalize look L (x : Int) Y = wv at *
                go_wp2
                go_roundw
                case rel => exact ⟨i + 1, hil, by go_num, HGW.out, hnW⟩
                case measure => simp [intOf]; omega
          · as_aux_lemma =>
            have hx0 : (0 : Int) ≤ (x : Int) := by omega
            have hx1 : (x : Int) < n := by omega
            have hy0 : (0 : Int) ≤ (y : Int) := by omega
            have hy1 : (y : Int) < h := by omega
            obtain ⟨row, hMy, hrowl, hrowx⟩ := HMO.out y hy
            have krow := rin y hy row hMy
            have kget := gin x y hx hy _ row hMy (hrowx x hx)
            have hlook := hrowx x hx
            clear gout gin rout rin
            go_wp2_with fail
            go_region_held3 (fun w' => w'.cell? ⟨b, off + i * 3, none⟩ = some (.int .i64 (x : Int)) ∧ w'.cell? ⟨b, off + i * 3 + 1, none⟩ = some (.int .i64 (y : Int))) (go_keep) ((go_at_call 24; refine kget.mono ?_; rintro e w' ⟨rfl, he⟩; rw [he]; clear he))
            go_wp2_with fail
            refine krow.mono ?_
            rintro e wz ⟨rv, rfl, hownz, hbzz⟩
            have hbz := hnq.drew.trans (hbzz.mono hsq)
            obtain ⟨gv, cv, rfl, _, _⟩ := hownz.form (by omega)
            rw [hrowl] at hownz
            rw [hrowl]
            have hgz := HG.out.below (by omega) hbzz
            have HGZ := hideR hgz
            clear hgz krow kget
            have hcz := (hownz.cellAt x (by omega)).trans (by rw [List.getElem?_map, hlook]; rfl : _ = some (.int .i64 (look L x y)))
            have HCZ := hideR hcz
            have hgvl := (hownz.lt gv rfl).2
            clear hcz hlook hrowx
            clear hownz
            have z0 : wz.cell? ⟨b, off + i * 3, none⟩ = some (.int .i64 (x : Int)) := (hbz.cell hb).trans (HC.out _ _ HI.out.1)
            have z1 : wz.cell? ⟨b, off + i * 3 + 1, none⟩ = some (.int .i64 (y : Int)) := (hbz.cell hb).trans (HC.out (i * 3 + 1) _ HI.out.2)
            go_wp2
            go_loopw [21, 22] (fun wv j wz' => ∃ j' : Nat, j' ≤ L.length ∧ j = .int .i64 j' ∧ wv = .int .i64 (look (L.take j') (x : Int) (y : Int)) ∧ Below wz.heap.size wz wz') (fun _ j _ => L.length - (intOf j).toNat)
            case atStart => exact ⟨0, Nat.zero_le _, rfl, rfl, Below.refl _ _⟩
            case round =>
              obtain ⟨j, hj, rfl, rfl, hnz⟩ := hrel
              have hnW := hbz.trans (hnz.mono hbz.size)
              have d0 : wr.cell? ⟨b, off + i * 3, none⟩ = some (.int .i64 (x : Int)) := (hnW.cell hb).trans (HC.out _ _ HI.out.1)
              have d1 : wr.cell? ⟨b, off + i * 3 + 1, none⟩ = some (.int .i64 (y : Int)) := (hnW.cell hb).trans (HC.out (i * 3 + 1) _ HI.out.2)
              by_cases hjl : j < L.length
              · have hat := dcs_at L j hjl
                have e0 : wr.cell? ⟨b, off + j * 3, none⟩ = some (.int .i64 L[j].1) := (hnW.cell hb).trans (HC.out _ _ hat.1)
                have e1 : wr.cell? ⟨b, off + j * 3 + 1, none⟩ = some (.int .i64 L[j].2.1) := (hnW.cell hb).trans (HC.out (j * 3 + 1) _ hat.2.1)
                have e2 : wr.cell? ⟨b, off + j * 3 + 2, none⟩ = some (.int .i64 L[j].2.2) := (hnW.cell hb).trans (HC.out (j * 3 + 2) _ hat.2.2)
                have hlk := look_take L j hjl (x : Int) (y : Int)
                have hj0 : (0 : Int) ≤ (j : Int) := by omega
                have hj1 : (j : Int) < L.length := by omega
                generalize L[j].1 = A0 at *
                generalize L[j].2.1 = A1 at *
                generalize L[j].2.2 = A2 at *
                generalize look (L.take j) (x : Int) (y : Int) = wv at *
                clear hat
                by_cases q0 : A0 = (x : Int)
                · have b0 : (A0 == (x : Int)) = true := by rw [q0]; simp
                  by_cases q1 : A1 = (y : Int)
                  · have b1 : (A1 == (y : Int)) = true := by rw [q1]; simp
                    rw [if_pos ⟨q0, q1⟩] at hlk
                    have HL := hideR hlk
                    clear hlk q0 q1
                    go_wp2_with fail
                    go_quiet (fail)
                    go_wp2
                    go_roundw
                    case rel => exact ⟨j + 1, hjl, by go_num, by rw [HL.out], below_drewN hnz _⟩
                    case measure => simp [intOf]; omega
                  · have b1 : (A1 == (y : Int)) = false := beq_false_of_ne q1
                    rw [if_neg (fun e => q1 e.2)] at hlk
                    have HL := hideR hlk
                    clear hlk q0 q1
                    go_wp2_with fail
                    go_quiet (fail)
                    go_wp2
                    go_roundw
                    case rel => exact ⟨j + 1, hjl, by go_num, by rw [HL.out], below_drewN hnz _⟩
                    case measure => simp [intOf]; omega
                · have b0 : (A0 == (x : Int)) = false := beq_false_of_ne q0
                  rw [if_neg (fun e => q0 e.1)] at hlk
                  have HL := hideR hlk
                  clear hlk q0
                  go_wp2_with fail
                  go_quiet (fail)
                  go_wp2
                  go_roundw
                  case rel => exact ⟨j + 1, hjl, by go_num, by rw [HL.out], below_drewN hnz _⟩
                  case measure => simp [intOf]; omega
              · obtain rfl : j = L.length := by omega
                rw [List.take_length]
                have hgw := HGZ.out.below (by omega) hnz
                have HGW := hideR hgw
                clear hgw
                have r0 : wr.cell? ⟨gv, x, none⟩ = some (.int .i64 (look L x y)) := (hnz.cell (p := ⟨gv, x, none⟩) hgvl).trans HCZ.out
                generalize look L x y = wv at *
                have n1 : (wv != wv) = false := by simp
                go_wp2
                go_roundw
                case rel => exact ⟨i + 1, hil, by go_num, HGW.out, hnW⟩
                case measure => simp [intOf]; omega
          · as_aux_lemma =>
            have hx0 : (0 : Int) ≤ (x : Int) := by omega
            have hx1 : (x : Int) < n := by omega
            have hyy : ¬ (0 ≤ Y ∧ Y < (h : Int)) := by omega
            have krow := rout Y hyy
            clear hyy
            have hy2 : ¬ Y < (h : Int) := by omega
            have hh : ¬ (0 ≤ (x : Int) ∧ (x : Int) < (n : Int) ∧ 0 ≤ Y ∧ Y < (h : Int)) := by omega
            have kget := gout (x : Int) Y hh
            clear hh
            clear gout gin rout rin
            go_wp2_with fail
            go_region_held3 (fun w' => w'.cell? ⟨b, off + i * 3, none⟩ = some (.int .i64 (x : Int)) ∧ w'.cell? ⟨b, off + i * 3 + 1, none⟩ = some (.int .i64 Y)) (go_keep) ((go_at_call 24; refine kget.mono ?_; rintro e w' ⟨rfl, he⟩; rw [he]; clear he))
            go_wp2_with fail
            refine krow.mono ?_
            rintro e wz ⟨rfl, he⟩
            have hbz : Below W.heap.size W wz := by rw [he]; exact hnq.drew
            have HGZ : Hid (GridS wz W.heap.size W.heap.size gr capr n rs M) := by rw [he]; exact HG.out
            clear he krow kget
            have z0 : wz.cell? ⟨b, off + i * 3, none⟩ = some (.int .i64 (x : Int)) := (hbz.cell hb).trans (HC.out _ _ HI.out.1)
            have z1 : wz.cell? ⟨b, off + i * 3 + 1, none⟩ = some (.int .i64 Y) := (hbz.cell hb).trans (HC.out (i * 3 + 1) _ HI.out.2)
            go_wp2
            go_loopw [21, 22] (fun wv j wz' => ∃ j' : Nat, j' ≤ L.length ∧ j = .int .i64 j' ∧ wv = .int .i64 (look (L.take j') (x : Int) Y) ∧ Below wz.heap.size wz wz') (fun _ j _ => L.length - (intOf j).toNat)
            case atStart => exact ⟨0, Nat.zero_le _, rfl, rfl, Below.refl _ _⟩
            case round =>
              obtain ⟨j, hj, rfl, rfl, hnz⟩ := hrel
              have hnW := hbz.trans (hnz.mono hbz.size)
              have d0 : wr.cell? ⟨b, off + i * 3, none⟩ = some (.int .i64 (x : Int)) := (hnW.cell hb).trans (HC.out _ _ HI.out.1)
              have d1 : wr.cell? ⟨b, off + i * 3 + 1, none⟩ = some (.int .i64 Y) := (hnW.cell hb).trans (HC.out (i * 3 + 1) _ HI.out.2)
              by_cases hjl : j < L.length
              · have hat := dcs_at L j hjl
                have e0 : wr.cell? ⟨b, off + j * 3, none⟩ = some (.int .i64 L[j].1) := (hnW.cell hb).trans (HC.out _ _ hat.1)
                have e1 : wr.cell? ⟨b, off + j * 3 + 1, none⟩ = some (.int .i64 L[j].2.1) := (hnW.cell hb).trans (HC.out (j * 3 + 1) _ hat.2.1)
                have e2 : wr.cell? ⟨b, off + j * 3 + 2, none⟩ = some (.int .i64 L[j].2.2) := (hnW.cell hb).trans (HC.out (j * 3 + 2) _ hat.2.2)
                have hlk := look_take L j hjl (x : Int) Y
                have hj0 : (0 : Int) ≤ (j : Int) := by omega
                have hj1 : (j : Int) < L.length := by omega
                generalize L[j].1 = A0 at *
                generalize L[j].2.1 = A1 at *
                generalize L[j].2.2 = A2 at *
                generalize look (L.take j) (x : Int) Y = wv at *
                clear hat
                by_cases q0 : A0 = (x : Int)
                · have b0 : (A0 == (x : Int)) = true := by rw [q0]; simp
                  by_cases q1 : A1 = Y
                  · have b1 : (A1 == Y) = true := by rw [q1]; simp
                    rw [if_pos ⟨q0, q1⟩] at hlk
                    have HL := hideR hlk
                    clear hlk q0 q1
                    go_wp2_with fail
                    go_quiet (fail)
                    go_wp2
                    go_roundw
                    case rel => exact ⟨j + 1, hjl, by go_num, by rw [HL.out], below_drewN hnz _⟩
                    case measure => simp [intOf]; omega
                  · have b1 : (A1 == Y) = false := beq_false_of_ne q1
                    rw [if_neg (fun e => q1 e.2)] at hlk
                    have HL := hideR hlk
                    clear hlk q0 q1
                    go_wp2_with fail
                    go_quiet (fail)
                    go_wp2
                    go_roundw
                    case rel => exact ⟨j + 1, hjl, by go_num, by rw [HL.out], below_drewN hnz _⟩
                    case measure => simp [intOf]; omega
                · have b0 : (A0 == (x : Int)) = false := beq_false_of_ne q0
                  rw [if_neg (fun e => q0 e.1)] at hlk
                  have HL := hideR hlk
                  clear hlk q0
                  go_wp2_with fail
                  go_quiet (fail)
                  go_wp2
                  go_roundw
                  case rel => exact ⟨j + 1, hjl, by go_num, by rw [HL.out], below_drewN hnz _⟩
                  case measure => simp [intOf]; omega
              · obtain rfl : j = L.length := by omega
                rw [List.take_length]
                have hgw := HGZ.out.below (by omega) hnz
                have HGW := hideR hgw
                clear hgw
                generalize look L (x : Int) Y = wv at *
                go_wp2
                go_roundw
                case rel => exact ⟨i + 1, hil, by go_num, HGW.out, hnW⟩
                case measure => simp [intOf]; omega
          · as_aux_lemma =>
            have hx2 : ¬ X < (n : Int) := by omega
            have hyy : ¬ (0 ≤ Y ∧ Y < (h : Int)) := by omega
            have krow := rout Y hyy
            clear hyy
            have hh : ¬ (0 ≤ X ∧ X < (n : Int) ∧ 0 ≤ Y ∧ Y < (h : Int)) := by omega
            have kget := gout X Y hh
            clear hh
            clear gout gin rout rin
            go_wp2_with fail
            go_region_held3 (fun w' => w'.cell? ⟨b, off + i * 3, none⟩ = some (.int .i64 X) ∧ w'.cell? ⟨b, off + i * 3 + 1, none⟩ = some (.int .i64 Y)) (go_keep) ((go_at_call 24; refine kget.mono ?_; rintro e w' ⟨rfl, he⟩; rw [he]; clear he))
            go_wp2_with fail
            refine krow.mono ?_
            rintro e wz ⟨rfl, he⟩
            have hbz : Below W.heap.size W wz := by rw [he]; exact hnq.drew
            have HGZ : Hid (GridS wz W.heap.size W.heap.size gr capr n rs M) := by rw [he]; exact HG.out
            clear he krow kget
            have z0 : wz.cell? ⟨b, off + i * 3, none⟩ = some (.int .i64 X) := (hbz.cell hb).trans (HC.out _ _ HI.out.1)
            have z1 : wz.cell? ⟨b, off + i * 3 + 1, none⟩ = some (.int .i64 Y) := (hbz.cell hb).trans (HC.out (i * 3 + 1) _ HI.out.2)
            go_wp2
            go_loopw [21, 22] (fun wv j wz' => ∃ j' : Nat, j' ≤ L.length ∧ j = .int .i64 j' ∧ wv = .int .i64 (look (L.take j') X Y) ∧ Below wz.heap.size wz wz') (fun _ j _ => L.length - (intOf j).toNat)
            case atStart => exact ⟨0, Nat.zero_le _, rfl, rfl, Below.refl _ _⟩
            case round =>
              obtain ⟨j, hj, rfl, rfl, hnz⟩ := hrel
              have hnW := hbz.trans (hnz.mono hbz.size)
              have d0 : wr.cell? ⟨b, off + i * 3, none⟩ = some (.int .i64 X) := (hnW.cell hb).trans (HC.out _ _ HI.out.1)
              have d1 : wr.cell? ⟨b, off + i * 3 + 1, none⟩ = some (.int .i64 Y) := (hnW.cell hb).trans (HC.out (i * 3 + 1) _ HI.out.2)
              by_cases hjl : j < L.length
              · have hat := dcs_at L j hjl
                have e0 : wr.cell? ⟨b, off + j * 3, none⟩ = some (.int .i64 L[j].1) := (hnW.cell hb).trans (HC.out _ _ hat.1)
                have e1 : wr.cell? ⟨b, off + j * 3 + 1, none⟩ = some (.int .i64 L[j].2.1) := (hnW.cell hb).trans (HC.out (j * 3 + 1) _ hat.2.1)
                have e2 : wr.cell? ⟨b, off + j * 3 + 2, none⟩ = some (.int .i64 L[j].2.2) := (hnW.cell hb).trans (HC.out (j * 3 + 2) _ hat.2.2)
                have hlk := look_take L j hjl X Y
                have hj0 : (0 : Int) ≤ (j : Int) := by omega
                have hj1 : (j : Int) < L.length := by omega
                generalize L[j].1 = A0 at *
                generalize L[j].2.1 = A1 at *
                generalize L[j].2.2 = A2 at *
                generalize look (L.take j) X Y = wv at *
                clear hat
                by_cases q0 : A0 = X
                · have b0 : (A0 == X) = true := by rw [q0]; simp
                  by_cases q1 : A1 = Y
                  · have b1 : (A1 == Y) = true := by rw [q1]; simp
                    rw [if_pos ⟨q0, q1⟩] at hlk
                    have HL := hideR hlk
                    clear hlk q0 q1
                    go_wp2_with fail
                    go_quiet (fail)
                    go_wp2
                    go_roundw
                    case rel => exact ⟨j + 1, hjl, by go_num, by rw [HL.out], below_drewN hnz _⟩
                    case measure => simp [intOf]; omega
                  · have b1 : (A1 == Y) = false := beq_false_of_ne q1
                    rw [if_neg (fun e => q1 e.2)] at hlk
                    have HL := hideR hlk
                    clear hlk q0 q1
                    go_wp2_with fail
                    go_quiet (fail)
                    go_wp2
                    go_roundw
                    case rel => exact ⟨j + 1, hjl, by go_num, by rw [HL.out], below_drewN hnz _⟩
                    case measure => simp [intOf]; omega
                · have b0 : (A0 == X) = false := beq_false_of_ne q0
                  rw [if_neg (fun e => q0 e.1)] at hlk
                  have HL := hideR hlk
                  clear hlk q0
                  go_wp2_with fail
                  go_quiet (fail)
                  go_wp2
                  go_roundw
                  case rel => exact ⟨j + 1, hjl, by go_num, by rw [HL.out], below_drewN hnz _⟩
                  case measure => simp [intOf]; omega
              · obtain rfl : j = L.length := by omega
                rw [List.take_length]
                have hgw := HGZ.out.below (by omega) hnz
                have HGW := hideR hgw
                clear hgw
                generalize look L X Y = wv at *
                go_wp2
                go_roundw
                case rel => exact ⟨i + 1, hil, by go_num, HGW.out, hnW⟩
                case measure => simp [intOf]; omega
          · as_aux_lemma =>
            have hx2 : ¬ X < (n : Int) := by omega
            have hy0 : (0 : Int) ≤ (y : Int) := by omega
            have hy1 : (y : Int) < h := by omega
            obtain ⟨row, hMy, hrowl, hrowx⟩ := HMO.out y hy
            have krow := rin y hy row hMy
            have hh : ¬ (0 ≤ X ∧ X < (n : Int) ∧ 0 ≤ (y : Int) ∧ (y : Int) < (h : Int)) := by omega
            have kget := gout X (y : Int) hh
            clear hh
            clear gout gin rout rin
            go_wp2_with fail
            go_region_held3 (fun w' => w'.cell? ⟨b, off + i * 3, none⟩ = some (.int .i64 X) ∧ w'.cell? ⟨b, off + i * 3 + 1, none⟩ = some (.int .i64 (y : Int))) (go_keep) ((go_at_call 24; refine kget.mono ?_; rintro e w' ⟨rfl, he⟩; rw [he]; clear he))
            go_wp2_with fail
            refine krow.mono ?_
            rintro e wz ⟨rv, rfl, hownz, hbzz⟩
            have hbz := hnq.drew.trans (hbzz.mono hsq)
            obtain ⟨gv, cv, rfl, _, _⟩ := hownz.form (by omega)
            rw [hrowl] at hownz
            rw [hrowl]
            have hgz := HG.out.below (by omega) hbzz
            have HGZ := hideR hgz
            clear hgz krow kget
            clear hownz
            have z0 : wz.cell? ⟨b, off + i * 3, none⟩ = some (.int .i64 X) := (hbz.cell hb).trans (HC.out _ _ HI.out.1)
            have z1 : wz.cell? ⟨b, off + i * 3 + 1, none⟩ = some (.int .i64 (y : Int)) := (hbz.cell hb).trans (HC.out (i * 3 + 1) _ HI.out.2)
            go_wp2
            go_loopw [21, 22] (fun wv j wz' => ∃ j' : Nat, j' ≤ L.length ∧ j = .int .i64 j' ∧ wv = .int .i64 (look (L.take j') X (y : Int)) ∧ Below wz.heap.size wz wz') (fun _ j _ => L.length - (intOf j).toNat)
            case atStart => exact ⟨0, Nat.zero_le _, rfl, rfl, Below.refl _ _⟩
            case round =>
              obtain ⟨j, hj, rfl, rfl, hnz⟩ := hrel
              have hnW := hbz.trans (hnz.mono hbz.size)
              have d0 : wr.cell? ⟨b, off + i * 3, none⟩ = some (.int .i64 X) := (hnW.cell hb).trans (HC.out _ _ HI.out.1)
              have d1 : wr.cell? ⟨b, off + i * 3 + 1, none⟩ = some (.int .i64 (y : Int)) := (hnW.cell hb).trans (HC.out (i * 3 + 1) _ HI.out.2)
              by_cases hjl : j < L.length
              · have hat := dcs_at L j hjl
                have e0 : wr.cell? ⟨b, off + j * 3, none⟩ = some (.int .i64 L[j].1) := (hnW.cell hb).trans (HC.out _ _ hat.1)
                have e1 : wr.cell? ⟨b, off + j * 3 + 1, none⟩ = some (.int .i64 L[j].2.1) := (hnW.cell hb).trans (HC.out (j * 3 + 1) _ hat.2.1)
                have e2 : wr.cell? ⟨b, off + j * 3 + 2, none⟩ = some (.int .i64 L[j].2.2) := (hnW.cell hb).trans (HC.out (j * 3 + 2) _ hat.2.2)
                have hlk := look_take L j hjl X (y : Int)
                have hj0 : (0 : Int) ≤ (j : Int) := by omega
                have hj1 : (j : Int) < L.length := by omega
                generalize L[j].1 = A0 at *
                generalize L[j].2.1 = A1 at *
                generalize L[j].2.2 = A2 at *
                generalize look (L.take j) X (y : Int) = wv at *
                clear hat
                by_cases q0 : A0 = X
                · have b0 : (A0 == X) = true := by rw [q0]; simp
                  by_cases q1 : A1 = (y : Int)
                  · have b1 : (A1 == (y : Int)) = true := by rw [q1]; simp
                    rw [if_pos ⟨q0, q1⟩] at hlk
                    have HL := hideR hlk
                    clear hlk q0 q1
                    go_wp2_with fail
                    go_quiet (fail)
                    go_wp2
                    go_roundw
                    case rel => exact ⟨j + 1, hjl, by go_num, by rw [HL.out], below_drewN hnz _⟩
                    case measure => simp [intOf]; omega
                  · have b1 : (A1 == (y : Int)) = false := beq_false_of_ne q1
                    rw [if_neg (fun e => q1 e.2)] at hlk
                    have HL := hideR hlk
                    clear hlk q0 q1
                    go_wp2_with fail
                    go_quiet (fail)
                    go_wp2
                    go_roundw
                    case rel => exact ⟨j + 1, hjl, by go_num, by rw [HL.out], below_drewN hnz _⟩
                    case measure => simp [intOf]; omega
                · have b0 : (A0 == X) = false := beq_false_of_ne q0
                  rw [if_neg (fun e => q0 e.1)] at hlk
                  have HL := hideR hlk
                  clear hlk q0
                  go_wp2_with fail
                  go_quiet (fail)
                  go_wp2
                  go_roundw
                  case rel => exact ⟨j + 1, hjl, by go_num, by rw [HL.out], below_drewN hnz _⟩
                  case measure => simp [intOf]; omega
              · obtain rfl : j = L.length := by omega
                rw [List.take_length]
                have hgw := HGZ.out.below (by omega) hnz
                have HGW := hideR hgw
                clear hgw
                generalize look L X (y : Int) = wv at *
                go_wp2
                go_roundw
                case rel => exact ⟨i + 1, hil, by go_num, HGW.out, hnW⟩
                case measure => simp [intOf]; omega
          · as_aux_lemma =>
            have hx2 : ¬ X < (n : Int) := by omega
            have hyy : ¬ (0 ≤ Y ∧ Y < (h : Int)) := by omega
            have krow := rout Y hyy
            clear hyy
            have hy2 : ¬ Y < (h : Int) := by omega
            have hh : ¬ (0 ≤ X ∧ X < (n : Int) ∧ 0 ≤ Y ∧ Y < (h : Int)) := by omega
            have kget := gout X Y hh
            clear hh
            clear gout gin rout rin
            go_wp2_with fail
            go_region_held3 (fun w' => w'.cell? ⟨b, off + i * 3, none⟩ = some (.int .i64 X) ∧ w'.cell? ⟨b, off + i * 3 + 1, none⟩ = some (.int .i64 Y)) (go_keep) ((go_at_call 24; refine kget.mono ?_; rintro e w' ⟨rfl, he⟩; rw [he]; clear he))
            go_wp2_with fail
            refine krow.mono ?_
            rintro e wz ⟨rfl, he⟩
            have hbz : Below W.heap.size W wz := by rw [he]; exact hnq.drew
            have HGZ : Hid (GridS wz W.heap.size W.heap.size gr capr n rs M) := by rw [he]; exact HG.out
            clear he krow kget
            have z0 : wz.cell? ⟨b, off + i * 3, none⟩ = some (.int .i64 X) := (hbz.cell hb).trans (HC.out _ _ HI.out.1)
            have z1 : wz.cell? ⟨b, off + i * 3 + 1, none⟩ = some (.int .i64 Y) := (hbz.cell hb).trans (HC.out (i * 3 + 1) _ HI.out.2)
            go_wp2
            go_loopw [21, 22] (fun wv j wz' => ∃ j' : Nat, j' ≤ L.length ∧ j = .int .i64 j' ∧ wv = .int .i64 (look (L.take j') X Y) ∧ Below wz.heap.size wz wz') (fun _ j _ => L.length - (intOf j).toNat)
            case atStart => exact ⟨0, Nat.zero_le _, rfl, rfl, Below.refl _ _⟩
            case round =>
              obtain ⟨j, hj, rfl, rfl, hnz⟩ := hrel
              have hnW := hbz.trans (hnz.mono hbz.size)
              have d0 : wr.cell? ⟨b, off + i * 3, none⟩ = some (.int .i64 X) := (hnW.cell hb).trans (HC.out _ _ HI.out.1)
              have d1 : wr.cell? ⟨b, off + i * 3 + 1, none⟩ = some (.int .i64 Y) := (hnW.cell hb).trans (HC.out (i * 3 + 1) _ HI.out.2)
              by_cases hjl : j < L.length
              · have hat := dcs_at L j hjl
                have e0 : wr.cell? ⟨b, off + j * 3, none⟩ = some (.int .i64 L[j].1) := (hnW.cell hb).trans (HC.out _ _ hat.1)
                have e1 : wr.cell? ⟨b, off + j * 3 + 1, none⟩ = some (.int .i64 L[j].2.1) := (hnW.cell hb).trans (HC.out (j * 3 + 1) _ hat.2.1)
                have e2 : wr.cell? ⟨b, off + j * 3 + 2, none⟩ = some (.int .i64 L[j].2.2) := (hnW.cell hb).trans (HC.out (j * 3 + 2) _ hat.2.2)
                have hlk := look_take L j hjl X Y
                have hj0 : (0 : Int) ≤ (j : Int) := by omega
                have hj1 : (j : Int) < L.length := by omega
                generalize L[j].1 = A0 at *
                generalize L[j].2.1 = A1 at *
                generalize L[j].2.2 = A2 at *
                generalize look (L.take j) X Y = wv at *
                clear hat
                by_cases q0 : A0 = X
                · have b0 : (A0 == X) = true := by rw [q0]; simp
                  by_cases q1 : A1 = Y
                  · have b1 : (A1 == Y) = true := by rw [q1]; simp
                    rw [if_pos ⟨q0, q1⟩] at hlk
                    have HL := hideR hlk
                    clear hlk q0 q1
                    go_wp2_with fail
                    go_quiet (fail)
                    go_wp2
                    go_roundw
                    case rel => exact ⟨j + 1, hjl, by go_num, by rw [HL.out], below_drewN hnz _⟩
                    case measure => simp [intOf]; omega
                  · have b1 : (A1 == Y) = false := beq_false_of_ne q1
                    rw [if_neg (fun e => q1 e.2)] at hlk
                    have HL := hideR hlk
                    clear hlk q0 q1
                    go_wp2_with fail
                    go_quiet (fail)
                    go_wp2
                    go_roundw
                    case rel => exact ⟨j + 1, hjl, by go_num, by rw [HL.out], below_drewN hnz _⟩
                    case measure => simp [intOf]; omega
                · have b0 : (A0 == X) = false := beq_false_of_ne q0
                  rw [if_neg (fun e => q0 e.1)] at hlk
                  have HL := hideR hlk
                  clear hlk q0
                  go_wp2_with fail
                  go_quiet (fail)
                  go_wp2
                  go_roundw
                  case rel => exact ⟨j + 1, hjl, by go_num, by rw [HL.out], below_drewN hnz _⟩
                  case measure => simp [intOf]; omega
              · obtain rfl : j = L.length := by omega
                rw [List.take_length]
                have hgw := HGZ.out.below (by omega) hnz
                have HGW := hideR hgw
                clear hgw
                generalize look L X Y = wv at *
                go_wp2
                go_roundw
                case rel => exact ⟨i + 1, hil, by go_num, HGW.out, hnW⟩
                case measure => simp [intOf]; omega
        · go_wp2_with fail
          refine (awake_any _).mono ?_
          rintro e w6 ⟨rfl, hb6⟩
          go_wp2_with fail
          go_ret
          exact ⟨rfl, hnq.trans (hb6.mono hnq.size)⟩
set_option maxRecDepth 1000000 in
theorem cellGrids_walk (w h : Int) (va : Value) (L : List Dt) (W : World) (w0 : -9223372036854775808 ≤ w) (w1 : w ≤ 9223372036854775807) (h0 : -9223372036854775808 ≤ h) (h1 : h ≤ 9223372036854775807) (hx : Lies W 3 va L.length (dcs L)) :
    Calls Try.prog 7 #[.int .i64 w, .int .i64 h, va] W fun e W' => e = .returned (.bool true) ∧ Below W.heap.size W W' := by
  by_cases hb : w < 1 ∨ h < 1 ∨ 1024 < w ∨ 1024 < h
  · exact cellGrids_bad w h va L W hb hx
  · by_cases hg : w ≤ 60 ∧ h ≤ 60
    · obtain ⟨n, rfl⟩ : ∃ n : Nat, w = n := ⟨w.toNat, by omega⟩
      obtain ⟨m, rfl⟩ : ∃ m : Nat, h = m := ⟨h.toNat, by omega⟩
      exact cellGrids_good n m va L W (by omega) (by omega) (by omega) (by omega) hx
    · obtain ⟨_, ao, cap, rfl, _, _⟩ := hx
      have g0 : ¬ (w < 1 ∨ h < 1 ∨ 1024 < w ∨ 1024 < h) := hb
      have e1 : w ≤ 1024 := by omega
      have e2 : h ≤ 1024 := by omega
      by_cases g1 : (100 : Int) < L.length
      · clear hb hg g0
        go_enter Try.func7, Try.ntmps7
        go_wp2_with fail
        go_ret
        exact ⟨rfl, Below.refl _ _⟩
      by_cases g2 : 60 < w
      · clear hb hg g0
        go_enter Try.func7, Try.ntmps7
        go_wp2_with fail
        go_ret
        exact ⟨rfl, Below.refl _ _⟩
      · have g3 : 60 < h := by omega
        clear hb hg g0
        go_enter Try.func7, Try.ntmps7
        go_wp2_with fail
        go_ret
        exact ⟨rfl, Below.refl _ _⟩
end Go.Proofs.Ytcaffmkghllmgaa.cellGrids

