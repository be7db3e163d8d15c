/- Package micro, plainly: a code takes as many cycles as it says, and a few more. -/
import Derived.Test.YtphfhlimlohplaaDoorZMicroMemCyc
import Derived.Test.YtphfhlimlohplaaDoorZMicroLen
namespace Go.Proofs.YtphfhlimlohplaaDoor.Mi
open Go Go.Proofs.YtphfhlimlohplaaDoor.Alu Go.Proofs.YtphfhlimlohplaaDoor.Ex
set_option linter.unusedVariables false
set_option linter.unusedSimpArgs false
def tookF (kd md : Int) (n : Int) : Bool :=
  if kd = 4 then decide (Co.cycF md kd ≤ n ∧ n ≤ Co.cycF md kd + 2) else if kd = 1 ∧ (md = 7 ∨ md = 8 ∨ md = 10) then decide (n = Co.cycF md kd ∨ n = Co.cycF md kd + 1) else decide (n = Co.cycF md kd)
def accS (kd : Int) : Int := if kd = 2 then 21 else 20
def farS (kd md : Int) : List Int := if md = 7 ∨ md = 8 ∨ md = 10 then (if kd = 1 then [15, accS kd] else [15]) else [accS kd]
/-- Where a step may lead. -/
def nextS (t : Nat) (kd md : Int) : List Int := match t with
  | 1 => [1]
  | 9 => [0]
  | 10 => [0]
  | 11 => if md = 3 then [accS kd] else [12]
  | 12 => [accS kd]
  | 14 => farS kd md
  | 15 => [accS kd]
  | 16 => if md = 9 then [17] else [18]
  | 19 => if md = 9 then [accS kd] else farS kd md
  | 20 => if kd = 3 then [22] else [0]
  | 21 => [0]
  | 23 => [0]
  | 24 => [25, 0]
  | 25 => [0, 26]
  | 26 => [0]
  | 28 => [0]
  | 31 => [0]
  | 33 => if md = 12 then [34] else [0]
  | 35 => [0]
  | 40 => [0]
  | 45 => [0]
  | 50 => [0]
  | 56 => [0]
  | 8 => [0]
  | t => [(t : Int) + 1]
theorem far_next (c : Cp) (l h : Int) : (farF c l h).t ∈ farS c.kd c.md ∧ (farF c l h).kd = c.kd ∧ (farF c l h).md = c.md ∧ (farF c l h).op = c.op := by
  refine ⟨?_, rfl, rfl, rfl⟩
  unfold farF farS
  simp only []
  have ha : accF c = accS c.kd := rfl
  rw [ha]
  by_cases hm : c.md = 7 ∨ c.md = 8 ∨ c.md = 10
  · by_cases hk : c.kd = 1
    · rw [if_pos hm, if_pos hk]
      split <;> simp
    · rw [if_pos hm, if_neg hk, if_pos ⟨hm, .inr hk⟩]
      simp
  · rw [if_neg hm, if_neg (fun h => hm h.1)]
    simp
theorem step_next (c : Cp) (ok : c.ok) (h0 : c.t ≠ 0) (v : Int) : (clockF c v).t ∈ nextS c.t.toNat c.kd c.md ∧ (clockF c v).kd = c.kd ∧ (clockF c v).md = c.md ∧ (clockF c v).op = c.op := by
  have t0 := ok.t0
  have t1 := ok.t1
  have ha : accF c = accS c.kd := rfl
  have hd : (doneF c).kd = c.kd ∧ (doneF c).md = c.md ∧ (doneF c).op = c.op := ⟨rfl, rfl, rfl⟩
  unfold clockF
  generalize hn : c.t.toNat = n
  have hn0 : n ≠ 0 := by omega
  have hn1 : n ≤ 56 := by omega
  have ht : c.t = (n : Int) := by omega
  clear hn t0 t1 h0
  unfold clockN
  split
  all_goals first
    | exact absurd rfl hn0
    | exact ⟨List.mem_cons_self, rfl, rfl, rfl⟩
    | exact far_next _ _ _
    | skip
  all_goals simp only [nextS, ha, nextF, pcT, sp, branchF, doneF, readC]
  all_goals (try split)
  all_goals first
    | exact far_next _ _ _
    | (simp [*]; done)
    | (simp_all; done)
    | skip
  all_goals (exfalso; simp only [imp_false] at *; omega)
/-- The steps where a code may stand so many cycles behind its fetch. -/
def front (kd md : Int) : Nat → List Int
  | 0 => [decF kd md]
  | j + 1 => (front kd md j).flatMap fun t => if t = 0 then [] else nextS t.toNat kd md
theorem front_took : ∀ o < 256, ∀ j < 9, (0 : Int) ∈ front (Co.kindC o) (Co.modeO o) j → tookF (Co.kindC o) (Co.modeO o) (j + 1) = true := by decide +kernel
theorem front_end : ∀ o < 256, ∀ t ∈ front (Co.kindC o) (Co.modeO o) 8, t = 0 ∨ t = 1 := by decide +kernel
theorem front_next {kd md : Int} {j : Nat} {t u : Int} (h : t ∈ front kd md j) (h0 : t ≠ 0) (hu : u ∈ nextS t.toNat kd md) : u ∈ front kd md (j + 1) := by
  unfold front
  exact List.mem_flatMap.2 ⟨t, h, by rw [if_neg h0]; exact hu⟩
/-- What is known of a processor in a cycle: no code has begun, or one began so long ago. -/
def Inv (c : Cp) (k : Nat) (last : Int) : Prop :=
  (last = -1 ∧ (c.t = 0 ∨ (2 ≤ c.t ∧ c.t ≤ 8))) ∨
  ∃ l o : Nat, last = (l : Int) ∧ l < k ∧ o < 256 ∧ c.op = (o : Int) ∧ c.kd = Co.kindC o ∧ c.md = Co.modeO o ∧ (c.t = 1 ∨ (k - l - 1 ≤ 8 ∧ c.t ∈ front (Co.kindC o) (Co.modeO o) (k - l - 1)))
theorem inv_last {c : Cp} {k : Nat} {last : Int} (h : Inv c k last) : -1 ≤ last ∧ last < k := by
  rcases h with ⟨h, -⟩ | ⟨l, o, h, hl, -⟩ <;> omega
theorem inv_took {c : Cp} {k : Nat} {last : Int} (h : Inv c k last) (h0 : 0 ≤ last) (ht : c.t = 0) : ∃ o : Nat, o < 256 ∧ c.op = (o : Int) ∧ tookF (Co.kindC o) (Co.modeO o) ((k : Int) - last) = true := by
  rcases h with ⟨h, -⟩ | ⟨l, o, rfl, hl, ho, hop, -, -, h1 | ⟨h8, hf⟩⟩
  · omega
  · omega
  · refine ⟨o, ho, hop, ?_⟩
    rw [ht] at hf
    have := front_took o ho (k - l - 1) (by omega) hf
    rwa [show (((k - l - 1 : Nat) : Int) + 1) = (k : Int) - (l : Int) from by omega] at this
theorem inv_fetch {c : Cp} (ok : c.ok) (k : Nat) (ht : c.t = 0) {v : Int} (v0 : 0 ≤ v) (v1 : v ≤ 255) : Inv (clockF c v) (k + 1) k := by
  have e : clockF c v = clockN 0 c v := by unfold clockF; rw [ht]; rfl
  rw [e]
  refine .inr ⟨k, v.toNat, rfl, by omega, by omega, ?_, rfl, rfl, .inr ⟨by omega, ?_⟩⟩
  · show v = ((v.toNat : Nat) : Int)
    omega
  · rw [show k + 1 - k - 1 = 0 from by omega]
    exact List.mem_cons_self
theorem inv_step {c : Cp} (ok : c.ok) {k : Nat} {last : Int} (h : Inv c k last) (ht : c.t ≠ 0) (v : Int) : Inv (clockF c v) (k + 1) last := by
  obtain ⟨hn, hkd, hmd, hop⟩ := step_next c ok ht v
  rcases h with ⟨rfl, h0 | ⟨h2, h8⟩⟩ | ⟨l, o, rfl, hl, ho, ho2, hk2, hm2, h1⟩
  · exact absurd h0 ht
  · refine .inl ⟨rfl, ?_⟩
    rcases (by omega : c.t = 2 ∨ c.t = 3 ∨ c.t = 4 ∨ c.t = 5 ∨ c.t = 6 ∨ c.t = 7 ∨ c.t = 8) with e | e | e | e | e | e | e <;> rw [e] at hn <;> simp [nextS] at hn <;> omega
  · refine .inr ⟨l, o, rfl, by omega, ho, by rw [hop, ho2], by rw [hkd, hk2], by rw [hmd, hm2], ?_⟩
    rcases h1 with h1 | ⟨h8, hf⟩
    · left
      rw [h1] at hn
      simpa [nextS] using hn
    · by_cases h9 : k - l - 1 < 8
      · right
        refine ⟨by omega, ?_⟩
        rw [show k + 1 - l - 1 = (k - l - 1) + 1 from by omega]
        rw [hk2, hm2] at hn
        exact front_next hf ht hn
      · left
        have e8 : k - l - 1 = 8 := by omega
        rw [e8] at hf
        have h1 := (front_end o ho c.t hf).resolve_left ht
        rw [h1] at hn
        simpa [nextS] using hn
end Go.Proofs.YtphfhlimlohplaaDoor.Mi
