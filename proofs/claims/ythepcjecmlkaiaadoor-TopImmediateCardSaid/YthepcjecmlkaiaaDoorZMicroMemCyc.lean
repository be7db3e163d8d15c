/- Package micro: the reference's memory, walked. -/
import Derived.Test.YthepcjecmlkaiaaDoorZMicroN
import Derived.Deep.OwnRows
import Derived.Deep.WholeRow
import Derived.Test.YthepcjecmlkaiaaDoorZMicroBase
namespace Go.Proofs.YthepcjecmlkaiaaDoor.Mi
open Go Go.RowKit Go.Deep Go.Proofs.YthepcjecmlkaiaaDoor Go.Proofs.YthepcjecmlkaiaaDoor.Ex
set_option linter.unusedVariables false
set_option linter.unusedSimpArgs false
def fillS (p : Int × List Int) (i : Nat) : Int × List Int := ((p.1 * 73 + i + 41) % 65521, p.2.set i ((p.1 * 73 + i + 41) % 65521 / 7 % 256))
def fillF (seed : Int) (k : Nat) : Int × List Int := (List.range k).foldl fillS (seed, List.replicate 8192 0)
def codeS (at' : Int) (cs : List Int) (L : List Int) (i : Nat) : List Int := L.set ((at' + i) % 8192).toNat (cs.getD i 0)
def codeF (at' : Int) (cs : List Int) (L : List Int) (k : Nat) : List Int := (List.range k).foldl (codeS at' cs) L
def vecS (at' : Int) (L : List Int) (i : Nat) : List Int := (L.set (8188 + 2 * i) (at' % 256)).set (8189 + 2 * i) (at' / 256 % 256)
def vecF (at' : Int) (L : List Int) (k : Nat) : List Int := (List.range k).foldl (vecS at') L
def memF (seed at' : Int) (cs : List Int) : List Int := vecF at' (codeF at' cs (fillF seed 8192).2 cs.length) 2
def Bytes (L : List Int) : Prop := ∀ v ∈ L, 0 ≤ v ∧ v ≤ 255
theorem Bytes.set {L : List Int} (h : Bytes L) (i : Nat) {v : Int} (h0 : 0 ≤ v) (h1 : v ≤ 255) : Bytes (L.set i v) := fun u hu => (List.mem_or_eq_of_mem_set hu).elim (h u) (fun e => by subst e; exact ⟨h0, h1⟩)
theorem Bytes.get {L : List Int} (h : Bytes L) (i : Nat) : 0 ≤ L.getD i 0 ∧ L.getD i 0 ≤ 255 := by
  by_cases hi : i < L.length
  · rw [show L.getD i 0 = L[i] from by simp [List.getD, hi]]; exact h _ (List.getElem_mem hi)
  · rw [show L.getD i 0 = 0 from by simp [List.getD, hi]]; omega
theorem fillF_succ (seed : Int) (k : Nat) : fillF seed (k + 1) = fillS (fillF seed k) k := by unfold fillF; rw [List.range_succ, List.foldl_append]; rfl
theorem codeF_succ (a : Int) (cs L : List Int) (k : Nat) : codeF a cs L (k + 1) = codeS a cs (codeF a cs L k) k := by unfold codeF; rw [List.range_succ, List.foldl_append]; rfl
theorem vecF_succ (a : Int) (L : List Int) (k : Nat) : vecF a L (k + 1) = vecS a (vecF a L k) k := by unfold vecF; rw [List.range_succ, List.foldl_append]; rfl
theorem fillF_ok (seed : Int) (h0 : 0 ≤ seed) (h1 : seed ≤ 65535) (k : Nat) : 0 ≤ (fillF seed k).1 ∧ (fillF seed k).1 ≤ 65535 ∧ (fillF seed k).2.length = 8192 ∧ Bytes (fillF seed k).2 := by
  induction k with
  | zero => exact ⟨h0, h1, List.length_replicate, fun v hv => by rw [List.eq_of_mem_replicate hv]; omega⟩
  | succ k ih =>
    rw [fillF_succ]
    unfold fillS
    exact ⟨by show 0 ≤ _ % _; omega, by show _ % _ ≤ _; omega, by simpa using ih.2.2.1, ih.2.2.2.set _ (by omega) (by omega)⟩
theorem codeF_ok (a : Int) (cs L : List Int) (hc : Bytes cs) (hl : L.length = 8192) (hL : Bytes L) (k : Nat) : (codeF a cs L k).length = 8192 ∧ Bytes (codeF a cs L k) := by
  induction k with
  | zero => exact ⟨hl, hL⟩
  | succ k ih =>
    rw [codeF_succ]
    unfold codeS
    exact ⟨by simpa using ih.1, ih.2.set _ (hc.get k).1 (hc.get k).2⟩
theorem vecF_ok (a : Int) (L : List Int) (hl : L.length = 8192) (hL : Bytes L) (k : Nat) : (vecF a L k).length = 8192 ∧ Bytes (vecF a L k) := by
  induction k with
  | zero => exact ⟨hl, hL⟩
  | succ k ih =>
    rw [vecF_succ]
    unfold vecS
    exact ⟨by simpa using ih.1, (ih.2.set _ (by omega) (by omega)).set _ (by omega) (by omega)⟩
theorem memF_ok (seed a : Int) (cs : List Int) (h0 : 0 ≤ seed) (h1 : seed ≤ 65535) (hc : Bytes cs) : (memF seed a cs).length = 8192 ∧ Bytes (memF seed a cs) := by
  obtain ⟨_, _, hl, hb⟩ := fillF_ok seed h0 h1 8192
  obtain ⟨hl, hb⟩ := codeF_ok a cs _ hc hl hb cs.length
  exact vecF_ok a _ hl hb 2
/-- A block of bytes. -/
def MemS (W : World) (M : Nat) (L : List Int) : Prop := RowT 5 W M (L.map (Value.int .u8)).toArray
theorem MemS.cell {W : World} {M : Nat} {L : List Int} (h : MemS W M L) (i : Nat) (hi : i < L.length) : W.cell? ⟨M, i, none⟩ = some (.int .u8 (L.getD i 0)) := by
  rw [cell_of_row W M i _ _ _ h]
  simp [List.getD, hi]
theorem MemS.thaw {W : World} {M : Nat} {L : List Int} (h : MemS W M L) (i : Nat) : W.frozen? ⟨M, i, none⟩ = false := frozen_of_row W M i _ _ h
theorem MemS.put {W : World} {M : Nat} {L : List Int} (h : MemS W M L) (i : Nat) (v : Int) : MemS (W.setCell ⟨M, i, none⟩ (.int .u8 v)) M (L.set i v) := by
  have := RowT.set h i (.int .u8 v)
  unfold MemS
  rw [List.map_set]
  simpa using this
theorem MemS.lt {W : World} {M : Nat} {L : List Int} (h : MemS W M L) : M < W.heap.size := RowT.lt h
theorem MemS.moved {W W' : World} {M : Nat} {L : List Int} (h : MemS W M L) (e : W'.heap[M]? = W.heap[M]?) : MemS W' M L := RowT.moved h e
theorem made_row (z : Value) (n : Nat) : madeCells #[z] n = (List.replicate n z).toArray := by
  apply Array.ext'
  rw [toList_madeCells_one]
theorem info_u8 : (Tryd.prog.info? 5).map (fun i => (i.zero, i.size, i.bytes)) = some (some (.int .u8 0), 1, 1) := by kernel_rfl
theorem made0 : madeCells #[Value.int .u8 0] 8192 = ((List.replicate 8192 (0 : Int)).map (Value.int .u8)).toArray := by
  rw [List.map_replicate]
  exact made_row _ _
end Go.Proofs.YthepcjecmlkaiaaDoor.Mi
/- Package micro, plainly: what it asks is in its bounds; a processor's cycle on a memory. -/
namespace Go.Proofs.YthepcjecmlkaiaaDoor.Mi
open Go Go.Proofs.YthepcjecmlkaiaaDoor.Alu Go.Proofs.YthepcjecmlkaiaaDoor.Ex
set_option linter.unusedVariables false
structure Pn.ok (q : Pn) : Prop where
  a0 : 0 ≤ q.a
  a1 : q.a ≤ 8191
  d0 : 0 ≤ q.d
  d1 : q.d ≤ 255
theorem rdP_ok (v : Int) : (rdP v).ok := ⟨Int.emod_nonneg _ (by decide), by show v % 8192 ≤ 8191; omega, Int.le_refl 0, (by decide : (0 : Int) ≤ 255)⟩
theorem wrP_ok (v : Int) {d : Int} (h0 : 0 ≤ d) (h1 : d ≤ 255) : (wrP v d).ok := ⟨Int.emod_nonneg _ (by decide), by show v % 8192 ≤ 8191; omega, h0, h1⟩
theorem pinsN_ok (n : Nat) {c : Cp} (ok : c.ok) : (pinsN n c).ok := by
  have hs := storeVM_in (stK c.nm) c.r (baseF c) ok.r
  have ht := turnV_in (tuK c.nm) c.r.p c.b ok.b0 ok.b1
  have hp := or8_in c.r.p 16 ok.r.p0 ok.r.p1 (by omega) (by omega)
  have h0 := ok.r.pc0
  have h1 := ok.r.pc1
  unfold pinsN
  split
  all_goals first
    | exact rdP_ok _
    | exact wrP_ok _ hs.1 hs.2
    | exact wrP_ok _ ok.b0 ok.b1
    | exact wrP_ok _ ht.1 ht.2
    | exact wrP_ok _ hp.1 hp.2
    | exact wrP_ok _ (by omega) (by omega)
    | (split; · exact wrP_ok _ hp.1 hp.2
       · exact wrP_ok _ ok.r.a0 ok.r.a1)
theorem pinsF_ok {c : Cp} (ok : c.ok) : (pinsF c).ok := pinsN_ok _ ok
/-- A cycle on a memory. -/
def cycF (q : Cp × List Int) : Cp × List Int :=
  if (pinsF q.1).w = true then (clockF q.1 0, q.2.set (pinsF q.1).a.toNat (pinsF q.1).d) else (clockF q.1 (q.2.getD (pinsF q.1).a.toNat 0), q.2)
structure Both (q : Cp × List Int) : Prop where
  c : q.1.ok
  l : q.2.length = 8192
  b : Bytes q.2
theorem cycF_ok {q : Cp × List Int} (h : Both q) : Both (cycF q) := by
  have hp := pinsF_ok h.c
  have hg := h.b.get (pinsF q.1).a.toNat
  unfold cycF
  split
  · exact ⟨clockF_ok h.c (by omega) (by omega), by simpa using h.l, h.b.set _ hp.d0 hp.d1⟩
  · exact ⟨clockF_ok h.c hg.1 hg.2, h.l, h.b⟩
def runF (q : Cp × List Int) : Nat → Cp × List Int
  | 0 => q
  | k + 1 => cycF (runF q k)
theorem runF_ok {q : Cp × List Int} (h : Both q) (k : Nat) : Both (runF q k) := by
  induction k with
  | zero => exact h
  | succ k ih => exact cycF_ok ih
end Go.Proofs.YthepcjecmlkaiaaDoor.Mi
