/- A play of a cartridge: its accesses, one behind the other; how it lies in memory. -/
import Derived.Test.YtfdmbgmhgbhggaaCartImg
import Derived.Test.YtfdmbgmhgbhggaaCartWatch2
namespace Go.Proofs.Ytfdmbgmhgbhggaa.Ca
open Go.RowKit Go.Deep Go.Proofs.Ytfdmbgmhgbhggaa Go.Proofs.Ytfdmbgmhgbhggaa.Cl
set_option linter.unusedVariables false
set_option linter.unusedSimpArgs false
abbrev Ac := Int × Int × Bool
def acs (L : List Ac) : List Value := L.flatMap fun p => [.int .u16 p.1, .int .u8 p.2.1, .bool p.2.2]
def AcOk (L : List Ac) : Prop := ∀ p ∈ L, (0 ≤ p.1 ∧ p.1 ≤ 65535) ∧ 0 ≤ p.2.1 ∧ p.2.1 ≤ 255
theorem acs_at (R : List Ac) (i : Nat) (h : i < R.length) : (acs R)[i * 3]? = some (.int .u16 R[i].1) ∧ (acs R)[i * 3 + 1]? = some (.int .u8 R[i].2.1) ∧ (acs R)[i * 3 + 2]? = some (.bool R[i].2.2) := by
  induction R generalizing i with
  | nil => simp at h
  | cons q t ih =>
    cases i with
    | zero => exact ⟨rfl, rfl, rfl⟩
    | succ j =>
      have := ih j (by simpa using h)
      have e : ∀ m, (acs (q :: t))[(j + 1) * 3 + m]? = (acs t)[j * 3 + m]? := fun m => by
        rw [show (j + 1) * 3 + m = (j * 3 + m) + 3 from by omega]
        rfl
      refine ⟨(e 0).trans this.1, (e 1).trans this.2.1, (e 2).trans this.2.2⟩
def runF (c : Ct) (L : List Ac) : Ct := L.foldl (fun c p => watchF c p.1 p.2.1 p.2.2) c
theorem run_take (c : Ct) (L : List Ac) (k : Nat) (h : k < L.length) : runF c (L.take (k + 1)) = watchF (runF c (L.take k)) L[k].1 L[k].2.1 L[k].2.2 := by
  unfold runF; rw [List.take_succ_eq_append_getElem h, List.foldl_append]; rfl
theorem run_fine (c : Ct) (hF : Fine c) (L : List Ac) (hL : AcOk L) : Fine (runF c L) := by
  induction L generalizing c with
  | nil => exact hF
  | cons p t ih => exact ih _ (watch_fine c hF _ _ _ (hL p (by simp)).2.1) fun q hq => hL q (List.mem_cons_of_mem _ hq)
theorem AcOk.take {L : List Ac} (h : AcOk L) (k : Nat) : AcOk (L.take k) := fun p hp => h p (List.mem_of_mem_take hp)
theorem AcOk.at {L : List Ac} (h : AcOk L) (k : Nat) (hk : k < L.length) : (0 ≤ L[k].1 ∧ L[k].1 ≤ 65535) ∧ 0 ≤ L[k].2.1 ∧ L[k].2.1 ≤ 255 := h _ (List.getElem_mem hk)
theorem run_tag (c : Ct) (L : List Ac) : (runF c L).tag = c.tag ∧ (runF c L).im = c.im := by
  induction L generalizing c with
  | nil => exact ⟨rfl, rfl⟩
  | cons p t ih => exact ih (watchF c p.1 p.2.1 p.2.2)
def lastF (L : List Ac) : Int := (L.getLast?.map (·.1)).getD 0
theorem last_take (L : List Ac) (k : Nat) (h : k < L.length) : lastF (L.take (k + 1)) = L[k].1 := by
  unfold lastF; rw [List.take_succ_eq_append_getElem h, List.getLast?_concat]; rfl
/-- FE: armed just behind an access of its own place. -/
theorem armed_run (c : Ct) (hk : c.k = 10) (L : List Ac) (h0 : c.armed = false) : (runF c L).armed = decide (lastF L % 8192 = 510) := by
  have key : ∀ n, n ≤ L.length → (runF c (L.take n)).armed = decide (lastF (L.take n) % 8192 = 510) := by
    intro n hn
    cases n with
    | zero => simpa [runF, lastF] using h0
    | succ j =>
      rw [run_take c L j hn, last_take L j hn]
      show armF _ _ = _
      unfold armF
      rw [if_pos]
      show Img.idx (runF c (L.take j)).tag = 10
      rw [(run_tag c _).1]; exact hk
  simpa using key L.length (Nat.le_refl _)
theorem lies_acs {W : World} {b off n cap : Nat} {L : List Ac} (h : Lies W 3 (.slice (some ⟨b, off, none⟩) n cap) n (acs L)) (hn : L.length = n) (i : Nat) (hi : i < L.length) :
    b < W.heap.size ∧ W.cell? ⟨b, off + i * 3, none⟩ = some (.int .u16 L[i].1) ∧ W.cell? ⟨b, off + i * 3 + 1, none⟩ = some (.int .u8 L[i].2.1) ∧ W.cell? ⟨b, off + i * 3 + 2, none⟩ = some (.bool L[i].2.2) := by
  obtain ⟨_, ao, cap', he, _, h0 | ⟨b', off', rfl, hb, hc⟩⟩ := h
  · omega
  · cases he
    obtain ⟨a1, a2, a3⟩ := acs_at L i hi
    exact ⟨hb, hc _ _ a1, by rw [Nat.add_assoc]; exact hc _ _ a2, by rw [Nat.add_assoc]; exact hc _ _ a3⟩
theorem lies_some {W : World} {ao : Option Addr} {n cap : Nat} {cs : List Value} (h : Lies W 3 (.slice ao n cap) n cs) (hn : 0 < n) : ∃ b off, ao = some ⟨b, off, none⟩ := by
  obtain ⟨_, ao', cap', he, _, h0 | ⟨b', off', rfl, hb, hc⟩⟩ := h
  · omega
  · cases he; exact ⟨_, _, rfl⟩
theorem row_of_owns {W : World} {base n : Nat} {e : TypeId} {v : Value} {l : List Int} (h : W.ownsRow base e 1 v n (l.map (Value.int .i64))) (hl : l.length = n) (hm : l.length ≤ 1000000) : IsRow W v l := by
  obtain ⟨_, ⟨rfl, h0⟩ | ⟨g, cap, cur, rfl, hg, hh, hnc, hcm, hsz, ht⟩⟩ := h
  · obtain rfl : l = [] := List.eq_nil_of_length_eq_zero (by omega)
    exact ⟨none, 0, rfl, hm, fun h => absurd rfl h⟩
  · subst hl
    refine ⟨some ⟨g, 0, none⟩, cap, rfl, hm, fun _ => ⟨g, 0, rfl, fun i hi => ?_⟩⟩
    rw [cell_of_row W g _ _ _ _ hh, Nat.zero_add]
    have h1 := congrArg (fun x => x[i]?) ht
    simp only [List.getElem?_take, List.getElem?_map, List.getElem?_eq_getElem hi, Array.getElem?_toList] at h1
    rw [if_pos (by omega)] at h1
    rw [h1]
    simp [List.getD, hi]
/-- A play at block P. -/
def PlayAt (W : World) (P : Nat) (tag : ByteArray) (len seed : Int) (el : List Value) (ao : Option Addr) (n cap : Nat) : Prop :=
  W.heap[P]? = some (.cells (playL tag len seed el ao n cap).toArray 25 (0, 0))
section
variable {W : World} {P : Nat} {tag : ByteArray} {len seed : Int} {el : List Value} {ao : Option Addr} {n cap : Nat}
theorem PlayAt.lt (h : PlayAt W P tag len seed el ao n cap) : P < W.heap.size := (Array.getElem?_eq_some_iff.1 h).1
theorem PlayAt.below {W' : World} (h : PlayAt W P tag len seed el ao n cap) (hb : Below W.heap.size W W') : PlayAt W' P tag len seed el ao n cap := (hb.block _ h.lt).trans h
theorem PlayAt.c0 (h : PlayAt W P tag len seed el ao n cap) : W.cell? ⟨P, 0, none⟩ = some (.string tag) := by rw [cell_of_row W P 0 _ _ _ h]; rfl
theorem PlayAt.c1 (h : PlayAt W P tag len seed el ao n cap) : W.cell? ⟨P, 1, none⟩ = some (.int .i64 len) := by rw [cell_of_row W P 1 _ _ _ h]; rfl
theorem PlayAt.c2 (h : PlayAt W P tag len seed el ao n cap) : W.cell? ⟨P, 2, none⟩ = some (.int .u8 seed) := by rw [cell_of_row W P 2 _ _ _ h]; rfl
theorem PlayAt.c131 (h : PlayAt W P tag len seed el ao n cap) (hl : el.length = 128) : W.cell? ⟨P, 131, none⟩ = some (.slice ao n cap) := by
  rw [cell_of_row W P 131 _ _ _ h, List.getElem?_toArray]; exact play_at tag len seed el ao n cap hl
theorem PlayAt.range (h : PlayAt W P tag len seed el ao n cap) (hl : el.length = 128) : W.rangeAt P 3 el := fun j v hv => by
  rw [cell_of_row W P _ _ _ _ h, List.getElem?_toArray, show 3 + j = j + 1 + 1 + 1 from by omega]
  simp only [playL, List.getElem?_cons_succ]
  rw [List.getElem?_append_left (List.getElem?_eq_some_iff.1 hv).1]; exact hv
theorem PlayAt.all (h : PlayAt W P tag len seed el ao n cap) : W.rangeAt P 0 (playL tag len seed el ao n cap) := fun j v hv => by
  rw [cell_of_row W P _ _ _ _ h, List.getElem?_toArray, Nat.zero_add]; exact hv
end
end Go.Proofs.Ytfdmbgmhgbhggaa.Ca
