/- Package cart: what a cartridge is, plainly, and how it lies in memory. -/
import Derived.Test.YtfdmbgmhgbhggaaImg
import Derived.Test.YtfdmbgmhgbhggaaAppendOf
import Derived.Deep.RegionHeld3
import Derived.Deep.OwnRows
import Derived.Laws.OwnMore
namespace Go.Proofs.Ytfdmbgmhgbhggaa.Ca
open Go.RowKit Go.Deep Go.Proofs.Ytfdmbgmhgbhggaa Go.Proofs.Ytfdmbgmhgbhggaa.Cl
set_option linter.unusedVariables false
set_option linter.unusedSimpArgs false

/-! ### Bits of an address -/
theorem and16 (n m : Nat) (hn : n < 65536) (hm : m < 65536) : bits .and .u16 (n : Int) (m : Int) = ((n &&& m : Nat) : Int) := by
  have h : (n &&& m) ≤ n := Nat.and_le_left
  have e1 : ((n : Int) % 65536).toNat = n := by omega
  have e2 : ((m : Int) % 65536).toNat = m := by omega
  unfold bits
  have e : (BitVec.ofInt IntKind.u16.bits (n : Int) &&& BitVec.ofInt IntKind.u16.bits (m : Int)).toNat = n &&& m := by
    rw [BitVec.toNat_and, BitVec.toNat_ofInt, BitVec.toNat_ofInt]
    show ((n : Int) % 65536).toNat &&& ((m : Int) % 65536).toNat = _
    rw [e1, e2]
  show IntKind.u16.wrap _ = _
  rw [show ((BitVec.ofInt IntKind.u16.bits (n : Int) &&& BitVec.ofInt IntKind.u16.bits (m : Int)).toNat : Int) = ((n &&& m : Nat) : Int) from by rw [e]]
  show (((n &&& m : Nat) : Int)) % 65536 = _
  omega
theorem and8191 (a : Int) (h0 : 0 ≤ a) (h1 : a ≤ 65535) : bits .and .u16 a 8191 = a % 8192 := by
  obtain ⟨n, rfl⟩ := Int.eq_ofNat_of_zero_le h0
  have := and16 n 8191 (by omega) (by omega)
  rw [show (8191 : Int) = ((8191 : Nat) : Int) from rfl, this, show n &&& 8191 = n % 8192 from Nat.and_two_pow_sub_one_eq_mod n 13]
  omega
theorem and4095 (a : Int) (h0 : 0 ≤ a) (h1 : a ≤ 65535) : bits .and .u16 a 4095 = a % 4096 := by
  obtain ⟨n, rfl⟩ := Int.eq_ofNat_of_zero_le h0
  have := and16 n 4095 (by omega) (by omega)
  rw [show (4095 : Int) = ((4095 : Nat) : Int) from rfl, this, show n &&& 4095 = n % 4096 from Nat.and_two_pow_sub_one_eq_mod n 12]
  omega
theorem and_4096 (n : Nat) : n &&& 4096 = n / 4096 % 2 * 4096 := by
  apply Nat.eq_of_testBit_eq
  intro i
  rw [Nat.testBit_and, show (4096 : Nat) = 2 ^ 12 from rfl, Nat.testBit_two_pow]
  rw [Nat.testBit_mul_two_pow, Nat.testBit_eq_decide_div_mod_eq]
  by_cases h : 12 = i
  · subst h; simp [Nat.testBit_eq_decide_div_mod_eq]
  · by_cases h2 : 12 ≤ i
    · simp only [h, decide_false, Bool.and_false]
      rw [Nat.testBit_eq_decide_div_mod_eq]
      have hp : 2 ^ 1 ≤ 2 ^ (i - 12) := Nat.pow_le_pow_right (by decide) (by omega)
      have : n / 2 ^ 12 % 2 / 2 ^ (i - 12) = 0 := Nat.div_eq_of_lt (by omega)
      simp [this]
    · simp [h, h2]
theorem and4096 (a : Int) (h0 : 0 ≤ a) (h1 : a ≤ 65535) : bits .and .u16 a 4096 = a / 4096 % 2 * 4096 := by
  obtain ⟨n, rfl⟩ := Int.eq_ofNat_of_zero_le h0
  have := and16 n 4096 (by omega) (by omega)
  rw [show (4096 : Int) = ((4096 : Nat) : Int) from rfl, this, and_4096]
  omega
theorem and32 (b : Int) (h0 : 0 ≤ b) (h1 : b ≤ 255) : bits .and .u8 b 32 = b / 32 % 2 * 32 := by
  have h : ∀ n : Fin 256, bits .and .u8 (n.val : Int) 32 = (n.val : Int) / 32 % 2 * 32 := by decide +kernel
  obtain ⟨n, rfl⟩ := Int.eq_ofNat_of_zero_le h0
  exact h ⟨n, by omega⟩

/-! ### The cartridge -/
structure Ct where
  tag : ByteArray
  im : List Int
  sh : List Int
  ex : List Int
  armed : Bool
def Ct.k (c : Ct) : Int := Img.idx c.tag
def Ct.n (c : Ct) : Int := c.im.length
def Ct.sz (c : Ct) : Int := Img.szK c.k c.n
def Ct.banks (c : Ct) : Int := Img.banksK c.k c.n
def Ct.ram (c : Ct) : Bool := Img.exK c.k c.n
/-- One that New makes, whatever it has watched. -/
structure Fine (c : Ct) : Prop where
  ok : Img.okK c.k c.n = true
  sh : c.sh.length = (Img.firstK c.k c.n).length
  inb : ∀ s ∈ c.sh, 0 ≤ s ∧ s < c.banks
  ex : c.ex.length = 128
theorem k_in (c : Ct) : -1 ≤ c.k ∧ c.k ≤ 10 := Img.idx_in c.tag
def Ct.row (c : Ct) (ib icap sb scap : Nat) : List Value :=
  .slice (some ⟨ib, 0, none⟩) c.im.length icap :: .int .i64 c.sz :: .slice (some ⟨sb, 0, none⟩) c.sh.length scap :: .string c.tag :: .bool c.ram :: (c.ex.map (Value.int .u8) ++ [.bool c.armed])

def whereF (c : Ct) (a : Int) : Int :=
  if a / 4096 % 2 = 0 ∨ c.ram = true ∧ a % 4096 < 256 then -1 else c.sh.getD (a % 4096 / c.sz).toNat 0 * c.sz + a % 4096 % c.sz
def peekF (c : Ct) (a : Int) : Int × Bool :=
  if 0 ≤ whereF c a then (c.im.getD (whereF c a).toNat 0, true)
  else if a / 4096 % 2 = 1 ∧ 128 ≤ a % 4096 ∧ a % 4096 < 256 then (c.ex.getD (a % 4096 - 128).toNat 0, true) else (0, false)
/-- Which window is turned to which bank. -/
def turnF (c : Ct) (a b : Int) (wr : Bool) : Option (Nat × Int) :=
  let m := a % 8192
  if c.k = 8 ∨ c.k = 9 then (if 8184 ≤ m ∧ m ≤ 8185 then some (0, m - 8184) else none)
  else if c.k = 6 ∨ c.k = 7 then (if 8182 ≤ m ∧ m ≤ 8185 then some (0, m - 8182) else none)
  else if c.k = 4 ∨ c.k = 5 then (if 8180 ≤ m ∧ m ≤ 8187 then some (0, m - 8180) else none)
  else if c.k = 3 then (if 8160 ≤ m ∧ m ≤ 8183 then some (((m - 8160) / 8).toNat, (m - 8160) % 8) else none)
  else if c.k = 1 then (if wr = true ∧ m ≤ 63 then some (0, b % c.banks) else none)
  else if c.k = 10 then (if c.armed = true then some (0, 1 - b / 32 % 2) else none)
  else none
def shF (c : Ct) (a b : Int) (wr : Bool) : List Int := match turnF c a b wr with | some (w, v) => c.sh.set w v | none => c.sh
def exF (c : Ct) (a b : Int) : List Int := if c.ram = true ∧ 4096 ≤ a % 8192 ∧ a % 8192 < 4224 then c.ex.set (a % 8192 - 4096).toNat b else c.ex
def armF (c : Ct) (a : Int) : Bool := if c.k = 10 then decide (a % 8192 = 510) else c.armed
def watchF (c : Ct) (a b : Int) (wr : Bool) : Ct := { c with sh := shF c a b wr, ex := exF c a b, armed := armF c a }

/-- What of each mapper is so. -/
theorem fine_cases (c : Ct) (h : Fine c) : 0 ≤ c.k ∧ c.sz = Img.sizeK c.k ∧ c.ram = Img.extK c.k ∧ c.banks = c.n / Img.sizeK c.k ∧ Img.fitsK c.k c.n = true := by
  have h1 : 0 ≤ c.k ∧ Img.fitsK c.k c.n = true := by simpa [Img.okK] using h.ok
  exact ⟨h1.1, by simp [Ct.sz, Img.szK, h.ok], by simp [Ct.ram, Img.exK, h.ok], by simp [Ct.banks, Img.banksK, h.ok], h1.2⟩
/-- Its size, its number of windows, its number of banks. -/
theorem fine_nums (c : Ct) (h : Fine c) : (c.sz = 1024 ∨ c.sz = 2048 ∨ c.sz = 4096) ∧ c.sz * c.sh.length = 4096 ∧ c.banks * c.sz = c.n ∧ 1 ≤ c.banks ∧ c.n ≤ 524288 ∧ 0 ≤ c.n ∧
    (c.k = 1 → c.sh.length = 2) ∧ (c.k = 3 → c.banks = 8 ∧ c.sh.length = 4) ∧ ((c.k = 4 ∨ c.k = 5) → c.banks = 8 ∧ c.sh.length = 1) ∧ ((c.k = 6 ∨ c.k = 7) → c.banks = 4 ∧ c.sh.length = 1) ∧ ((c.k = 8 ∨ c.k = 9 ∨ c.k = 10) → c.banks = 2 ∧ c.sh.length = 1) := by
  obtain ⟨h0, h1, h2, h3, h4⟩ := fine_cases c h
  have hk := (k_in c).2
  have hl := h.sh
  have hok := h.ok
  have hn : 0 ≤ c.n := Int.natCast_nonneg _
  rw [h1, h3, hl]
  generalize c.k = k at *
  generalize c.n = n at *
  have hc : k = 0 ∨ k = 1 ∨ k = 2 ∨ k = 3 ∨ k = 4 ∨ k = 5 ∨ k = 6 ∨ k = 7 ∨ k = 8 ∨ k = 9 ∨ k = 10 := by omega
  rcases hc with rfl | rfl | rfl | rfl | rfl | rfl | rfl | rfl | rfl | rfl | rfl
  case inr.inl =>
    have hge : 0 < n ∧ n ≤ 524288 ∧ n % 2048 = 0 := by simpa using (show (decide (0 < n) && (decide (n ≤ 524288) && (n % 2048 == 0))) = true from h4)
    simp [Img.sizeK, Img.firstK, hok]; omega
  all_goals
    have hge := beq_iff_eq.1 (show (n == Img.lenK _) = true from h4)
    simp [Img.lenK] at hge
    simp only [hge] at hok
    simp [Img.sizeK, Img.firstK, hok, hge]

/-! ### In memory -/
structure CartS (W : World) (base b ib icap sb scap : Nat) (c : Ct) : Prop where
  hb : W.heap[b]? = some (.cells (c.row ib icap sb scap).toArray 71 (0, 0))
  hs : W.ownsRow base 3 1 (.slice (some ⟨sb, 0, none⟩) c.sh.length scap) c.sh.length (c.sh.map (Value.int .i64))
  hi : ∀ i v, c.im[i]? = some v → W.cell? ⟨ib, i, none⟩ = some (.int .u8 v)
  il : ib < W.heap.size
  nbi : b ≠ ib
  nbs : b ≠ sb
  nis : ib ≠ sb
  bb : base ≤ b
section
variable {W : World} {base b ib icap sb scap : Nat} {c : Ct}
theorem CartS.drew (h : CartS W base b ib icap sb scap c) : CartS W.drew base b ib icap sb scap c := ⟨h.hb, h.hs, h.hi, h.il, h.nbi, h.nbs, h.nis, h.bb⟩
theorem CartS.blt (h : CartS W base b ib icap sb scap c) : b < W.heap.size := (Array.getElem?_eq_some_iff.1 h.hb).1
theorem CartS.slt (h : CartS W base b ib icap sb scap c) : base ≤ sb ∧ sb < W.heap.size := h.hs.lt sb rfl
theorem ownsRow_moved {W' : World} {e : TypeId} {size n g cap : Nat} {xs : List Value} (h : W.ownsRow base e size (.slice (some ⟨g, 0, none⟩) n cap) n xs) (hk : W'.heap[g]? = W.heap[g]?) : W'.ownsRow base e size (.slice (some ⟨g, 0, none⟩) n cap) n xs := by
  obtain ⟨hl, ⟨h1, _⟩ | ⟨g', cap', cur, h1, h2, h3, h4⟩⟩ := h
  · cases h1
  · cases h1
    exact ⟨hl, .inr ⟨g, cap, cur, rfl, h2, hk.trans h3, h4⟩⟩
theorem CartS.moved {W' : World} (h : CartS W base b ib icap sb scap c) (h1 : W'.heap[b]? = W.heap[b]?) (h2 : W'.heap[sb]? = W.heap[sb]?) (h3 : W'.heap[ib]? = W.heap[ib]?) (h4 : ib < W'.heap.size) : CartS W' base b ib icap sb scap c :=
  ⟨h1.trans h.hb, ownsRow_moved h.hs h2, fun i v hv => (World.cell?_of_block h3).trans (h.hi i v hv), h4, h.nbi, h.nbs, h.nis, h.bb⟩
theorem CartS.below {W' : World} (h : CartS W base b ib icap sb scap c) (hb : Below W.heap.size W W') : CartS W' base b ib icap sb scap c :=
  h.moved (hb.block _ h.blt) (hb.block _ h.slt.2) (hb.block _ h.il) (Nat.lt_of_lt_of_le h.il hb.size)
theorem CartS.at (h : CartS W base b ib icap sb scap c) (i : Nat) : W.cell? ⟨b, i, none⟩ = (c.row ib icap sb scap)[i]? := by rw [cell_of_row W b i _ _ _ h.hb]; simp
theorem CartS.c0 (h : CartS W base b ib icap sb scap c) : W.cell? ⟨b, 0, none⟩ = some (.slice (some ⟨ib, 0, none⟩) c.im.length icap) := h.at 0
theorem CartS.c1 (h : CartS W base b ib icap sb scap c) : W.cell? ⟨b, 1, none⟩ = some (.int .i64 c.sz) := h.at 1
theorem CartS.c2 (h : CartS W base b ib icap sb scap c) : W.cell? ⟨b, 2, none⟩ = some (.slice (some ⟨sb, 0, none⟩) c.sh.length scap) := h.at 2
theorem CartS.c3 (h : CartS W base b ib icap sb scap c) : W.cell? ⟨b, 3, none⟩ = some (.string c.tag) := h.at 3
theorem CartS.c4 (h : CartS W base b ib icap sb scap c) : W.cell? ⟨b, 4, none⟩ = some (.bool c.ram) := h.at 4
theorem CartS.cex (h : CartS W base b ib icap sb scap c) (hf : Fine c) (i : Nat) (hi : i < 128) : W.cell? ⟨b, 5 + i, none⟩ = some (.int .u8 (c.ex.getD i 0)) := by
  rw [h.at, show 5 + i = i + 1 + 1 + 1 + 1 + 1 from by omega]
  simp only [Ct.row, List.getElem?_cons_succ]
  have hl := hf.ex
  rw [List.getElem?_append_left (by simp; omega), List.getElem?_map, List.getElem?_eq_getElem (by omega)]
  simp [List.getD, hl, hi]
theorem CartS.c133 (h : CartS W base b ib icap sb scap c) (hf : Fine c) : W.cell? ⟨b, 133, none⟩ = some (.bool c.armed) := by
  rw [h.at, show 133 = 128 + 1 + 1 + 1 + 1 + 1 from rfl]
  simp only [Ct.row, List.getElem?_cons_succ]
  have hl := hf.ex
  rw [List.getElem?_append_right (by simp; omega)]
  simp [hl]
theorem CartS.fb (h : CartS W base b ib icap sb scap c) (i : Nat) : W.frozen? ⟨b, i, none⟩ = false := frozen_of_row W b i _ _ h.hb
theorem CartS.csh (h : CartS W base b ib icap sb scap c) (i : Nat) (hi : i < c.sh.length) : W.cell? ⟨sb, i, none⟩ = some (.int .i64 (c.sh.getD i 0)) := by
  rw [h.hs.cellAt i (by omega), List.getElem?_map, List.getElem?_eq_getElem hi]
  simp [List.getD, hi]
theorem CartS.fs (h : CartS W base b ib icap sb scap c) (i : Nat) : W.frozen? ⟨sb, i, none⟩ = false := h.hs.frozenAt i
theorem CartS.cim (h : CartS W base b ib icap sb scap c) (i : Nat) (hi : i < c.im.length) : W.cell? ⟨ib, i, none⟩ = some (.int .u8 (c.im.getD i 0)) := by
  refine h.hi i _ ?_
  rw [List.getElem?_eq_getElem hi]
  simp [List.getD, hi]
theorem CartS.setSh (h : CartS W base b ib icap sb scap c) (i : Nat) (hi : i < c.sh.length) (v : Int) : CartS (W.setCell ⟨sb, i, none⟩ (.int .i64 v)) base b ib icap sb scap { c with sh := c.sh.set i v } := by
  refine ⟨?_, ?_, fun j u hu => ?_, by simpa using h.il, h.nbi, h.nbs, h.nis, h.bb⟩
  · rw [heap_setCell_other W ⟨sb, i, none⟩ b _ h.nbs]
    have := h.hb
    unfold Ct.row at this ⊢
    simpa [Ct.sz, Ct.ram, Ct.k, Ct.n] using this
  · have := (h.hs.stored i (.int .i64 v)).1
    simpa [List.map_set] using this
  · rw [World.cell?_of_block (heap_setCell_other W ⟨sb, i, none⟩ ib _ h.nis)]
    exact h.hi j u hu
theorem row_set5 (c : Ct) (ib icap sb scap i : Nat) (v : Int) (hi : i < c.ex.length) : (c.row ib icap sb scap).set (5 + i) (.int .u8 v) = ({ c with ex := c.ex.set i v } : Ct).row ib icap sb scap := by
  rw [show 5 + i = i + 1 + 1 + 1 + 1 + 1 from by omega]
  simp only [Ct.row, List.set_cons_succ]
  rw [List.set_append_left _ _ (by simpa using hi)]
  simp [Ct.sz, Ct.ram, Ct.k, Ct.n, List.map_set]
theorem row_set133 (c : Ct) (ib icap sb scap : Nat) (v : Bool) (hl : c.ex.length = 128) : (c.row ib icap sb scap).set 133 (.bool v) = ({ c with armed := v } : Ct).row ib icap sb scap := by
  rw [show 133 = 128 + 1 + 1 + 1 + 1 + 1 from rfl]
  simp only [Ct.row, List.set_cons_succ]
  rw [List.set_append_right _ _ (by simp; omega)]
  simp [Ct.sz, Ct.ram, Ct.k, Ct.n, hl]
theorem CartS.setB {c' : Ct} (h : CartS W base b ib icap sb scap c) (i : Nat) (u : Value) (e : (c.row ib icap sb scap).set i u = c'.row ib icap sb scap) (hi : c'.im = c.im) (hs : c'.sh = c.sh) : CartS (W.setCell ⟨b, i, none⟩ u) base b ib icap sb scap c' := by
  refine ⟨?_, ?_, fun j u hu => ?_, by simpa using h.il, h.nbi, h.nbs, h.nis, h.bb⟩
  · rw [heap_setCell_same W b i _ _ u h.hb, ← e]; simp
  · rw [hs]; exact ownsRow_moved h.hs (heap_setCell_other W ⟨b, i, none⟩ sb _ h.nbs.symm)
  · rw [World.cell?_of_block (heap_setCell_other W ⟨b, i, none⟩ ib _ h.nbi.symm)]
    exact h.hi j _ (by rw [← hi]; exact hu)
theorem CartS.setEx (h : CartS W base b ib icap sb scap c) (hf : c.ex.length = 128) (i : Nat) (hi : i < 128) (v : Int) : CartS (W.setCell ⟨b, 5 + i, none⟩ (.int .u8 v)) base b ib icap sb scap { c with ex := c.ex.set i v } :=
  h.setB _ _ (row_set5 c ib icap sb scap i v (by omega)) rfl rfl
theorem CartS.setArmed (h : CartS W base b ib icap sb scap c) (hf : c.ex.length = 128) (v : Bool) : CartS (W.setCell ⟨b, 133, none⟩ (.bool v)) base b ib icap sb scap { c with armed := v } :=
  h.setB _ _ (row_set133 c ib icap sb scap v hf) rfl rfl
end
end Go.Proofs.Ytfdmbgmhgbhggaa.Ca
