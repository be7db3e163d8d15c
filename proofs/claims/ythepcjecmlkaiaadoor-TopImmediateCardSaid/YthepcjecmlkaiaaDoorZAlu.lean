/- Plain facts on the sums, shifts and comparisons of bytes: numbers alone, no program in sight. -/
import Derived.Laws.BitsAllLaws
import Derived.Laws.BitsLemmas
import Derived.RowKit
namespace Go.Proofs.YthepcjecmlkaiaaDoor.Alu
open Go Go.RowKit
set_option linter.unusedVariables false

def has (n b : Int) : Bool := n / b % 2 == 1
def setF (p b : Int) (x : Bool) : Int := if has p b = x then p else if x then p + b else p - b
def markF (p v : Int) : Int := setF (setF p 2 (v == 0)) 128 (decide (128 ≤ v))
def overF (a m t : Int) : Bool := (has a 128 == has m 128) && (has t 128 != has a 128)
def binT (a m p : Int) : Int := a + m + p % 2
def binV (a m p : Int) : Int := binT a m p % 256
def binQ (a m p : Int) : Int := markF (setF (setF p 1 (decide (255 < binT a m p))) 64 (overF a m (binV a m p))) (binV a m p)
def addL (a m p : Int) : Int := if 9 < a % 16 + m % 16 + p % 2 then (a % 16 + m % 16 + p % 2 + 6) % 16 + 16 else a % 16 + m % 16 + p % 2
def addT (a m p : Int) : Int := a / 16 * 16 + m / 16 * 16 + addL a m p
def addU (a m p : Int) : Int := if 160 ≤ addT a m p then addT a m p + 96 else addT a m p
def addV (a m p : Int) : Int := if has p 8 then addU a m p % 256 else binV a m p
def addQ (a m p : Int) : Int := if has p 8 then setF (setF (setF (binQ a m p) 128 (has (addT a m p) 128)) 64 (overF a m (addT a m p))) 1 (decide (255 < addU a m p)) else binQ a m p
def subL (a m p : Int) : Int := if a % 16 - m % 16 - (1 - p % 2) < 0 then (a % 16 - m % 16 - (1 - p % 2) + 10) % 16 - 16 else a % 16 - m % 16 - (1 - p % 2)
def subT (a m p : Int) : Int := a / 16 * 16 - m / 16 * 16 + subL a m p
def subU (a m p : Int) : Int := if subT a m p < 0 then subT a m p - 96 else subT a m p
def subV (a m p : Int) : Int := if has p 8 then subU a m p % 256 else binV a (255 - m) p
def subQ (a m p : Int) : Int := binQ a (255 - m) p
def cmpQ (a m p : Int) : Int := setF (markF p ((a - m) % 256)) 1 (decide (m ≤ a))

/-- flags of two worths that are told apart -/
theorem byte_cases {P : Int → Prop} (h : ∀ n : Fin 256, P n.val) (p : Int) (h0 : 0 ≤ p) (h1 : p ≤ 255) : P p := by
  obtain ⟨n, rfl⟩ := Int.eq_ofNat_of_zero_le h0
  exact h ⟨n, by omega⟩
set_option maxRecDepth 100000
theorem or_set (p f : Int) (h0 : 0 ≤ p) (h1 : p ≤ 255) (hf : f = 1 ∨ f = 2 ∨ f = 64 ∨ f = 128) : bits .or .u8 p f = setF p f true := by
  have h : ∀ n : Fin 256, ∀ f ∈ [(1 : Int), 2, 64, 128], bits .or .u8 n.val f = setF n.val f true := by decide +kernel
  exact byte_cases (P := fun p => bits .or .u8 p f = setF p f true) (fun n => h n f (by simpa using hf)) p h0 h1
theorem andnot_set (p f : Int) (h0 : 0 ≤ p) (h1 : p ≤ 255) (hf : f = 1 ∨ f = 2 ∨ f = 64 ∨ f = 128) : bits .andNot .u8 p f = setF p f false := by
  have h : ∀ n : Fin 256, ∀ f ∈ [(1 : Int), 2, 64, 128], bits .andNot .u8 n.val f = setF n.val f false := by decide +kernel
  exact byte_cases (P := fun p => bits .andNot .u8 p f = setF p f false) (fun n => h n f (by simpa using hf)) p h0 h1
theorem setF_in (p f : Int) (x : Bool) (h0 : 0 ≤ p) (h1 : p ≤ 255) (hf : f = 1 ∨ f = 2 ∨ f = 64 ∨ f = 128) : 0 ≤ setF p f x ∧ setF p f x ≤ 255 := by
  have h : ∀ n : Fin 256, ∀ f ∈ [(1 : Int), 2, 64, 128], ∀ x : Bool, 0 ≤ setF n.val f x ∧ setF n.val f x ≤ 255 := by decide +kernel
  exact byte_cases (P := fun p => 0 ≤ setF p f x ∧ setF p f x ≤ 255) (fun n => h n f (by simpa using hf) x) p h0 h1

theorem bits_flip (m : Int) (h0 : 0 ≤ m) (h1 : m ≤ 255) : bits .xor .u8 255 m = 255 - m := by
  exact byte_cases (P := fun m => bits .xor .u8 255 m = 255 - m) (by decide +kernel) m h0 h1

/-- bit 7 of what was worked out by masks -/
theorem nat_of (x : Int) (h0 : 0 ≤ x) : ∃ n : Nat, x = n := Int.eq_ofNat_of_zero_le h0

def sign (n : Nat) : Bool := n.testBit 7
theorem has_sign (n : Nat) : has (n : Int) 128 = n.testBit 7 := by
  unfold has
  rw [Nat.testBit_eq_decide_div_mod_eq]
  have e : ((n : Int) / 128 % 2 == 1) = decide ((n : Int) / 128 % 2 = 1) := rfl
  rw [e]
  congr 1
  apply propext
  show (n : Int) / 128 % 2 = 1 ↔ n / 2 ^ 7 % 2 = 1
  omega

theorem and128 (n : Nat) (h : n < 256) : ((n &&& 128 : Nat) : Int) = if n.testBit 7 then 128 else 0 := by
  have : ∀ k : Fin 256, ((k.val &&& 128 : Nat) : Int) = if k.val.testBit 7 then 128 else 0 := by decide +kernel
  exact this ⟨n, h⟩

/-- V's bit, as the program masks it: 'int((a^t) &^ (a^m)) & 0x80', all on bytes -/
theorem over_nat (a m t : Nat) (ha : a < 256) (hm : m < 256) (ht : t < 256) :
    (((a ^^^ t) &&& (255 - (a ^^^ m))) &&& 128 : Nat) = if overF a m t then 128 else 0 := by
  have hx : a ^^^ m < 256 := Nat.xor_lt_two_pow (n := 8) ha hm
  have hy : (a ^^^ t) &&& (255 - (a ^^^ m)) < 256 := Nat.lt_of_le_of_lt Nat.and_le_left (Nat.xor_lt_two_pow (n := 8) ha ht)
  have h := and128 _ hy
  have e : overF a m t = ((a ^^^ t) &&& (255 - (a ^^^ m))).testBit 7 := by
    unfold overF; rw [has_sign, has_sign, has_sign, Nat.testBit_and, Nat.testBit_xor]
    have q : (255 - (a ^^^ m)).testBit 7 = !((a ^^^ m).testBit 7) := by
      have : ∀ k : Fin 256, (255 - k.val).testBit 7 = !(k.val.testBit 7) := by decide +kernel
      exact this ⟨_, hx⟩
    rw [q, Nat.testBit_xor]
    cases a.testBit 7 <;> cases m.testBit 7 <;> cases t.testBit 7 <;> rfl
  rw [e]
  split at h <;> simp_all <;> omega

def comF (a m : Int) : Int := ((a.toNat &&& m.toNat : Nat) : Int)
def leftV (m p : Int) (turn : Bool) : Int := m * 2 % 256 + (if turn then p % 2 else 0)
def rightV (m p : Int) (turn : Bool) : Int := m / 2 + (if turn then p % 2 * 128 else 0)
def leftQ (m p : Int) (turn : Bool) : Int := setF (markF p (leftV m p turn)) 1 (decide (128 ≤ m))
def rightQ (m p : Int) (turn : Bool) : Int := setF (markF p (rightV m p turn)) 1 (m % 2 == 1)
def bitQ (a m p : Int) : Int := setF (setF (setF p 2 (comF a m == 0)) 128 (has m 128)) 64 (has m 64)
def oddW (t v : Int) : Int := if 5 < t % 16 + t % 2 then v / 16 * 16 + (v % 16 + 6) % 16 else v
def oddH (t : Int) : Bool := decide (5 < t / 16 + t / 16 % 2)
def oddV (a m p : Int) : Int :=
  let t := comF a m
  let v := rightV t p true
  if has p 8 then (if oddH t then (oddW t v + 96) % 256 else oddW t v) else v
def oddQ (a m p : Int) : Int :=
  let t := comF a m
  let v := rightV t p true
  let q := rightQ t p true
  if has p 8 then setF (setF (setF q 128 (p % 2 == 1)) 64 (has t 64 != has v 64)) 1 (oddH t)
  else setF (setF q 1 (has v 64)) 64 (has v 64 != has v 32)

theorem comF_in (a m : Int) (_h0 : 0 ≤ a) (h1 : a ≤ 255) : 0 ≤ comF a m ∧ comF a m ≤ 255 := by
  unfold comF
  have := @Nat.and_le_left a.toNat m.toNat
  omega
theorem comF_and (a m : Int) (h0 : 0 ≤ a) (h1 : a ≤ 255) (g0 : 0 ≤ m) (g1 : m ≤ 255) : bits .and .u8 a m = comF a m := u8_and a m h0 (by omega) g0 (by omega)

theorem markF_in (p v : Int) (h0 : 0 ≤ p) (h1 : p ≤ 255) : 0 ≤ markF p v ∧ markF p v ≤ 255 := by
  unfold markF
  have h := setF_in p 2 (v == 0) h0 h1 (by simp)
  exact setF_in _ 128 _ h.1 h.2 (by simp)
theorem binV_in (a m p : Int) : 0 ≤ binV a m p ∧ binV a m p ≤ 255 := by unfold binV; omega
theorem binQ_in (a m p : Int) (h0 : 0 ≤ p) (h1 : p ≤ 255) : 0 ≤ binQ a m p ∧ binQ a m p ≤ 255 := by
  unfold binQ
  have h := setF_in p 1 (decide (255 < binT a m p)) h0 h1 (by simp)
  have g := setF_in _ 64 (overF a m (binV a m p)) h.1 h.2 (by simp)
  exact markF_in _ _ g.1 g.2
theorem leftV_in (m p : Int) (t : Bool) : 0 ≤ leftV m p t ∧ leftV m p t ≤ 255 := by unfold leftV; split <;> omega
theorem rightV_in (m p : Int) (t : Bool) (h0 : 0 ≤ m) (h1 : m ≤ 255) : 0 ≤ rightV m p t ∧ rightV m p t ≤ 255 := by unfold rightV; split <;> omega

/-- Z is told once -/
theorem mark_again (q v : Int) (h0 : 0 ≤ q) (h1 : q ≤ 255) : setF (markF q v) 2 (v == 0) = markF q v := by
  have h : ∀ n : Fin 256, ∀ z s : Bool, setF (setF (setF n.val 2 z) 128 s) 2 z = setF (setF n.val 2 z) 128 s := by decide +kernel
  exact byte_cases (P := fun q => setF (markF q v) 2 (v == 0) = markF q v) (fun n => h n _ _) q h0 h1
theorem right_again (p v : Int) (b c : Bool) (h0 : 0 ≤ p) (h1 : p ≤ 255) : setF (setF (setF (markF p v) 1 b) 128 c) 2 (v == 0) = setF (setF (markF p v) 1 b) 128 c := by
  have h : ∀ n : Fin 256, ∀ z s b c : Bool, setF (setF (setF (setF (setF n.val 2 z) 128 s) 1 b) 128 c) 2 z = setF (setF (setF (setF n.val 2 z) 128 s) 1 b) 128 c := by decide +kernel
  exact byte_cases (P := fun p => setF (setF (setF (markF p v) 1 b) 128 c) 2 (v == 0) = setF (setF (markF p v) 1 b) 128 c) (fun n => h n _ _ b c) p h0 h1
theorem has_over (a m t : Int) : overF a m (t % 256) = overF a m t := by
  unfold overF has
  have : t % 256 / 128 % 2 = t / 128 % 2 := by omega
  rw [this]
theorem has_low (t : Int) : has (t % 256) 128 = has t 128 := by
  unfold has
  have : t % 256 / 128 % 2 = t / 128 % 2 := by omega
  rw [this]
theorem setF_one (p : Int) (b : Bool) (h0 : 0 ≤ p) (h1 : p ≤ 255) : setF p 1 b % 2 = if b then 1 else 0 := by
  have h : ∀ n : Fin 256, ∀ b : Bool, setF n.val 1 b % 2 = if b then 1 else 0 := by decide +kernel
  exact byte_cases (P := fun p => setF p 1 b % 2 = if b then 1 else 0) (fun n => h n b) p h0 h1
/-- the lower digit of a difference below 0, as the program masks it -/
theorem low_neg (low : Int) (h0 : -16 ≤ low) (h1 : low < 0) : bits .and .i64 (low - 6) 15 = (low + 10) % 16 := by
  have h : ∀ n : Fin 16, bits .and .i64 (-((n.val : Int) + 1) - 6) 15 = (-((n.val : Int) + 1) + 10) % 16 := by decide +kernel
  have := h ⟨(-low - 1).toNat, by omega⟩
  have e : (((-low - 1).toNat : Nat) : Int) = -low - 1 := by omega
  simp only [e] at this
  have e2 : -(-low - 1 + 1) = low := by omega
  rw [e2] at this; exact this
/-- 'common' bit by bit -/
theorem com_step (a m : Int) (h0 : 0 ≤ a) (g0 : 0 ≤ m) (k : Nat) :
    comF a m % 2 ^ (k + 1) = comF a m % 2 ^ k + (if has a (2 ^ k) && has m (2 ^ k) then 2 ^ k else 0) := by
  obtain ⟨x, rfl⟩ := Int.eq_ofNat_of_zero_le h0
  obtain ⟨y, rfl⟩ := Int.eq_ofNat_of_zero_le g0
  have hb : ∀ n : Nat, has (n : Int) (2 ^ k) = n.testBit k := by
    intro n; unfold has; rw [Nat.testBit_eq_decide_div_mod_eq]
    have e : ((n : Int) / 2 ^ k % 2 == 1) = decide ((n : Int) / 2 ^ k % 2 = 1) := rfl
    rw [e]; congr 1; apply propext
    have : (n : Int) / 2 ^ k % 2 = ((n / 2 ^ k % 2 : Nat) : Int) := by simp
    rw [this]; omega
  rw [hb, hb, ← Nat.testBit_and]
  unfold comF
  simp only [Int.toNat_natCast]
  have hm : (x &&& y) % 2 ^ (k + 1) = (x &&& y) % 2 ^ k + 2 ^ k * ((x &&& y) / 2 ^ k % 2) := by rw [Nat.pow_succ, Nat.mod_mul]
  have ht : (x &&& y).testBit k = decide ((x &&& y) / 2 ^ k % 2 = 1) := Nat.testBit_eq_decide_div_mod_eq
  have c1 : (((x &&& y : Nat) : Int) % 2 ^ (k + 1)) = (((x &&& y) % 2 ^ (k + 1) : Nat) : Int) := by simp
  have c2 : (((x &&& y : Nat) : Int) % 2 ^ k) = (((x &&& y) % 2 ^ k : Nat) : Int) := by simp
  rw [c1, c2, hm]
  rw [ht]
  rcases Nat.mod_two_eq_zero_or_one ((x &&& y) / 2 ^ k) with e | e <;> rw [e] <;> simp

theorem and_flag (v f : Int) (h0 : 0 ≤ v) (h1 : v ≤ 255) (hf : f = 1 ∨ f = 2 ∨ f = 4 ∨ f = 8 ∨ f = 16 ∨ f = 32 ∨ f = 64 ∨ f = 128) : bits .and .u8 v f ≠ 0 ↔ has v f = true := by
  have h : ∀ n : Fin 256, ∀ f ∈ [(1 : Int), 2, 4, 8, 16, 32, 64, 128], (bits .and .u8 n.val f ≠ 0 ↔ has n.val f = true) := by decide +kernel
  exact byte_cases (P := fun v => bits .and .u8 v f ≠ 0 ↔ has v f = true) (fun n => h n f (by simpa using hf)) v h0 h1
theorem has_top (v : Int) (h0 : 0 ≤ v) (h1 : v ≤ 255) : has v 128 = decide (128 ≤ v) :=
  byte_cases (P := fun v => has v 128 = decide (128 ≤ v)) (by decide +kernel) v h0 h1
theorem and_top (v : Int) (h0 : 0 ≤ v) (h1 : v ≤ 255) : bits .and .u8 v 128 ≠ 0 ↔ decide (128 ≤ v) = true := by
  rw [and_flag v 128 h0 h1 (by simp), has_top v h0 h1]
theorem and1 (v : Int) (h0 : 0 ≤ v) (h1 : v ≤ 255) : bits .and .u8 v 1 = v % 2 :=
  byte_cases (P := fun v => bits .and .u8 v 1 = v % 2) (by decide +kernel) v h0 h1
theorem and15 (v : Int) (h0 : 0 ≤ v) (h1 : v ≤ 255) : bits .and .u8 v 15 = v % 16 :=
  byte_cases (P := fun v => bits .and .u8 v 15 = v % 16) (by decide +kernel) v h0 h1
theorem and240 (v : Int) (h0 : 0 ≤ v) (h1 : v ≤ 255) : bits .and .u8 v 240 = v / 16 * 16 :=
  byte_cases (P := fun v => bits .and .u8 v 240 = v / 16 * 16) (by decide +kernel) v h0 h1
theorem flag_eq (v f : Int) (b : Bool) (h0 : 0 ≤ v) (h1 : v ≤ 255) (hf : f = 1 ∨ f = 2 ∨ f = 4 ∨ f = 8 ∨ f = 16 ∨ f = 32 ∨ f = 64 ∨ f = 128) (hb : has v f = b) : (bits .and .u8 v f == 0) = !b := by
  have h := and_flag v f h0 h1 hf
  rw [hb] at h
  cases b <;> simp at h ⊢ <;> exact h
theorem flag_ne (v f : Int) (b : Bool) (h0 : 0 ≤ v) (h1 : v ≤ 255) (hf : f = 1 ∨ f = 2 ∨ f = 4 ∨ f = 8 ∨ f = 16 ∨ f = 32 ∨ f = 64 ∨ f = 128) (hb : has v f = b) : (bits .and .u8 v f != 0) = b := by
  have h := and_flag v f h0 h1 hf
  rw [hb] at h
  cases b <;> simp at h ⊢ <;> exact h

def overI (b : Bool) : Int := if b then 128 else 0
theorem overI_ne (b : Bool) : overI b ≠ 0 ↔ b = true := by cases b <;> simp [overI]
theorem over_bits (a m s : Int) (h0 : 0 ≤ a) (h1 : a ≤ 255) (g0 : 0 ≤ m) (g1 : m ≤ 255) :
    bits .and .i64 (wrap64 (bits .andNot .u8 (bits .xor .u8 a (s % 256)) (bits .xor .u8 a m))) 128 = overI (overF a m s) := by
  rw [← has_over a m s]
  obtain ⟨x, rfl⟩ := Int.eq_ofNat_of_zero_le h0
  obtain ⟨y, rfl⟩ := Int.eq_ofNat_of_zero_le g0
  obtain ⟨z, hz⟩ := Int.eq_ofNat_of_zero_le (show 0 ≤ s % 256 by omega)
  have hx : x < 256 := by omega
  have hy : y < 256 := by omega
  have hz' : z < 256 := by omega
  rw [hz, u8_xor_nat x z hx hz', u8_xor_nat x y hx hy]
  have k1 : x ^^^ z < 256 := Nat.xor_lt_two_pow (n := 8) hx hz'
  have k2 : x ^^^ y < 256 := Nat.xor_lt_two_pow (n := 8) hx hy
  rw [u8_andNot_nat _ _ k1 k2]
  have k3 : (x ^^^ z) &&& (255 - (x ^^^ y)) < 256 := Nat.lt_of_le_of_lt Nat.and_le_left k1
  have kw : wrap64 (((x ^^^ z) &&& (255 - (x ^^^ y)) : Nat) : Int) = (((x ^^^ z) &&& (255 - (x ^^^ y)) : Nat) : Int) := by unfold wrap64; omega
  rw [kw]
  have o := over_nat x y z hx hy hz'
  have a128 : ∀ k : Fin 256, bits .and .i64 (k.val : Int) 128 = ((k.val &&& 128 : Nat) : Int) := by decide +kernel
  have := a128 ⟨_, k3⟩
  simp only at this
  rw [this, o]
  unfold overI
  split <;> rfl

theorem hi_ne (t : Int) (h0 : 0 ≤ t) (b : Bool) (hb : decide (255 < t) = b) : t / 256 ≠ 0 ↔ b = true := by
  subst hb; rw [decide_eq_true_eq]; omega
theorem addL_in (a m p : Int) : 0 ≤ addL a m p ∧ addL a m p ≤ 31 := by
  unfold addL; split <;> omega
theorem addT_in (a m p : Int) (h0 : 0 ≤ a) (h1 : a ≤ 255) (g0 : 0 ≤ m) (g1 : m ≤ 255) : 0 ≤ addT a m p ∧ addT a m p ≤ 511 := by
  have := addL_in a m p; unfold addT; omega
theorem and15_i64 (n : Int) : bits .and .i64 n 15 = n % 16 := by
  have h : (BitVec.ofInt 64 n &&& BitVec.ofInt 64 15).toNat = (n % 16).toNat := by
    rw [BitVec.toNat_and, BitVec.toNat_ofInt]
    have e : (BitVec.ofInt 64 (15 : Int)).toNat = 2 ^ 4 - 1 := by decide
    rw [e, Nat.and_two_pow_sub_one_eq_mod]
    have : ((2 ^ 64 : Nat) : Int) = 18446744073709551616 := by decide
    rw [this]
    omega
  show IntKind.i64.wrap (((BitVec.ofInt 64 n &&& BitVec.ofInt 64 15).toNat : Nat) : Int) = _
  rw [h, IntKind.wrap_i64]
  omega
theorem and128_i64 (n : Int) (h0 : 0 ≤ n) : bits .and .i64 n 128 ≠ 0 ↔ has n 128 = true := by
  obtain ⟨x, rfl⟩ := Int.eq_ofNat_of_zero_le h0
  have h : (BitVec.ofInt 64 (x : Int) &&& BitVec.ofInt 64 128).toNat = x % 18446744073709551616 &&& 128 := by
    rw [BitVec.toNat_and, BitVec.toNat_ofInt]
    have e : (BitVec.ofInt 64 (128 : Int)).toNat = 128 := by decide
    have : ((2 ^ 64 : Nat) : Int) = 18446744073709551616 := by decide
    rw [e, this]
    congr 1
  show IntKind.i64.wrap (((BitVec.ofInt 64 (x : Int) &&& BitVec.ofInt 64 128).toNat : Nat) : Int) ≠ 0 ↔ _
  rw [h, has_sign]
  have e7 : (x % 18446744073709551616 &&& 128) = if x.testBit 7 then 128 else 0 := by
    have hb : (x % 18446744073709551616 &&& 128) = (x % 256) &&& 128 := by
      apply Nat.eq_of_testBit_eq
      intro i
      rw [Nat.testBit_and, Nat.testBit_and, show (18446744073709551616 : Nat) = 2 ^ 64 from rfl, show (256 : Nat) = 2 ^ 8 from rfl, Nat.testBit_mod_two_pow, Nat.testBit_mod_two_pow, show (128 : Nat) = 2 ^ 7 from rfl, Nat.testBit_two_pow]
      by_cases hi : 7 = i
      · subst hi; simp
      · simp [hi]
    have h1 := and128 (x % 256) (by omega)
    have h2 : (x % 256).testBit 7 = x.testBit 7 := by
      rw [show (256 : Nat) = 2 ^ 8 from rfl, Nat.testBit_mod_two_pow]; simp
    rw [hb]
    rw [h2] at h1
    have h3 : ((x % 256 &&& 128 : Nat) : Int) = ((if x.testBit 7 = true then 128 else 0 : Nat) : Int) := by rw [h1]; split <;> rfl
    exact Int.ofNat_inj.1 h3
  rw [e7]
  cases x.testBit 7
  · simp [IntKind.wrap_i64]
  · simp [IntKind.wrap_i64]

theorem left_or (m p : Int) : bits .or .u8 (m * 2 % 256) (p % 2) = leftV m p true := by
  rw [u8_or _ _ (by omega) (by omega) (by omega) (by omega)]
  obtain ⟨x, hx⟩ := Int.eq_ofNat_of_zero_le (show 0 ≤ m * 2 % 256 / 2 by omega)
  have e : (m * 2 % 256).toNat = 2 * x := by omega
  have e2 : (p % 2).toNat < 2 ^ 1 := by omega
  have := Nat.two_pow_add_eq_or_of_lt e2 x
  rw [show (2 : Nat) ^ 1 * x = 2 * x from rfl] at this
  rw [e, ← this]
  show _ = m * 2 % 256 + p % 2
  omega
theorem right_or (m : Int) (g0 : 0 ≤ m) (g1 : m ≤ 255) : bits .or .u8 (m / 2) 128 = m / 2 + 128 :=
  byte_cases (P := fun m => bits .or .u8 (m / 2) 128 = m / 2 + 128) (by decide +kernel) m g0 g1
theorem flip_max (m : Int) (h0 : 0 ≤ m) (h1 : m ≤ 255) : bits .xor .u8 IntKind.u8.max m = 255 - m := bits_flip m h0 h1
theorem subT_in (a m p : Int) (h0 : 0 ≤ a) (h1 : a ≤ 255) (g0 : 0 ≤ m) (g1 : m ≤ 255) : -300 ≤ subT a m p ∧ subT a m p ≤ 300 := by
  unfold subT subL; split <;> omega
theorem odd_w (v : Int) (h0 : 0 ≤ v) (h1 : v ≤ 255) : bits .or .u8 (v / 16 * 16) ((v + 6) % 16) = v / 16 * 16 + (v % 16 + 6) % 16 :=
  byte_cases (P := fun v => bits .or .u8 (v / 16 * 16) ((v + 6) % 16) = v / 16 * 16 + (v % 16 + 6) % 16) (by decide +kernel) v h0 h1
theorem odd_x (t v f : Int) (h0 : 0 ≤ t) (h1 : t ≤ 255) (g0 : 0 ≤ v) (g1 : v ≤ 255) (hf : f = 64) : bits .and .u8 (bits .xor .u8 t v) f ≠ 0 ↔ (has t f != has v f) = true := by
  subst hf
  obtain ⟨x, rfl⟩ := Int.eq_ofNat_of_zero_le h0
  obtain ⟨y, rfl⟩ := Int.eq_ofNat_of_zero_le g0
  have hx : x < 256 := by omega
  have hy : y < 256 := by omega
  rw [u8_xor_nat x y hx hy]
  have k : x ^^^ y < 256 := Nat.xor_lt_two_pow (n := 8) hx hy
  rw [and_flag _ 64 (by omega) (by omega) (by simp)]
  have hb : ∀ n : Fin 256, has (n.val : Int) 64 = n.val.testBit 6 := by decide +kernel
  have a1 := hb ⟨_, k⟩
  have a2 := hb ⟨x, hx⟩
  have a3 := hb ⟨y, hy⟩
  simp only at a1 a2 a3
  rw [a1, a2, a3, Nat.testBit_xor]
theorem odd_y (v : Int) (h0 : 0 ≤ v) (h1 : v ≤ 255) : bits .xor .u8 (bits .and .u8 v 64) (bits .and .u8 (v * 2 % 256) 64) ≠ 0 ↔ (has v 64 != has v 32) = true :=
  byte_cases (P := fun v => bits .xor .u8 (bits .and .u8 v 64) (bits .and .u8 (v * 2 % 256) 64) ≠ 0 ↔ (has v 64 != has v 32) = true) (by decide +kernel) v h0 h1
theorem odd_l (t : Int) (h0 : 0 ≤ t) (h1 : t ≤ 255) : bits .and .i64 (t % 16) 1 = t % 2 :=
  byte_cases (P := fun t => bits .and .i64 (t % 16) 1 = t % 2) (by decide +kernel) t h0 h1
theorem odd_h (t : Int) (h0 : 0 ≤ t) (h1 : t ≤ 255) : bits .and .i64 (t / 16) 1 = t / 16 % 2 :=
  byte_cases (P := fun t => bits .and .i64 (t / 16) 1 = t / 16 % 2) (by decide +kernel) t h0 h1
theorem oddW_in (t v : Int) (h0 : 0 ≤ v) (h1 : v ≤ 255) : 0 ≤ oddW t v ∧ oddW t v ≤ 255 := by
  unfold oddW; split <;> omega
theorem rightQ_in (m p : Int) (t : Bool) (h0 : 0 ≤ p) (h1 : p ≤ 255) : 0 ≤ rightQ m p t ∧ rightQ m p t ≤ 255 := by
  have h := markF_in p (rightV m p t) h0 h1
  exact setF_in _ 1 _ h.1 h.2 (by simp)

theorem tmod_neg (x n : Int) (h : x < 0) : x.tmod n = -((-x) % n) := by
  have e : x = -(-x) := by omega
  have k : (-(-x)).tmod n = -((-x).tmod n) := Int.neg_tmod _ _
  rw [← e] at k
  rw [k, Int.tmod_eq_emod_of_nonneg (by omega)]
theorem sub_end (T : Int) (_h0 : -1000 ≤ T) (h1 : T < 0) : (wrap64 (T.tmod 256 + 256)).tmod 256 = T % 256 := by
  rw [tmod_neg T 256 h1]
  have e : wrap64 (-(-T % 256) + 256) = -(-T % 256) + 256 := by unfold wrap64; omega
  rw [e, Int.tmod_eq_emod_of_nonneg (by omega)]; omega

/-- the bits' worths, and what two bytes have in common below one -/
def worth (b : Int) : Prop := ∃ k : Nat, k ≤ 8 ∧ b = 2 ^ k
theorem worth_one : worth 1 := ⟨0, by omega, rfl⟩
theorem worth_in (b : Int) (h : worth b) : 1 ≤ b ∧ b ≤ 256 := by
  obtain ⟨k, hk, rfl⟩ := h
  have : ∀ j : Fin 9, (1 : Int) ≤ 2 ^ j.val ∧ (2 : Int) ^ j.val ≤ 256 := by decide
  exact this ⟨k, by omega⟩
theorem worth_next (b : Int) (h : worth b) (hb : b < 256) : worth (b * 2) := by
  obtain ⟨k, hk, rfl⟩ := h
  have : ∀ j : Fin 9, (2 : Int) ^ j.val < 256 → j.val ≤ 7 := by decide
  exact ⟨k + 1, by have := this ⟨k, by omega⟩ hb; simp only at this; omega, by rw [Int.pow_succ]⟩
theorem com_next (a m b : Int) (h0 : 0 ≤ a) (g0 : 0 ≤ m) (h : worth b) : comF a m % (b * 2) = comF a m % b + (if has a b && has m b then b else 0) := by
  obtain ⟨k, hk, rfl⟩ := h
  have := com_step a m h0 g0 k
  rw [Int.pow_succ] at this; exact this

theorem addV_in (a m p : Int) : 0 ≤ addV a m p ∧ addV a m p ≤ 255 := by
  unfold addV; split
  · omega
  · exact binV_in a m p
theorem addQ_in (a m p : Int) (h0 : 0 ≤ p) (h1 : p ≤ 255) : 0 ≤ addQ a m p ∧ addQ a m p ≤ 255 := by
  have b := binQ_in a m p h0 h1
  unfold addQ; split
  · have s1 := setF_in _ 128 (has (addT a m p) 128) b.1 b.2 (by simp)
    have s2 := setF_in _ 64 (overF a m (addT a m p)) s1.1 s1.2 (by simp)
    exact setF_in _ 1 _ s2.1 s2.2 (by simp)
  · exact b
theorem subV_in (a m p : Int) : 0 ≤ subV a m p ∧ subV a m p ≤ 255 := by
  unfold subV; split
  · omega
  · exact binV_in a (255 - m) p
theorem subQ_in (a m p : Int) (h0 : 0 ≤ p) (h1 : p ≤ 255) : 0 ≤ subQ a m p ∧ subQ a m p ≤ 255 := binQ_in a (255 - m) p h0 h1
theorem cmpQ_in (a m p : Int) (h0 : 0 ≤ p) (h1 : p ≤ 255) : 0 ≤ cmpQ a m p ∧ cmpQ a m p ≤ 255 := by
  have k := markF_in p ((a - m) % 256) h0 h1
  exact setF_in _ 1 _ k.1 k.2 (by simp)
theorem bitQ_in (a m p : Int) (h0 : 0 ≤ p) (h1 : p ≤ 255) : 0 ≤ bitQ a m p ∧ bitQ a m p ≤ 255 := by
  have s0 := setF_in p 2 (comF a m == 0) h0 h1 (by simp)
  have s1 := setF_in _ 128 (has m 128) s0.1 s0.2 (by simp)
  exact setF_in _ 64 _ s1.1 s1.2 (by simp)
theorem leftQ_in (m p : Int) (t : Bool) (h0 : 0 ≤ p) (h1 : p ≤ 255) : 0 ≤ leftQ m p t ∧ leftQ m p t ≤ 255 := by
  have h := markF_in p (leftV m p t) h0 h1
  exact setF_in _ 1 _ h.1 h.2 (by simp)
theorem oddV_in (a m p : Int) (h0 : 0 ≤ a) (h1 : a ≤ 255) : 0 ≤ oddV a m p ∧ oddV a m p ≤ 255 := by
  have tn := comF_in a m h0 h1
  have vn := rightV_in (comF a m) p true tn.1 tn.2
  have wn := oddW_in (comF a m) (rightV (comF a m) p true) vn.1 vn.2
  unfold oddV
  simp only []
  split
  · split <;> omega
  · exact vn
theorem oddQ_in (a m p : Int) (h0 : 0 ≤ p) (h1 : p ≤ 255) : 0 ≤ oddQ a m p ∧ oddQ a m p ≤ 255 := by
  have q := rightQ_in (comF a m) p true h0 h1
  unfold oddQ
  simp only []
  split
  · have s1 := setF_in _ 128 (p % 2 == 1) q.1 q.2 (by simp)
    have s2 := setF_in _ 64 (has (comF a m) 64 != has (rightV (comF a m) p true) 64) s1.1 s1.2 (by simp)
    exact setF_in _ 1 _ s2.1 s2.2 (by simp)
  · have s1 := setF_in _ 1 (has (rightV (comF a m) p true) 64) q.1 q.2 (by simp)
    exact setF_in _ 64 _ s1.1 s1.2 (by simp)

/-! What a call is not about stays. -/
theorem has8_set (p f : Int) (x : Bool) (h0 : 0 ≤ p) (h1 : p ≤ 255) (hf : f = 1 ∨ f = 2 ∨ f = 64 ∨ f = 128) : has (setF p f x) 8 = has p 8 := by
  have h : ∀ n : Fin 256, ∀ f ∈ [(1 : Int), 2, 64, 128], ∀ x : Bool, has (setF n.val f x) 8 = has n.val 8 := by decide +kernel
  exact byte_cases (P := fun p => has (setF p f x) 8 = has p 8) (fun n => h n f (by simpa using hf) x) p h0 h1
theorem clear8 (p : Int) (h0 : 0 ≤ p) (h1 : p ≤ 255) : 0 ≤ bits .andNot .u8 p 8 ∧ bits .andNot .u8 p 8 ≤ 255 ∧ has (bits .andNot .u8 p 8) 8 = false :=
  byte_cases (P := fun p => 0 ≤ bits .andNot .u8 p 8 ∧ bits .andNot .u8 p 8 ≤ 255 ∧ has (bits .andNot .u8 p 8) 8 = false) (by decide +kernel) p h0 h1
theorem has8_bin (a m p : Int) (h0 : 0 ≤ p) (h1 : p ≤ 255) : has (binQ a m p) 8 = has p 8 := by
  unfold binQ markF
  have k1 := setF_in p 1 (decide (255 < binT a m p)) h0 h1 (by simp)
  have k2 := setF_in _ 64 (overF a m (binV a m p)) k1.1 k1.2 (by simp)
  have k3 := setF_in _ 2 (binV a m p == 0) k2.1 k2.2 (by simp)
  rw [has8_set _ 128 _ k3.1 k3.2 (by simp), has8_set _ 2 _ k2.1 k2.2 (by simp), has8_set _ 64 _ k1.1 k1.2 (by simp), has8_set _ 1 _ h0 h1 (by simp)]
def Agr (mk x p : Int) : Prop := 0 ≤ x ∧ x ≤ 255 ∧ bits .and .u8 x mk = bits .and .u8 p mk
theorem Agr.set60 {x p : Int} (h : Agr 60 x p) (f : Int) (b : Bool) (hf : f = 1 ∨ f = 2 ∨ f = 64 ∨ f = 128) : Agr 60 (setF x f b) p := by
  have hs := setF_in x f b h.1 h.2.1 hf
  refine ⟨hs.1, hs.2, ?_⟩
  rw [← h.2.2]
  have k : ∀ n : Fin 256, ∀ f ∈ [(1 : Int), 2, 64, 128], ∀ b : Bool, bits .and .u8 (setF n.val f b) 60 = bits .and .u8 n.val 60 := by decide +kernel
  exact byte_cases (P := fun x => bits .and .u8 (setF x f b) 60 = bits .and .u8 x 60) (fun n => k n f (by simpa using hf) b) x h.1 h.2.1
theorem Agr.set64 {x p : Int} (h : Agr 64 x p) (f : Int) (b : Bool) (hf : f = 1 ∨ f = 2 ∨ f = 128) : Agr 64 (setF x f b) p := by
  have hs := setF_in x f b h.1 h.2.1 (by omega)
  refine ⟨hs.1, hs.2, ?_⟩
  rw [← h.2.2]
  have k : ∀ n : Fin 256, ∀ f ∈ [(1 : Int), 2, 128], ∀ b : Bool, bits .and .u8 (setF n.val f b) 64 = bits .and .u8 n.val 64 := by decide +kernel
  exact byte_cases (P := fun x => bits .and .u8 (setF x f b) 64 = bits .and .u8 x 64) (fun n => k n f (by simpa using hf) b) x h.1 h.2.1
theorem Agr.refl (mk p : Int) (h0 : 0 ≤ p) (h1 : p ≤ 255) : Agr mk p p := ⟨h0, h1, rfl⟩
def Nil (mk v : Int) : Prop := 0 ≤ v ∧ v ≤ 255 ∧ bits .and .u8 v mk = 0
theorem Agr.nil {mk x p : Int} (h : Agr mk x p) (h0 : 0 ≤ p) (h1 : p ≤ 255) (m0 : 0 ≤ mk) (m1 : mk ≤ 255) : Nil mk (bits .xor .u8 x p) := by
  obtain ⟨x0, x1, he⟩ := h
  obtain ⟨x, rfl⟩ := Int.eq_ofNat_of_zero_le x0
  obtain ⟨p, rfl⟩ := Int.eq_ofNat_of_zero_le h0
  obtain ⟨k, rfl⟩ := Int.eq_ofNat_of_zero_le m0
  have hx : x < 256 := by omega
  have hp : p < 256 := by omega
  have hk : k < 256 := by omega
  rw [u8_and_nat x k hx hk, u8_and_nat p k hp hk] at he
  have c : x ^^^ p < 256 := Nat.xor_lt_two_pow (n := 8) hx hp
  rw [u8_xor_nat x p hx hp]
  refine ⟨by omega, by omega, ?_⟩
  rw [u8_and_nat _ k c hk, Nat.and_xor_distrib_right, Int.ofNat_inj.1 he, Nat.xor_self]; rfl
theorem Nil.or {mk a b : Int} (h : Nil mk a) (g : Nil mk b) (m0 : 0 ≤ mk) (m1 : mk ≤ 255) : Nil mk (bits .or .u8 a b) := by
  obtain ⟨a0, a1, ha⟩ := h
  obtain ⟨b0, b1, hb⟩ := g
  obtain ⟨x, rfl⟩ := Int.eq_ofNat_of_zero_le a0
  obtain ⟨p, rfl⟩ := Int.eq_ofNat_of_zero_le b0
  obtain ⟨k, rfl⟩ := Int.eq_ofNat_of_zero_le m0
  have hx : x < 256 := by omega
  have hp : p < 256 := by omega
  have hk : k < 256 := by omega
  rw [u8_and_nat x k hx hk] at ha
  rw [u8_and_nat p k hp hk] at hb
  have c : x ||| p < 256 := Nat.or_lt_two_pow (n := 8) hx hp
  rw [u8_or_nat x p hx hp]
  refine ⟨by omega, by omega, ?_⟩
  have e1 : x &&& k = 0 := by omega
  have e2 : p &&& k = 0 := by omega
  rw [u8_and_nat _ k c hk, Nat.and_or_distrib_right, e1, e2]; rfl
theorem Agr.mark60 {x p : Int} (h : Agr 60 x p) (v : Int) : Agr 60 (markF x v) p := (h.set60 2 _ (by simp)).set60 128 _ (by simp)
theorem Agr.mark64 {x p : Int} (h : Agr 64 x p) (v : Int) : Agr 64 (markF x v) p := (h.set64 2 _ (by simp)).set64 128 _ (by simp)
theorem bin60 (a m p : Int) (h0 : 0 ≤ p) (h1 : p ≤ 255) : Agr 60 (binQ a m p) p := (((Agr.refl 60 p h0 h1).set60 1 _ (by simp)).set60 64 _ (by simp)).mark60 _
theorem add60 (a m p : Int) (h0 : 0 ≤ p) (h1 : p ≤ 255) : Agr 60 (addQ a m p) p := by
  have b := bin60 a m p h0 h1
  unfold addQ; split
  · exact ((b.set60 128 _ (by simp)).set60 64 _ (by simp)).set60 1 _ (by simp)
  · exact b
theorem sub60 (a m p : Int) (h0 : 0 ≤ p) (h1 : p ≤ 255) : Agr 60 (subQ a m p) p := bin60 a (255 - m) p h0 h1
theorem left60 (m p : Int) (t : Bool) (h0 : 0 ≤ p) (h1 : p ≤ 255) : Agr 60 (leftQ m p t) p := ((Agr.refl 60 p h0 h1).mark60 _).set60 1 _ (by simp)
theorem left64 (m p : Int) (t : Bool) (h0 : 0 ≤ p) (h1 : p ≤ 255) : Agr 64 (leftQ m p t) p := ((Agr.refl 64 p h0 h1).mark64 _).set64 1 _ (by simp)
theorem right60 (m p : Int) (t : Bool) (h0 : 0 ≤ p) (h1 : p ≤ 255) : Agr 60 (rightQ m p t) p := ((Agr.refl 60 p h0 h1).mark60 _).set60 1 _ (by simp)
theorem right64 (m p : Int) (t : Bool) (h0 : 0 ≤ p) (h1 : p ≤ 255) : Agr 64 (rightQ m p t) p := ((Agr.refl 64 p h0 h1).mark64 _).set64 1 _ (by simp)
theorem cmp60 (a m p : Int) (h0 : 0 ≤ p) (h1 : p ≤ 255) : Agr 60 (cmpQ a m p) p := ((Agr.refl 60 p h0 h1).mark60 _).set60 1 _ (by simp)
theorem cmp64 (a m p : Int) (h0 : 0 ≤ p) (h1 : p ≤ 255) : Agr 64 (cmpQ a m p) p := ((Agr.refl 64 p h0 h1).mark64 _).set64 1 _ (by simp)
theorem bit60 (a m p : Int) (h0 : 0 ≤ p) (h1 : p ≤ 255) : Agr 60 (bitQ a m p) p := (((Agr.refl 60 p h0 h1).set60 2 _ (by simp)).set60 128 _ (by simp)).set60 64 _ (by simp)
theorem odd60 (a m p : Int) (h0 : 0 ≤ p) (h1 : p ≤ 255) : Agr 60 (oddQ a m p) p := by
  have q := right60 (comF a m) p true h0 h1
  unfold oddQ
  simp only []
  split
  · exact ((q.set60 128 _ (by simp)).set60 64 _ (by simp)).set60 1 _ (by simp)
  · exact (q.set60 1 _ (by simp)).set60 64 _ (by simp)
theorem set1_mod (p : Int) (b : Bool) (h0 : 0 ≤ p) (h1 : p ≤ 255) : setF p 1 b % 2 = if b then 1 else 0 := setF_one p b h0 h1
/-- what was added is taken away again -/
theorem back (a m P : Int) (h0 : 0 ≤ a) (h1 : a ≤ 255) (p0 : 0 ≤ P) (p1 : P ≤ 255) (h8 : has P 8 = false) :
    subV (addV a m (setF P 1 true)) m (setF (addQ a m (setF P 1 true)) 1 false) = a := by
  have s := setF_in P 1 true p0 p1 (by simp)
  have e8 : has (setF P 1 true) 8 = false := by rw [has8_set P 1 true p0 p1 (by simp)]; exact h8
  have q := binQ_in a m (setF P 1 true) s.1 s.2
  have ev : addV a m (setF P 1 true) = binV a m (setF P 1 true) := by unfold addV; rw [e8]; rfl
  have eq : addQ a m (setF P 1 true) = binQ a m (setF P 1 true) := by unfold addQ; rw [e8]; rfl
  have f8 : has (setF (binQ a m (setF P 1 true)) 1 false) 8 = false := by
    rw [has8_set _ 1 false q.1 q.2 (by simp), has8_bin _ _ _ s.1 s.2]; exact e8
  rw [ev, eq]
  unfold subV; rw [f8]
  show binV (binV a m (setF P 1 true)) (255 - m) (setF (binQ a m (setF P 1 true)) 1 false) = a
  unfold binV binT
  rw [setF_one P true p0 p1, setF_one _ false q.1 q.2]
  simp only [if_true, Bool.false_eq_true, if_false]
  omega
theorem back2 (a P : Int) (h0 : 0 ≤ a) (h1 : a ≤ 255) (p0 : 0 ≤ P) (p1 : P ≤ 255) : rightV (leftV a P false) (leftQ a P false) true = a := by
  have mk := markF_in P (leftV a P false) p0 p1
  unfold rightV leftQ
  rw [setF_one _ _ mk.1 mk.2]
  unfold leftV
  by_cases h : 128 ≤ a
  · simp [h]; omega
  · simp [h]; omega

theorem has8 (c : Int) (hc : c = 0 ∨ c = 1) : has (8 + c) 8 = true := by rcases hc with rfl | rfl <;> decide
theorem mod2_set (p f : Int) (x : Bool) (h0 : 0 ≤ p) (h1 : p ≤ 255) (hf : f = 2 ∨ f = 64 ∨ f = 128) : setF p f x % 2 = p % 2 := by
  have h : ∀ n : Fin 256, ∀ f ∈ [(2 : Int), 64, 128], ∀ x : Bool, setF n.val f x % 2 = (n.val : Int) % 2 := by decide +kernel
  exact byte_cases (P := fun p => setF p f x % 2 = p % 2) (fun n => h n f (by simpa using hf) x) p h0 h1
theorem bin_mod2 (a m p : Int) (h0 : 0 ≤ p) (h1 : p ≤ 255) : binQ a m p % 2 = if 255 < binT a m p then 1 else 0 := by
  unfold binQ markF
  have k1 := setF_in p 1 (decide (255 < binT a m p)) h0 h1 (by simp)
  have k2 := setF_in _ 64 (overF a m (binV a m p)) k1.1 k1.2 (by simp)
  have k3 := setF_in _ 2 (binV a m p == 0) k2.1 k2.2 (by simp)
  rw [mod2_set _ 128 _ k3.1 k3.2 (by simp), mod2_set _ 2 _ k2.1 k2.2 (by simp), mod2_set _ 64 _ k1.1 k1.2 (by simp), setF_one _ _ h0 h1]
  simp
theorem two_digits (a : Int) (h0 : 0 ≤ a) (h1 : a < 100) : ∃ A B : Int, 0 ≤ A ∧ A ≤ 9 ∧ 0 ≤ B ∧ B ≤ 9 ∧ a = 10 * A + B ∧ a / 10 * 16 + a % 10 = 16 * A + B := ⟨a / 10, a % 10, by omega, by omega, by omega, by omega, by omega, by omega⟩
theorem dec_addT (A B C D c : Int) (a0 : 0 ≤ A) (a1 : A ≤ 9) (b0 : 0 ≤ B) (b1 : B ≤ 9) (c0 : 0 ≤ C) (c1 : C ≤ 9) (d0 : 0 ≤ D) (d1 : D ≤ 9) (hc : c = 0 ∨ c = 1) :
    addT (16 * A + B) (16 * C + D) (8 + c) = if 10 ≤ B + D + c then 16 * (A + C + 1) + (B + D + c - 10) else 16 * (A + C) + (B + D + c) := by
  have e1 : (16 * A + B) % 16 = B := by omega
  have e2 : (16 * C + D) % 16 = D := by omega
  have e3 : (16 * A + B) / 16 = A := by omega
  have e4 : (16 * C + D) / 16 = C := by omega
  have e5 : (8 + c) % 2 = c := by omega
  unfold addT addL
  rw [e1, e2, e3, e4, e5]
  by_cases h : 10 ≤ B + D + c
  · rw [if_pos h, if_pos (by omega)]; omega
  · rw [if_neg h, if_neg (by omega)]; omega
theorem dec_addV (a m c : Int) (h0 : 0 ≤ a) (h1 : a < 100) (g0 : 0 ≤ m) (g1 : m < 100) (hc : c = 0 ∨ c = 1) :
    addV (a / 10 * 16 + a % 10) (m / 10 * 16 + m % 10) (8 + c) = (a + m + c) % 100 / 10 * 16 + (a + m + c) % 100 % 10 ∧
    (255 < addU (a / 10 * 16 + a % 10) (m / 10 * 16 + m % 10) (8 + c) ↔ 100 ≤ a + m + c) := by
  obtain ⟨A, B, a0, a1, b0, b1, ea, ex⟩ := two_digits a h0 h1
  obtain ⟨C, D, c0, c1, d0, d1, em, ey⟩ := two_digits m g0 g1
  rw [ex, ey]
  unfold addV; rw [has8 c hc, if_pos rfl]
  unfold addU; rw [dec_addT A B C D c a0 a1 b0 b1 c0 c1 d0 d1 hc]
  clear ex ey
  subst ea em
  by_cases h : 10 ≤ B + D + c
  · rw [if_pos h]
    by_cases k : 10 ≤ A + C + 1
    · rw [if_pos (by omega)]
      have e : (10 * A + B + (10 * C + D) + c) % 100 = 10 * (A + C + 1 - 10) + (B + D + c - 10) := by omega
      rw [e]
      exact ⟨by omega, by omega⟩
    · rw [if_neg (by omega)]
      have e : (10 * A + B + (10 * C + D) + c) % 100 = 10 * (A + C + 1) + (B + D + c - 10) := by omega
      rw [e]
      exact ⟨by omega, by omega⟩
  · rw [if_neg h]
    by_cases k : 10 ≤ A + C
    · rw [if_pos (by omega)]
      have e : (10 * A + B + (10 * C + D) + c) % 100 = 10 * (A + C - 10) + (B + D + c) := by omega
      rw [e]
      exact ⟨by omega, by omega⟩
    · rw [if_neg (by omega)]
      have e : (10 * A + B + (10 * C + D) + c) % 100 = 10 * (A + C) + (B + D + c) := by omega
      rw [e]
      exact ⟨by omega, by omega⟩
theorem dec_addQ (a m c : Int) (h0 : 0 ≤ a) (h1 : a < 100) (g0 : 0 ≤ m) (g1 : m < 100) (hc : c = 0 ∨ c = 1) :
    addQ (a / 10 * 16 + a % 10) (m / 10 * 16 + m % 10) (8 + c) % 2 = if 100 ≤ a + m + c then 1 else 0 := by
  unfold addQ; rw [has8 c hc, if_pos rfl]
  have b := binQ_in (a / 10 * 16 + a % 10) (m / 10 * 16 + m % 10) (8 + c) (by omega) (by omega)
  have s1 := setF_in _ 128 (has (addT (a / 10 * 16 + a % 10) (m / 10 * 16 + m % 10) (8 + c)) 128) b.1 b.2 (by simp)
  have s2 := setF_in _ 64 (overF (a / 10 * 16 + a % 10) (m / 10 * 16 + m % 10) (addT (a / 10 * 16 + a % 10) (m / 10 * 16 + m % 10) (8 + c))) s1.1 s1.2 (by simp)
  rw [setF_one _ _ s2.1 s2.2]
  simp only [decide_eq_true_eq, (dec_addV a m c h0 h1 g0 g1 hc).2]
theorem dec_subT (A B C D c : Int) (a0 : 0 ≤ A) (a1 : A ≤ 9) (b0 : 0 ≤ B) (b1 : B ≤ 9) (c0 : 0 ≤ C) (c1 : C ≤ 9) (d0 : 0 ≤ D) (d1 : D ≤ 9) (hc : c = 0 ∨ c = 1) :
    subT (16 * A + B) (16 * C + D) (8 + c) = if B - D - 1 + c < 0 then 16 * (A - C - 1) + (B - D - 1 + c + 10) else 16 * (A - C) + (B - D - 1 + c) := by
  have e1 : (16 * A + B) % 16 = B := by omega
  have e2 : (16 * C + D) % 16 = D := by omega
  have e3 : (16 * A + B) / 16 = A := by omega
  have e4 : (16 * C + D) / 16 = C := by omega
  have e5 : (8 + c) % 2 = c := by omega
  unfold subT subL
  rw [e1, e2, e3, e4, e5]
  by_cases h : B - D - 1 + c < 0
  · rw [if_pos h, if_pos (by omega)]; omega
  · rw [if_neg h, if_neg (by omega)]; omega
theorem dec_subV (a m c : Int) (h0 : 0 ≤ a) (h1 : a < 100) (g0 : 0 ≤ m) (g1 : m < 100) (hc : c = 0 ∨ c = 1) :
    subV (a / 10 * 16 + a % 10) (m / 10 * 16 + m % 10) (8 + c) = (a - m - 1 + c + 100) % 100 / 10 * 16 + (a - m - 1 + c + 100) % 100 % 10 := by
  obtain ⟨A, B, a0, a1, b0, b1, ea, ex⟩ := two_digits a h0 h1
  obtain ⟨C, D, c0, c1, d0, d1, em, ey⟩ := two_digits m g0 g1
  rw [ex, ey]
  unfold subV; rw [has8 c hc, if_pos rfl]
  unfold subU; rw [dec_subT A B C D c a0 a1 b0 b1 c0 c1 d0 d1 hc]
  clear ex ey
  subst ea em
  by_cases h : B - D - 1 + c < 0
  · rw [if_pos h]
    by_cases k : A - C - 1 < 0
    · rw [if_pos (by omega)]
      have e : (10 * A + B - (10 * C + D) - 1 + c + 100) % 100 = 10 * (A - C - 1 + 10) + (B - D - 1 + c + 10) := by omega
      rw [e]
      omega
    · rw [if_neg (by omega)]
      have e : (10 * A + B - (10 * C + D) - 1 + c + 100) % 100 = 10 * (A - C - 1) + (B - D - 1 + c + 10) := by omega
      rw [e]
      omega
  · rw [if_neg h]
    by_cases k : A - C < 0
    · rw [if_pos (by omega)]
      have e : (10 * A + B - (10 * C + D) - 1 + c + 100) % 100 = 10 * (A - C + 10) + (B - D - 1 + c) := by omega
      rw [e]
      omega
    · rw [if_neg (by omega)]
      have e : (10 * A + B - (10 * C + D) - 1 + c + 100) % 100 = 10 * (A - C) + (B - D - 1 + c) := by omega
      rw [e]
      omega
theorem dec_subQ (a m c : Int) (h0 : 0 ≤ a) (h1 : a < 100) (g0 : 0 ≤ m) (g1 : m < 100) (hc : c = 0 ∨ c = 1) :
    subQ (a / 10 * 16 + a % 10) (m / 10 * 16 + m % 10) (8 + c) % 2 = if 0 ≤ a - m - 1 + c then 1 else 0 := by
  unfold subQ; rw [bin_mod2 _ _ _ (by omega) (by omega)]
  obtain ⟨A, B, a0, a1, b0, b1, ea, ex⟩ := two_digits a h0 h1
  obtain ⟨C, D, c0, c1, d0, d1, em, ey⟩ := two_digits m g0 g1
  rw [ex, ey]
  have e : 255 < binT (16 * A + B) (255 - (16 * C + D)) (8 + c) ↔ 0 ≤ a - m - 1 + c := by
    unfold binT; omega
  simp only [e]
end Go.Proofs.YthepcjecmlkaiaaDoor.Alu
