/- Plain functions of package exec: what each name does to the registers and to a byte; numbers alone, no program in sight. -/
import Derived.Test.YtlecpfkfnaiabaaAlu
namespace Go.Proofs.Ytlecpfkfnaiabaa.Ex
open Go Go.Proofs.Ytlecpfkfnaiabaa.Alu

structure Rg where
  a : Int
  x : Int
  y : Int
  s : Int
  p : Int
  pc : Int
  deriving DecidableEq

structure Rg.ok (r : Rg) : Prop where
  a0 : 0 ≤ r.a
  a1 : r.a ≤ 255
  x0 : 0 ≤ r.x
  x1 : r.x ≤ 255
  y0 : 0 ≤ r.y
  y1 : r.y ≤ 255
  s0 : 0 ≤ r.s
  s1 : r.s ≤ 255
  p0 : 0 ≤ r.p
  p1 : r.p ≤ 255
  pc0 : 0 ≤ r.pc
  pc1 : r.pc ≤ 65535

def orF (a m : Int) : Int := a + m - comF a m
def xorF (a m : Int) : Int := a + m - 2 * comF a m
def markR (r : Rg) (v : Int) : Rg := { r with p := markF r.p v }

inductive RdK where
  | ORA | AND | EOR | ADC | SBC | CMP | CPX | CPY | BIT | LAX | LDA | LDX | LDY | LAS | ANC | ALR | ARR | ANE | LXA | SBX | other
  deriving DecidableEq

def readF : RdK → Rg → Int → Rg
  | .ORA, r, m => markR { r with a := orF r.a m } (orF r.a m)
  | .AND, r, m => markR { r with a := comF r.a m } (comF r.a m)
  | .EOR, r, m => markR { r with a := xorF r.a m } (xorF r.a m)
  | .ADC, r, m => { r with a := addV r.a m r.p, p := addQ r.a m r.p }
  | .SBC, r, m => { r with a := subV r.a m r.p, p := subQ r.a m r.p }
  | .CMP, r, m => { r with p := cmpQ r.a m r.p }
  | .CPX, r, m => { r with p := cmpQ r.x m r.p }
  | .CPY, r, m => { r with p := cmpQ r.y m r.p }
  | .BIT, r, m => { r with p := bitQ r.a m r.p }
  | .LAX, r, m => markR { r with a := m, x := m } m
  | .LDA, r, m => markR { r with a := m } m
  | .LDX, r, m => markR { r with x := m } m
  | .LDY, r, m => markR { r with y := m } m
  | .LAS, r, m => markR { r with a := comF m r.s, x := comF m r.s, s := comF m r.s } (comF m r.s)
  | .ANC, r, m => { r with a := comF r.a m, p := setF (markF r.p (comF r.a m)) 1 (decide (128 ≤ comF r.a m)) }
  | .ALR, r, m => { r with a := rightV (comF r.a m) r.p false, p := rightQ (comF r.a m) r.p false }
  | .ARR, r, m => { r with a := oddV r.a m r.p, p := oddQ r.a m r.p }
  | .ANE, r, m => markR { r with a := comF (comF (orF r.a 238) r.x) m } (comF (comF (orF r.a 238) r.x) m)
  | .LXA, r, m => markR { r with a := comF (orF r.a 238) m, x := comF (orF r.a 238) m } (comF (orF r.a 238) m)
  | .SBX, r, m => { r with x := (comF r.a r.x - m) % 256, p := cmpQ (comF r.a r.x) m r.p }
  | .other, r, _ => r


/-! ### bits and sums -/
theorem nat_sums (n : Nat) : ∀ a b : Nat, a < 2 ^ n → b < 2 ^ n → (a ||| b) + (a &&& b) = a + b ∧ (a ^^^ b) + 2 * (a &&& b) = a + b := by
  induction n with
  | zero => intro a b ha hb; obtain rfl : a = 0 := by omega
            obtain rfl : b = 0 := by omega
            decide
  | succ n ih =>
    intro a b ha hb
    have h := ih (a / 2) (b / 2) (by omega) (by omega)
    have o1 : (a ||| b) / 2 = a / 2 ||| b / 2 := Nat.or_div_two
    have o2 : (a &&& b) / 2 = a / 2 &&& b / 2 := Nat.and_div_two
    have o3 : (a ^^^ b) / 2 = a / 2 ^^^ b / 2 := Nat.xor_div_two
    have m1 := @Nat.or_mod_two_eq_one a b
    have m2 := @Nat.and_mod_two_eq_one a b
    have m3 := @Nat.xor_mod_two_eq_one a b
    rw [← o1, ← o2, ← o3] at h
    clear ha hb o1 o2 o3 ih
    generalize (a ||| b) = x at *
    generalize (a &&& b) = y at *
    generalize (a ^^^ b) = z at *
    omega

theorem orF_bits (a m : Int) (h0 : 0 ≤ a) (h1 : a ≤ 255) (g0 : 0 ≤ m) (g1 : m ≤ 255) : bits .or .u8 a m = orF a m := by
  obtain ⟨a, rfl⟩ := nat_of a h0
  obtain ⟨m, rfl⟩ := nat_of m g0
  have h := (nat_sums 8 a m (by omega) (by omega)).1
  rw [u8_or _ _ h0 (by omega) g0 (by omega)]
  unfold orF comF
  simp only [Int.toNat_natCast]
  omega
theorem xorF_bits (a m : Int) (h0 : 0 ≤ a) (h1 : a ≤ 255) (g0 : 0 ≤ m) (g1 : m ≤ 255) : bits .xor .u8 a m = xorF a m := by
  obtain ⟨a, rfl⟩ := nat_of a h0
  obtain ⟨m, rfl⟩ := nat_of m g0
  have h := (nat_sums 8 a m (by omega) (by omega)).2
  rw [u8_xor _ _ h0 (by omega) g0 (by omega)]
  unfold xorF comF
  simp only [Int.toNat_natCast]
  omega
theorem orF_in (a m : Int) (h0 : 0 ≤ a) (h1 : a ≤ 255) (g0 : 0 ≤ m) (g1 : m ≤ 255) : 0 ≤ orF a m ∧ orF a m ≤ 255 := by
  obtain ⟨a, rfl⟩ := nat_of a h0
  obtain ⟨m, rfl⟩ := nat_of m g0
  have h := (nat_sums 8 a m (by omega) (by omega)).1
  have hb : a ||| m < 2 ^ 8 := Nat.or_lt_two_pow (by omega) (by omega)
  unfold orF comF
  simp only [Int.toNat_natCast]
  omega
theorem xorF_in (a m : Int) (h0 : 0 ≤ a) (h1 : a ≤ 255) (g0 : 0 ≤ m) (g1 : m ≤ 255) : 0 ≤ xorF a m ∧ xorF a m ≤ 255 := by
  obtain ⟨a, rfl⟩ := nat_of a h0
  obtain ⟨m, rfl⟩ := nat_of m g0
  have h := (nat_sums 8 a m (by omega) (by omega)).2
  have hb : a ^^^ m < 2 ^ 8 := Nat.xor_lt_two_pow (by omega) (by omega)
  unfold xorF comF
  simp only [Int.toNat_natCast]
  omega
set_option maxRecDepth 100000
theorem clear_set (p f : Int) (h0 : 0 ≤ p) (h1 : p ≤ 255) (hf : f = 1 ∨ f = 4 ∨ f = 8 ∨ f = 64) : bits .andNot .u8 p f = setF p f false := by
  have h : ∀ n : Fin 256, ∀ f ∈ [(1 : Int), 4, 8, 64], bits .andNot .u8 n.val f = setF n.val f false := by decide +kernel
  exact byte_cases (P := fun p => bits .andNot .u8 p f = setF p f false) (fun n => h n f (by simpa using hf)) p h0 h1
theorem fill_set (p f : Int) (h0 : 0 ≤ p) (h1 : p ≤ 255) (hf : f = 1 ∨ f = 4 ∨ f = 8 ∨ f = 64) : bits .or .u8 (setF p f false) f = setF p f true := by
  have h : ∀ n : Fin 256, ∀ f ∈ [(1 : Int), 4, 8, 64], bits .or .u8 (setF n.val f false) f = setF n.val f true := by decide +kernel
  exact byte_cases (P := fun p => bits .or .u8 (setF p f false) f = setF p f true) (fun n => h n f (by simpa using hf)) p h0 h1
theorem setG_in (p f : Int) (x : Bool) (h0 : 0 ≤ p) (h1 : p ≤ 255) (hf : f = 1 ∨ f = 4 ∨ f = 8 ∨ f = 64) : 0 ≤ setF p f x ∧ setF p f x ≤ 255 := by
  have h : ∀ n : Fin 256, ∀ f ∈ [(1 : Int), 4, 8, 64], ∀ x : Bool, 0 ≤ setF n.val f x ∧ setF n.val f x ≤ 255 := by decide +kernel
  exact byte_cases (P := fun p => 0 ≤ setF p f x ∧ setF p f x ≤ 255) (fun n => h n f (by simpa using hf) x) p h0 h1
theorem mark_top (p v : Int) (h0 : 0 ≤ p) (h1 : p ≤ 255) (_v0 : 0 ≤ v) (_v1 : v ≤ 255) : (bits .and .u8 (markF p v) 128 != 0) = decide (128 ≤ v) := by
  have h : ∀ n : Fin 256, ∀ b c : Bool, (bits .and .u8 (setF (setF n.val 2 b) 128 c) 128 != 0) = c := by decide +kernel
  exact byte_cases (P := fun p => (bits .and .u8 (markF p v) 128 != 0) = decide (128 ≤ v)) (fun n => by unfold markF; exact h n _ _) p h0 h1
def rdNames : List (List UInt8) := [[79, 82, 65], [65, 78, 68], [69, 79, 82], [65, 68, 67], [83, 66, 67], [67, 77, 80], [67, 80, 88], [67, 80, 89], [66, 73, 84], [76, 65, 88], [76, 68, 65], [76, 68, 88], [76, 68, 89], [76, 65, 83], [65, 78, 67], [65, 76, 82], [65, 82, 82], [65, 78, 69], [76, 88, 65], [83, 66, 88]]
end Go.Proofs.Ytlecpfkfnaiabaa.Ex
