/- Plain functions of package exec: what each name does to the registers and to a byte; numbers alone, no program in sight. -/
import Derived.Test.YthepcjecmlkaiaaDoorZAlu
namespace Go.Proofs.YthepcjecmlkaiaaDoor.Ex
open Go Go.Proofs.YthepcjecmlkaiaaDoor.Alu

structure Rg where
  a : Int
  x : Int
  y : Int
  s : Int
  p : Int
  pc : Int
  deriving DecidableEq

structure Rg.ok (r : Rg) : Prop where
  a0 : 0 ≤ r.a
  a1 : r.a ≤ 255
  x0 : 0 ≤ r.x
  x1 : r.x ≤ 255
  y0 : 0 ≤ r.y
  y1 : r.y ≤ 255
  s0 : 0 ≤ r.s
  s1 : r.s ≤ 255
  p0 : 0 ≤ r.p
  p1 : r.p ≤ 255
  pc0 : 0 ≤ r.pc
  pc1 : r.pc ≤ 65535

def orF (a m : Int) : Int := a + m - comF a m
def xorF (a m : Int) : Int := a + m - 2 * comF a m
def markR (r : Rg) (v : Int) : Rg := { r with p := markF r.p v }

inductive RdK where
  | ORA | AND | EOR | ADC | SBC | CMP | CPX | CPY | BIT | LAX | LDA | LDX | LDY | LAS | ANC | ALR | ARR | ANE | LXA | SBX | other
  deriving DecidableEq

def readF : RdK → Rg → Int → Rg
  | .ORA, r, m => markR { r with a := orF r.a m } (orF r.a m)
  | .AND, r, m => markR { r with a := comF r.a m } (comF r.a m)
  | .EOR, r, m => markR { r with a := xorF r.a m } (xorF r.a m)
  | .ADC, r, m => { r with a := addV r.a m r.p, p := addQ r.a m r.p }
  | .SBC, r, m => { r with a := subV r.a m r.p, p := subQ r.a m r.p }
  | .CMP, r, m => { r with p := cmpQ r.a m r.p }
  | .CPX, r, m => { r with p := cmpQ r.x m r.p }
  | .CPY, r, m => { r with p := cmpQ r.y m r.p }
  | .BIT, r, m => { r with p := bitQ r.a m r.p }
  | .LAX, r, m => markR { r with a := m, x := m } m
  | .LDA, r, m => markR { r with a := m } m
  | .LDX, r, m => markR { r with x := m } m
  | .LDY, r, m => markR { r with y := m } m
  | .LAS, r, m => markR { r with a := comF m r.s, x := comF m r.s, s := comF m r.s } (comF m r.s)
  | .ANC, r, m => { r with a := comF r.a m, p := setF (markF r.p (comF r.a m)) 1 (decide (128 ≤ comF r.a m)) }
  | .ALR, r, m => { r with a := rightV (comF r.a m) r.p false, p := rightQ (comF r.a m) r.p false }
  | .ARR, r, m => { r with a := oddV r.a m r.p, p := oddQ r.a m r.p }
  | .ANE, r, m => markR { r with a := comF (comF (orF r.a 238) r.x) m } (comF (comF (orF r.a 238) r.x) m)
  | .LXA, r, m => markR { r with a := comF (orF r.a 238) m, x := comF (orF r.a 238) m } (comF (orF r.a 238) m)
  | .SBX, r, m => { r with x := (comF r.a r.x - m) % 256, p := cmpQ (comF r.a r.x) m r.p }
  | .other, r, _ => r


/-! ### bits and sums -/
theorem nat_sums (n : Nat) : ∀ a b : Nat, a < 2 ^ n → b < 2 ^ n → (a ||| b) + (a &&& b) = a + b ∧ (a ^^^ b) + 2 * (a &&& b) = a + b := by
  induction n with
  | zero => intro a b ha hb; obtain rfl : a = 0 := by omega
            obtain rfl : b = 0 := by omega
            decide
  | succ n ih =>
    intro a b ha hb
    have h := ih (a / 2) (b / 2) (by omega) (by omega)
    have o1 : (a ||| b) / 2 = a / 2 ||| b / 2 := Nat.or_div_two
    have o2 : (a &&& b) / 2 = a / 2 &&& b / 2 := Nat.and_div_two
    have o3 : (a ^^^ b) / 2 = a / 2 ^^^ b / 2 := Nat.xor_div_two
    have m1 := @Nat.or_mod_two_eq_one a b
    have m2 := @Nat.and_mod_two_eq_one a b
    have m3 := @Nat.xor_mod_two_eq_one a b
    rw [← o1, ← o2, ← o3] at h
    clear ha hb o1 o2 o3 ih
    generalize (a ||| b) = x at *
    generalize (a &&& b) = y at *
    generalize (a ^^^ b) = z at *
    omega

theorem orF_bits (a m : Int) (h0 : 0 ≤ a) (h1 : a ≤ 255) (g0 : 0 ≤ m) (g1 : m ≤ 255) : bits .or .u8 a m = orF a m := by
  obtain ⟨a, rfl⟩ := nat_of a h0
  obtain ⟨m, rfl⟩ := nat_of m g0
  have h := (nat_sums 8 a m (by omega) (by omega)).1
  rw [u8_or _ _ h0 (by omega) g0 (by omega)]
  unfold orF comF
  simp only [Int.toNat_natCast]
  omega
theorem xorF_bits (a m : Int) (h0 : 0 ≤ a) (h1 : a ≤ 255) (g0 : 0 ≤ m) (g1 : m ≤ 255) : bits .xor .u8 a m = xorF a m := by
  obtain ⟨a, rfl⟩ := nat_of a h0
  obtain ⟨m, rfl⟩ := nat_of m g0
  have h := (nat_sums 8 a m (by omega) (by omega)).2
  rw [u8_xor _ _ h0 (by omega) g0 (by omega)]
  unfold xorF comF
  simp only [Int.toNat_natCast]
  omega
theorem orF_in (a m : Int) (h0 : 0 ≤ a) (h1 : a ≤ 255) (g0 : 0 ≤ m) (g1 : m ≤ 255) : 0 ≤ orF a m ∧ orF a m ≤ 255 := by
  obtain ⟨a, rfl⟩ := nat_of a h0
  obtain ⟨m, rfl⟩ := nat_of m g0
  have h := (nat_sums 8 a m (by omega) (by omega)).1
  have hb : a ||| m < 2 ^ 8 := Nat.or_lt_two_pow (by omega) (by omega)
  unfold orF comF
  simp only [Int.toNat_natCast]
  omega
theorem xorF_in (a m : Int) (h0 : 0 ≤ a) (h1 : a ≤ 255) (g0 : 0 ≤ m) (g1 : m ≤ 255) : 0 ≤ xorF a m ∧ xorF a m ≤ 255 := by
  obtain ⟨a, rfl⟩ := nat_of a h0
  obtain ⟨m, rfl⟩ := nat_of m g0
  have h := (nat_sums 8 a m (by omega) (by omega)).2
  have hb : a ^^^ m < 2 ^ 8 := Nat.xor_lt_two_pow (by omega) (by omega)
  unfold xorF comF
  simp only [Int.toNat_natCast]
  omega
set_option maxRecDepth 100000
theorem clear_set (p f : Int) (h0 : 0 ≤ p) (h1 : p ≤ 255) (hf : f = 1 ∨ f = 4 ∨ f = 8 ∨ f = 64) : bits .andNot .u8 p f = setF p f false := by
  have h : ∀ n : Fin 256, ∀ f ∈ [(1 : Int), 4, 8, 64], bits .andNot .u8 n.val f = setF n.val f false := by decide +kernel
  exact byte_cases (P := fun p => bits .andNot .u8 p f = setF p f false) (fun n => h n f (by simpa using hf)) p h0 h1
theorem fill_set (p f : Int) (h0 : 0 ≤ p) (h1 : p ≤ 255) (hf : f = 1 ∨ f = 4 ∨ f = 8 ∨ f = 64) : bits .or .u8 (setF p f false) f = setF p f true := by
  have h : ∀ n : Fin 256, ∀ f ∈ [(1 : Int), 4, 8, 64], bits .or .u8 (setF n.val f false) f = setF n.val f true := by decide +kernel
  exact byte_cases (P := fun p => bits .or .u8 (setF p f false) f = setF p f true) (fun n => h n f (by simpa using hf)) p h0 h1
theorem setG_in (p f : Int) (x : Bool) (h0 : 0 ≤ p) (h1 : p ≤ 255) (hf : f = 1 ∨ f = 4 ∨ f = 8 ∨ f = 64) : 0 ≤ setF p f x ∧ setF p f x ≤ 255 := by
  have h : ∀ n : Fin 256, ∀ f ∈ [(1 : Int), 4, 8, 64], ∀ x : Bool, 0 ≤ setF n.val f x ∧ setF n.val f x ≤ 255 := by decide +kernel
  exact byte_cases (P := fun p => 0 ≤ setF p f x ∧ setF p f x ≤ 255) (fun n => h n f (by simpa using hf) x) p h0 h1
theorem mark_top (p v : Int) (h0 : 0 ≤ p) (h1 : p ≤ 255) (_v0 : 0 ≤ v) (_v1 : v ≤ 255) : (bits .and .u8 (markF p v) 128 != 0) = decide (128 ≤ v) := by
  have h : ∀ n : Fin 256, ∀ b c : Bool, (bits .and .u8 (setF (setF n.val 2 b) 128 c) 128 != 0) = c := by decide +kernel
  exact byte_cases (P := fun p => (bits .and .u8 (markF p v) 128 != 0) = decide (128 ≤ v)) (fun n => by unfold markF; exact h n _ _) p h0 h1
def rdNames : List (List UInt8) := [[79, 82, 65], [65, 78, 68], [69, 79, 82], [65, 68, 67], [83, 66, 67], [67, 77, 80], [67, 80, 88], [67, 80, 89], [66, 73, 84], [76, 65, 88], [76, 68, 65], [76, 68, 88], [76, 68, 89], [76, 65, 83], [65, 78, 67], [65, 76, 82], [65, 82, 82], [65, 78, 69], [76, 88, 65], [83, 66, 88]]
end Go.Proofs.YthepcjecmlkaiaaDoor.Ex
/- More plain functions of package exec: what each name stores, turns, does by itself, and which branch goes; numbers alone. -/
namespace Go.Proofs.YthepcjecmlkaiaaDoor.Ex
open Go Go.Proofs.YthepcjecmlkaiaaDoor.Alu

inductive TuK where
  | ASL | SLO | ROL | RLA | LSR | SRE | ROR | RRA | INC | DEC | ISC | DCP | other
  deriving DecidableEq
def thenK : TuK → RdK
  | .SLO => .ORA
  | .RLA => .AND
  | .SRE => .EOR
  | .RRA => .ADC
  | .DCP => .CMP
  | .ISC => .SBC
  | _ => .other
def turnV : TuK → Int → Int → Int
  | .ASL, p, m => leftV m p false
  | .SLO, p, m => leftV m p false
  | .ROL, p, m => leftV m p true
  | .RLA, p, m => leftV m p true
  | .LSR, p, m => rightV m p false
  | .SRE, p, m => rightV m p false
  | .ROR, p, m => rightV m p true
  | .RRA, p, m => rightV m p true
  | .INC, _, m => (m + 1) % 256
  | .ISC, _, m => (m + 1) % 256
  | .DEC, _, m => (m - 1) % 256
  | .DCP, _, m => (m - 1) % 256
  | .other, _, m => m
def turnP : TuK → Int → Int → Int
  | .ASL, p, m => leftQ m p false
  | .SLO, p, m => leftQ m p false
  | .ROL, p, m => leftQ m p true
  | .RLA, p, m => leftQ m p true
  | .LSR, p, m => rightQ m p false
  | .SRE, p, m => rightQ m p false
  | .ROR, p, m => rightQ m p true
  | .RRA, p, m => rightQ m p true
  | .INC, p, m => markF p ((m + 1) % 256)
  | .DEC, p, m => markF p ((m - 1) % 256)
  | .ISC, p, _ => p
  | .DCP, p, _ => p
  | .other, p, _ => p
def turnR (k : TuK) (r : Rg) (m : Int) : Rg := readF (thenK k) { r with p := turnP k r.p m } (turnV k r.p m)
def tuNames : List (List UInt8) := [[65, 83, 76], [83, 76, 79], [82, 79, 76], [82, 76, 65], [76, 83, 82], [83, 82, 69], [82, 79, 82], [82, 82, 65], [73, 78, 67], [68, 69, 67], [73, 83, 67], [68, 67, 80]]

inductive StK where
  | STA | STX | STY | SAX | SHA | SHX | SHY | TAS | other
  deriving DecidableEq
def storeV : StK → Rg → Int → Int
  | .STA, r, _ => r.a
  | .STX, r, _ => r.x
  | .STY, r, _ => r.y
  | .SAX, r, _ => comF r.a r.x
  | .SHA, r, b => comF (comF r.a r.x) ((b + 1) % 256)
  | .SHX, r, b => comF r.x ((b + 1) % 256)
  | .SHY, r, b => comF r.y ((b + 1) % 256)
  | .TAS, r, b => comF (comF r.a r.x) ((b + 1) % 256)
  | .other, _, _ => 0
def storeR : StK → Rg → Rg
  | .TAS, r => { r with s := comF r.a r.x }
  | _, r => r
def stNames : List (List UInt8) := [[83, 84, 65], [83, 84, 88], [83, 84, 89], [83, 65, 88], [83, 72, 65], [83, 72, 88], [83, 72, 89], [84, 65, 83]]

inductive SeK where
  | CLC | SEC | CLD | SED | CLI | SEI | CLV | TAX | TAY | TXA | TYA | TSX | TXS | INX | INY | DEX | DEY | other
  deriving DecidableEq
def selfF : SeK → Rg → Rg
  | .CLC, r => { r with p := setF r.p 1 false }
  | .SEC, r => { r with p := setF r.p 1 true }
  | .CLD, r => { r with p := setF r.p 8 false }
  | .SED, r => { r with p := setF r.p 8 true }
  | .CLI, r => { r with p := setF r.p 4 false }
  | .SEI, r => { r with p := setF r.p 4 true }
  | .CLV, r => { r with p := setF r.p 64 false }
  | .TAX, r => markR { r with x := r.a } r.a
  | .TAY, r => markR { r with y := r.a } r.a
  | .TXA, r => markR { r with a := r.x } r.x
  | .TYA, r => markR { r with a := r.y } r.y
  | .TSX, r => markR { r with x := r.s } r.s
  | .TXS, r => { r with s := r.x }
  | .INX, r => markR { r with x := (r.x + 1) % 256 } ((r.x + 1) % 256)
  | .INY, r => markR { r with y := (r.y + 1) % 256 } ((r.y + 1) % 256)
  | .DEX, r => markR { r with x := (r.x - 1) % 256 } ((r.x - 1) % 256)
  | .DEY, r => markR { r with y := (r.y - 1) % 256 } ((r.y - 1) % 256)
  | .other, r => r
def seNames : List (List UInt8) := [[67, 76, 67], [83, 69, 67], [67, 76, 68], [83, 69, 68], [67, 76, 73], [83, 69, 73], [67, 76, 86], [84, 65, 88], [84, 65, 89], [84, 88, 65], [84, 89, 65], [84, 83, 88], [84, 88, 83], [73, 78, 88], [73, 78, 89], [68, 69, 88], [68, 69, 89]]

inductive GoK where
  | BPL | BMI | BVC | BVS | BCC | BCS | BNE | BEQ | other
  deriving DecidableEq
def goesF : GoK → Int → Bool
  | .BPL, p => !has p 128
  | .BMI, p => has p 128
  | .BVC, p => !has p 64
  | .BVS, p => has p 64
  | .BCC, p => !has p 1
  | .BCS, p => has p 1
  | .BNE, p => !has p 2
  | .BEQ, p => has p 2
  | .other, _ => false
def goNames : List (List UInt8) := [[66, 80, 76], [66, 77, 73], [66, 86, 67], [66, 86, 83], [66, 67, 67], [66, 67, 83], [66, 78, 69], [66, 69, 81]]

theorem turnV_in (k : TuK) (p m : Int) (g0 : 0 ≤ m) (g1 : m ≤ 255) : 0 ≤ turnV k p m ∧ turnV k p m ≤ 255 := by
  have e1 : 0 ≤ (m + 1) % 256 ∧ (m + 1) % 256 ≤ 255 := by omega
  have e2 : 0 ≤ (m - 1) % 256 ∧ (m - 1) % 256 ≤ 255 := by omega
  cases k with
  | ASL => exact leftV_in _ _ _
  | SLO => exact leftV_in _ _ _
  | ROL => exact leftV_in _ _ _
  | RLA => exact leftV_in _ _ _
  | LSR => exact rightV_in _ _ _ g0 g1
  | SRE => exact rightV_in _ _ _ g0 g1
  | ROR => exact rightV_in _ _ _ g0 g1
  | RRA => exact rightV_in _ _ _ g0 g1
  | INC => exact e1
  | ISC => exact e1
  | DEC => exact e2
  | DCP => exact e2
  | other => exact ⟨g0, g1⟩
theorem turnP_in (k : TuK) (p m : Int) (h0 : 0 ≤ p) (h1 : p ≤ 255) : 0 ≤ turnP k p m ∧ turnP k p m ≤ 255 := by
  cases k with
  | ASL => exact leftQ_in _ _ _ h0 h1
  | SLO => exact leftQ_in _ _ _ h0 h1
  | ROL => exact leftQ_in _ _ _ h0 h1
  | RLA => exact leftQ_in _ _ _ h0 h1
  | LSR => exact rightQ_in _ _ _ h0 h1
  | SRE => exact rightQ_in _ _ _ h0 h1
  | ROR => exact rightQ_in _ _ _ h0 h1
  | RRA => exact rightQ_in _ _ _ h0 h1
  | INC => exact markF_in _ _ h0 h1
  | ISC => exact ⟨h0, h1⟩
  | DEC => exact markF_in _ _ h0 h1
  | DCP => exact ⟨h0, h1⟩
  | other => exact ⟨h0, h1⟩
theorem and_bit (v f : Int) (h0 : 0 ≤ v) (h1 : v ≤ 255) (hf : f = 1 ∨ f = 2 ∨ f = 64 ∨ f = 128) : (bits .and .u8 v f != 0) = has v f := by
  have h : ∀ n : Fin 256, ∀ f ∈ [(1 : Int), 2, 64, 128], (bits .and .u8 n.val f != 0) = has n.val f := by decide +kernel
  exact byte_cases (P := fun p => (bits .and .u8 p f != 0) = has p f) (fun n => h n f (by simpa using hf)) v h0 h1
theorem readF_ok (k : RdK) (r : Rg) (m : Int) (ok : r.ok) (g0 : 0 ≤ m) (g1 : m ≤ 255) : (readF k r m).ok := by
  obtain ⟨a0, a1, x0, x1, y0, y1, s0, s1, p0, p1, pc0, pc1⟩ := ok
  have o := orF_in r.a 238 a0 a1 (by omega) (by omega)
  have o1 := orF_in r.a m a0 a1 g0 g1
  have o2 := xorF_in r.a m a0 a1 g0 g1
  have c1 := comF_in r.a m a0 a1
  have c2 := comF_in m r.s g0 g1
  have c3 := comF_in r.a r.x a0 a1
  have c4 := comF_in (orF r.a 238) m o.1 o.2
  have c5 := comF_in (orF r.a 238) r.x o.1 o.2
  have c6 := comF_in (comF (orF r.a 238) r.x) m c5.1 c5.2
  have mk := fun v => markF_in r.p v p0 p1
  have v1 := addV_in r.a m r.p
  have v2 := addQ_in r.a m r.p p0 p1
  have v3 := subV_in r.a m r.p
  have v4 := subQ_in r.a m r.p p0 p1
  have v5 := fun t => cmpQ_in t m r.p p0 p1
  have v6 := bitQ_in r.a m r.p p0 p1
  have v7 := rightV_in (comF r.a m) r.p false c1.1 c1.2
  have v8 := rightQ_in (comF r.a m) r.p false p0 p1
  have v9 := oddV_in r.a m r.p a0 a1
  have w1 := oddQ_in r.a m r.p p0 p1
  have w2 := setG_in (markF r.p (comF r.a m)) 1 (decide (128 ≤ comF r.a m)) (mk _).1 (mk _).2 (by simp)
  have hA := fun v => (mk v).1
  have hB := fun v => (mk v).2
  cases k <;> simp only [readF, markR] <;> constructor <;> (try simp only []) <;> with_reducible first | assumption | exact (mk _).1 | exact (mk _).2 | exact (v5 _).1 | exact (v5 _).2 | exact c1.1 | exact c1.2 | exact c2.1 | exact c2.2 | exact c3.1 | exact c4.1 | exact c4.2 | exact c6.1 | exact c6.2 | exact o1.1 | exact o1.2 | exact o2.1 | exact o2.2 | exact v1.1 | exact v1.2 | exact v2.1 | exact v2.2 | exact v3.1 | exact v3.2 | exact v4.1 | exact v4.2 | exact v6.1 | exact v6.2 | exact v7.1 | exact v7.2 | exact v8.1 | exact v8.2 | exact v9.1 | exact v9.2 | exact w1.1 | exact w1.2 | exact w2.1 | exact w2.2 | omega
end Go.Proofs.YthepcjecmlkaiaaDoor.Ex
