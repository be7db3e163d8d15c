/- Package micro, plainly: what a processor asks in a cycle, and what a cycle leaves; numbers alone, no program in sight. -/
import Derived.Test.YthepcjecmlkaiaaDoorZExecGoAny
import Derived.Test.YthepcjecmlkaiaaDoorZCodeTabs
import Derived.WalkKit
import Derived.Laws.BitsAllLaws
namespace Go.Proofs.YthepcjecmlkaiaaDoor.Ex
open Go Go.Proofs.YthepcjecmlkaiaaDoor.Alu
set_option linter.unusedSimpArgs false
theorem selfFM_ok (k : SeK) (r : Rg) (ok : r.ok) : (selfF k r).ok := by
  obtain ⟨a0, a1, x0, x1, y0, y1, s0, s1, p0, p1, pc0, pc1⟩ := ok
  have mk := fun v => Alu.markF_in r.p v p0 p1
  have st := fun f b h => setG_in r.p f b p0 p1 h
  have e1 : 0 ≤ (r.x + 1) % 256 ∧ (r.x + 1) % 256 ≤ 255 := by omega
  have e2 : 0 ≤ (r.y + 1) % 256 ∧ (r.y + 1) % 256 ≤ 255 := by omega
  have e3 : 0 ≤ (r.x - 1) % 256 ∧ (r.x - 1) % 256 ≤ 255 := by omega
  have e4 : 0 ≤ (r.y - 1) % 256 ∧ (r.y - 1) % 256 ≤ 255 := by omega
  cases k <;> simp only [selfF, markR] <;> constructor <;> (try simp only []) <;> with_reducible first | assumption | exact (mk _).1 | exact (mk _).2 | exact (st _ _ (by simp)).1 | exact (st _ _ (by simp)).2 | exact e1.1 | exact e1.2 | exact e2.1 | exact e2.2 | exact e3.1 | exact e3.2 | exact e4.1 | exact e4.2
theorem storeRM_ok (k : StK) (r : Rg) (ok : r.ok) : (storeR k r).ok := by
  obtain ⟨a0, a1, x0, x1, y0, y1, s0, s1, p0, p1, pc0, pc1⟩ := ok
  have c3 := Alu.comF_in r.a r.x a0 a1
  cases k <;> simp only [storeR] <;> constructor <;> (try simp only []) <;> with_reducible first | assumption | exact c3.1 | exact c3.2
theorem turnRM_ok (k : TuK) (r : Rg) (m : Int) (ok : r.ok) (g0 : 0 ≤ m) (g1 : m ≤ 255) : (turnR k r m).ok :=
  readF_ok _ _ _ ⟨ok.a0, ok.a1, ok.x0, ok.x1, ok.y0, ok.y1, ok.s0, ok.s1, (turnP_in k r.p m ok.p0 ok.p1).1, (turnP_in k r.p m ok.p0 ok.p1).2, ok.pc0, ok.pc1⟩ (turnV_in k r.p m g0 g1).1 (turnV_in k r.p m g0 g1).2
theorem storeVM_in (k : StK) (r : Rg) (m : Int) (ok : r.ok) : 0 ≤ storeV k r m ∧ storeV k r m ≤ 255 := by
  obtain ⟨a0, a1, x0, x1, y0, y1, s0, s1, p0, p1, pc0, pc1⟩ := ok
  have c3 := Alu.comF_in r.a r.x a0 a1
  have c4 := Alu.comF_in (Alu.comF r.a r.x) ((m + 1) % 256) c3.1 c3.2
  have c5 := Alu.comF_in r.x ((m + 1) % 256) x0 x1
  have c6 := Alu.comF_in r.y ((m + 1) % 256) y0 y1
  cases k with
  | STA => exact ⟨a0, a1⟩
  | STX => exact ⟨x0, x1⟩
  | STY => exact ⟨y0, y1⟩
  | SAX => exact c3
  | SHA => exact c4
  | SHX => exact c5
  | SHY => exact c6
  | TAS => exact c4
  | other => exact ⟨(by decide : (0 : Int) ≤ 0), (by decide : (0 : Int) ≤ 255)⟩
def unM (tag : ByteArray) : Bool := decide (tag.toList ∈ ([[83, 72, 65], [83, 72, 88], [83, 72, 89], [84, 65, 83]] : List (List UInt8)))
end Go.Proofs.YthepcjecmlkaiaaDoor.Ex
namespace Go.Proofs.YthepcjecmlkaiaaDoor.Mi
open Go Go.Proofs.YthepcjecmlkaiaaDoor.Alu Go.Proofs.YthepcjecmlkaiaaDoor.Ex

structure Cp where
  r : Rg
  t : Int
  op : Int
  nm : ByteArray
  md : Int
  kd : Int
  kn : Bool
  pl : Int
  wr : Int
  b : Int

structure Cp.ok (c : Cp) : Prop where
  r : c.r.ok
  t0 : 0 ≤ c.t
  t1 : c.t ≤ 56
  op0 : 0 ≤ c.op
  op1 : c.op ≤ 255
  md0 : 0 ≤ c.md
  md1 : c.md ≤ 12
  kd0 : 0 ≤ c.kd
  kd1 : c.kd ≤ 12
  pl0 : 0 ≤ c.pl
  pl1 : c.pl ≤ 65535
  wr0 : 0 ≤ c.wr
  wr1 : c.wr ≤ 65535
  b0 : 0 ≤ c.b
  b1 : c.b ≤ 255

def wordF (l h : Int) : Int := h * 256 + l
def idxF (c : Cp) : Int := if c.md = 4 ∨ c.md = 7 ∨ c.md = 9 then c.r.x else if c.md = 5 ∨ c.md = 8 ∨ c.md = 10 then c.r.y else 0
def baseF (c : Cp) : Int := c.wr / 256
def stackF (c : Cp) : Int := 256 + c.r.s
def stVF (c : Cp) : Int := storeV (stK c.nm) c.r (baseF c)
def stRF (c : Cp) : Rg := storeR (stK c.nm) c.r
def stPF (c : Cp) : Int := if unM c.nm = true ∧ c.pl ≠ c.wr then wordF (c.pl % 256) (stVF c) else c.pl
def tuVF (c : Cp) : Int := turnV (tuK c.nm) c.r.p c.b
def tuRF (c : Cp) : Rg := turnR (tuK c.nm) c.r c.b
def nextF (c : Cp) (t : Int) : Cp := { c with r := { c.r with pc := (c.r.pc + 1) % 65536 }, t := t }
def accF (c : Cp) : Int := if c.kd = 2 then 21 else 20
def farF (c : Cp) (l h : Int) : Cp :=
  let p := (wordF l h + idxF c) % 65536
  let q := wordF (p % 256) h
  { c with pl := p, wr := q, t := if (c.md = 7 ∨ c.md = 8 ∨ c.md = 10) ∧ (p ≠ q ∨ c.kd ≠ 1) then 15 else accF c }
def decF (kd md : Int) : Int :=
  if kd = 12 then 1 else if kd = 4 then 24 else if kd = 5 then 27 else if kd = 6 then 29 else if kd = 7 then 32 else if kd = 8 then 36 else if kd = 9 then 41 else if kd = 10 then 46 else if kd = 11 then 51
  else if md = 2 then 10 else if md = 3 ∨ md = 4 ∨ md = 5 then 11 else if md = 6 ∨ md = 7 ∨ md = 8 then 13 else if md = 9 ∨ md = 10 then 16 else 9
def turnAF (nm : ByteArray) (r : Rg) : Rg := { turnR (tuK nm) r r.a with a := turnV (tuK nm) r.p r.a }
def doneF (c : Cp) : Cp := { c with r := if c.kd = 3 then turnAF c.nm c.r else selfF (seK c.nm) c.r }
def readC (c : Cp) (nm : ByteArray) (b : Int) : Cp := { c with r := readF (rdK nm) c.r b }
def spare (b : Int) : Int := if 128 ≤ b then b - 256 else b
def cleanF (p : Int) : Int := bits .or .u8 (bits .andNot .u8 p 16) 32
def branchF (c : Cp) (b : Int) : Cp :=
  let g := (c.r.pc + spare b) % 65536
  let q := bits .or .u16 (bits .and .u16 c.r.pc 65280) (bits .and .u16 g 255)
  { c with r := { c.r with pc := g }, wr := q, t := if g = q then 0 else 26 }
def lowF (p : Int) : Int := bits .or .u16 (bits .and .u16 p 65280) (bits .and .u16 ((p + 1) % 65536) 255)
def sp (c : Cp) (d : Int) (t : Int) : Cp := { c with r := { c.r with s := (c.r.s + d) % 256 }, t := t }
def pcT (c : Cp) (pc t : Int) : Cp := { c with r := { c.r with pc := pc }, t := t }

/-- What a cycle at a step leaves. -/
def clockN : Nat → Cp → Int → Cp
  | 0, c, b => nextF { c with op := b, nm := Co.nameO b.toNat, md := Co.modeO b.toNat, kd := Co.kindC b.toNat, kn := Co.knownC b.toNat } (decF (Co.kindC b.toNat) (Co.modeO b.toNat))
  | 2, c, _ => { c with t := 3 }
  | 3, c, _ => { c with t := 4 }
  | 4, c, _ => sp c (-1) 5
  | 5, c, _ => sp c (-1) 6
  | 6, c, _ => sp c (-1) 7
  | 7, c, b => { c with b := b, t := 8 }
  | 8, c, b => { c with r := { c.r with pc := wordF c.b b, p := bits .or .u8 c.r.p 4 }, t := 0 }
  | 9, c, _ => { doneF c with t := 0 }
  | 10, c, b => nextF (readC c c.nm b) 0
  | 11, c, b => { nextF { c with pl := b, wr := b, b := b } (accF c) with t := if c.md = 3 then accF c else 12 }
  | 12, c, _ => { c with pl := (c.b + idxF c) % 256, wr := (c.b + idxF c) % 256, t := accF c }
  | 13, c, b => nextF { c with b := b } 14
  | 14, c, b => farF { c with r := { c.r with pc := (c.r.pc + 1) % 65536 } } c.b b
  | 15, c, _ => { c with t := accF c }
  | 16, c, b => { nextF { c with b := b, pl := b } 18 with t := if c.md = 9 then 17 else 18 }
  | 17, c, _ => { c with pl := (c.b + c.r.x) % 256, t := 18 }
  | 18, c, b => { c with b := b, pl := bits .and .u16 ((c.pl + 1) % 65536) 255, t := 19 }
  | 19, c, b => if c.md = 9 then { c with pl := wordF c.b b, wr := wordF c.b b, t := accF c } else farF c c.b b
  | 20, c, b => if c.kd = 3 then { c with b := b, t := 22 } else { readC { c with b := b } c.nm b with t := 0 }
  | 21, c, _ => { c with r := stRF c, t := 0 }
  | 22, c, _ => { c with t := 23 }
  | 23, c, _ => { c with r := tuRF c, t := 0 }
  | 24, c, b => { nextF { c with b := b } 0 with t := if goesF (goK c.nm) c.r.p = true then 25 else 0 }
  | 25, c, _ => branchF c c.b
  | 26, c, _ => { c with t := 0 }
  | 27, c, _ => { c with t := 28 }
  | 28, c, _ => sp c (-1) 0
  | 29, c, _ => { c with t := 30 }
  | 30, c, _ => sp c 1 31
  | 31, c, b => if c.nm.toList = [80, 76, 80] then { c with r := { c.r with p := cleanF b }, t := 0 } else { c with r := readF .LDA c.r b, t := 0 }
  | 32, c, b => nextF { c with b := b } 33
  | 33, c, b => if c.md = 12 then nextF { c with pl := wordF c.b b } 34 else pcT { c with pl := wordF c.b b } (wordF c.b b) 0
  | 34, c, b => { c with b := b, pl := lowF c.pl, t := 35 }
  | 35, c, b => pcT c (wordF c.b b) 0
  | 36, c, b => nextF { c with b := b } 37
  | 37, c, _ => { c with t := 38 }
  | 38, c, _ => sp c (-1) 39
  | 39, c, _ => sp c (-1) 40
  | 40, c, b => pcT c (wordF c.b b) 0
  | 41, c, _ => { c with t := 42 }
  | 42, c, _ => sp c 1 43
  | 43, c, b => sp { c with b := b } 1 44
  | 44, c, b => pcT c (wordF c.b b) 45
  | 45, c, _ => nextF c 0
  | 46, c, _ => { c with t := 47 }
  | 47, c, _ => sp c 1 48
  | 48, c, b => sp { c with r := { c.r with p := cleanF b } } 1 49
  | 49, c, b => sp { c with b := b } 1 50
  | 50, c, b => pcT c (wordF c.b b) 0
  | 51, c, b => nextF { c with b := b } 52
  | 52, c, _ => sp c (-1) 53
  | 53, c, _ => sp c (-1) 54
  | 54, c, _ => sp c (-1) 55
  | 55, c, b => { c with b := b, t := 56 }
  | 56, c, b => { c with r := { c.r with pc := wordF c.b b, p := bits .or .u8 c.r.p 4 }, t := 0 }
  | _, c, _ => c
def clockF (c : Cp) (b : Int) : Cp := clockN c.t.toNat c b

/-- What it asks: an address, whether it writes, a byte. -/
structure Pn where
  a : Int
  w : Bool
  d : Int
def rdP (a : Int) : Pn := ⟨a % 8192, false, 0⟩
def wrP (a b : Int) : Pn := ⟨a % 8192, true, b⟩
def pinsN : Nat → Cp → Pn
  | 1, _ => rdP 65535
  | 4, c => rdP (stackF c)
  | 5, c => rdP (stackF c)
  | 6, c => rdP (stackF c)
  | 7, _ => rdP 65532
  | 8, _ => rdP 65533
  | 12, c => rdP c.b
  | 15, c => rdP c.wr
  | 17, c => rdP c.b
  | 18, c => rdP c.pl
  | 19, c => rdP c.pl
  | 20, c => rdP c.pl
  | 21, c => wrP (stPF c) (stVF c)
  | 22, c => wrP c.pl c.b
  | 23, c => wrP c.pl (tuVF c)
  | 26, c => rdP c.wr
  | 28, c => wrP (stackF c) (if c.nm.toList = [80, 72, 80] then bits .or .u8 c.r.p 16 else c.r.a)
  | 30, c => rdP (stackF c)
  | 31, c => rdP (stackF c)
  | 34, c => rdP c.pl
  | 35, c => rdP c.pl
  | 37, c => rdP (stackF c)
  | 38, c => wrP (stackF c) (c.r.pc / 256)
  | 39, c => wrP (stackF c) (c.r.pc % 256)
  | 42, c => rdP (stackF c)
  | 43, c => rdP (stackF c)
  | 44, c => rdP (stackF c)
  | 47, c => rdP (stackF c)
  | 48, c => rdP (stackF c)
  | 49, c => rdP (stackF c)
  | 50, c => rdP (stackF c)
  | 52, c => wrP (stackF c) (c.r.pc / 256)
  | 53, c => wrP (stackF c) (c.r.pc % 256)
  | 54, c => wrP (stackF c) (bits .or .u8 c.r.p 16)
  | 55, _ => rdP 65534
  | 56, _ => rdP 65535
  | _, c => rdP c.r.pc
def pinsF (c : Cp) : Pn := pinsN c.t.toNat c
end Go.Proofs.YthepcjecmlkaiaaDoor.Mi
/- Package micro: the cells of a processor, and what else stays. -/
namespace Go.Proofs.YthepcjecmlkaiaaDoor.Mi
open Go Go.RowKit Go.Proofs.YthepcjecmlkaiaaDoor.Ex
set_option linter.unusedVariables false
set_option linter.unusedSimpArgs false

def Cp.row (c : Cp) : Array Value := #[.int .u8 c.r.a, .int .u8 c.r.x, .int .u8 c.r.y, .int .u8 c.r.s, .int .u8 c.r.p, .int .u16 c.r.pc, .int .u8 c.t, .int .u8 c.op, .string c.nm, .int .u8 c.md, .int .u8 c.kd, .bool c.kn, .int .u16 c.pl, .int .u16 c.wr, .int .u8 c.b]
/-- A block that holds these cells. -/
def CpuR (W : World) (B : Nat) (cs : Array Value) : Prop := W.heap[B]? = some (.cells cs 52 (0, 0))
/-- A block that is this processor. -/
def CpuS (W : World) (B : Nat) (c : Cp) : Prop := CpuR W B c.row
theorem CpuR.set {W : World} {B : Nat} {cs : Array Value} (h : CpuR W B cs) (i : Nat) (u : Value) : CpuR (W.setCell ⟨B, i, none⟩ u) B (cs.setIfInBounds i u) := by
  unfold CpuR at h ⊢
  rw [heap_setCell_same W B i _ _ u h]
theorem CpuR.drew {W : World} {B : Nat} {cs : Array Value} (h : CpuR W B cs) : CpuR W.drew B cs := h
theorem CpuR.lt {W : World} {B : Nat} {cs : Array Value} (h : CpuR W B cs) : B < W.heap.size := (Array.getElem?_eq_some_iff.1 h).1
theorem CpuR.moved {W W' : World} {B : Nat} {cs : Array Value} (h : CpuR W B cs) (e : W'.heap[B]? = W.heap[B]?) : CpuR W' B cs := e.trans h
theorem CpuR.below {W W' : World} {B : Nat} {cs : Array Value} (h : CpuR W B cs) (hb : Below W.heap.size W W') : CpuR W' B cs := h.moved (hb.block _ h.lt)
theorem CpuR.other {W : World} {B : Nat} {cs : Array Value} (h : CpuR W B cs) (p : Addr) (hp : B ≠ p.block) (u : Value) : CpuR (W.setCell p u) B cs := h.moved (Below.heap_setCell W p u B hp)
theorem CpuR.alloc {W : World} {B : Nat} {cs : Array Value} (h : CpuR W B cs) (o : Obj) : CpuR (W.alloc o) B cs := h.moved (Below.heap_alloc W o B h.lt)
theorem CpuR.cell {W : World} {B : Nat} {cs : Array Value} (h : CpuR W B cs) (i : Nat) : W.cell? ⟨B, i, none⟩ = cs[i]? := by rw [cell_of_row W B i _ _ _ h]
theorem CpuR.thaw {W : World} {B : Nat} {cs : Array Value} (h : CpuR W B cs) (i : Nat) : W.frozen? ⟨B, i, none⟩ = false := frozen_of_row W B i _ _ h
theorem CpuS.of {W : World} {B : Nat} {c : Cp} (h : ∃ cs, CpuR W B cs ∧ cs = c.row) : CpuS W B c := by obtain ⟨cs, h, rfl⟩ := h; exact h
theorem CpuS.mk2 {W : World} {B : Nat} {c : Cp} {cs : Array Value} (h : CpuR W B cs) (e : cs = c.row) : CpuS W B c := by subst e; exact h
theorem CpuS.all {W : World} {B : Nat} {a x y s p pc t op : Int} {nm : ByteArray} {md kd : Int} {kn : Bool} {pl wr b : Int} (h : CpuS W B ⟨⟨a, x, y, s, p, pc⟩, t, op, nm, md, kd, kn, pl, wr, b⟩) :
    W.cell? ⟨B, 0, none⟩ = some (.int .u8 a) ∧ W.cell? ⟨B, 1, none⟩ = some (.int .u8 x) ∧ W.cell? ⟨B, 2, none⟩ = some (.int .u8 y) ∧ W.cell? ⟨B, 3, none⟩ = some (.int .u8 s) ∧ W.cell? ⟨B, 4, none⟩ = some (.int .u8 p) ∧ W.cell? ⟨B, 5, none⟩ = some (.int .u16 pc) ∧
    W.cell? ⟨B, 6, none⟩ = some (.int .u8 t) ∧ W.cell? ⟨B, 7, none⟩ = some (.int .u8 op) ∧ W.cell? ⟨B, 8, none⟩ = some (.string nm) ∧ W.cell? ⟨B, 9, none⟩ = some (.int .u8 md) ∧ W.cell? ⟨B, 10, none⟩ = some (.int .u8 kd) ∧ W.cell? ⟨B, 11, none⟩ = some (.bool kn) ∧
    W.cell? ⟨B, 12, none⟩ = some (.int .u16 pl) ∧ W.cell? ⟨B, 13, none⟩ = some (.int .u16 wr) ∧ W.cell? ⟨B, 14, none⟩ = some (.int .u8 b) :=
  ⟨h.cell 0, h.cell 1, h.cell 2, h.cell 3, h.cell 4, h.cell 5, h.cell 6, h.cell 7, h.cell 8, h.cell 9, h.cell 10, h.cell 11, h.cell 12, h.cell 13, h.cell 14⟩
/-- A block that holds these cells, of any type. -/
def RowT (T : TypeId) (W : World) (B : Nat) (cs : Array Value) : Prop := W.heap[B]? = some (.cells cs T (0, 0))
section
variable {T : TypeId} {W W' : World} {B : Nat} {cs : Array Value}
theorem RowT.set (h : RowT T W B cs) (i : Nat) (u : Value) : RowT T (W.setCell ⟨B, i, none⟩ u) B (cs.setIfInBounds i u) := by
  unfold RowT at h ⊢
  rw [heap_setCell_same W B i _ _ u h]
theorem RowT.drew (h : RowT T W B cs) : RowT T W.drew B cs := h
theorem RowT.lt (h : RowT T W B cs) : B < W.heap.size := (Array.getElem?_eq_some_iff.1 h).1
theorem RowT.moved (h : RowT T W B cs) (e : W'.heap[B]? = W.heap[B]?) : RowT T W' B cs := e.trans h
theorem RowT.below (h : RowT T W B cs) (hb : Below W.heap.size W W') : RowT T W' B cs := h.moved (hb.block _ h.lt)
theorem RowT.other (h : RowT T W B cs) (p : Addr) (hp : ¬ B = p.block) (u : Value) : RowT T (W.setCell p u) B cs := h.moved (Below.heap_setCell W p u B hp)
theorem RowT.alloc (h : RowT T W B cs) (o : Obj) : RowT T (W.alloc o) B cs := h.moved (Below.heap_alloc W o B h.lt)
theorem RowT.new (W : World) (cs : Array Value) (T : TypeId) : RowT T (W.alloc (.cells cs T)) W.heap.size cs := heap_alloc_new W _
theorem RowT.new1 (W : World) (o : Obj) (cs : Array Value) (T : TypeId) : RowT T ((W.alloc o).alloc (.cells cs T)) (W.heap.size + 1) cs := by
  have := heap_alloc_new (W.alloc o) (.cells cs T)
  rwa [World.size_alloc] at this
end
theorem box6 {W : World} {D : Nat} {T : TypeId} {v0 v1 v2 v3 v4 v5 : Value} (h : W.heap[D]? = some (.cells #[v0, v1, v2, v3, v4, v5] T (0, 0))) :
    W.cell? ⟨D, 0, none⟩ = some v0 ∧ W.cell? ⟨D, 1, none⟩ = some v1 ∧ W.cell? ⟨D, 2, none⟩ = some v2 ∧ W.cell? ⟨D, 3, none⟩ = some v3 ∧ W.cell? ⟨D, 4, none⟩ = some v4 ∧ W.cell? ⟨D, 5, none⟩ = some v5 ∧ ∀ i, W.frozen? ⟨D, i, none⟩ = false := by
  refine ⟨?_, ?_, ?_, ?_, ?_, ?_, fun i => frozen_of_row W D i _ _ h⟩
  all_goals (rw [cell_of_row W D _ _ _ _ h]; rfl)
/-- What there was stays, but for one block. -/
structure Besd (B n : Nat) (w w' : World) : Prop where
  os : w'.os = w.os
  tape : w'.tape = w.tape
  output : w'.output = w.output
  size : w.heap.size ≤ w'.heap.size
  block : ∀ k, k < n → k ≠ B → w'.heap[k]? = w.heap[k]?
theorem Besd.refl (B n : Nat) (w : World) : Besd B n w w := ⟨rfl, rfl, rfl, Nat.le_refl _, fun _ _ _ => rfl⟩
theorem Besd.below {B n : Nat} {a w w' : World} (h : Besd B n a w) (g : Below w.heap.size w w') (hn : n ≤ a.heap.size) : Besd B n a w' :=
  ⟨g.os.trans h.os, g.tape.trans h.tape, g.output.trans h.output, Nat.le_trans h.size g.size, fun k hk hB => (g.block k (Nat.lt_of_lt_of_le hk (Nat.le_trans hn h.size))).trans (h.block k hk hB)⟩
theorem Besd.drew {B n : Nat} {a w : World} (h : Besd B n a w) : Besd B n a w.drew := ⟨h.os, h.tape, h.output, h.size, h.block⟩
theorem Besd.alloc {B n : Nat} {a w : World} (h : Besd B n a w) (hn : n ≤ a.heap.size) (o : Obj) : Besd B n a (w.alloc o) := h.below ((Below.refl _ _).alloc (Nat.le_refl _) _) hn
theorem Besd.set {B n : Nat} {a w : World} (h : Besd B n a w) (p : Addr) (hp : p.block = B ∨ n ≤ p.block) (u : Value) : Besd B n a (w.setCell p u) :=
  ⟨h.os, h.tape, h.output, by simpa using h.size, fun k hk hB => (Below.heap_setCell w p u k (by rcases hp with e | e <;> omega)).trans (h.block k hk hB)⟩
theorem Besd.own {B n : Nat} {a w : World} (h : Besd B n a w) (i : Nat) (u : Value) : Besd B n a (w.setCell ⟨B, i, none⟩ u) := h.set _ (.inl rfl) u
theorem Besd.trans {B n m : Nat} {a b c : World} (h : Besd B n a b) (g : Besd B m b c) (hm : n ≤ m) : Besd B n a c :=
  ⟨g.os.trans h.os, g.tape.trans h.tape, g.output.trans h.output, Nat.le_trans h.size g.size, fun k hk hB => (g.block k (by omega) hB).trans (h.block k hk hB)⟩
theorem Besd.to {B n base : Nat} {a w : World} (h : Besd B n a w) (hB : base ≤ B) (hn : base ≤ n) : Below base a w := ⟨h.os, h.tape, h.output, h.size, fun k hk => h.block k (by omega) (by omega)⟩
theorem k_keep {K : Act → World → Prop} {a : Act} {w : World} (S : World → Prop) (h : S w) (k : ∀ W, S W → K a W) : K a w := k w h
/-- What a method leaves that tells nothing. -/
def MPost (w : World) (B : Nat) (c : Cp) (e : Ending) (w' : World) : Prop := e = .returned (.tuple #[]) ∧ CpuS w' B c ∧ Besd B w.heap.size w w'
end Go.Proofs.YthepcjecmlkaiaaDoor.Mi
/- Package micro, plainly: a processor's numbers stay in their ranges. -/
namespace Go.Proofs.YthepcjecmlkaiaaDoor.Mi
open Go Go.Proofs.YthepcjecmlkaiaaDoor.Alu Go.Proofs.YthepcjecmlkaiaaDoor.Ex
set_option linter.unusedVariables false
section
variable {c : Cp}
theorem Cp.ok.t (ok : c.ok) {v : Int} (h0 : 0 ≤ v) (h1 : v ≤ 56) : ({ c with t := v } : Cp).ok := ⟨ok.r, h0, h1, ok.op0, ok.op1, ok.md0, ok.md1, ok.kd0, ok.kd1, ok.pl0, ok.pl1, ok.wr0, ok.wr1, ok.b0, ok.b1⟩
theorem Cp.ok.b (ok : c.ok) {v : Int} (h0 : 0 ≤ v) (h1 : v ≤ 255) : ({ c with b := v } : Cp).ok := ⟨ok.r, ok.t0, ok.t1, ok.op0, ok.op1, ok.md0, ok.md1, ok.kd0, ok.kd1, ok.pl0, ok.pl1, ok.wr0, ok.wr1, h0, h1⟩
theorem Cp.ok.pl (ok : c.ok) {v : Int} (h0 : 0 ≤ v) (h1 : v ≤ 65535) : ({ c with pl := v } : Cp).ok := ⟨ok.r, ok.t0, ok.t1, ok.op0, ok.op1, ok.md0, ok.md1, ok.kd0, ok.kd1, h0, h1, ok.wr0, ok.wr1, ok.b0, ok.b1⟩
theorem Cp.ok.wr (ok : c.ok) {v : Int} (h0 : 0 ≤ v) (h1 : v ≤ 65535) : ({ c with wr := v } : Cp).ok := ⟨ok.r, ok.t0, ok.t1, ok.op0, ok.op1, ok.md0, ok.md1, ok.kd0, ok.kd1, ok.pl0, ok.pl1, h0, h1, ok.b0, ok.b1⟩
theorem Cp.ok.rg (ok : c.ok) {v : Rg} (h : v.ok) : ({ c with r := v } : Cp).ok := ⟨h, ok.t0, ok.t1, ok.op0, ok.op1, ok.md0, ok.md1, ok.kd0, ok.kd1, ok.pl0, ok.pl1, ok.wr0, ok.wr1, ok.b0, ok.b1⟩
theorem Cp.ok.code (ok : c.ok) {op md kd : Int} {nm : ByteArray} {kn : Bool} (h0 : 0 ≤ op) (h1 : op ≤ 255) (m0 : 0 ≤ md) (m1 : md ≤ 12) (k0 : 0 ≤ kd) (k1 : kd ≤ 12) : ({ c with op := op, nm := nm, md := md, kd := kd, kn := kn } : Cp).ok := ⟨ok.r, ok.t0, ok.t1, h0, h1, m0, m1, k0, k1, ok.pl0, ok.pl1, ok.wr0, ok.wr1, ok.b0, ok.b1⟩
theorem pc_ok {r : Rg} (ok : r.ok) {v : Int} (h0 : 0 ≤ v) (h1 : v ≤ 65535) : ({ r with pc := v } : Rg).ok := ⟨ok.a0, ok.a1, ok.x0, ok.x1, ok.y0, ok.y1, ok.s0, ok.s1, ok.p0, ok.p1, h0, h1⟩
theorem s_ok {r : Rg} (ok : r.ok) {v : Int} (h0 : 0 ≤ v) (h1 : v ≤ 255) : ({ r with s := v } : Rg).ok := ⟨ok.a0, ok.a1, ok.x0, ok.x1, ok.y0, ok.y1, h0, h1, ok.p0, ok.p1, ok.pc0, ok.pc1⟩
theorem p_ok {r : Rg} (ok : r.ok) {v : Int} (h0 : 0 ≤ v) (h1 : v ≤ 255) : ({ r with p := v } : Rg).ok := ⟨ok.a0, ok.a1, ok.x0, ok.x1, ok.y0, ok.y1, ok.s0, ok.s1, h0, h1, ok.pc0, ok.pc1⟩
theorem a_ok {r : Rg} (ok : r.ok) {v : Int} (h0 : 0 ≤ v) (h1 : v ≤ 255) : ({ r with a := v } : Rg).ok := ⟨h0, h1, ok.x0, ok.x1, ok.y0, ok.y1, ok.s0, ok.s1, ok.p0, ok.p1, ok.pc0, ok.pc1⟩
theorem nextF_ok (ok : c.ok) {t : Int} (h0 : 0 ≤ t) (h1 : t ≤ 56) : (nextF c t).ok := (ok.rg (pc_ok ok.r (by omega) (by omega))).t h0 h1
theorem sp_ok (ok : c.ok) (d : Int) {t : Int} (h0 : 0 ≤ t) (h1 : t ≤ 56) : (sp c d t).ok := (ok.rg (s_ok ok.r (by omega) (by omega))).t h0 h1
theorem pcT_ok (ok : c.ok) {v t : Int} (v0 : 0 ≤ v) (v1 : v ≤ 65535) (h0 : 0 ≤ t) (h1 : t ≤ 56) : (pcT c v t).ok := (ok.rg (pc_ok ok.r v0 v1)).t h0 h1
theorem accF_in (c : Cp) : 0 ≤ accF c ∧ accF c ≤ 56 := by unfold accF; split <;> omega
theorem decF_in (kd md : Int) : 0 ≤ decF kd md ∧ decF kd md ≤ 56 := by unfold decF; (repeat' split) <;> omega
theorem wordF_in {l h : Int} (l0 : 0 ≤ l) (l1 : l ≤ 255) (h0 : 0 ≤ h) (h1 : h ≤ 255) : 0 ≤ wordF l h ∧ wordF l h ≤ 65535 := by unfold wordF; omega
theorem farF_ok (ok : c.ok) {l h : Int} (h0 : 0 ≤ h) (h1 : h ≤ 255) : (farF c l h).ok := by
  unfold farF
  have := accF_in c
  have hw := wordF_in (l := (wordF l h + idxF c) % 65536 % 256) (by omega) (by omega) h0 h1
  refine (((ok.pl (v := (wordF l h + idxF c) % 65536) (by omega) (by omega)).wr hw.1 hw.2).t ?_ ?_)
  · split <;> omega
  · split <;> omega
theorem and8_in (a b : Int) (h0 : 0 ≤ a) (h1 : a ≤ 255) (g0 : 0 ≤ b) (g1 : b ≤ 255) : 0 ≤ bits .and .u8 a b ∧ bits .and .u8 a b ≤ 255 := by
  rw [u8_and a b h0 (by omega) g0 (by omega)]
  have := @Nat.and_le_left a.toNat b.toNat
  omega
theorem or8_in (a b : Int) (h0 : 0 ≤ a) (h1 : a ≤ 255) (g0 : 0 ≤ b) (g1 : b ≤ 255) : 0 ≤ bits .or .u8 a b ∧ bits .or .u8 a b ≤ 255 := by
  rw [orF_bits a b h0 h1 g0 g1]; exact orF_in a b h0 h1 g0 g1
theorem and16_in (a b : Int) (h0 : 0 ≤ a) (h1 : a ≤ 65535) (g0 : 0 ≤ b) (g1 : b ≤ 65535) : 0 ≤ bits .and .u16 a b ∧ bits .and .u16 a b ≤ 65535 := by
  rw [u16_and a b h0 (by omega) g0 (by omega)]
  have := @Nat.and_le_left a.toNat b.toNat
  omega
theorem or16_in (a b : Int) (h0 : 0 ≤ a) (h1 : a ≤ 65535) (g0 : 0 ≤ b) (g1 : b ≤ 65535) : 0 ≤ bits .or .u16 a b ∧ bits .or .u16 a b ≤ 65535 := by
  rw [u16_or a b h0 (by omega) g0 (by omega)]
  have := Nat.or_lt_two_pow (n := 16) (x := a.toNat) (y := b.toNat) (by omega) (by omega)
  omega
theorem cleanF_in {p : Int} (h0 : 0 ≤ p) (h1 : p ≤ 255) : 0 ≤ cleanF p ∧ cleanF p ≤ 255 := by
  unfold cleanF
  have : 0 ≤ bits .andNot .u8 p 16 ∧ bits .andNot .u8 p 16 ≤ 255 := by
    rw [u8_andNot p 16 h0 (by omega) (by omega) (by omega)]
    have := @Nat.and_le_left p.toNat (255 - (16 : Int).toNat)
    omega
  exact or8_in _ 32 this.1 this.2 (by omega) (by omega)
theorem branchF_ok (ok : c.ok) (b : Int) : (branchF c b).ok := by
  unfold branchF
  have h1 := and16_in c.r.pc 65280 ok.r.pc0 ok.r.pc1 (by omega) (by omega)
  have h2 := and16_in ((c.r.pc + spare b) % 65536) 255 (by omega) (by omega) (by omega) (by omega)
  have h3 := or16_in _ _ h1.1 h1.2 h2.1 h2.2
  refine ((ok.rg (pc_ok ok.r (v := (c.r.pc + spare b) % 65536) (by omega) (by omega))).wr h3.1 h3.2).t ?_ ?_ <;> split <;> omega
theorem lowF_in {p : Int} (h0 : 0 ≤ p) (h1 : p ≤ 65535) : 0 ≤ lowF p ∧ lowF p ≤ 65535 := by
  have h2 := and16_in p 65280 h0 h1 (by omega) (by omega)
  have h3 := and16_in ((p + 1) % 65536) 255 (by omega) (by omega) (by omega) (by omega)
  exact or16_in _ _ h2.1 h2.2 h3.1 h3.2
theorem doneR_ok (ok : c.ok) : (doneF c).ok := by
  unfold doneF
  refine ok.rg ?_
  split
  · have := turnV_in (tuK c.nm) c.r.p c.r.a ok.r.a0 ok.r.a1
    exact a_ok (turnRM_ok _ _ _ ok.r ok.r.a0 ok.r.a1) this.1 this.2
  · exact selfFM_ok _ _ ok.r
theorem kind_in : ∀ o < 256, 0 ≤ Co.kindC o ∧ Co.kindC o ≤ 12 := by decide +kernel
theorem mode_in (o : Nat) (h : o < 256) : 0 ≤ Co.modeO o ∧ Co.modeO o ≤ 12 := Co.mdI_in (o / 16) (by omega) (o % 16) (by omega)
theorem clockN_ok (n : Nat) (ok : c.ok) {b : Int} (b0 : 0 ≤ b) (b1 : b ≤ 255) : (clockN n c b).ok := by
  have hk := kind_in b.toNat (by omega)
  have hm := mode_in b.toNat (by omega)
  have hd := decF_in (Co.kindC b.toNat) (Co.modeO b.toNat)
  have ha := accF_in c
  have hw := wordF_in ok.b0 ok.b1 b0 b1
  have hc := cleanF_in b0 b1
  have hi : 0 ≤ bits .or .u8 c.r.p 4 ∧ bits .or .u8 c.r.p 4 ≤ 255 := or8_in _ _ ok.r.p0 ok.r.p1 (by omega) (by omega)
  have hz : (0 : Int) ≤ 56 := by omega
  have hvec : ({ c with r := { c.r with pc := wordF c.b b, p := bits .or .u8 c.r.p 4 }, t := 0 } : Cp).ok := (ok.rg (v := { c.r with pc := wordF c.b b, p := bits .or .u8 c.r.p 4 }) (p_ok (pc_ok ok.r hw.1 hw.2) hi.1 hi.2)).t (by omega) hz
  have nb0 : 0 ≤ b := b0
  have nb1 : b ≤ 65535 := by omega
  unfold clockN
  split
  · exact nextF_ok (ok.code b0 b1 hm.1 hm.2 hk.1 hk.2) hd.1 hd.2
  · exact ok.t (by omega) (by omega)
  · exact ok.t (by omega) (by omega)
  · exact sp_ok ok _ (by omega) (by omega)
  · exact sp_ok ok _ (by omega) (by omega)
  · exact sp_ok ok _ (by omega) (by omega)
  · exact (ok.b b0 b1).t (by omega) (by omega)
  · exact hvec
  · exact (doneR_ok ok).t (by omega) (by omega)
  · exact nextF_ok (ok.rg (readF_ok _ _ _ ok.r b0 b1)) (by omega) (by omega)
  · exact (nextF_ok (((ok.pl b0 nb1).wr b0 nb1).b b0 b1) ha.1 ha.2).t (by split <;> omega) (by split <;> omega)
  · exact ((ok.pl (v := (c.b + idxF c) % 256) (by omega) (by omega)).wr (v := (c.b + idxF c) % 256) (by omega) (by omega)).t ha.1 ha.2
  · exact nextF_ok (ok.b b0 b1) (by omega) (by omega)
  · exact farF_ok (ok.rg (pc_ok ok.r (by omega) (by omega))) b0 b1
  · exact ok.t ha.1 ha.2
  · exact (nextF_ok ((ok.b b0 b1).pl b0 nb1) (by omega) (by omega) (t := 18)).t (by split <;> omega) (by split <;> omega)
  · exact (ok.pl (v := (c.b + c.r.x) % 256) (by omega) (by omega)).t (by omega) (by omega)
  · have h3 := and16_in ((c.pl + 1) % 65536) 255 (by omega) (by omega) (by omega) (by omega)
    exact ((ok.b b0 b1).pl h3.1 h3.2).t (by omega) (by omega)
  · split
    · exact ((ok.pl hw.1 hw.2).wr hw.1 hw.2).t ha.1 ha.2
    · exact farF_ok ok b0 b1
  · split
    · exact (ok.b b0 b1).t (by omega) (by omega)
    · exact ((ok.b b0 b1).rg (readF_ok _ _ _ ok.r b0 b1)).t (by omega) (by omega)
  · exact (ok.rg (storeRM_ok _ _ ok.r)).t (by omega) (by omega)
  · exact ok.t (by omega) (by omega)
  · exact (ok.rg (turnRM_ok _ _ _ ok.r ok.b0 ok.b1)).t (by omega) (by omega)
  · exact (nextF_ok (ok.b b0 b1) (by omega) (by omega) (t := 0)).t (by split <;> omega) (by split <;> omega)
  · exact branchF_ok ok _
  · exact ok.t (by omega) (by omega)
  · exact ok.t (by omega) (by omega)
  · exact sp_ok ok _ (by omega) (by omega)
  · exact ok.t (by omega) (by omega)
  · exact sp_ok ok _ (by omega) (by omega)
  · split
    · exact (ok.rg (p_ok ok.r hc.1 hc.2)).t (by omega) (by omega)
    · exact (ok.rg (readF_ok .LDA c.r b ok.r b0 b1)).t (v := 0) (by omega) hz
  · exact nextF_ok (ok.b b0 b1) (by omega) (by omega)
  · split
    · exact nextF_ok (ok.pl hw.1 hw.2) (by omega) (by omega)
    · exact pcT_ok (ok.pl hw.1 hw.2) hw.1 hw.2 (by omega) (by omega)
  · have h3 := lowF_in ok.pl0 ok.pl1
    exact ((ok.b b0 b1).pl h3.1 h3.2).t (by omega) (by omega)
  · exact pcT_ok ok hw.1 hw.2 (by omega) (by omega)
  · exact nextF_ok (ok.b b0 b1) (by omega) (by omega)
  · exact ok.t (by omega) (by omega)
  · exact sp_ok ok _ (by omega) (by omega)
  · exact sp_ok ok _ (by omega) (by omega)
  · exact pcT_ok ok hw.1 hw.2 (by omega) (by omega)
  · exact ok.t (by omega) (by omega)
  · exact sp_ok ok _ (by omega) (by omega)
  · exact sp_ok (ok.b b0 b1) _ (by omega) (by omega)
  · exact pcT_ok ok hw.1 hw.2 (by omega) (by omega)
  · exact nextF_ok ok (by omega) (by omega)
  · exact ok.t (by omega) (by omega)
  · exact sp_ok ok _ (by omega) (by omega)
  · exact sp_ok (ok.rg (p_ok ok.r hc.1 hc.2)) _ (by omega) (by omega)
  · exact sp_ok (ok.b b0 b1) _ (by omega) (by omega)
  · exact pcT_ok ok hw.1 hw.2 (by omega) (by omega)
  · exact nextF_ok (ok.b b0 b1) (by omega) (by omega)
  · exact sp_ok ok _ (by omega) (by omega)
  · exact sp_ok ok _ (by omega) (by omega)
  · exact sp_ok ok _ (by omega) (by omega)
  · exact (ok.b b0 b1).t (by omega) (by omega)
  · exact hvec
  · exact ok
theorem clockF_ok (ok : c.ok) {b : Int} (b0 : 0 ≤ b) (b1 : b ≤ 255) : (clockF c b).ok := clockN_ok _ ok b0 b1
end
end Go.Proofs.YthepcjecmlkaiaaDoor.Mi
/- Package micro: three cells of a block. -/
namespace Go.Proofs.YthepcjecmlkaiaaDoor.Mi
open Go Go.RowKit
set_option linter.unusedVariables false
theorem box3 {W : World} {D : Nat} {T : TypeId} {v0 v1 v2 : Value} (h : RowT T W D #[v0, v1, v2]) : W.cell? ⟨D, 0, none⟩ = some v0 ∧ W.cell? ⟨D, 1, none⟩ = some v1 ∧ W.cell? ⟨D, 2, none⟩ = some v2 ∧ ∀ i, W.frozen? ⟨D, i, none⟩ = false := by
  refine ⟨?_, ?_, ?_, fun i => frozen_of_row W D i _ _ h⟩
  all_goals (rw [cell_of_row W D _ _ _ _ h]; rfl)
end Go.Proofs.YthepcjecmlkaiaaDoor.Mi
