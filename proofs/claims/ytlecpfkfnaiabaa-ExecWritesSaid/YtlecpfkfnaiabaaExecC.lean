/- Plain laws of package exec: a mark before a comparison or a difference is of no matter; which flags stay. -/
import Derived.Test.YtlecpfkfnaiabaaExecB
namespace Go.Proofs.Ytlecpfkfnaiabaa.Ex
open Go Go.Proofs.Ytlecpfkfnaiabaa.Alu
set_option maxRecDepth 100000
theorem cmp_mark (a v u p : Int) (h0 : 0 ≤ p) (h1 : p ≤ 255) : cmpQ a v (markF p u) = cmpQ a v p := by
  have h : ∀ n : Fin 256, ∀ b c d e f : Bool, setF (setF (setF (setF (setF n.val 2 b) 128 c) 2 d) 128 e) 1 f = setF (setF (setF n.val 2 d) 128 e) 1 f := by decide +kernel
  exact byte_cases (P := fun p => cmpQ a v (markF p u) = cmpQ a v p) (fun n => by unfold cmpQ markF; exact h n _ _ _ _ _) p h0 h1
theorem mark_mod (p u : Int) (h0 : 0 ≤ p) (h1 : p ≤ 255) : markF p u % 2 = p % 2 := by
  have h : ∀ n : Fin 256, ∀ b c : Bool, setF (setF n.val 2 b) 128 c % 2 = (n.val : Int) % 2 := by decide +kernel
  exact byte_cases (P := fun p => markF p u % 2 = p % 2) (fun n => by unfold markF; exact h n _ _) p h0 h1
theorem mark_has (p u : Int) (h0 : 0 ≤ p) (h1 : p ≤ 255) : has (markF p u) 8 = has p 8 := by
  have h : ∀ n : Fin 256, ∀ b c : Bool, has (setF (setF n.val 2 b) 128 c) 8 = has (n.val : Int) 8 := by decide +kernel
  exact byte_cases (P := fun p => has (markF p u) 8 = has p 8) (fun n => by unfold markF; exact h n _ _) p h0 h1
theorem mark_bin (p u : Int) (b c : Bool) (v : Int) (h0 : 0 ≤ p) (h1 : p ≤ 255) : markF (setF (setF (markF p u) 1 b) 64 c) v = markF (setF (setF p 1 b) 64 c) v := by
  have h : ∀ n : Fin 256, ∀ x y b c d e : Bool, setF (setF (setF (setF (setF (setF n.val 2 x) 128 y) 1 b) 64 c) 2 d) 128 e = setF (setF (setF (setF n.val 1 b) 64 c) 2 d) 128 e := by decide +kernel
  exact byte_cases (P := fun p => markF (setF (setF (markF p u) 1 b) 64 c) v = markF (setF (setF p 1 b) 64 c) v) (fun n => by unfold markF; exact h n _ _ _ _ _ _) p h0 h1
theorem binT_mark (a m p u : Int) (h0 : 0 ≤ p) (h1 : p ≤ 255) : binT a m (markF p u) = binT a m p := by unfold binT; rw [mark_mod p u h0 h1]
theorem binV_mark (a m p u : Int) (h0 : 0 ≤ p) (h1 : p ≤ 255) : binV a m (markF p u) = binV a m p := by unfold binV; rw [binT_mark a m p u h0 h1]
theorem binQ_mark (a m p u : Int) (h0 : 0 ≤ p) (h1 : p ≤ 255) : binQ a m (markF p u) = binQ a m p := by
  unfold binQ
  rw [binT_mark a m p u h0 h1, binV_mark a m p u h0 h1]
  exact mark_bin p u _ _ _ h0 h1
theorem subV_mark (a m p u : Int) (h0 : 0 ≤ p) (h1 : p ≤ 255) : subV a m (markF p u) = subV a m p := by
  have e : subL a m (markF p u) = subL a m p := by unfold subL; rw [mark_mod p u h0 h1]
  have e2 : subT a m (markF p u) = subT a m p := by unfold subT; rw [e]
  have e3 : subU a m (markF p u) = subU a m p := by unfold subU; rw [e2]
  unfold subV
  rw [mark_has p u h0 h1, e3, binV_mark a _ p u h0 h1]
theorem twice_cmp (a x y s p pc m : Int) (h0 : 0 ≤ p) (h1 : p ≤ 255) : readF .CMP ⟨a, x, y, s, turnP .DEC p m, pc⟩ (turnV .DEC p m) = turnR .DCP ⟨a, x, y, s, p, pc⟩ m := by
  show Rg.mk a x y s (cmpQ a ((m - 1) % 256) (markF p ((m - 1) % 256))) pc = Rg.mk a x y s (cmpQ a ((m - 1) % 256) p) pc
  rw [cmp_mark _ _ _ _ h0 h1]
theorem twice_sub (a x y s p pc m : Int) (h0 : 0 ≤ p) (h1 : p ≤ 255) : readF .SBC ⟨a, x, y, s, turnP .INC p m, pc⟩ (turnV .INC p m) = turnR .ISC ⟨a, x, y, s, p, pc⟩ m := by
  show Rg.mk (subV a ((m + 1) % 256) (markF p ((m + 1) % 256))) x y s (subQ a ((m + 1) % 256) (markF p ((m + 1) % 256))) pc = Rg.mk (subV a ((m + 1) % 256) p) x y s (subQ a ((m + 1) % 256) p) pc
  rw [subV_mark _ _ _ _ h0 h1]
  unfold subQ
  rw [binQ_mark _ _ _ _ h0 h1]

theorem readF_pc (k : RdK) (r : Rg) (m : Int) : (readF k r m).pc = r.pc := by cases k <;> rfl
theorem storeR_pc (k : StK) (r : Rg) : (storeR k r).pc = r.pc := by cases k <;> rfl
theorem storeR_p (k : StK) (r : Rg) : (storeR k r).p = r.p := by cases k <;> rfl
theorem selfF_pc (k : SeK) (r : Rg) : (selfF k r).pc = r.pc := by cases k <;> rfl
theorem turnR_pc (k : TuK) (r : Rg) (m : Int) : (turnR k r m).pc = r.pc := readF_pc _ _ _
theorem readF_60 (k : RdK) (r : Rg) (m : Int) (h0 : 0 ≤ r.p) (h1 : r.p ≤ 255) : Agr 60 (readF k r m).p r.p := by
  have f := Agr.refl 60 r.p h0 h1
  cases k with
  | ORA => exact f.mark60 _
  | AND => exact f.mark60 _
  | EOR => exact f.mark60 _
  | ADC => exact add60 _ _ _ h0 h1
  | SBC => exact sub60 _ _ _ h0 h1
  | CMP => exact cmp60 _ _ _ h0 h1
  | CPX => exact cmp60 _ _ _ h0 h1
  | CPY => exact cmp60 _ _ _ h0 h1
  | BIT => exact bit60 _ _ _ h0 h1
  | LAX => exact f.mark60 _
  | LDA => exact f.mark60 _
  | LDX => exact f.mark60 _
  | LDY => exact f.mark60 _
  | LAS => exact f.mark60 _
  | ANC => exact (f.mark60 _).set60 1 _ (by simp)
  | ALR => exact right60 _ _ _ h0 h1
  | ARR => exact odd60 _ _ _ h0 h1
  | ANE => exact f.mark60 _
  | LXA => exact f.mark60 _
  | SBX => exact cmp60 _ _ _ h0 h1
  | other => exact f
theorem turnP_60 (k : TuK) (p m : Int) (h0 : 0 ≤ p) (h1 : p ≤ 255) : Agr 60 (turnP k p m) p := by
  have f := Agr.refl 60 p h0 h1
  cases k with
  | ASL => exact left60 _ _ _ h0 h1
  | SLO => exact left60 _ _ _ h0 h1
  | ROL => exact left60 _ _ _ h0 h1
  | RLA => exact left60 _ _ _ h0 h1
  | LSR => exact right60 _ _ _ h0 h1
  | SRE => exact right60 _ _ _ h0 h1
  | ROR => exact right60 _ _ _ h0 h1
  | RRA => exact right60 _ _ _ h0 h1
  | INC => exact f.mark60 _
  | DEC => exact f.mark60 _
  | ISC => exact f
  | DCP => exact f
  | other => exact f
theorem turnR_60 (k : TuK) (r : Rg) (m : Int) (h0 : 0 ≤ r.p) (h1 : r.p ≤ 255) : Agr 60 (turnR k r m).p r.p := by
  have g := turnP_in k r.p m h0 h1
  have a := readF_60 (thenK k) { r with p := turnP k r.p m } (turnV k r.p m) g.1 g.2
  exact ⟨a.1, a.2.1, a.2.2.trans (turnP_60 k r.p m h0 h1).2.2⟩
theorem set48 (p f : Int) (x : Bool) (h0 : 0 ≤ p) (h1 : p ≤ 255) (hf : f = 1 ∨ f = 4 ∨ f = 8 ∨ f = 64) : Agr 48 (setF p f x) p := by
  have h : ∀ n : Fin 256, ∀ f ∈ [(1 : Int), 4, 8, 64], ∀ x : Bool, 0 ≤ setF n.val f x ∧ setF n.val f x ≤ 255 ∧ bits .and .u8 (setF n.val f x) 48 = bits .and .u8 n.val 48 := by decide +kernel
  exact byte_cases (P := fun p => Agr 48 (setF p f x) p) (fun n => h n f (by simpa using hf) x) p h0 h1
theorem mark48 (p v : Int) (h0 : 0 ≤ p) (h1 : p ≤ 255) : Agr 48 (markF p v) p := by
  have h : ∀ n : Fin 256, ∀ b c : Bool, 0 ≤ setF (setF n.val 2 b) 128 c ∧ setF (setF n.val 2 b) 128 c ≤ 255 ∧ bits .and .u8 (setF (setF n.val 2 b) 128 c) 48 = bits .and .u8 n.val 48 := by decide +kernel
  exact byte_cases (P := fun p => Agr 48 (markF p v) p) (fun n => by unfold markF; exact h n _ _) p h0 h1
theorem selfF_48 (k : SeK) (r : Rg) (h0 : 0 ≤ r.p) (h1 : r.p ≤ 255) : Agr 48 (selfF k r).p r.p := by
  cases k <;> first | exact set48 _ _ _ h0 h1 (by simp) | exact mark48 _ _ h0 h1 | exact Agr.refl _ _ h0 h1
theorem stays (p a c d : Int) (h0 : 0 ≤ p) (h1 : p ≤ 255) (ha : Agr 60 a p) (hc : c = p) (hd : Agr 60 d p) :
    bits .and .u8 (bits .or .u8 (bits .or .u8 (bits .xor .u8 a p) (bits .xor .u8 c p)) (bits .xor .u8 d p)) 60 = 0 := by
  have n1 := ha.nil h0 h1 (by omega) (by omega)
  have n2 := (Agr.refl 60 p h0 h1).nil h0 h1 (by omega) (by omega)
  have n3 := hd.nil h0 h1 (by omega) (by omega)
  rw [hc]
  exact ((n1.or n2 (by omega) (by omega)).or n3 (by omega) (by omega)).2.2
theorem stays_self (p b : Int) (h0 : 0 ≤ p) (h1 : p ≤ 255) (hb : Agr 48 b p) : bits .and .u8 (bits .xor .u8 b p) 48 = 0 := (hb.nil h0 h1 (by omega) (by omega)).2.2
end Go.Proofs.Ytlecpfkfnaiabaa.Ex
