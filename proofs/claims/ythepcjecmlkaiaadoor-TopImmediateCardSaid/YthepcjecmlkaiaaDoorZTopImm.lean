/- Two cycles of a processor at a code with a byte behind it, plainly: the registers are those that the code's meaning leaves, two bytes on. -/
import Derived.Test.YthepcjecmlkaiaaDoorZMicroMemCyc
import Derived.Test.YthepcjecmlkaiaaDoorZMicroNew
namespace Go.Proofs.YthepcjecmlkaiaaDoor.Mi
open Go Go.Proofs.YthepcjecmlkaiaaDoor.Alu Go.Proofs.YthepcjecmlkaiaaDoor.Ex
set_option linter.unusedVariables false
set_option linter.unusedSimpArgs false
/-- A code with a byte behind it is one that reads. -/
theorem imm_kind : ∀ o < 256, Co.modeO o = 2 → Co.kindC o = 1 := by decide +kernel
theorem readF_pc (k : RdK) (r : Rg) (v m : Int) : readF k { r with pc := v } m = { readF k r m with pc := v } := by
  cases k <;> rfl
theorem clean_twice (p : Int) (h0 : 0 ≤ p) (h1 : p ≤ 255) : cleanF (cleanF p) = cleanF p :=
  byte_cases (P := fun p => cleanF (cleanF p) = cleanF p) (by decide +kernel) p h0 h1
/-- The memory that the law lays: a code, and a byte behind it. -/
def immM (pc o b : Int) : List Int := ((List.replicate 8192 (0 : Int)).set (pc % 8192).toNat o).set ((pc + 1) % 65536 % 8192).toNat b
theorem immM_code (pc o b : Int) (h0 : 0 ≤ pc) (h1 : pc ≤ 65535) : (immM pc o b).getD (pc % 8192).toNat 0 = o := by
  unfold immM
  have hlen : (List.replicate 8192 (0 : Int)).length = 8192 := List.length_replicate
  generalize List.replicate 8192 (0 : Int) = L at *
  have hne : ((pc + 1) % 65536 % 8192).toNat ≠ (pc % 8192).toNat := by omega
  have hl : (pc % 8192).toNat < 8192 := by omega
  simp only [List.getD, List.getElem?_set, if_neg hne]
  simp [hl, hlen]
theorem immM_byte (pc o b : Int) (h0 : 0 ≤ pc) (h1 : pc ≤ 65535) : (immM pc o b).getD ((pc + 1) % 65536 % 8192).toNat 0 = b := by
  unfold immM
  have hlen : (List.replicate 8192 (0 : Int)).length = 8192 := List.length_replicate
  generalize List.replicate 8192 (0 : Int) = L at *
  have hl : ((pc + 1) % 65536 % 8192).toNat < 8192 := by omega
  generalize ((pc + 1) % 65536 % 8192).toNat = j at *
  simp only [List.getD, List.getElem?_set]
  simp [hl, hlen]
/-- The step behind the fetch, and behind the byte. -/
theorem imm_fetch (r : Rg) (ok : r.ok) (o : Nat) (ho : o < 256) (hm : Co.modeO o = 2) :
    pinsF (newC r 0) = rdP r.pc ∧ (clockF (newC r 0) (o : Int)).t = 10 ∧ pinsF (clockF (newC r 0) (o : Int)) = rdP ((r.pc + 1) % 65536) ∧
    ∀ b, clockF (clockF (newC r 0) (o : Int)) b = nextF (readC (clockF (newC r 0) (o : Int)) (Co.nameO o) b) 0 := by
  have hk := imm_kind o ho hm
  have e : clockF (newC r 0) (o : Int) = nextF { newC r 0 with op := (o : Int), nm := Co.nameO o, md := Co.modeO o, kd := Co.kindC o, kn := Co.knownC o } (decF (Co.kindC o) (Co.modeO o)) := rfl
  have hd : decF (Co.kindC o) (Co.modeO o) = 10 := by rw [hk, hm]; rfl
  rw [e, hd]
  exact ⟨rfl, rfl, rfl, fun b => rfl⟩
/-- What is left behind two cycles. -/
theorem imm_regs (r : Rg) (ok : r.ok) (o : Nat) (ho : o < 256) (hm : Co.modeO o = 2) (b : Int) :
    (clockF (clockF (newC r 0) (o : Int)) b).t = 0 ∧ (clockF (clockF (newC r 0) (o : Int)) b).r = { readF (rdK (Co.nameO o)) { r with p := cleanF r.p } b with pc := (r.pc + 2) % 65536 } := by
  obtain ⟨_, _, _, h⟩ := imm_fetch r ok o ho hm
  rw [h b]
  refine ⟨rfl, ?_⟩
  have e : (clockF (newC r 0) (o : Int)).r = { ({ r with p := cleanF r.p } : Rg) with pc := (r.pc + 1) % 65536 } := rfl
  show ({ readF (rdK (Co.nameO o)) (clockF (newC r 0) (o : Int)).r b with pc := ((readF (rdK (Co.nameO o)) (clockF (newC r 0) (o : Int)).r b).pc + 1) % 65536 } : Rg) = _
  rw [e, readF_pc]
  show ({ readF (rdK (Co.nameO o)) { r with p := cleanF r.p } b with pc := ((r.pc + 1) % 65536 + 1) % 65536 } : Rg) = _
  rw [show ((r.pc + 1) % 65536 + 1) % 65536 = (r.pc + 2) % 65536 from by omega]
end Go.Proofs.YthepcjecmlkaiaaDoor.Mi
