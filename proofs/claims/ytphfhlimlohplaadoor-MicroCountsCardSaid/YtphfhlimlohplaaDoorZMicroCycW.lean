/- Package micro: a processor's cycle on a memory, walked. -/
import Derived.Test.YtphfhlimlohplaaDoorZMicroAny
import Derived.Test.YtphfhlimlohplaaDoorZMicroMemCyc
namespace Go.Proofs.YtphfhlimlohplaaDoor.Mi
open Go Go.RowKit Go.Deep Go.Proofs.YtphfhlimlohplaaDoor Go.Proofs.YtphfhlimlohplaaDoor.Ex
set_option linter.unusedVariables false
set_option linter.unusedSimpArgs false
/-- What a cycle leaves. -/
def CycPost (V : World) (B M : Nat) (q : Cp × List Int) (e : Ending) (w' : World) : Prop :=
  e = .returned (pinV (pinsF q.1)) ∧ CpuS w' B (cycF q).1 ∧ MemS w' M (cycF q).2 ∧ Below V.heap.size V w'
theorem MemS.other {W : World} {M : Nat} {L : List Int} (h : MemS W M L) (p : Addr) (hp : ¬ M = p.block) (u : Value) : MemS (W.setCell p u) M L := RowT.other h p hp u
set_option maxRecDepth 100000 in
set_option maxHeartbeats 8000000 in
theorem cycle_any (q : Cp × List Int) (hq : Both q) (V w : World) (B M : Nat) (hS : CpuS w B q.1) (hM : MemS w M q.2) (hBM : B ≠ M) (hG : Co.Gl V) (hb : Below V.heap.size V w) (hVB : V.heap.size ≤ B) (hVM : V.heap.size ≤ M) :
    Calls Tryd.prog 10 #[.pointer (some ⟨B, 0, none⟩), .slice (some ⟨M, 0, none⟩) 8192 8192] w (CycPost V B M q) := by
  obtain ⟨c, L⟩ := q
  obtain ⟨ok, hl, hb8⟩ := hq
  simp only [] at ok hl hb8 hS hM
  have hp := pinsF_ok ok
  have kp := fun w' h => pins_any c ok w' B h
  have kc := fun w' h g v v0 v1 => clock_any c ok w' B h g v v0 v1
  unfold CycPost cycF
  simp only []
  generalize pinsF c = P at *
  obtain ⟨pa, pw, pd⟩ := P
  obtain ⟨a0, a1, d0, d1⟩ := hp
  simp only [pinV] at a0 a1 d0 d1 kp ⊢
  obtain ⟨j, rfl⟩ : ∃ j : Nat, pa = (j : Int) := ⟨pa.toNat, by omega⟩
  have hj : j < 8192 := by omega
  have hjn : ((j : Int)).toNat = j := by omega
  rw [hjn]
  have y0 : Int.tmod (j : Int) 8192 = (j : Int) := by rw [Int.tmod_eq_emod_of_nonneg (by omega)]; omega
  have w1 : IntKind.u16.wrap (j : Int) = (j : Int) := IntWalk.u16_in _ (by omega)
  have i1 : (j : Int) < 8192 := by omega
  have i0 : (0 : Int) ≤ (j : Int) := by omega
  have hg := hb8.get j
  generalize hGG : L.getD j 0 = G at *
  have HGG := Lib.hid hGG
  clear hGG
  have hBl : B < w.heap.size := CpuR.lt hS
  have hMl : M < w.heap.size := RowT.lt hM
  have hVw := hb.size
  have g0 := RowT.new w #[.int .u16 0, .bool false, .int .u8 0] 33
  have hS0 : CpuS (w.alloc (.cells #[.int .u16 0, .bool false, .int .u8 0] 33)) B c := CpuR.alloc hS _
  have hM0 : MemS (w.alloc (.cells #[.int .u16 0, .bool false, .int .u8 0] 33)) M L := RowT.alloc hM _
  have hb0 := hb.alloc hVw (.cells #[.int .u16 0, .bool false, .int .u8 0] 33)
  clear hS hM hb
  go_enter Tryd.func10, Tryd.ntmps10
  repeat (first | (with_reducible refine wp_keep (fun U => U = w.alloc (.cells #[.int .u16 0, .bool false, .int .u8 0] 33)) rfl ?_) | go_step)
  rintro W0 rfl
  generalize w.alloc (.cells #[.int .u16 0, .bool false, .int .u8 0] 33) = W0 at *
  generalize w.heap.size = D at *
  go_wp2_with fail
  refine (kp _ hS0).mono ?_
  rintro e X ⟨rfl, hw⟩
  have hS1 : CpuS X B c := CpuR.below hS0 hw
  have hM1 : MemS X M L := RowT.below hM0 hw
  have g1 := RowT.below g0 hw
  have hb1 := hb0.trans (hw.mono hb0.size)
  clear hw kp hS0 hM0 g0 hb0
  have f0 := RowT.new X #[.int .u16 (j : Int), .bool pw, .int .u8 pd] 33
  have hS2 : CpuS (X.alloc (.cells #[.int .u16 (j : Int), .bool pw, .int .u8 pd] 33)) B c := CpuR.alloc hS1 _
  have hM2 : MemS (X.alloc (.cells #[.int .u16 (j : Int), .bool pw, .int .u8 pd] 33)) M L := RowT.alloc hM1 _
  have g2 := RowT.alloc g1 (.cells #[.int .u16 (j : Int), .bool pw, .int .u8 pd] 33)
  have hDX : D < X.heap.size := RowT.lt g1
  have hb2 := hb1.alloc hb1.size (.cells #[.int .u16 (j : Int), .bool pw, .int .u8 pd] 33)
  clear hS1 hM1 g1 hb1
  dsimp only
  repeat (first | (with_reducible refine wp_keep (fun U => U = X.alloc (.cells #[.int .u16 (j : Int), .bool pw, .int .u8 pd] 33)) rfl ?_) | go_step)
  rintro Y rfl
  generalize X.alloc (.cells #[.int .u16 (j : Int), .bool pw, .int .u8 pd] 33) = Y at *
  generalize X.heap.size = E at *
  obtain ⟨e0, e1, e2, ef⟩ := box3 f0
  have ck : Y.cell? ⟨M, j, none⟩ = some (.int .u8 G) := by rw [← HGG.out]; exact MemS.cell hM2 j (by omega)
  have fk := MemS.thaw hM2 j
  have nED : ¬ E = D := by omega
  have nEM : ¬ E = M := by omega
  have nEB : ¬ E = B := by omega
  have nDM : ¬ D = M := by omega
  have nDB : ¬ D = B := by omega
  have nMB : ¬ M = B := fun h => hBM h.symm
  have nBD : ¬ B = D := fun h => nDB h.symm
  have nMD : ¬ M = D := fun h => nDM h.symm
  have hYB : V.heap.size ≤ Y.heap.size := hb2.size
  cases pw
  · go_wp2_with fail
    refine (kc _ hS2 (hG.below hb2) G hg.1 hg.2).mono ?_
    rintro e Z ⟨rfl, hS3, hB3⟩
    have hM3 : MemS Z M L := RowT.moved hM2 (hB3.block _ (RowT.lt hM2) nMB)
    have g3 := RowT.moved g2 (hB3.block _ (RowT.lt g2) nDB)
    have f3 := RowT.moved f0 (hB3.block _ (RowT.lt f0) nEB)
    have hb3 := hb2.trans (hB3.to hVB hYB)
    clear e0 e1 e2 ef ck fk hB3 hb2 hS2 hM2 g2 f0 kc
    obtain ⟨e0, e1, e2, ef⟩ := box3 f3
    obtain ⟨z0, z1, z2, zf⟩ := box3 g3
    go_wp2_with fail
    refine bodyPost_ret (v := .agg #[.int .u16 (j : Int), .bool false, .int .u8 pd]) (by simp [results, Tryd.results10, go_sem, z0, z1, z2]) rfl ⟨rfl, ?_, ?_, ?_⟩
    · exact CpuR.other (CpuR.other (CpuR.other hS3 ⟨D, 0, none⟩ nBD _) ⟨D, 1, none⟩ nBD _) ⟨D, 2, none⟩ nBD _
    · exact MemS.other (MemS.other (MemS.other hM3 ⟨D, 0, none⟩ nMD _) ⟨D, 1, none⟩ nMD _) ⟨D, 2, none⟩ nMD _
    · exact ((hb3.setCell (by exact hVw) _).setCell (by exact hVw) _).setCell (by exact hVw) _
  · have hS4 : CpuS (Y.setCell ⟨M, j, none⟩ (.int .u8 pd)) B c := CpuR.other hS2 ⟨M, j, none⟩ hBM _
    have hM4 := MemS.put hM2 j pd
    have g4 := RowT.other g2 ⟨M, j, none⟩ nDM (.int .u8 pd)
    have f4 := RowT.other f0 ⟨M, j, none⟩ nEM (.int .u8 pd)
    have hb4 := hb2.setCell (p := ⟨M, j, none⟩) hVM (.int .u8 pd)
    have hs4 : (Y.setCell ⟨M, j, none⟩ (.int .u8 pd)).heap.size = Y.heap.size := by simp
    go_wp2_with fail
    refine (kc _ hS4 (hG.below hb4) 0 (by decide) (by decide)).mono ?_
    rintro e Z ⟨rfl, hS3, hB3⟩
    have hM3 : MemS Z M _ := RowT.moved hM4 (hB3.block _ (RowT.lt hM4) nMB)
    have g3 := RowT.moved g4 (hB3.block _ (RowT.lt g4) nDB)
    have f3 := RowT.moved f4 (hB3.block _ (RowT.lt f4) nEB)
    have hb3 := hb4.trans (hB3.to hVB (by rw [hs4]; exact hYB))
    clear e0 e1 e2 ef ck fk hB3 hb2 hS2 hM2 g2 f0 kc hS4 hM4 g4 f4 hb4 hs4
    obtain ⟨e0, e1, e2, ef⟩ := box3 f3
    obtain ⟨z0, z1, z2, zf⟩ := box3 g3
    go_wp2_with fail
    refine bodyPost_ret (v := .agg #[.int .u16 (j : Int), .bool true, .int .u8 pd]) (by simp [results, Tryd.results10, go_sem, z0, z1, z2]) rfl ⟨rfl, ?_, ?_, ?_⟩
    · exact CpuR.other (CpuR.other (CpuR.other hS3 ⟨D, 0, none⟩ nBD _) ⟨D, 1, none⟩ nBD _) ⟨D, 2, none⟩ nBD _
    · exact MemS.other (MemS.other (MemS.other hM3 ⟨D, 0, none⟩ nMD _) ⟨D, 1, none⟩ nMD _) ⟨D, 2, none⟩ nMD _
    · exact ((hb3.setCell (by exact hVw) _).setCell (by exact hVw) _).setCell (by exact hVw) _
end Go.Proofs.YtphfhlimlohplaaDoor.Mi
