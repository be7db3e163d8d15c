/- A processor's cycle on a memory, and its cycles till it fetches, as woodgraintop has them, walked. -/
import Derived.Test.YthepcjecmlkaiaaDoorZMicroAny
import Derived.Test.YthepcjecmlkaiaaDoorZMicroNew
import Derived.Test.YthepcjecmlkaiaaDoorZMicroMemCyc
namespace Go.Proofs.YthepcjecmlkaiaaDoor.Mi
open Go Go.RowKit Go.Deep Go.Proofs.YthepcjecmlkaiaaDoor Go.Proofs.YthepcjecmlkaiaaDoor.Ex
set_option linter.unusedVariables false
set_option linter.unusedSimpArgs false
/-- What a cycle that reads leaves. -/
def FlPost (V : World) (B M : Nat) (c : Cp) (L : List Int) (e : Ending) (w' : World) : Prop := ∃ v, e = .returned v ∧ CpuS w' B c ∧ MemS w' M L ∧ Below V.heap.size V w'
theorem MemS.oth {W : World} {M : Nat} {L : List Int} (h : MemS W M L) (p : Addr) (hp : ¬ M = p.block) (u : Value) : MemS (W.setCell p u) M L := RowT.other h p hp u
set_option maxRecDepth 100000 in
set_option maxHeartbeats 8000000 in
theorem flat_read (c : Cp) (ok : c.ok) (L : List Int) (hl : L.length = 8192) (hb8 : Bytes L) (pa : Int) (hp : pinsF c = rdP pa) (V w : World) (B M : Nat) (hS : CpuS w B c) (hM : MemS w M L) (hBM : B ≠ M) (hG : Co.Gl V) (hb : Below V.heap.size V w) (hVB : V.heap.size ≤ B) :
    Calls Tryd.prog 20 #[.pointer (some ⟨B, 0, none⟩), .slice (some ⟨M, 0, none⟩) 8192 8192] w (FlPost V B M (clockF c (L.getD (pa % 8192).toNat 0)) L) := by
  have kp := fun w' h => pins_any c ok w' B h
  rw [hp] at kp
  have kc := fun w' h g v v0 v1 => clock_any c ok w' B h g v v0 v1
  obtain ⟨j, hj⟩ : ∃ j : Nat, pa % 8192 = (j : Int) := ⟨(pa % 8192).toNat, by omega⟩
  have hj1 : j < 8192 := by omega
  simp only [pinV, rdP, hj] at kp
  rw [hj, show ((j : Int)).toNat = j from by omega]
  clear hj hp
  have y0 : Int.tmod (j : Int) 8192 = (j : Int) := by rw [Int.tmod_eq_emod_of_nonneg (by omega)]; omega
  have w1 : IntKind.u16.wrap (j : Int) = (j : Int) := IntWalk.u16_in _ (by omega)
  have i1 : (j : Int) < 8192 := by omega
  have i0 : (0 : Int) ≤ (j : Int) := by omega
  have hg := hb8.get j
  generalize hGG : L.getD j 0 = G at *
  have HGG := Lib.hid hGG
  clear hGG
  have hBl : B < w.heap.size := CpuR.lt hS
  have hMl : M < w.heap.size := RowT.lt hM
  have hVw := hb.size
  have g0 := RowT.new w #[.int .u16 0, .bool false, .int .u8 0] 40
  have hS0 : CpuS (w.alloc (.cells #[.int .u16 0, .bool false, .int .u8 0] 40)) B c := CpuR.alloc hS _
  have hM0 : MemS (w.alloc (.cells #[.int .u16 0, .bool false, .int .u8 0] 40)) M L := RowT.alloc hM _
  have hb0 := hb.alloc hVw (.cells #[.int .u16 0, .bool false, .int .u8 0] 40)
  clear hS hM hb
  go_enter Tryd.func20, Tryd.ntmps20
  repeat (first | (with_reducible refine wp_keep (fun U => U = w.alloc (.cells #[.int .u16 0, .bool false, .int .u8 0] 40)) rfl ?_) | go_step)
  rintro W0 rfl
  generalize w.alloc (.cells #[.int .u16 0, .bool false, .int .u8 0] 40) = W0 at *
  generalize w.heap.size = D at *
  go_wp2_with fail
  refine (kp _ hS0).mono ?_
  rintro e X ⟨rfl, hw⟩
  have hS1 : CpuS X B c := CpuR.below hS0 hw
  have hM1 : MemS X M L := RowT.below hM0 hw
  have g1 := RowT.below g0 hw
  have hb1 := hb0.trans (hw.mono hb0.size)
  clear hw kp hS0 hM0 g0 hb0
  have f0 := RowT.new X #[.int .u16 (j : Int), .bool false, .int .u8 0] 40
  have hS2 : CpuS (X.alloc (.cells #[.int .u16 (j : Int), .bool false, .int .u8 0] 40)) B c := CpuR.alloc hS1 _
  have hM2 : MemS (X.alloc (.cells #[.int .u16 (j : Int), .bool false, .int .u8 0] 40)) M L := RowT.alloc hM1 _
  have g2 := RowT.alloc g1 (.cells #[.int .u16 (j : Int), .bool false, .int .u8 0] 40)
  have hDX : D < X.heap.size := RowT.lt g1
  have hb2 := hb1.alloc hb1.size (.cells #[.int .u16 (j : Int), .bool false, .int .u8 0] 40)
  clear hS1 hM1 g1 hb1
  dsimp only
  repeat (first | (with_reducible refine wp_keep (fun U => U = X.alloc (.cells #[.int .u16 (j : Int), .bool false, .int .u8 0] 40)) rfl ?_) | go_step)
  rintro Y rfl
  generalize X.alloc (.cells #[.int .u16 (j : Int), .bool false, .int .u8 0] 40) = Y at *
  generalize X.heap.size = E at *
  obtain ⟨e0, e1, e2, ef⟩ := box3 f0
  have ck : Y.cell? ⟨M, j, none⟩ = some (.int .u8 G) := by rw [← HGG.out]; exact MemS.cell hM2 j (by omega)
  have nED : ¬ E = D := by omega
  have nEM : ¬ E = M := by omega
  have nEB : ¬ E = B := by omega
  have nDM : ¬ D = M := by omega
  have nDB : ¬ D = B := by omega
  have nMB : ¬ M = B := fun h => hBM h.symm
  have nBD : ¬ B = D := fun h => nDB h.symm
  have nMD : ¬ M = D := fun h => nDM h.symm
  have hYB : V.heap.size ≤ Y.heap.size := hb2.size
  go_wp2_with fail
  refine (kc _ hS2 (hG.below hb2) G hg.1 hg.2).mono ?_
  rintro e Z ⟨rfl, hS3, hB3⟩
  have hM3 : MemS Z M L := RowT.moved hM2 (hB3.block _ (RowT.lt hM2) nMB)
  have g3 := RowT.moved g2 (hB3.block _ (RowT.lt g2) nDB)
  have f3 := RowT.moved f0 (hB3.block _ (RowT.lt f0) nEB)
  have hb3 := hb2.trans (hB3.to hVB hYB)
  clear e0 e1 e2 ef ck hB3 hb2 hS2 hM2 g2 f0 kc
  obtain ⟨e0, e1, e2, ef⟩ := box3 f3
  obtain ⟨z0, z1, z2, zf⟩ := box3 g3
  go_wp2_with fail
  refine bodyPost_ret (v := .agg #[.int .u16 (j : Int), .bool false, .int .u8 0]) (by simp [results, Tryd.results20, go_sem, z0, z1, z2]) rfl ⟨_, rfl, ?_, ?_, ?_⟩
  · exact CpuR.other (CpuR.other (CpuR.other hS3 ⟨D, 0, none⟩ nBD _) ⟨D, 1, none⟩ nBD _) ⟨D, 2, none⟩ nBD _
  · exact MemS.oth (MemS.oth (MemS.oth hM3 ⟨D, 0, none⟩ nMD _) ⟨D, 1, none⟩ nMD _) ⟨D, 2, none⟩ nMD _
  · exact ((hb3.setCell (by exact hVw) _).setCell (by exact hVw) _).setCell (by exact hVw) _
set_option maxRecDepth 100000 in
set_option maxHeartbeats 8000000 in
/-- Two cycles that read, behind which it fetches. -/
theorem done_two (c : Cp) (ok : c.ok) (L : List Int) (hl : L.length = 8192) (hb8 : Bytes L) (a0 a1 : Int) (C1 C2 : Cp) (h0 : pinsF c = rdP a0) (h1 : C1 = clockF c (L.getD (a0 % 8192).toNat 0)) (h2 : pinsF C1 = rdP a1) (ht1 : C1.t = 10)
    (h3 : C2 = clockF C1 (L.getD (a1 % 8192).toNat 0)) (ht2 : C2.t = 0) (V w : World) (B M : Nat) (hS : CpuS w B c) (hM : MemS w M L) (hBM : B ≠ M) (hG : Co.Gl V) (hb : Below V.heap.size V w) (hVB : V.heap.size ≤ B) :
    Calls Tryd.prog 7 #[.pointer (some ⟨B, 0, none⟩), .slice (some ⟨M, 0, none⟩) 8192 8192] w fun e w' => e = .returned (.int .i64 2) ∧ CpuS w' B C2 ∧ Below V.heap.size V w' := by
  have ok1 : C1.ok := by rw [h1]; exact clockF_ok ok (hb8.get _).1 (hb8.get _).2
  have k0 := fun w' s m b => flat_read c ok L hl hb8 a0 h0 V w' B M s m hBM hG b hVB
  have k1 := fun w' s m b => flat_read C1 ok1 L hl hb8 a1 h2 V w' B M s m hBM hG b hVB
  rw [← h1] at k0
  rw [← h3] at k1
  have kf1 := fun w' s => fresh_any C1 w' B s
  have kj1 := fun w' s => jammed_any C1 w' B s
  have kf2 := fun w' s => fresh_any C2 w' B s
  rw [show (C1.t == 0) = false from by rw [ht1]; rfl] at kf1
  rw [show (C1.t == 1) = false from by rw [ht1]; rfl] at kj1
  rw [show (C2.t == 0) = true from by rw [ht2]; rfl] at kf2
  clear h0 h1 h2 h3 ht1 ht2 hl hb8
  go_enter Tryd.func7, Tryd.ntmps7
  go_wp2_with fail
  refine wp_loop_rounds 3 ?_
  rw [rounds_succ]
  go_wp2_with fail
  refine (k0 _ hS hM hb).mono ?_
  rintro e w1 ⟨v1, rfl, hS1, hM1, hb1⟩
  go_wp2_with fail
  rw [rounds_succ]
  go_wp2_with fail
  refine (kf1 _ hS1).mono ?_
  rintro e w2 ⟨rfl, rfl⟩
  go_wp2_with fail
  refine (kj1 _ hS1).mono ?_
  rintro e w2 ⟨rfl, rfl⟩
  go_wp2_with fail
  refine (k1 _ hS1 hM1 hb1).mono ?_
  rintro e w3 ⟨v2, rfl, hS2, hM2, hb2⟩
  go_wp2_with fail
  rw [rounds_succ]
  go_wp2_with fail
  refine (kf2 _ hS2).mono ?_
  rintro e w4 ⟨rfl, rfl⟩
  go_wp2_with fail
  go_ret
  exact ⟨rfl, hS2, hb2⟩
end Go.Proofs.YthepcjecmlkaiaaDoor.Mi
