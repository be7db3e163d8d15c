/- TopImmediate, walked. -/
import Derived.Test.YthepcjecmlkaiaaDoorZTopFlat
import Derived.Test.YthepcjecmlkaiaaDoorZTopRuns
import Derived.Test.YthepcjecmlkaiaaDoorZTopImm
import Derived.Test.YthepcjecmlkaiaaDoorZExecGoAny
import Derived.Deep.OwnRows
namespace Go.Proofs.YthepcjecmlkaiaaDoor.Mi
open Go Go.RowKit Go.Deep Go.Proofs.YthepcjecmlkaiaaDoor Go.Proofs.YthepcjecmlkaiaaDoor.Ex
set_option linter.unusedVariables false
set_option linter.unusedSimpArgs false
set_option maxRecDepth 1000000 in
set_option maxHeartbeats 8000000 in
theorem imm_walk (V : World) (hG : Co.Gl V) (o : Nat) (ho : o < 256) (b : Nat) (hb : b < 256) (r : Rg) (ok : r.ok) : Calls Tryd.prog 3 #[.int .u8 (o : Int), .int .u8 (b : Int), rgU r] V fun e W' => e = .returned (.bool true) ∧ Below V.heap.size V W' := by
  obtain ⟨a, x, y, s, p, pc⟩ := r
  have krn := fun w' h => runs_any w' h
  have ko := fun w' (h : Co.Gl w') => Co.of_any o ho w' h
  unfold Co.codeV at ko
  simp only [rgU]
  have hb0 := (Below.refl V.heap.size V).alloc (Nat.le_refl _) (.cells #[.int .u8 a, .int .u8 x, .int .u8 y, .int .u8 s, .int .u8 p, .int .u16 pc] 24)
  have g0 := RowT.new V #[.int .u8 a, .int .u8 x, .int .u8 y, .int .u8 s, .int .u8 p, .int .u16 pc] 24
  have hG0 := hG.below hb0
  go_enter Tryd.func3, Tryd.ntmps3
  repeat (first | (with_reducible refine wp_keep (fun U => U = V.alloc (.cells #[.int .u8 a, .int .u8 x, .int .u8 y, .int .u8 s, .int .u8 p, .int .u16 pc] 24)) rfl ?_) | go_step)
  rintro W0 rfl
  generalize V.alloc (.cells #[.int .u8 a, .int .u8 x, .int .u8 y, .int .u8 s, .int .u8 p, .int .u16 pc] 24) = W0 at *
  have hb0D := hb0.size
  generalize hVD : V.heap.size = D at *
  have HVD := Lib.hid hVD
  clear hVD
  go_wp2_with fail
  refine (krn _ hG0).mono ?_
  rintro e w1 ⟨rfl, hw⟩
  have g1 := RowT.below g0 hw
  have hb1 : Below W0.heap.size W0 w1 := hw
  clear hw g0 krn
  go_wp2_with fail
  refine (ko _ (hG0.below hb1)).mono ?_
  rintro e w2 ⟨rfl, hw⟩
  have g2 := RowT.below g1 hw
  have hb2 := hb1.trans (hw.mono hb1.size)
  clear hw g1 hb1 ko
  have hDw : D < w2.heap.size := RowT.lt g2
  have k3 := RowT.new w2 #[.string (Co.nameO o), .int .u8 (Co.modeO o), .int .u8 (Co.kindC o), .bool (Co.knownC o)] 29
  have g3 := RowT.alloc g2 (.cells #[.string (Co.nameO o), .int .u8 (Co.modeO o), .int .u8 (Co.kindC o), .bool (Co.knownC o)] 29)
  have hb3 := hb2.alloc hb2.size (.cells #[.string (Co.nameO o), .int .u8 (Co.modeO o), .int .u8 (Co.kindC o), .bool (Co.knownC o)] 29)
  clear g2 hb2
  have hIm := fun hm => imm_fetch ⟨a, x, y, s, cleanF p, pc⟩ (p_ok ok (cleanF_in ok.p0 ok.p1).1 (cleanF_in ok.p0 ok.p1).2) o ho hm
  have hRg := fun hm => imm_regs ⟨a, x, y, s, cleanF p, pc⟩ (p_ok ok (cleanF_in ok.p0 ok.p1).1 (cleanF_in ok.p0 ok.p1).2) o ho hm (b : Int)
  have hct := clean_twice p ok.p0 ok.p1
  generalize hnm : Co.nameO o = nm at *
  generalize Co.modeO o = md at *
  generalize Co.kindC o = kd at *
  generalize Co.knownC o = kn at *
  dsimp only
  repeat (first | (with_reducible refine wp_keep (fun U => U = w2.alloc (.cells #[.string nm, .int .u8 md, .int .u8 kd, .bool kn] 29)) rfl ?_) | go_step)
  rintro w3 rfl
  generalize w2.alloc (.cells #[.string nm, .int .u8 md, .int .u8 kd, .bool kn] 29) = w3 at *
  generalize w2.heap.size = K at *
  have z0 : w3.cell? ⟨K, 0, none⟩ = some (.string nm) := by rw [cell_of_row w3 K 0 _ _ _ k3]; rfl
  have z1 : w3.cell? ⟨K, 1, none⟩ = some (.int .u8 md) := by rw [cell_of_row w3 K 1 _ _ _ k3]; rfl
  obtain ⟨r0, r1, r2, r3, r4, r5, rf⟩ := box6 g3
  have nKD : ¬ K = D := by omega
  have nDK : ¬ D = K := by omega
  by_cases hm : md = 2
  · have hq : (md != 2) = false := by simp [hm]
    obtain ⟨hp0, ht1, hp1, -⟩ := hIm hm
    obtain ⟨ht2, hreg⟩ := hRg hm
    have okq := cleanF_in ok.p0 ok.p1
    have ok' : Rg.ok ⟨a, x, y, s, cleanF p, pc⟩ := p_ok ok okq.1 okq.2
    have ok0 := newC_ok ⟨a, x, y, s, cleanF p, pc⟩ ok' 0 (by decide) (by decide)
    have krd := fun w' => read_any ⟨a, x, y, s, cleanF p, pc⟩ ok' (b : Int) (by omega) (by omega) nm w'
    rw [hct] at hreg
    obtain ⟨pc0, pc1⟩ := (show 0 ≤ pc ∧ pc ≤ 65535 from ⟨ok.pc0, ok.pc1⟩)
    have hc1 := immM_code pc (o : Int) (b : Int) pc0 pc1
    have hc2 := immM_byte pc (o : Int) (b : Int) pc0 pc1
    have hLl : (immM pc (o : Int) (b : Int)).length = 8192 := by unfold immM; rw [List.length_set, List.length_set, List.length_replicate]
    have hLb : Bytes (immM pc (o : Int) (b : Int)) := (Bytes.set (Bytes.set (fun v hv => by rw [List.eq_of_mem_replicate hv]; omega) _ (by omega) (by omega)) _ (by omega) (by omega))
    have kat := fun w' => at_any ⟨a, x, y, s, cleanF p, pc⟩ false w'
    have e0 : newC ⟨a, x, y, s, cleanF p, pc⟩ (if false = true then 1 else 0) = newC ⟨a, x, y, s, cleanF p, pc⟩ 0 := rfl
    rw [e0] at kat
    simp only [rgU] at kat krd
    have kdn := fun V' w' B M h1 h2 h3 hg h4 h5 => done_two (newC ⟨a, x, y, s, cleanF p, pc⟩ 0) ok0 (immM pc (o : Int) (b : Int)) hLl hLb pc ((pc + 1) % 65536) _ _ hp0 (by rw [hc1]) hp1 ht1 (by rw [hc2]) ht2 V' w' B M h1 h2 h3 hg h4 h5
    have kre := fun w' B h => regs_any (clockF (clockF (newC ⟨a, x, y, s, cleanF p, pc⟩ 0) (o : Int)) (b : Int)) w' B h
    rw [hreg] at kre
    generalize clockF (clockF (newC ⟨a, x, y, s, cleanF p, pc⟩ 0) (o : Int)) (b : Int) = C2 at *
    generalize newC ⟨a, x, y, s, cleanF p, pc⟩ 0 = C0 at *
    generalize readF (rdK nm) ⟨a, x, y, s, cleanF p, pc⟩ (b : Int) = R at *
    obtain ⟨qa, qx, qy, qs, qp, qpc⟩ := R
    simp only [rgU] at kre krd
    have hcl : bits .or .u8 (bits .andNot .u8 p 16) 32 = cleanF p := rfl
    generalize cleanF p = q at *
    have hmk : ∀ w : World, (Instr.makeSlice 31 (.int .i64 8192) (.int .i64 8192)).run Tryd.prog w = .ok (.slice (some ⟨w.heap.size, 0, none⟩) 8192 8192) (w.alloc (.cells ((List.replicate 8192 (0 : Int)).map (Value.int .u8)).toArray 5)) := fun w => by
      rw [← made0]
      exact run_make_row' (P := Tryd.prog) 31 5 (.int .u8 0) 1 Tryd.underlying31 info_u8 rfl .i64 .i64 8192 (by omega) (by omega) w
    obtain ⟨j0, hj0⟩ : ∃ j : Nat, pc % 8192 = (j : Int) := ⟨(pc % 8192).toNat, by omega⟩
    obtain ⟨j1, hj1⟩ : ∃ j : Nat, (pc + 1) % 65536 % 8192 = (j : Int) := ⟨((pc + 1) % 65536 % 8192).toNat, by omega⟩
    have y0 : Int.tmod pc 8192 = (j0 : Int) := by rw [Int.tmod_eq_emod_of_nonneg pc0]; exact hj0
    have y1 : Int.tmod ((pc + 1) % 65536) 8192 = (j1 : Int) := by rw [Int.tmod_eq_emod_of_nonneg (by omega)]; exact hj1
    have v0 : IntKind.u16.wrap (pc + 1) = (pc + 1) % 65536 := by rw [IntKind.wrap_u16]
    have v1 : IntKind.u16.wrap (j0 : Int) = (j0 : Int) := IntWalk.u16_in _ (by omega)
    have v2 : IntKind.u16.wrap (j1 : Int) = (j1 : Int) := IntWalk.u16_in _ (by omega)
    have v3 : IntKind.u16.wrap (pc + 2) = (pc + 2) % 65536 := by rw [IntKind.wrap_u16]
    have l0 : j0 < 8192 := by omega
    have l1 : j1 < 8192 := by omega
    have l01 : j0 ≠ j1 := by omega
    have hImm : ((List.replicate 8192 (0 : Int)).set j0 (o : Int)).set j1 (b : Int) = immM pc (o : Int) (b : Int) := by
      unfold immM
      rw [hj0, hj1]
      rfl
    have hImm2 : ((List.replicate 8192 (0 : Int)).set j1 (b : Int)).set j0 (o : Int) = immM pc (o : Int) (b : Int) := by
      rw [← hImm, List.set_comm _ _ l01]
    have hzl : (List.replicate 8192 (0 : Int)).length = 8192 := List.length_replicate
    generalize hIM : immM pc (o : Int) (b : Int) = IM at *
    generalize hLm : List.replicate 8192 (0 : Int) = Lm at *
    clear hIM hc1 hc2 hLl hLb hj0 hj1 hIm hRg hp0 hp1 ht1 ht2 hreg hct ok' ok0 okq hLm
    have hV3 : Below D V w3 := hb0.trans (hb3.mono hb0D)
    have hKw : K < w3.heap.size := RowT.lt k3
    have hDw3 : D < w3.heap.size := RowT.lt g3
    have hGV : ∀ W, Below D V W → Co.Gl W := fun W h => hG.below (by rw [HVD.out]; exact h)
    go_wp2_with fail
    refine wp_keep (fun U => RowT 24 U D #[.int .u8 a, .int .u8 x, .int .u8 y, .int .u8 s, .int .u8 q, .int .u16 pc] ∧ RowT 29 U K #[.string nm, .int .u8 md, .int .u8 kd, .bool kn] ∧ MemS U w3.heap.size Lm ∧ Below D V U)
      ⟨RowT.alloc (RowT.set g3 4 (.int .u8 q)) _, RowT.alloc (RowT.other k3 ⟨D, 4, none⟩ nKD _) _, (by
        have h := RowT.new (w3.setCell ⟨D, 4, none⟩ (.int .u8 q)) (Lm.map (Value.int .u8)).toArray 5
        rw [World.size_setCell] at h
        exact h), (hV3.setCell (p := ⟨D, 4, none⟩) (by exact Nat.le_refl _) _).alloc (by rw [World.size_setCell]; exact Nat.le_of_lt hDw3) _⟩ ?_
    rintro w4 ⟨g4, k4, m4, hb4⟩
    clear r0 r1 r2 r3 r4 r5 rf z0 z1 g3 k3 hb3 hmk
    generalize w3.heap.size = M at *
    have nDM : ¬ D = M := by omega
    have nKM : ¬ K = M := by omega
    obtain ⟨r0, r1, r2, r3, r4, r5, rf⟩ := box6 g4
    have c0 := m4.cell j0 (by omega)
    have c1 := m4.cell j1 (by omega)
    have cf := m4.thaw
    have i00 : (0 : Int) ≤ (j0 : Int) := by omega
    have i01 : (j0 : Int) < 8192 := by omega
    have i10 : (0 : Int) ≤ (j1 : Int) := by omega
    have i11 : (j1 : Int) < 8192 := by omega
    go_region_with fail
    all_goals go_step
    all_goals first
      | refine k_keep (fun U => RowT 24 U D #[.int .u8 a, .int .u8 x, .int .u8 y, .int .u8 s, .int .u8 q, .int .u16 pc] ∧ RowT 29 U K #[.string nm, .int .u8 md, .int .u8 kd, .bool kn] ∧ MemS U M IM ∧ Below D V U) ⟨RowT.other (RowT.other g4.drew ⟨M, j0, none⟩ nDM _) ⟨M, j1, none⟩ nDM _, RowT.other (RowT.other k4.drew ⟨M, j0, none⟩ nKM _) ⟨M, j1, none⟩ nKM _, (by rw [← hImm]; exact MemS.put (MemS.put (RowT.drew m4) j0 _) j1 _), ((hb4.drew).setCell (p := ⟨M, j0, none⟩) (by show D ≤ M; omega) _).setCell (p := ⟨M, j1, none⟩) (by show D ≤ M; omega) _⟩ ?_
      | refine k_keep (fun U => RowT 24 U D #[.int .u8 a, .int .u8 x, .int .u8 y, .int .u8 s, .int .u8 q, .int .u16 pc] ∧ RowT 29 U K #[.string nm, .int .u8 md, .int .u8 kd, .bool kn] ∧ MemS U M IM ∧ Below D V U) ⟨RowT.other (RowT.other g4.drew ⟨M, j1, none⟩ nDM _) ⟨M, j0, none⟩ nDM _, RowT.other (RowT.other k4.drew ⟨M, j1, none⟩ nKM _) ⟨M, j0, none⟩ nKM _, (by rw [← hImm2]; exact MemS.put (MemS.put (RowT.drew m4) j1 _) j0 _), ((hb4.drew).setCell (p := ⟨M, j1, none⟩) (by show D ≤ M; omega) _).setCell (p := ⟨M, j0, none⟩) (by show D ≤ M; omega) _⟩ ?_
    all_goals rintro w5 ⟨g5, k5, m5, hb5⟩
    all_goals clear r0 r1 r2 r3 r4 r5 rf c0 c1 cf g4 k4 m4 hb4
    all_goals obtain ⟨r0, r1, r2, r3, r4, r5, rf⟩ := box6 g5
    all_goals have hDw5 : D < w5.heap.size := RowT.lt g5
    all_goals have hMw5 : M < w5.heap.size := RowT.lt m5
    all_goals go_wp2_with fail
    all_goals refine (kat _).mono ?_
    all_goals rintro e w6 ⟨B, rfl, hB, hS6, hw⟩
    all_goals have m6 : MemS w6 M IM := RowT.below m5 hw
    all_goals have hBM : B ≠ M := by omega
    all_goals clear r0 r1 r2 r3 r4 r5 rf
    all_goals go_wp2_with fail
    all_goals refine (kdn w5 _ B M hS6 m6 hBM (hGV _ hb5) hw hB).mono ?_
    all_goals rintro e w7 ⟨rfl, hS7, hb7⟩
    all_goals have g7 := RowT.below g5 hb7
    all_goals have k7 := RowT.below k5 hb7
    all_goals obtain ⟨r0, r1, r2, r3, r4, r5, rf⟩ := box6 g7
    all_goals have z0 : w7.cell? ⟨K, 0, none⟩ = some (.string nm) := by rw [cell_of_row w7 K 0 _ _ _ k7]; rfl
    all_goals go_wp2_with fail
    all_goals refine (krd _).mono ?_
    all_goals rintro e w8 ⟨rfl, hw8⟩
    all_goals have hS8 := CpuR.below hS7 hw8
    all_goals have g8 := RowT.below g7 hw8
    all_goals have hb8 := hb7.trans (hw8.mono hb7.size)
    all_goals clear r0 r1 r2 r3 r4 r5 rf z0 hw8 g7 k7 hS7 hb7
    all_goals have f9 := RowT.new w8 #[.int .u8 qa, .int .u8 qx, .int .u8 qy, .int .u8 qs, .int .u8 qp, .int .u16 qpc] 24
    all_goals have g9 := RowT.alloc g8 (.cells #[.int .u8 qa, .int .u8 qx, .int .u8 qy, .int .u8 qs, .int .u8 qp, .int .u16 qpc] 24)
    all_goals have hS9 := CpuR.alloc hS8 (.cells #[.int .u8 qa, .int .u8 qx, .int .u8 qy, .int .u8 qs, .int .u8 qp, .int .u16 qpc] 24)
    all_goals have hb9 := hb8.alloc hb8.size (.cells #[.int .u8 qa, .int .u8 qx, .int .u8 qy, .int .u8 qs, .int .u8 qp, .int .u16 qpc] 24)
    all_goals have hEB : B < w8.heap.size := CpuR.lt hS8
    all_goals have hED : D < w8.heap.size := RowT.lt g8
    all_goals dsimp only
    all_goals repeat (first | (with_reducible refine wp_keep (fun U => U = w8.alloc (.cells #[.int .u8 qa, .int .u8 qx, .int .u8 qy, .int .u8 qs, .int .u8 qp, .int .u16 qpc] 24)) rfl ?_) | go_step)
    all_goals rintro w9 rfl
    all_goals generalize w8.alloc (.cells #[.int .u8 qa, .int .u8 qx, .int .u8 qy, .int .u8 qs, .int .u8 qp, .int .u16 qpc] 24) = w9 at *
    all_goals generalize w8.heap.size = E at *
    all_goals obtain ⟨d0, d1, d2, d3, d4, d5, df⟩ := box6 f9
    all_goals obtain ⟨r0, r1, r2, r3, r4, r5, rf⟩ := box6 g9
    all_goals have nED : ¬ E = D := by omega
    all_goals have nDE : ¬ D = E := by omega
    all_goals have nBE : ¬ B = E := by omega
    all_goals go_wp2_with fail
    all_goals have fA := RowT.set f9 5 (.int .u16 ((pc + 2) % 65536))
    all_goals have hSA : CpuS (w9.setCell ⟨E, 5, none⟩ (.int .u16 ((pc + 2) % 65536))) B C2 := CpuR.other hS9 ⟨E, 5, none⟩ nBE _
    all_goals have hbA := hb9.setCell (p := ⟨E, 5, none⟩) (by show w5.heap.size ≤ E; have := hb8.size; omega) (.int .u16 ((pc + 2) % 65536))
    all_goals generalize w9.setCell ⟨E, 5, none⟩ (.int .u16 ((pc + 2) % 65536)) = wA at *
    all_goals clear d0 d1 d2 d3 d4 d5 df r0 r1 r2 r3 r4 r5 rf
    all_goals have fB : RowT 24 wA E #[.int .u8 qa, .int .u8 qx, .int .u8 qy, .int .u8 qs, .int .u8 qp, .int .u16 ((pc + 2) % 65536)] := fA
    all_goals obtain ⟨d0, d1, d2, d3, d4, d5, df⟩ := box6 fB
    all_goals have hz := (Below.refl wA.heap.size wA).drew
    all_goals go_region_with ((first | (go_at_call 9; refine (kre _ B (CpuR.below hSA hz)).mono ?_; rintro e wB ⟨rfl, hw⟩; have hz := hz.trans (hw.mono hz.size); clear d0 d1 d2 d3 d4 d5 df hw; obtain ⟨d0, d1, d2, d3, d4, d5, df⟩ := box6 (RowT.below fB hz)) | fail))
    all_goals go_wp2_with fail
    all_goals go_ret
    all_goals exact ⟨rfl, by rw [HVD.out]; exact hb5.trans ((hbA.trans (hz.mono hbA.size)).mono (Nat.le_of_lt hDw5))⟩
  · have hq : (md != 2) = true := by simp [hm]
    clear hIm hRg
    go_wp2_with fail
    go_ret
    exact ⟨rfl, by rw [HVD.out]; exact hb0.trans (hb3.mono hb0D)⟩
end Go.Proofs.YthepcjecmlkaiaaDoor.Mi
