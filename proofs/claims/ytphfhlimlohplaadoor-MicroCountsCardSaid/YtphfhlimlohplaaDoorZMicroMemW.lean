/- Package micro: the reference's memory, walked. -/
import Derived.Test.YtphfhlimlohplaaDoorZMicroMemCyc
import Derived.Test.YtphfhlimlohplaaDoorZCells
import Derived.IntWalk
namespace Go.Proofs.YtphfhlimlohplaaDoor.Mi
open Go Go.RowKit Go.Deep Go.Proofs.YtphfhlimlohplaaDoor Go.Proofs.YtphfhlimlohplaaDoor.Ex Go.Proofs.YtphfhlimlohplaaDoor.Cl
set_option linter.unusedVariables false
set_option linter.unusedSimpArgs false
/-- What makes a memory leaves. -/
def MmPost (w : World) (L : List Int) (e : Ending) (w' : World) : Prop := ∃ M, e = .returned (.slice (some ⟨M, 0, none⟩) 8192 8192) ∧ w.heap.size ≤ M ∧ MemS w' M L ∧ Below w.heap.size w w'
set_option maxRecDepth 1000000 in
set_option maxHeartbeats 4000000 in
theorem memory_any (seed a : Int) (s0 : 0 ≤ seed) (s1 : seed ≤ 65535) (a0 : 0 ≤ a) (a1 : a ≤ 65535) (ao : Option Addr) (n cap : Nat) (cs : List Int) (hl : cs.length = n) (hn : n ≤ 400) (hB : Bytes cs) (W : World)
    (hL : Lies W 1 (.slice ao n cap) n (cs.map (Value.int .u8))) : Calls Tryd.prog 23 #[.int .i64 seed, .int .i64 a, .slice ao n cap] W (MmPost W (memF seed a cs)) := by
  have hmk : (Instr.makeSlice 25 (.int .i64 8192) (.int .i64 8192)).run Tryd.prog W = .ok (.slice (some ⟨W.heap.size, 0, none⟩) 8192 8192) (W.alloc (.cells ((List.replicate 8192 (0 : Int)).map (Value.int .u8)).toArray 5)) := by
    rw [← made0]
    exact run_make_row' (P := Tryd.prog) 25 5 (.int .u8 0) 1 Tryd.underlying25 info_u8 rfl .i64 .i64 8192 (by omega) (by omega) W
  have hM0 : MemS (W.alloc (.cells ((List.replicate 8192 (0 : Int)).map (Value.int .u8)).toArray 5)) W.heap.size (List.replicate 8192 0) := RowT.new _ _ _
  have hb0 : Below W.heap.size W (W.alloc (.cells ((List.replicate 8192 (0 : Int)).map (Value.int .u8)).toArray 5)) := (Below.refl _ W).alloc (Nat.le_refl _) _
  generalize hW1 : W.alloc (.cells ((List.replicate 8192 (0 : Int)).map (Value.int .u8)).toArray 5) = W1 at *
  clear hW1
  generalize hMM : W.heap.size = M at *
  go_enter Tryd.func23, Tryd.ntmps23
  go_wp2_with fail
  clear hmk
  go_loopw [8, 9] (fun x i wr => ∃ k : Nat, k ≤ 8192 ∧ i = .int .i64 k ∧ x = .int .i64 (fillF seed k).1 ∧ MemS wr M (fillF seed k).2 ∧ Below M W wr)
    (fun _ i _ => 8192 - (intOf i).toNat)
  case atStart => exact ⟨0, Nat.zero_le _, rfl, rfl, hM0, hb0⟩
  case round =>
    obtain ⟨k, hk, rfl, rfl, hMk, hbk⟩ := hrel
    obtain ⟨x0, x1, ln, hBk⟩ := fillF_ok seed s0 s1 k
    by_cases hkl : k < 8192
    · have hsucc := fillF_succ seed k
      unfold fillS at hsucc
      generalize (fillF seed k).1 = X at *
      generalize (fillF seed k).2 = L at *
      have w1 : IntKind.i64.wrap (X * 73) = X * 73 := IntWalk.i64_in _ (by omega)
      have w3 : IntKind.i64.wrap (X * 73 + k) = X * 73 + k := IntWalk.i64_in _ (by omega)
      have w4 : IntKind.i64.wrap (X * 73 + k + 41) = X * 73 + k + 41 := IntWalk.i64_in _ (by omega)
      have y0 : Int.tmod (X * 73 + k + 41) 65521 = (X * 73 + k + 41) % 65521 := Int.tmod_eq_emod_of_nonneg (by omega)
      obtain ⟨Y, hY⟩ : ∃ Y, Y = (X * 73 + k + 41) % 65521 := ⟨_, rfl⟩
      have Y0 : 0 ≤ Y := by omega
      have Y1 : Y ≤ 65535 := by omega
      rw [← hY] at y0 hsucc
      have w5 : IntKind.i64.wrap Y = Y := IntWalk.i64_in _ (by omega)
      have q0 : Int.tdiv Y 7 = Y / 7 := Int.tdiv_eq_ediv_of_nonneg (by omega)
      have w6 : IntKind.i64.wrap (Y / 7) = Y / 7 := IntWalk.i64_in _ (by omega)
      have w7 : IntKind.u8.wrap (Y / 7) = Y / 7 % 256 := by rw [IntKind.wrap_u8]
      generalize Y / 7 % 256 = Z at *
      clear hY
      have ck := hMk.cell k (by omega)
      have fk := hMk.thaw k
      have i0 : (0 : Int) ≤ (k : Int) := by omega
      have i1 : (k : Int) < 8192 := by omega
      have hput := hMk.put k Z
      have HP := Lib.hid hput
      have HS := Lib.hid hsucc
      clear hput hsucc x0 x1 ln
      go_wp2_with fail
      go_roundw
      case rel => exact ⟨k + 1, by omega, by go_num, by rw [HS.out], by rw [HS.out]; exact HP.out, hbk.setCell (by exact Nat.le_refl _) _⟩
      case measure => simp [intOf]; omega
    · obtain rfl : k = 8192 := by omega
      clear x0 x1
      generalize hL1 : (fillF seed 8192).2 = L1 at *
      clear hM0 hb0
      have HM := Lib.hid hMM
      go_wp2_with fail
      go_loopw [10] (fun i wq => ∃ k : Nat, k ≤ n ∧ i = .int .i64 k ∧ MemS wq M (codeF a cs L1 k) ∧ Below M W wq)
        (fun i _ => n - (intOf i).toNat)
      case atStart => exact ⟨0, Nat.zero_le _, rfl, hMk, hbk⟩
      case round =>
        obtain ⟨k, hk, rfl, hMq, hbq⟩ := hrel
        obtain ⟨lc, hBc⟩ := codeF_ok a cs L1 hB ln hBk k
        by_cases hkn : k < n
        · have hsucc := codeF_succ a cs L1 k
          unfold codeS at hsucc
          generalize codeF a cs L1 k = L at *
          obtain ⟨_, ao', cap', he, _, hcs⟩ := hL
          obtain ⟨rfl, rfl⟩ : ao = ao' ∧ cap = cap' := by simpa using he
          rcases hcs with h0 | ⟨lb, lo, rfl, hlt, hcell⟩
          · omega
          have hv := hcell k (.int .u8 (cs.getD k 0)) (by simp [List.getD, hl, hkn])
          have lk := (hbq.cell (p := ⟨lb, lo + k, none⟩) (by rw [← HM.out]; exact hlt)).trans hv
          have w1 : IntKind.i64.wrap (a + k) = a + k := IntWalk.i64_in _ (by omega)
          have y0 : Int.tmod (a + k) 8192 = (a + k) % 8192 := Int.tmod_eq_emod_of_nonneg (by omega)
          obtain ⟨j, hj⟩ : ∃ j : Nat, (a + (k : Int)) % 8192 = (j : Int) := ⟨((a + (k : Int)) % 8192).toNat, by omega⟩
          have hj1 : j < 8192 := by omega
          rw [hj] at y0 hsucc
          have w2 : IntKind.i64.wrap (j : Int) = (j : Int) := IntWalk.i64_in _ (by omega)
          generalize cs.getD k 0 = V at *
          have ck := hMq.cell j (by omega)
          have fk := hMq.thaw j
          have i0 : (0 : Int) ≤ (k : Int) := by omega
          have i1 : (k : Int) < n := by omega
          have j0 : (0 : Int) ≤ (j : Int) := by omega
          have j1 : (j : Int) < 8192 := by omega
          have HP := Lib.hid (hMq.put j V)
          have HS := Lib.hid hsucc
          clear hsucc hj hv hcell he
          go_wp2_with fail
          go_roundw
          case rel => exact ⟨k + 1, by omega, by go_num, by rw [HS.out]; simpa using HP.out, hbq.setCell (by exact Nat.le_refl _) _⟩
          case measure => simp [intOf]; omega
        · obtain rfl : k = n := by omega
          rw [← hl] at hMq lc hBc
          generalize hL2 : codeF a cs L1 cs.length = L2 at *
          go_wp2_with fail
          go_loopw [11] (fun i wv => ∃ k : Nat, k ≤ 2 ∧ i = .int .i64 k ∧ MemS wv M (vecF a L2 k) ∧ Below M W wv)
            (fun i _ => 2 - (intOf i).toNat)
          case atStart => exact ⟨0, Nat.zero_le _, rfl, hMq, hbq⟩
          case round =>
            obtain ⟨m, hm, rfl, hMv, hbv⟩ := hrel
            obtain ⟨lv, hBv⟩ := vecF_ok a L2 lc hBc m
            have y0 : Int.tmod a 256 = a % 256 := Int.tmod_eq_emod_of_nonneg (by omega)
            have w1 : IntKind.i64.wrap (a % 256) = a % 256 := IntWalk.i64_in _ (by omega)
            have w2 : IntKind.u8.wrap (a % 256) = a % 256 := IntWalk.u8_in _ (by omega)
            have y1 : Int.tdiv a 256 = a / 256 := Int.tdiv_eq_ediv_of_nonneg (by omega)
            have w3 : IntKind.i64.wrap (a / 256) = a / 256 := IntWalk.i64_in _ (by omega)
            have w4 : IntKind.u8.wrap (a / 256) = a / 256 % 256 := by rw [IntKind.wrap_u8]
            have hsucc := vecF_succ a L2 m
            unfold vecS at hsucc
            generalize hLv : vecF a L2 m = Lv at *
            generalize a % 256 = V1 at *
            generalize a / 256 % 256 = V2 at *
            have HS := Lib.hid hsucc
            have HL := Lib.hid hLv
            clear hsucc hLv
            rcases (by omega : m = 0 ∨ m = 1 ∨ m = 2) with rfl | rfl | rfl
            · have ck := hMv.cell 8188 (by omega)
              have fk := hMv.thaw 8188
              have cq := hMv.cell 8189 (by omega)
              have fq := hMv.thaw 8189
              have HP := Lib.hid ((hMv.put 8188 V1).put 8189 V2)
              go_wp2_with fail
              go_roundw
              case rel => exact ⟨1, by omega, rfl, by rw [HS.out]; exact HP.out, (hbv.setCell (by exact Nat.le_refl _) _).setCell (by exact Nat.le_refl _) _⟩
              case measure => simp [intOf]
            · have ck := hMv.cell 8190 (by omega)
              have fk := hMv.thaw 8190
              have cq := hMv.cell 8191 (by omega)
              have fq := hMv.thaw 8191
              have HP := Lib.hid ((hMv.put 8190 V1).put 8191 V2)
              go_wp2_with fail
              go_roundw
              case rel => exact ⟨2, by omega, rfl, by rw [HS.out]; exact HP.out, (hbv.setCell (by exact Nat.le_refl _) _).setCell (by exact Nat.le_refl _) _⟩
              case measure => simp [intOf]
            · go_wp2_with fail
              go_ret
              refine ⟨M, rfl, Nat.le_of_eq HM.out, ?_, ?_⟩
              · unfold memF
                rw [hL1, hL2, HL.out]
                exact hMv
              · rw [HM.out]; exact hbv
end Go.Proofs.YtphfhlimlohplaaDoor.Mi
