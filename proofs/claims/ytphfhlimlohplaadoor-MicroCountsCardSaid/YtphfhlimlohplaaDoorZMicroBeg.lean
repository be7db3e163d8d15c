/- Package micro: how a play begins, walked. -/
import Derived.Test.YtphfhlimlohplaaDoorZMicroNew
import Derived.Test.YtphfhlimlohplaaDoorZMicroMemW
namespace Go.Proofs.YtphfhlimlohplaaDoor.Mi
open Go Go.RowKit Go.Deep Go.Proofs.YtphfhlimlohplaaDoor Go.Proofs.YtphfhlimlohplaaDoor.Ex Go.Proofs.YtphfhlimlohplaaDoor.Cl
set_option linter.unusedVariables false
set_option linter.unusedSimpArgs false
theorem row11 {a x y s p pc sd at' cy : Int} {ao : Option Addr} {n cap : Nat} {bg : Bool} {W : World} {D : Nat} {T : TypeId} (h : RowT T W D #[.int .u8 a, .int .u8 x, .int .u8 y, .int .u8 s, .int .u8 p, .int .u16 pc, .int .u16 sd, .int .u16 at', .slice ao n cap, .int .u16 cy, .bool bg]) :
    W.cell? ⟨D, 0, none⟩ = some (.int .u8 a) ∧ W.cell? ⟨D, 1, none⟩ = some (.int .u8 x) ∧ W.cell? ⟨D, 2, none⟩ = some (.int .u8 y) ∧ W.cell? ⟨D, 3, none⟩ = some (.int .u8 s) ∧ W.cell? ⟨D, 4, none⟩ = some (.int .u8 p) ∧ W.cell? ⟨D, 5, none⟩ = some (.int .u16 pc) ∧ W.cell? ⟨D, 6, none⟩ = some (.int .u16 sd) ∧ W.cell? ⟨D, 7, none⟩ = some (.int .u16 at') ∧ W.cell? ⟨D, 8, none⟩ = some (.slice ao n cap) ∧ W.cell? ⟨D, 9, none⟩ = some (.int .u16 cy) ∧ W.cell? ⟨D, 10, none⟩ = some (.bool bg) ∧ ∀ i, W.frozen? ⟨D, i, none⟩ = false := by
  refine ⟨?_, ?_, ?_, ?_, ?_, ?_, ?_, ?_, ?_, ?_, ?_, fun i => frozen_of_row W D i _ _ h⟩
  all_goals (rw [cell_of_row W D _ _ _ _ h]; rfl)
set_option maxRecDepth 100000 in
set_option maxHeartbeats 4000000 in
theorem many_any {a x y s p pc sd at' cy : Int} {ao : Option Addr} {n cap : Nat} {bg : Bool} (c0 : 0 ≤ cy) (c1 : cy ≤ 65535) (W : World) : Calls Tryd.prog 9 #[.agg #[.int .u8 a, .int .u8 x, .int .u8 y, .int .u8 s, .int .u8 p, .int .u16 pc, .int .u16 sd, .int .u16 at', .slice ao n cap, .int .u16 cy, .bool bg]] W fun e W' => e = .returned (.int .i64 (cy % 600)) ∧ Below W.heap.size W W' := by
  have y0 : Int.tmod cy 600 = cy % 600 := Int.tmod_eq_emod_of_nonneg c0
  have w0 : IntKind.i64.wrap (cy % 600) = cy % 600 := IntWalk.i64_in _ (by omega)
  have w1 : IntKind.i64.wrap cy = cy := IntWalk.i64_in _ (by omega)
  have hb := (Below.refl W.heap.size W).alloc (Nat.le_refl _) (.cells #[.int .u8 a, .int .u8 x, .int .u8 y, .int .u8 s, .int .u8 p, .int .u16 pc, .int .u16 sd, .int .u16 at', .slice ao n cap, .int .u16 cy, .bool bg] 27)
  have h0 := row11 (RowT.new W #[.int .u8 a, .int .u8 x, .int .u8 y, .int .u8 s, .int .u8 p, .int .u16 pc, .int .u16 sd, .int .u16 at', .slice ao n cap, .int .u16 cy, .bool bg] 27)
  have hne := RowT.lt (RowT.new W #[.int .u8 a, .int .u8 x, .int .u8 y, .int .u8 s, .int .u8 p, .int .u16 pc, .int .u16 sd, .int .u16 at', .slice ao n cap, .int .u16 cy, .bool bg] 27)
  generalize cy % 600 = q at *
  go_enter Tryd.func9, Tryd.ntmps9
  go_wp2_with fail
  go_ret
  exact ⟨rfl, hb⟩
/-- What begin leaves. -/
def BegPost (W : World) (c : Cp) (L : List Int) (e : Ending) (W' : World) : Prop := ∃ B M, e = .returned (.tuple #[.pointer (some ⟨B, 0, none⟩), .slice (some ⟨M, 0, none⟩) 8192 8192]) ∧ W.heap.size ≤ B ∧ W.heap.size ≤ M ∧ B ≠ M ∧ CpuS W' B c ∧ MemS W' M L ∧ Below W.heap.size W W'
set_option maxRecDepth 100000 in
set_option maxHeartbeats 4000000 in
theorem begin_any {a x y s p pc sd at' cy : Int} {ao : Option Addr} {n cap : Nat} {bg : Bool} (ok : Rg.ok ⟨a, x, y, s, p, pc⟩) (s0 : 0 ≤ sd) (s1 : sd ≤ 65535) (t0 : 0 ≤ at') (t1 : at' ≤ 65535) (cs : List Int) (hl : cs.length = n) (hn : n ≤ 400) (hB : Bytes cs) (W : World)
    (hL : Lies W 1 (.slice ao n cap) n (cs.map (Value.int .u8))) : Calls Tryd.prog 8 #[.agg #[.int .u8 a, .int .u8 x, .int .u8 y, .int .u8 s, .int .u8 p, .int .u16 pc, .int .u16 sd, .int .u16 at', .slice ao n cap, .int .u16 cy, .bool bg]] W (BegPost W (newC ⟨a, x, y, s, p, pc⟩ (if bg then 0 else 2)) (memF sd at' cs)) := by
  have kn := fun w' => new_any ⟨a, x, y, s, p, pc⟩ w'
  have ka := fun w' => at_any ⟨a, x, y, s, p, pc⟩ false w'
  simp only [rgU] at kn ka
  have km := fun w' h => memory_any sd at' s0 s1 t0 t1 ao n cap cs hl hn hB w' h
  have w1 : IntKind.i64.wrap sd = sd := IntWalk.i64_in _ (by omega)
  have w2 : IntKind.i64.wrap at' = at' := IntWalk.i64_in _ (by omega)
  have hb0 := (Below.refl W.heap.size W).alloc (Nat.le_refl _) (.cells #[.int .u8 a, .int .u8 x, .int .u8 y, .int .u8 s, .int .u8 p, .int .u16 pc, .int .u16 sd, .int .u16 at', .slice ao n cap, .int .u16 cy, .bool bg] 27)
  have g0 := RowT.new W #[.int .u8 a, .int .u8 x, .int .u8 y, .int .u8 s, .int .u8 p, .int .u16 pc, .int .u16 sd, .int .u16 at', .slice ao n cap, .int .u16 cy, .bool bg] 27
  generalize memF sd at' cs = L at *
  go_enter Tryd.func8, Tryd.ntmps8
  repeat (first | (with_reducible refine wp_keep (fun U => U = W.alloc (.cells #[.int .u8 a, .int .u8 x, .int .u8 y, .int .u8 s, .int .u8 p, .int .u16 pc, .int .u16 sd, .int .u16 at', .slice ao n cap, .int .u16 cy, .bool bg] 27)) rfl ?_) | go_step)
  rintro W0 rfl
  generalize W.alloc (.cells #[.int .u8 a, .int .u8 x, .int .u8 y, .int .u8 s, .int .u8 p, .int .u16 pc, .int .u16 sd, .int .u16 at', .slice ao n cap, .int .u16 cy, .bool bg] 27) = W0 at *
  generalize hD : W.heap.size = D at *
  obtain ⟨c0, c1, c2, c3, c4, c5, c6, c7, c8, c9, c10, cf⟩ := row11 g0
  cases bg
  · go_wp2_with fail
    refine (kn _).mono ?_
    rintro e W1 ⟨B, rfl, hB1, hS1, hw⟩
    have hb1 := hb0.trans (hw.mono (by have := hb0.size; have := g0.lt; omega))
    have g1 := RowT.below g0 hw
    have hDB : D < B := Nat.lt_of_lt_of_le g0.lt hB1
    clear c0 c1 c2 c3 c4 c5 c6 c7 c8 c9 c10 cf hw hB1 g0
    obtain ⟨c0, c1, c2, c3, c4, c5, c6, c7, c8, c9, c10, cf⟩ := row11 g1
    go_wp2_with fail
    refine (km _ (hL.below (by rw [hD]; exact hb1))).mono ?_
    rintro e W2 ⟨M, rfl, hM1, hM, hw⟩
    have hb2 := hb1.trans (hw.mono (Nat.le_of_lt g1.lt))
    have hBl := CpuR.lt hS1
    have hS2 := CpuR.below hS1 hw
    have hWD : D < W1.heap.size := g1.lt
    clear c0 c1 c2 c3 c4 c5 c6 c7 c8 c9 c10 cf hw g1
    go_wp2_with fail
    refine bodyPost_ret (v := .tuple #[.pointer (some ⟨B, 0, none⟩), .slice (some ⟨M, 0, none⟩) 8192 8192]) (by simp [results, Tryd.results8, go_sem]) rfl ⟨B, M, rfl, by omega, by omega, by omega, hS2, hM, by rw [hD]; exact hb2⟩
  · go_wp2_with fail
    refine (kn _).mono ?_
    rintro e W1 ⟨B', rfl, hB1, hS1, hw⟩
    have hb1 := hb0.trans (hw.mono (by have := hb0.size; have := g0.lt; omega))
    have g1 := RowT.below g0 hw
    clear c0 c1 c2 c3 c4 c5 c6 c7 c8 c9 c10 cf hw hB1 g0 hS1
    obtain ⟨c0, c1, c2, c3, c4, c5, c6, c7, c8, c9, c10, cf⟩ := row11 g1
    go_wp2_with fail
    refine (ka _).mono ?_
    rintro e W3 ⟨B, rfl, hB1, hS1, hw⟩
    have hb3 := hb1.trans (hw.mono (Nat.le_of_lt g1.lt))
    have g3 := RowT.below g1 hw
    have hDB : D < B := Nat.lt_of_lt_of_le g1.lt hB1
    clear c0 c1 c2 c3 c4 c5 c6 c7 c8 c9 c10 cf hw hB1 g1
    obtain ⟨c0, c1, c2, c3, c4, c5, c6, c7, c8, c9, c10, cf⟩ := row11 g3
    go_wp2_with fail
    refine (km _ (hL.below (by rw [hD]; exact hb3))).mono ?_
    rintro e W2 ⟨M, rfl, hM1, hM, hw⟩
    have hb2 := hb3.trans (hw.mono (Nat.le_of_lt g3.lt))
    have hBl := CpuR.lt hS1
    have hS2 := CpuR.below hS1 hw
    have hWD : D < W3.heap.size := g3.lt
    clear c0 c1 c2 c3 c4 c5 c6 c7 c8 c9 c10 cf hw g3
    go_wp2_with fail
    refine bodyPost_ret (v := .tuple #[.pointer (some ⟨B, 0, none⟩), .slice (some ⟨M, 0, none⟩) 8192 8192]) (by simp [results, Tryd.results8, go_sem]) rfl ⟨B, M, rfl, by omega, by omega, by omega, hS2, hM, by rw [hD]; exact hb2⟩
end Go.Proofs.YtphfhlimlohplaaDoor.Mi
