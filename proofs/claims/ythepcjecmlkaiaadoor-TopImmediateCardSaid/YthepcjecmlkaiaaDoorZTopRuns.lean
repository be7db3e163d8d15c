/- Package micro: what runs says, walked. -/
import Derived.Test.YthepcjecmlkaiaaDoorZMicroAny
import Derived.Test.YthepcjecmlkaiaaDoorZMicroNew
namespace Go.Proofs.YthepcjecmlkaiaaDoor.Mi
open Go Go.RowKit Go.Deep Go.Proofs.YthepcjecmlkaiaaDoor Go.Proofs.YthepcjecmlkaiaaDoor.Ex
set_option linter.unusedVariables false
set_option linter.unusedSimpArgs false
def w0 : Cp := newC ⟨0, 0, 0, 0, 0, 4096⟩ 0
def w1 : Cp := clockF w0 230
def w2 : Cp := clockF w1 16
def w3 : Cp := clockF w2 7
def w4 : Cp := clockF w3 0
def w5 : Cp := clockF w4 0
theorem w0_ok : w0.ok := newC_ok _ ⟨by decide, by decide, by decide, by decide, by decide, by decide, by decide, by decide, by decide, by decide, by decide, by decide⟩ 0 (by decide) (by decide)
theorem w1_ok : w1.ok := clockF_ok w0_ok (by decide) (by decide)
theorem w2_ok : w2.ok := clockF_ok w1_ok (by decide) (by decide)
theorem w3_ok : w3.ok := clockF_ok w2_ok (by decide) (by decide)
theorem w4_ok : w4.ok := clockF_ok w3_ok (by decide) (by decide)
theorem w5_ok : w5.ok := clockF_ok w4_ok (by decide) (by decide)
theorem p0 : pinsF w0 = ⟨4096, false, 0⟩ := by kernel_rfl
theorem p1 : pinsF w1 = ⟨4097, false, 0⟩ := by kernel_rfl
theorem p2 : pinsF w2 = ⟨16, false, 0⟩ := by kernel_rfl
theorem p3 : pinsF w3 = ⟨16, true, 7⟩ := by kernel_rfl
theorem p4 : pinsF w4 = ⟨16, true, 8⟩ := by kernel_rfl
theorem t5 : w5.t = 0 := by kernel_rfl
theorem o5 : w5.op = 230 := by kernel_rfl
set_option maxRecDepth 100000 in
set_option maxHeartbeats 8000000 in
theorem runs_any (W : World) (hG : Co.Gl W) : Calls Tryd.prog 4 #[] W fun e W' => e = .returned (.bool true) ∧ Below W.heap.size W W' := by
  have ka := fun w' => at_any ⟨0, 0, 0, 0, 0, 4096⟩ false w'
  simp only [rgU] at ka
  have r0 := fun w' B h g => clock_any w0 w0_ok w' B h g 230 (by decide) (by decide)
  have r1 := fun w' B h g => clock_any w1 w1_ok w' B h g 16 (by decide) (by decide)
  have r2 := fun w' B h g => clock_any w2 w2_ok w' B h g 7 (by decide) (by decide)
  have q3 := fun w' B h => pins_any w3 w3_ok w' B h
  rw [p3] at q3
  simp only [pinV] at q3
  have r3 := fun w' B h g => clock_any w3 w3_ok w' B h g 0 (by decide) (by decide)
  have q4 := fun w' B h => pins_any w4 w4_ok w' B h
  rw [p4] at q4
  simp only [pinV] at q4
  have r4 := fun w' B h g => clock_any w4 w4_ok w' B h g 0 (by decide) (by decide)
  have kf := fun w' B h => fresh_any w5 w' B h
  rw [t5] at kf
  go_enter Tryd.func4, Tryd.ntmps4
  go_wp2_with fail
  refine (ka _).mono ?_
  rintro e W0 ⟨B, rfl, hB, hS, hb⟩
  have hS : CpuS W0 B w0 := hS
  clear ka
  go_wp2_with fail
  refine (r0 _ B hS (hG.below hb)).mono ?_
  rintro e Z0 ⟨rfl, hS', hB'⟩
  have hb := hb.trans (hB'.to (by exact hB) hb.size)
  have hS : CpuS Z0 B w1 := hS'
  clear hS' hB'
  go_wp2_with fail
  refine (r1 _ B hS (hG.below hb)).mono ?_
  rintro e Z1 ⟨rfl, hS', hB'⟩
  have hb := hb.trans (hB'.to (by exact hB) hb.size)
  have hS : CpuS Z1 B w2 := hS'
  clear hS' hB'
  go_wp2_with fail
  refine (r2 _ B hS (hG.below hb)).mono ?_
  rintro e Z2 ⟨rfl, hS', hB'⟩
  have hb := hb.trans (hB'.to (by exact hB) hb.size)
  have hS : CpuS Z2 B w3 := hS'
  clear hS' hB'
  go_wp2_with fail
  refine (q3 _ B hS).mono ?_
  rintro e X3 ⟨rfl, hw⟩
  have hS := CpuR.below hS hw
  have hb := hb.trans (hw.mono hb.size)
  clear hw
  dsimp only
  repeat (first | (with_reducible refine wp_keep (fun V => V = X3.alloc (.cells #[.int .u16 16, .bool true, .int .u8 7] 40)) rfl ?_) | go_step)
  rintro Y3 rfl
  have g3 : RowT 40 (X3.alloc (.cells #[.int .u16 16, .bool true, .int .u8 7] 40)) X3.heap.size #[.int .u16 16, .bool true, .int .u8 7] := RowT.new _ _ _
  have hS := CpuR.alloc hS (.cells #[.int .u16 16, .bool true, .int .u8 7] 40)
  have hb := hb.alloc hb.size (.cells #[.int .u16 16, .bool true, .int .u8 7] 40)
  generalize X3.alloc (.cells #[.int .u16 16, .bool true, .int .u8 7] 40) = Y3 at *
  generalize X3.heap.size = D3 at *
  have n3 : ¬ D3 = B := by
    intro h
    subst h
    have h1 : some _ = some _ := (show Y3.heap[D3]? = _ from g3).symm.trans hS
    simp at h1
  go_wp2_with fail
  refine (r3 _ B hS (hG.below hb)).mono ?_
  rintro e Z3 ⟨rfl, hS', hB'⟩
  have hb := hb.trans (hB'.to (by exact hB) hb.size)
  have g3 : RowT 40 Z3 D3 _ := RowT.moved g3 (hB'.block _ g3.lt n3)
  have hS : CpuS Z3 B w4 := hS'
  clear hS' hB'
  go_wp2_with fail
  refine (q4 _ B hS).mono ?_
  rintro e X4 ⟨rfl, hw⟩
  have hS := CpuR.below hS hw
  have hb := hb.trans (hw.mono hb.size)
  have g3 := RowT.below g3 hw
  clear hw
  dsimp only
  repeat (first | (with_reducible refine wp_keep (fun V => V = X4.alloc (.cells #[.int .u16 16, .bool true, .int .u8 8] 40)) rfl ?_) | go_step)
  rintro Y4 rfl
  have g4 : RowT 40 (X4.alloc (.cells #[.int .u16 16, .bool true, .int .u8 8] 40)) X4.heap.size #[.int .u16 16, .bool true, .int .u8 8] := RowT.new _ _ _
  have hS := CpuR.alloc hS (.cells #[.int .u16 16, .bool true, .int .u8 8] 40)
  have hb := hb.alloc hb.size (.cells #[.int .u16 16, .bool true, .int .u8 8] 40)
  have g3 := RowT.alloc g3 (.cells #[.int .u16 16, .bool true, .int .u8 8] 40)
  generalize X4.alloc (.cells #[.int .u16 16, .bool true, .int .u8 8] 40) = Y4 at *
  generalize X4.heap.size = D4 at *
  have n4 : ¬ D4 = B := by
    intro h
    subst h
    have h1 : some _ = some _ := (show Y4.heap[D4]? = _ from g4).symm.trans hS
    simp at h1
  go_wp2_with fail
  refine (r4 _ B hS (hG.below hb)).mono ?_
  rintro e Z4 ⟨rfl, hS', hB'⟩
  have hb := hb.trans (hB'.to (by exact hB) hb.size)
  have g3 : RowT 40 Z4 D3 _ := RowT.moved g3 (hB'.block _ g3.lt n3)
  have g4 : RowT 40 Z4 D4 _ := RowT.moved g4 (hB'.block _ g4.lt n4)
  have hS : CpuS Z4 B w5 := hS'
  clear hS' hB'
  obtain ⟨d0, d1, d2, df⟩ := box3 g3
  obtain ⟨e0, e1, e2, ef⟩ := box3 g4
  clear q3 q4 r0 r1 r2 r3 r4 g3 g4
  go_wp2_with fail
  refine (kf _ B hS).mono ?_
  rintro e V1 ⟨rfl, rfl⟩
  go_wp2_with fail
  go_ret
  exact ⟨rfl, hb⟩
end Go.Proofs.YthepcjecmlkaiaaDoor.Mi
