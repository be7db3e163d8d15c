/- Package code: reach, Cycles. -/
import Derived.Test.YtphfhlimlohplaaDoorZCodeTabs
namespace Go.Proofs.YtphfhlimlohplaaDoor.Co
open Go.RowKit Go.Maps Go.Deep Go.Proofs.Tryd
set_option linter.unusedVariables false
set_option linter.unusedSimpArgs false
def lenF (md : Int) : Int := if md = 0 ∨ md = 1 then 1 else if md = 6 ∨ md = 7 ∨ md = 8 ∨ md = 12 then 3 else 2
def reachF (md : Int) : Int := if md = 3 then 3 else if md = 4 ∨ md = 5 ∨ md = 6 ∨ md = 7 ∨ md = 8 then 4 else if md = 9 then 6 else if md = 10 then 5 else 2
def farF (md : Int) : Int := if md = 7 ∨ md = 8 ∨ md = 10 then 1 else 0
def cycF (md kd : Int) : Int :=
  if kd = 2 then reachF md + farF md else if kd = 3 ∧ md ≠ 1 then reachF md + farF md + 2 else if kd = 5 then 3 else if kd = 6 then 4
  else if kd = 7 then (if md = 12 then 5 else 3) else if kd = 8 ∨ kd = 9 ∨ kd = 10 then 6 else if kd = 11 then 7 else if kd = 12 then 0 else reachF md
theorem modeO_in (o : Nat) (ho : o < 256) : 0 ≤ modeO o ∧ modeO o ≤ 12 := mdI_in (o / 16) (by omega) (o % 16) (by omega)
theorem kindC_in : ∀ o < 256, 0 ≤ kindC o ∧ kindC o ≤ 12 := by decide +kernel
theorem m13 {m : Int} (h : 0 ≤ m ∧ m ≤ 12) : m = 0 ∨ m = 1 ∨ m = 2 ∨ m = 3 ∨ m = 4 ∨ m = 5 ∨ m = 6 ∨ m = 7 ∨ m = 8 ∨ m = 9 ∨ m = 10 ∨ m = 11 ∨ m = 12 := by omega
theorem field_md (nm : ByteArray) (md kd : Int) (kn : Bool) (w : World) : (Instr.field 44 (.agg #[.string nm, .int .u8 md, .int .u8 kd, .bool kn]) 1).run Tryd.prog w = .ok (.int .u8 md) w := by kernel_rfl
set_option maxRecDepth 100000 in
theorem reach_any (md : Int) (hmd : 0 ≤ md ∧ md ≤ 12) (w : World) : Calls Tryd.prog 65 #[.int .u8 md] w fun e w' => e = .returned (.int .i64 (reachF md)) ∧ w' = w := by
  have hm := m13 hmd
  clear hmd
  rcases hm with rfl | rfl | rfl | rfl | rfl | rfl | rfl | rfl | rfl | rfl | rfl | rfl | rfl
  all_goals
    go_enter Tryd.func65, Tryd.ntmps65
    go_wp2_with fail
    go_ret
    exact ⟨rfl, rfl⟩
set_option maxRecDepth 100000 in
set_option maxHeartbeats 2000000 in
theorem cycles_any (o : Nat) (ho : o < 256) (w : World) (hG : Gl w) : Calls Tryd.prog 44 #[.int .u8 (o : Int)] w fun e w' => e = .returned (.int .i64 (cycF (modeO o) (kindC o))) ∧ Below w.heap.size w w' := by
  have hmi := modeO_in o ho
  have hk := m13 (kindC_in o ho)
  have k := of_any o ho w hG
  have kr := reach_any (modeO o) hmi
  unfold codeV at k
  generalize nameO o = nm at *
  generalize modeO o = md at *
  generalize kindC o = kd at *
  generalize knownC o = kn at *
  clear ho hG
  have K := Lib.hid k
  clear k
  have hR : 0 ≤ reachF md ∧ reachF md ≤ 6 := by unfold reachF; omega
  have hw0 : IntKind.i64.wrap (reachF md + 0) = reachF md := by rw [Int.add_zero]; exact IntWalk.i64_in _ (by omega)
  have hw1 : IntKind.i64.wrap (reachF md + 1) = reachF md + 1 := IntWalk.i64_in _ (by omega)
  have hw2 : IntKind.i64.wrap (reachF md + 2) = reachF md + 2 := IntWalk.i64_in _ (by omega)
  have hw3 : IntKind.i64.wrap (reachF md + 1 + 2) = reachF md + 1 + 2 := IntWalk.i64_in _ (by omega)
  clear hmi
  by_cases a7 : md = 7
  · obtain rfl := a7
    rcases hk with rfl | rfl | rfl | rfl | rfl | rfl | rfl | rfl | rfl | rfl | rfl | rfl | rfl
    all_goals
        go_enter Tryd.func44, Tryd.ntmps44
        go_wp2_with fail
        refine K.out.mono ?_
        rintro e w' ⟨rfl, hb⟩
        go_wp2_with fail
        first
          | (go_ret
             exact ⟨rfl, (hb.alloc hb.size _)⟩)
          | (refine (kr _).mono ?_
             rintro e w3 ⟨rfl, rfl⟩
             go_wp2_with fail
             go_ret
             exact ⟨rfl, (hb.alloc hb.size _)⟩)
  by_cases a8 : md = 8
  · obtain rfl := a8
    rcases hk with rfl | rfl | rfl | rfl | rfl | rfl | rfl | rfl | rfl | rfl | rfl | rfl | rfl
    all_goals
        go_enter Tryd.func44, Tryd.ntmps44
        go_wp2_with fail
        refine K.out.mono ?_
        rintro e w' ⟨rfl, hb⟩
        go_wp2_with fail
        first
          | (go_ret
             exact ⟨rfl, (hb.alloc hb.size _)⟩)
          | (refine (kr _).mono ?_
             rintro e w3 ⟨rfl, rfl⟩
             go_wp2_with fail
             go_ret
             exact ⟨rfl, (hb.alloc hb.size _)⟩)
  by_cases a10 : md = 10
  · obtain rfl := a10
    rcases hk with rfl | rfl | rfl | rfl | rfl | rfl | rfl | rfl | rfl | rfl | rfl | rfl | rfl
    all_goals
        go_enter Tryd.func44, Tryd.ntmps44
        go_wp2_with fail
        refine K.out.mono ?_
        rintro e w' ⟨rfl, hb⟩
        go_wp2_with fail
        first
          | (go_ret
             exact ⟨rfl, (hb.alloc hb.size _)⟩)
          | (refine (kr _).mono ?_
             rintro e w3 ⟨rfl, rfl⟩
             go_wp2_with fail
             go_ret
             exact ⟨rfl, (hb.alloc hb.size _)⟩)
  have b7 : (md == 7) = false := beq_false_of_ne a7
  have b8 : (md == 8) = false := beq_false_of_ne a8
  have b10 : (md == 10) = false := beq_false_of_ne a10
  have hfar : farF md = 0 := by unfold farF; rw [if_neg (by omega)]
  have HF := Lib.hid hfar
  clear hfar a7 a8 a10
  by_cases a1 : md = 1
  · obtain rfl := a1
    rcases hk with rfl | rfl | rfl | rfl | rfl | rfl | rfl | rfl | rfl | rfl | rfl | rfl | rfl
    all_goals
        go_enter Tryd.func44, Tryd.ntmps44
        go_wp2_with fail
        refine K.out.mono ?_
        rintro e w' ⟨rfl, hb⟩
        go_wp2_with fail
        first
          | (go_ret
             exact ⟨rfl, (hb.alloc hb.size _)⟩)
          | (refine (kr _).mono ?_
             rintro e w3 ⟨rfl, rfl⟩
             go_wp2_with fail
             go_ret
             exact ⟨rfl, (hb.alloc hb.size _)⟩)
  have b1 : (md == 1) = false := beq_false_of_ne a1
  have c1 : (md != 1) = true := by simp [a1]
  by_cases a12 : md = 12
  · obtain rfl := a12
    rcases hk with rfl | rfl | rfl | rfl | rfl | rfl | rfl | rfl | rfl | rfl | rfl | rfl | rfl
    all_goals
        go_enter Tryd.func44, Tryd.ntmps44
        go_wp2_with fail
        refine K.out.mono ?_
        rintro e w' ⟨rfl, hb⟩
        go_wp2_with fail
        first
          | (go_ret
             exact ⟨rfl, (hb.alloc hb.size _)⟩)
          | (refine (kr _).mono ?_
             rintro e w3 ⟨rfl, rfl⟩
             go_wp2_with fail
             go_ret
             exact ⟨rfl, (hb.alloc hb.size _)⟩)
  have b12 : (md == 12) = false := beq_false_of_ne a12
  have A1 := Lib.hid a1
  have A12 := Lib.hid a12
  clear a1 a12
  rcases hk with rfl | rfl | rfl | rfl | rfl | rfl | rfl | rfl | rfl | rfl | rfl | rfl | rfl
  all_goals
    go_enter Tryd.func44, Tryd.ntmps44
    go_wp2_with fail
    refine K.out.mono ?_
    rintro e w' ⟨rfl, hb⟩
    go_wp2_with fail
    first
      | (go_ret
         exact ⟨by simp [cycF, HF.out, A1.out, A12.out], (hb.alloc hb.size _)⟩)
      | (refine (kr _).mono ?_
         rintro e w3 ⟨rfl, rfl⟩
         go_wp2_with fail
         go_ret
         exact ⟨by simp [cycF, HF.out, A1.out, A12.out], (hb.alloc hb.size _)⟩)
end Go.Proofs.YtphfhlimlohplaaDoor.Co
