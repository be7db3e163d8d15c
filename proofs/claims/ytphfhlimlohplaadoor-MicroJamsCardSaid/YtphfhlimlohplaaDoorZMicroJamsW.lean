/- Package micro: MicroJams, walked. -/
import Derived.Test.YtphfhlimlohplaaDoorZMicroAwake
import Derived.Test.YtphfhlimlohplaaDoorZMicroMemCyc
import Derived.Test.YtphfhlimlohplaaDoorZCells
namespace Go.Proofs.YtphfhlimlohplaaDoor.Mi
open Go Go.RowKit Go.Deep Go.Proofs.YtphfhlimlohplaaDoor Go.Proofs.YtphfhlimlohplaaDoor.Ex Go.Proofs.YtphfhlimlohplaaDoor.Cl
set_option linter.unusedVariables false
set_option linter.unusedSimpArgs false
/-- What a code's fetch makes the next step: a jam just if the code jams. -/
theorem dec_jam (kd md : Int) : decF kd md = 1 ↔ kd = 12 := by
  unfold decF
  repeat' split
  all_goals omega
theorem jam_stays (c : Cp) (h : c.t = 1) (v : Int) : clockF c v = c := by
  unfold clockF
  rw [h]
  rfl
theorem jam_asks (c : Cp) (h : c.t = 1) : pinsF c = ⟨8191, false, 0⟩ := by
  unfold pinsF
  rw [h]
  rfl
set_option maxRecDepth 100000 in
set_option maxHeartbeats 8000000 in
theorem jams_yes (V : World) (hG : Co.Gl V) (a x y s p pc : Int) (ok : Rg.ok ⟨a, x, y, s, p, pc⟩) (o : Nat) (ho : o < 256) (lo : Option Addr) (lc ln : Nat) (xs : List Int) (hxl : xs.length = ln) (hxn : ln ≤ 100)
    (hX : Lies V 1 (.slice lo ln lc) ln (xs.map (Value.int .u8))) (hxB : Bytes xs) :
    Calls Tryd.prog 4 #[.agg #[.int .u8 a, .int .u8 x, .int .u8 y, .int .u8 s, .int .u8 p, .int .u16 pc], .int .u8 (o : Int), .slice lo ln lc] V fun e W' => e = .returned (.bool true) ∧ Below V.heap.size V W' := by
  have kt := fun w' => at_any ⟨a, x, y, s, p, pc⟩ false w'
  simp only [rgU] at kt
  have ko := fun w' (h : Co.Gl w') => Co.of_any o ho w' h
  unfold Co.codeV at ko
  have ok0 := newC_ok ⟨a, x, y, s, p, pc⟩ ok 0 (by decide) (by decide)
  have kc := fun w' B h g => clock_any (newC ⟨a, x, y, s, p, pc⟩ 0) ok0 w' B h g (o : Int) (by omega) (by omega)
  have okC := clockF_ok ok0 (b := (o : Int)) (by omega) (by omega)
  have htC : (clockF (newC ⟨a, x, y, s, p, pc⟩ 0) (o : Int)).t = decF (Co.kindC o) (Co.modeO o) := rfl
  have hdj := dec_jam (Co.kindC o) (Co.modeO o)
  rw [← htC] at hdj
  clear htC
  generalize clockF (newC ⟨a, x, y, s, p, pc⟩ 0) (o : Int) = C at *
  have C0 : newC ⟨a, x, y, s, p, pc⟩ (if false = true then 1 else 0) = newC ⟨a, x, y, s, p, pc⟩ 0 := rfl
  rw [C0] at kt
  clear C0
  generalize newC ⟨a, x, y, s, p, pc⟩ 0 = N0 at *
  generalize Co.nameO o = nm at *
  generalize Co.modeO o = md at *
  generalize Co.kindC o = kd at *
  generalize Co.knownC o = kn at *
  have field_kd : ∀ w, (Instr.field 44 (.agg #[.string nm, .int .u8 md, .int .u8 kd, .bool kn]) 2).run Tryd.prog w = .ok (.int .u8 kd) w := fun w => by kernel_rfl
  have ka := fun w' h => awake_any w' h
  have hx4 : ¬ (100 : Int) < (ln : Int) := by omega
  have hb0 := (Below.refl V.heap.size V).alloc (Nat.le_refl _) (.cells #[.int .u8 a, .int .u8 x, .int .u8 y, .int .u8 s, .int .u8 p, .int .u16 pc] 24)
  have g0 := RowT.new V #[.int .u8 a, .int .u8 x, .int .u8 y, .int .u8 s, .int .u8 p, .int .u16 pc] 24
  have hG0 := hG.below hb0
  clear ok ok0
  go_enter Tryd.func4, Tryd.ntmps4
  repeat (first | (with_reducible refine wp_keep (fun U => U = V.alloc (.cells #[.int .u8 a, .int .u8 x, .int .u8 y, .int .u8 s, .int .u8 p, .int .u16 pc] 24)) rfl ?_) | go_step)
  rintro W0 rfl
  generalize V.alloc (.cells #[.int .u8 a, .int .u8 x, .int .u8 y, .int .u8 s, .int .u8 p, .int .u16 pc] 24) = W0 at *
  have hV0 := hb0.size
  obtain ⟨r0, r1, r2, r3, r4, r5, rf⟩ := box6 g0
  generalize hVD : V.heap.size = D at *
  have HVD := Lib.hid hVD
  clear hVD
  go_wp2_with fail
  refine (kt _).mono ?_
  rintro e w1 ⟨B, rfl, hB, hS1, hw⟩
  have hb1 : Below W0.heap.size W0 w1 := hw
  clear r0 r1 r2 r3 r4 r5 rf kt hw g0
  go_wp2_with fail
  refine (kc _ B hS1 (hG0.below hb1)).mono ?_
  rintro e w2 ⟨rfl, hS2, hB2⟩
  have hb2 := hb1.trans (hB2.to hB hb1.size)
  clear kc hB2 hS1 hb1
  have kr := fun w' h => regs_any C w' B h
  generalize hCr : C.r = R at *
  obtain ⟨qa, qx, qy, qs, qp, qpc⟩ := R
  clear hCr
  simp only [rgU] at kr
  go_wp2_with fail
  refine (kr _ hS2).mono ?_
  rintro e w3 ⟨rfl, hw⟩
  have hS3 := CpuR.below hS2 hw
  have hb3 := hb2.trans (hw.mono hb2.size)
  clear hS2 hb2 hw
  dsimp only
  repeat (first | (with_reducible refine wp_keep (fun U => U = w3.alloc (.cells #[.int .u8 qa, .int .u8 qx, .int .u8 qy, .int .u8 qs, .int .u8 qp, .int .u16 qpc] 24)) rfl ?_) | go_step)
  rintro w4 rfl
  have f4 := RowT.new w3 #[.int .u8 qa, .int .u8 qx, .int .u8 qy, .int .u8 qs, .int .u8 qp, .int .u16 qpc] 24
  have hS4 := CpuR.alloc hS3 (.cells #[.int .u8 qa, .int .u8 qx, .int .u8 qy, .int .u8 qs, .int .u8 qp, .int .u16 qpc] 24)
  have hb4 := hb3.alloc hb3.size (.cells #[.int .u8 qa, .int .u8 qx, .int .u8 qy, .int .u8 qs, .int .u8 qp, .int .u16 qpc] 24)
  generalize w3.alloc (.cells #[.int .u8 qa, .int .u8 qx, .int .u8 qy, .int .u8 qs, .int .u8 qp, .int .u16 qpc] 24) = w4 at *
  generalize w3.heap.size = E at *
  clear hS3 hb3
  go_wp2_with fail
  refine (ko _ (hG0.below hb4)).mono ?_
  rintro e w5 ⟨rfl, hw⟩
  have hS5 := CpuR.below hS4 hw
  have f5 := RowT.below f4 hw
  have hb5 := hb4.trans (hw.mono hb4.size)
  clear hS4 f4 hb4 hw ko
  have kj := fun w' h => jammed_any C w' B h
  have kf := fun w' h => fresh_any C w' B h
  by_cases hk : kd = 12
  · have hq : (kd != 12) = false := by simp [hk]
    have hCt := hdj.2 hk
    have hst := jam_stays C hCt
    have has := jam_asks C hCt
    have kp := fun w' h => pins_any C okC w' B h
    rw [has] at kp
    simp only [pinV] at kp
    rw [hCt] at kj kf
    have kc := fun w' h g v v0 v1 => clock_any C okC w' B h g v v0 v1
    clear hk hdj
    go_wp2_with fail
    go_loopw [9] (fun i wv => ∃ u : Nat, u ≤ ln ∧ i = .int .i64 u ∧ CpuS wv B C ∧ RowT 24 wv E #[.int .u8 qa, .int .u8 qx, .int .u8 qy, .int .u8 qs, .int .u8 qp, .int .u16 qpc] ∧ Below W0.heap.size W0 wv)
      (fun i _ => ln - (intOf i).toNat)
    case atStart => exact ⟨0, Nat.zero_le _, rfl, hS5, f5, hb5⟩
    case round =>
      obtain ⟨u, hu, rfl, hSu, fu, hbu⟩ := hrel
      by_cases hut : u < ln
      · have i2 : (u : Int) < ln := by omega
        have i3 : (0 : Int) ≤ (u : Int) := by omega
        obtain ⟨_, ao', cap', heq, _, hcs⟩ := hX
        obtain ⟨rfl, rfl⟩ : lo = ao' ∧ lc = cap' := by simpa using heq
        rcases hcs with h0 | ⟨lb, lf, rfl, hlt, hcell⟩
        · omega
        have hv := hcell u (.int .u8 (xs.getD u 0)) (by simp [List.getD, hxl, hut])
        have hvB := hxB.get u
        generalize xs.getD u 0 = z at *
        have HST := Lib.hid (hst z)
        clear heq hcell hS5 f5 hb5
        go_wp2_with fail
        refine (kp _ hSu).mono ?_
        rintro e w6 ⟨rfl, hw⟩
        have hS6 := CpuR.below hSu hw
        have f6 := RowT.below fu hw
        have hb6 := hbu.trans (hw.mono hbu.size)
        have hV6 : Below V.heap.size V w6 := by rw [HVD.out]; exact hb0.trans (hb6.mono hV0)
        have lk := (hV6.cell (p := ⟨lb, lf + u, none⟩) hlt).trans hv
        clear hw hSu fu hbu
        go_wp2_with fail
        refine (kc _ hS6 (hG0.below hb6) z hvB.1 hvB.2).mono ?_
        rintro e w7 ⟨rfl, hS7, hB7⟩
        have hEB : ¬ E = B := by
          intro h
          subst h
          have h1 : some _ = some _ := (show w6.heap[E]? = _ from f6).symm.trans hS6
          simp at h1
        have f7 := RowT.moved f6 (hB7.block _ (RowT.lt f6) hEB)
        have hb7 := hb6.trans (hB7.to hB hb6.size)
        have hS8 : CpuS w7 B C := by rw [HST.out] at hS7; exact hS7
        go_wp2_with fail
        go_roundw
        case rel => exact ⟨u + 1, by omega, by go_num, hS8, f7, hb7⟩
        case measure => simp [intOf]; omega
      · obtain rfl : u = ln := by omega
        have i2 : ¬ (u : Int) < u := by omega
        have hGu := fun w' (h : Below wr.heap.size wr w') => hG0.below (hbu.trans (h.mono hbu.size))
        have hz := (Below.refl wr.heap.size wr).drew
        obtain ⟨d0, d1, d2, d3, d4, d5, df⟩ := box6 fu
        clear hS5 f5 hb5 kc kp
        go_wp2_with fail
        go_region_with ((first | (go_at_call 17; refine (kj _ (CpuR.below hSu hz)).mono ?_; rintro e w6 ⟨rfl, rfl⟩) | (go_at_call 18; refine (kf _ (CpuR.below hSu hz)).mono ?_; rintro e w6 ⟨rfl, rfl⟩) | (go_at_call 12; refine (kr _ (CpuR.below hSu hz)).mono ?_; rintro e w7 ⟨rfl, hw⟩; have hz := hz.trans (hw.mono hz.size); clear d0 d1 d2 d3 d4 d5 df hw; obtain ⟨d0, d1, d2, d3, d4, d5, df⟩ := box6 (RowT.below fu hz)) | (go_at_call 13; refine (ka _ (hGu _ hz)).mono ?_; rintro e w8 ⟨rfl, hw⟩; have hz := hz.trans (hw.mono hz.size); clear d0 d1 d2 d3 d4 d5 df hw; obtain ⟨d0, d1, d2, d3, d4, d5, df⟩ := box6 (RowT.below fu hz)) | fail))
        all_goals go_wp2_with fail
        all_goals go_ret
        all_goals exact ⟨rfl, by rw [HVD.out]; exact hb0.trans ((hbu.trans (hz.mono hbu.size)).mono hV0)⟩
  · have hq : (kd != 12) = true := by simp [hk]
    have hCt : (C.t == 1) = false := beq_false_of_ne (fun h => hk (hdj.1 h))
    rw [hCt] at kj
    clear hdj
    go_wp2_with fail
    refine (kj _ hS5).mono ?_
    rintro e w6 ⟨rfl, rfl⟩
    go_wp2_with fail
    refine (ka _ (hG0.below hb5)).mono ?_
    rintro e w7 ⟨rfl, hw⟩
    go_wp2_with fail
    go_ret
    exact ⟨rfl, by rw [HVD.out]; exact hb0.trans ((hb5.trans (hw.mono hb5.size)).mono hV0)⟩
set_option maxRecDepth 100000 in
theorem jams_big (V : World) (a x y s p pc : Int) (o : Int) (lo : Option Addr) (lc ln : Nat) (hxn : ¬ ln ≤ 100) :
    Calls Tryd.prog 4 #[.agg #[.int .u8 a, .int .u8 x, .int .u8 y, .int .u8 s, .int .u8 p, .int .u16 pc], .int .u8 o, .slice lo ln lc] V fun e W' => e = .returned (.bool true) ∧ Below V.heap.size V W' := by
  have hx4 : (100 : Int) < (ln : Int) := by omega
  have hb0 := (Below.refl V.heap.size V).alloc (Nat.le_refl _) (.cells #[.int .u8 a, .int .u8 x, .int .u8 y, .int .u8 s, .int .u8 p, .int .u16 pc] 24)
  go_enter Tryd.func4, Tryd.ntmps4
  go_wp2_with fail
  go_ret
  exact ⟨rfl, hb0⟩
theorem microJams_walk (V : World) (hG : Co.Gl V) (r : Rg) (ok : r.ok) (o : Nat) (ho : o < 256) (lo : Option Addr) (lc : Nat) (xs : List Int) (hX : Lies V 1 (.slice lo xs.length lc) xs.length (xs.map (Value.int .u8))) (hxB : Bytes xs) :
    Calls Tryd.prog 4 #[rgU r, .int .u8 (o : Int), .slice lo xs.length lc] V fun e W' => e = .returned (.bool true) ∧ Below V.heap.size V W' := by
  obtain ⟨a, x, y, s, p, pc⟩ := r
  by_cases hn : xs.length ≤ 100
  · exact jams_yes V hG a x y s p pc ok o ho lo lc xs.length xs rfl hn hX hxB
  · exact jams_big V a x y s p pc o lo lc xs.length hn
end Go.Proofs.YtphfhlimlohplaaDoor.Mi
