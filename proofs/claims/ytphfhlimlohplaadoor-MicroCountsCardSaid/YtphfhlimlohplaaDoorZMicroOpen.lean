/- A play of layer 12 as an argument, opened. -/
import Derived.Test.YtphfhlimlohplaaDoorZCells
import Derived.Test.YtphfhlimlohplaaDoorZMicroMemCyc
namespace Go.Proofs.YtphfhlimlohplaaDoor.Mi
open Go Go.ChangeShapes Go.WideShapes Go.ChangeAt Go.RowKit Go.Deep Go.Proofs.YtphfhlimlohplaaDoor Go.Proofs.YtphfhlimlohplaaDoor.Cl Go.Proofs.YtphfhlimlohplaaDoor.Ex
set_option linter.unusedVariables false
theorem bytes_wf {xs : List Int} (h : ∀ z ∈ xs, (Lit.int .u8 z).wf = true) : Bytes xs := fun z hz => bounds_u8 (h z hz)
theorem regs_cells {H : Type} {enc : TypeId × Value → H} {W : World} {base : Nat} {spare : Nat → Bool} {held : Bool} {fuel : Nat} {c0 c1 c2 c3 c4 c5 : Value} {y : DataW H × List MemPlace}
    (h : DataW.trod enc Tryd.prog W base spare held fuel 24 [c0, c1, c2, c3, c4, c5] = some y) :
    ∃ a x y s p pc : Int, c0 = .int .u8 a ∧ c1 = .int .u8 x ∧ c2 = .int .u8 y ∧ c3 = .int .u8 s ∧ c4 = .int .u8 p ∧ c5 = .int .u16 pc ∧ Rg.ok ⟨a, x, y, s, p, pc⟩ := by
  obtain ⟨xs, m, _, hx, _, hlen, hg⟩ := DataW.trod_struct Tryd.underlying24 h
  have z8 : Tryd.prog.cellsOf 5 = 1 := by kernel_rfl
  have z16 : Tryd.prog.cellsOf 22 = 1 := by kernel_rfl
  match xs, hlen with
  | [y0, y1, y2, y3, y4, y5], _ =>
    have g0 : DataW.trod enc Tryd.prog W base spare held m 5 [c0] = some y0 := by simpa [z8] using hg 0 _ rfl
    obtain ⟨n0, q0, -, w0⟩ := DataW.trod_int Tryd.underlying5 g0
    have b0 := bounds_u8 w0
    have g1 : DataW.trod enc Tryd.prog W base spare held m 5 [c1] = some y1 := by simpa [z8] using hg 1 _ rfl
    obtain ⟨n1, q1, -, w1⟩ := DataW.trod_int Tryd.underlying5 g1
    have b1 := bounds_u8 w1
    have g2 : DataW.trod enc Tryd.prog W base spare held m 5 [c2] = some y2 := by simpa [z8] using hg 2 _ rfl
    obtain ⟨n2, q2, -, w2⟩ := DataW.trod_int Tryd.underlying5 g2
    have b2 := bounds_u8 w2
    have g3 : DataW.trod enc Tryd.prog W base spare held m 5 [c3] = some y3 := by simpa [z8] using hg 3 _ rfl
    obtain ⟨n3, q3, -, w3⟩ := DataW.trod_int Tryd.underlying5 g3
    have b3 := bounds_u8 w3
    have g4 : DataW.trod enc Tryd.prog W base spare held m 5 [c4] = some y4 := by simpa [z8] using hg 4 _ rfl
    obtain ⟨n4, q4, -, w4⟩ := DataW.trod_int Tryd.underlying5 g4
    have b4 := bounds_u8 w4
    have g5 : DataW.trod enc Tryd.prog W base spare held m 22 [c5] = some y5 := by simpa [z16] using hg 5 _ rfl
    obtain ⟨n5, q5, -, w5⟩ := DataW.trod_int Tryd.underlying22 g5
    have b5 := bounds_u16 w5
    exact ⟨n0, n1, n2, n3, n4, n5, by simpa using q0, by simpa using q1, by simpa using q2, by simpa using q3, by simpa using q4, by simpa using q5, b0.1, b0.2, b1.1, b1.2, b2.1, b2.2, b3.1, b3.2, b4.1, b4.2, b5.1, b5.2⟩
set_option maxRecDepth 100000 in
theorem open_mplay {H : Type} {enc : TypeId × Value → H} {W : World} {r : Reach} {b0 : Nat} {v : Value} {d : DataW H} {q : List MemPlace}
    (hv : Value.okWide Tryd.prog W r b0 27 v) (h : DataW.Trod enc Tryd.prog W 0 (fun _ => true) true 27 v d q) (hlt : ∀ x ∈ q, x.block < W.heap.size) :
    ∃ (a x y s p pc sd at' : Int) (ao : Option Addr) (n cap : Nat) (cy : Int) (bg : Bool) (cs : List Int), v = .agg #[.int .u8 a, .int .u8 x, .int .u8 y, .int .u8 s, .int .u8 p, .int .u16 pc, .int .u16 sd, .int .u16 at', .slice ao n cap, .int .u16 cy, .bool bg] ∧ Rg.ok ⟨a, x, y, s, p, pc⟩ ∧ (0 ≤ sd ∧ sd ≤ 65535) ∧ (0 ≤ at' ∧ at' ≤ 65535) ∧ (0 ≤ cy ∧ cy ≤ 65535) ∧
      cs.length = n ∧ Lies W 1 (.slice ao n cap) n (cs.map (Value.int .u8)) ∧ Bytes cs := by
  obtain ⟨cs, rfl, hsz⟩ := okWide_struct Tryd.underlying27 hv
  obtain ⟨fuel, hf⟩ := h
  obtain ⟨l⟩ := cs
  have hC : Tryd.prog.cellsOf 27 = 11 := by kernel_rfl
  match l, hsz.trans hC with
  | [c0, c1, c2, c3, c4, c5, c6, c7, c8, c9, c10], _ =>
    obtain ⟨xs, m, _, hx, _, hlen, hg⟩ := DataW.trod_struct Tryd.underlying27 hf
    simp only [Prod.mk.injEq] at hx
    match xs, hlen, hx with
    | [y0, y1, y2, y3, y4, y5], _, hx =>
      have z6 : Tryd.prog.cellsOf 24 = 6 := by kernel_rfl
      have z16 : Tryd.prog.cellsOf 22 = 1 := by kernel_rfl
      have zs : Tryd.prog.cellsOf 25 = 1 := by kernel_rfl
      have zb : Tryd.prog.cellsOf 4 = 1 := by kernel_rfl
      have g0 : DataW.trod enc Tryd.prog W 0 (fun _ => true) true m 24 [c0, c1, c2, c3, c4, c5] = some y0 := by
        have : DataW.trod enc Tryd.prog W 0 (fun _ => true) true m 24 (([c0, c1, c2, c3, c4, c5, c6, c7, c8, c9, c10].drop 0).take (Tryd.prog.cellsOf 24)) = some y0 := hg 0 _ rfl
        rw [z6] at this; exact this
      have g1 : DataW.trod enc Tryd.prog W 0 (fun _ => true) true m 22 [c6] = some y1 := by
        have : DataW.trod enc Tryd.prog W 0 (fun _ => true) true m 22 (([c0, c1, c2, c3, c4, c5, c6, c7, c8, c9, c10].drop 6).take (Tryd.prog.cellsOf 22)) = some y1 := hg 1 _ rfl
        rw [z16] at this; exact this
      have g2 : DataW.trod enc Tryd.prog W 0 (fun _ => true) true m 22 [c7] = some y2 := by
        have : DataW.trod enc Tryd.prog W 0 (fun _ => true) true m 22 (([c0, c1, c2, c3, c4, c5, c6, c7, c8, c9, c10].drop 7).take (Tryd.prog.cellsOf 22)) = some y2 := hg 2 _ rfl
        rw [z16] at this; exact this
      have g3 : DataW.trod enc Tryd.prog W 0 (fun _ => true) true m 25 [c8] = some y3 := by
        have : DataW.trod enc Tryd.prog W 0 (fun _ => true) true m 25 (([c0, c1, c2, c3, c4, c5, c6, c7, c8, c9, c10].drop 8).take (Tryd.prog.cellsOf 25)) = some y3 := hg 3 _ rfl
        rw [zs] at this; exact this
      have g4 : DataW.trod enc Tryd.prog W 0 (fun _ => true) true m 22 [c9] = some y4 := by
        have : DataW.trod enc Tryd.prog W 0 (fun _ => true) true m 22 (([c0, c1, c2, c3, c4, c5, c6, c7, c8, c9, c10].drop 9).take (Tryd.prog.cellsOf 22)) = some y4 := hg 4 _ rfl
        rw [z16] at this; exact this
      have g5 : DataW.trod enc Tryd.prog W 0 (fun _ => true) true m 4 [c10] = some y5 := by
        have : DataW.trod enc Tryd.prog W 0 (fun _ => true) true m 4 (([c0, c1, c2, c3, c4, c5, c6, c7, c8, c9, c10].drop 10).take (Tryd.prog.cellsOf 4)) = some y5 := hg 5 _ rfl
        rw [zb] at this; exact this
      obtain ⟨a, x, y, s, p, pc, rfl, rfl, rfl, rfl, rfl, rfl, ok⟩ := regs_cells g0
      obtain ⟨sd, q1, -, w1⟩ := DataW.trod_int Tryd.underlying22 g1
      obtain rfl : c6 = _ := by simpa using q1
      obtain ⟨at', q2, -, w2⟩ := DataW.trod_int Tryd.underlying22 g2
      obtain rfl : c7 = _ := by simpa using q2
      obtain ⟨cy, q4, -, w4⟩ := DataW.trod_int Tryd.underlying22 g4
      obtain rfl : c9 = _ := by simpa using q4
      obtain ⟨bg, q5, -⟩ := DataW.trod_bool Tryd.underlying4 g5
      obtain rfl : c10 = _ := by simpa using q5
      obtain ⟨ao, n, cap, q3⟩ : ∃ ao n cap, [c8] = [Value.slice ao n cap] := by
        rcases DataW.trod_slice Tryd.underlying25 g3 with ⟨h0, _⟩ | ⟨a, len, cap, _, _, _, _, h1, _⟩
        · exact ⟨_, _, _, h0⟩
        · exact ⟨_, _, _, h1⟩
      obtain rfl : c8 = _ := by simpa using q3
      have hT : DataW.Trod enc Tryd.prog W 0 (fun _ => true) true 25 (.slice ao n cap) y3.1 y3.2 := ⟨m, g3⟩
      obtain ⟨cs, hcl, hLi, hwf⟩ := open_lies Tryd.underlying25 Tryd.underlying5 (by kernel_rfl) hT (fun z hz => hlt z (by rw [hx.2]; simp [hz]))
      subst hcl
      exact ⟨a, x, y, s, p, pc, sd, at', ao, _, cap, cy, bg, cs, rfl, ok, bounds_u16 w1, bounds_u16 w2, bounds_u16 w4, rfl, hLi, bytes_wf hwf⟩
end Go.Proofs.YtphfhlimlohplaaDoor.Mi
