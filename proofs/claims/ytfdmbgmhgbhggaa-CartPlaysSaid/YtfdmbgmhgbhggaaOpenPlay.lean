/- A play and an access as arguments, opened. -/
import Derived.Test.YtfdmbgmhgbhggaaOpenElems
import Derived.Test.YtfdmbgmhgbhggaaCartPlay
import Derived.OpenShut
namespace Go.Proofs.Ytfdmbgmhgbhggaa.Ca
open Go.ChangeShapes Go.WideShapes Go.ChangeAt Go.RowKit Go.Joins Go.Deep Go.Proofs.Ytfdmbgmhgbhggaa.Cl
set_option linter.unusedVariables false
theorem acc_cells {H : Type} {enc : TypeId × Value → H} {W : World} {base : Nat} {spare : Nat → Bool} {held : Bool} {fuel : Nat} {cs : List Value} {y : DataW H × List MemPlace} (hl : cs.length = 3)
    (h : DataW.trod enc Try.prog W base spare held fuel 41 cs = some y) : ∃ p : Ac, cs = [.int .u16 p.1, .int .u8 p.2.1, .bool p.2.2] ∧ (0 ≤ p.1 ∧ p.1 ≤ 65535) ∧ 0 ≤ p.2.1 ∧ p.2.1 ≤ 255 := by
  match cs, hl with
  | [c0, c1, c2], _ =>
    obtain ⟨xs, n, _, hx, _, hlen, hg⟩ := DataW.trod_struct Try.underlying41 h
    match xs, hlen with
    | [y0, y1, y2], _ =>
      have z16 : Try.prog.cellsOf 26 = 1 := by kernel_rfl
      have z8 : Try.prog.cellsOf 5 = 1 := by kernel_rfl
      have zb : Try.prog.cellsOf 4 = 1 := by kernel_rfl
      have g0 : DataW.trod enc Try.prog W base spare held n 26 [c0] = some y0 := by simpa [z16] using hg 0 _ rfl
      obtain ⟨n0, q0, -, w0⟩ := DataW.trod_int Try.underlying26 g0
      obtain rfl : c0 = _ := by simpa using q0
      have g1 : DataW.trod enc Try.prog W base spare held n 5 [c1] = some y1 := by simpa [z8] using hg 1 _ rfl
      obtain ⟨n1, q1, -, w1⟩ := DataW.trod_int Try.underlying5 g1
      obtain rfl : c1 = _ := by simpa using q1
      have g2 : DataW.trod enc Try.prog W base spare held n 4 [c2] = some y2 := by simpa [zb] using hg 2 _ rfl
      obtain ⟨n2, q2, -⟩ := DataW.trod_bool Try.underlying4 g2
      obtain rfl : c2 = _ := by simpa using q2
      have b0 := bounds_u16 w0
      have b1 := bounds_u8 w1
      exact ⟨(n0, n1, n2), rfl, b0, b1⟩
theorem open_acc {H : Type} {enc : TypeId × Value → H} {W : World} {base : Nat} {spare : Nat → Bool} {held : Bool} {r : Reach} {b0 : Nat} {v : Value} {d : DataW H} {p : List MemPlace}
    (hv : Value.okWide Try.prog W r b0 41 v) (h : DataW.Trod enc Try.prog W base spare held 41 v d p) :
    ∃ (a x : Int) (wr : Bool), v = .agg #[.int .u16 a, .int .u8 x, .bool wr] ∧ (0 ≤ a ∧ a ≤ 65535) ∧ 0 ≤ x ∧ x ≤ 255 := by
  obtain ⟨cs, rfl, hsz⟩ := okWide_struct Try.underlying41 hv
  obtain ⟨fuel, hf⟩ := h
  have hl : cs.toList.length = 3 := by simpa using hsz.trans (by kernel_rfl)
  obtain ⟨p, hp, h1, h2⟩ := acc_cells hl hf
  refine ⟨p.1, p.2.1, p.2.2, ?_, h1, h2⟩
  congr 1
  apply Array.ext'
  exact hp
theorem pieces {α : Type} (l : List α) (h : l.length = 132) : l = (l.drop 0).take 1 ++ ((l.drop 1).take 1 ++ ((l.drop 2).take 1 ++ ((l.drop 3).take 128 ++ (l.drop 131).take 1))) := by
  have e : ∀ a m, l.drop a = (l.drop a).take m ++ l.drop (a + m) := fun a m => by rw [← List.drop_drop, List.take_append_drop]
  have e5 : l.drop 131 = (l.drop 131).take 1 := (List.take_of_length_le (by simp; omega)).symm
  conv => lhs; rw [← List.drop_zero (l := l), e 0 1, e 1 1, e 2 1, e 3 128, e5]
theorem bytes_of {H : Type} {enc : TypeId × Value → H} {W : World} {base : Nat} {spare : Nat → Bool} {held : Bool} {fuel : Nat} {cs : List Value} {y : DataW H × List MemPlace} (hl : cs.length = 128)
    (h : DataW.trod enc Try.prog W base spare held fuel 22 cs = some y) : ∃ ex : List Int, cs = ex.map (Value.int .u8) ∧ ex.length = 128 := by
  obtain ⟨xs, m, _, _, _, hlen, hg⟩ := DataW.trod_array Try.underlying22 h
  have z8 : Try.prog.cellsOf 5 = 1 := by kernel_rfl
  have each : ∀ c ∈ cs, ∃ b : Int, c = Value.int .u8 b ∧ True := by
    intro c hc
    obtain ⟨i, hi⟩ := List.getElem?_of_mem hc
    have hil := (List.getElem?_eq_some_iff.1 hi).1
    have hxi : i < xs.length := by rw [hlen, ← hl]; exact hil
    have := hg i (by omega)
    rw [z8, Nat.mul_one, List.getElem?_eq_getElem hxi] at this
    have e : (cs.drop i).take 1 = [c] := by
      rw [List.drop_eq_getElem_cons hil]
      obtain ⟨_, h2⟩ := List.getElem?_eq_some_iff.1 hi
      simp [h2]
    rw [e] at this
    obtain ⟨b, q, -, -⟩ := DataW.trod_int Try.underlying5 this
    exact ⟨b, by simpa using q, trivial⟩
  obtain ⟨R, rfl, _⟩ := choice_list (f := fun b : Int => Value.int .u8 b) (q := fun _ => True) cs each
  exact ⟨R, rfl, by simpa using hl⟩
theorem open_play {H : Type} {enc : TypeId × Value → H} {W : World} {r : Reach} {b0 : Nat} {v : Value} {d : DataW H} {p : List MemPlace}
    (hv : Value.okWide Try.prog W r b0 25 v) (h : DataW.Trod enc Try.prog W 0 (fun _ => true) true 25 v d p) (hlt : ∀ x ∈ p, x.block < W.heap.size) :
    ∃ (tag : ByteArray) (len seed : Int) (ex : List Int) (ao : Option Addr) (n cap : Nat) (L : List Ac), v = .agg (playL tag len seed (ex.map (Value.int .u8)) ao n cap).toArray ∧ ex.length = 128 ∧
      Lies W 3 (.slice ao n cap) n (acs L) ∧ L.length = n ∧ AcOk L ∧ (-9223372036854775808 ≤ len ∧ len ≤ 9223372036854775807) ∧ 0 ≤ seed ∧ seed ≤ 255 := by
  obtain ⟨cs, rfl, hsz⟩ := okWide_struct Try.underlying25 hv
  obtain ⟨fuel, hf⟩ := h
  have hl : cs.toList.length = 132 := by simpa using hsz.trans (by kernel_rfl)
  obtain ⟨xs, m, _, hx, _, hlen, hg⟩ := DataW.trod_struct Try.underlying25 hf
  simp only [Prod.mk.injEq] at hx
  have hcs : (Value.agg cs).cells.toList = cs.toList := rfl
  rw [hcs] at hg
  have e := pieces cs.toList hl
  match xs, hlen, hx with
  | [y0, y1, y2, y3, y4], _, hx =>
    have g0 : DataW.trod enc Try.prog W 0 (fun _ => true) true m 9 ((cs.toList.drop 0).take (Try.prog.cellsOf 9)) = some y0 := hg 0 _ rfl
    have g1 : DataW.trod enc Try.prog W 0 (fun _ => true) true m 3 ((cs.toList.drop 1).take (Try.prog.cellsOf 3)) = some y1 := hg 1 _ rfl
    have g2 : DataW.trod enc Try.prog W 0 (fun _ => true) true m 5 ((cs.toList.drop 2).take (Try.prog.cellsOf 5)) = some y2 := hg 2 _ rfl
    have g3 : DataW.trod enc Try.prog W 0 (fun _ => true) true m 22 ((cs.toList.drop 3).take (Try.prog.cellsOf 22)) = some y3 := hg 3 _ rfl
    have g4 : DataW.trod enc Try.prog W 0 (fun _ => true) true m 23 ((cs.toList.drop 131).take (Try.prog.cellsOf 23)) = some y4 := hg 4 _ rfl
    rw [show Try.prog.cellsOf 9 = 1 from by kernel_rfl] at g0
    rw [show Try.prog.cellsOf 3 = 1 from by kernel_rfl] at g1
    rw [show Try.prog.cellsOf 5 = 1 from by kernel_rfl] at g2
    rw [show Try.prog.cellsOf 22 = 128 from by kernel_rfl] at g3
    rw [show Try.prog.cellsOf 23 = 1 from by kernel_rfl] at g4
    obtain ⟨tag, q0, -⟩ := DataW.trod_string Try.underlying9 g0
    obtain ⟨len, q1, -, w1⟩ := DataW.trod_int Try.underlying3 g1
    obtain ⟨seed, q2, -, w2⟩ := DataW.trod_int Try.underlying5 g2
    obtain ⟨ex, q3, hex⟩ := bytes_of (by rw [List.length_take, List.length_drop, hl]; decide) g3
    obtain ⟨ao, n, cap, q4⟩ : ∃ ao n cap, (cs.toList.drop 131).take 1 = [.slice ao n cap] := by
      rcases DataW.trod_slice Try.underlying23 g4 with ⟨h0, _⟩ | ⟨a, len, cap, _, _, _, _, h1, _⟩
      · exact ⟨_, _, _, h0⟩
      · exact ⟨_, _, _, h1⟩
    rw [q4] at g4
    have hT : DataW.Trod enc Try.prog W 0 (fun _ => true) true 23 (.slice ao n cap) y4.1 y4.2 := ⟨m, g4⟩
    obtain ⟨css, hcl, hall, hLi⟩ := open_elems 3 (by kernel_rfl) (by decide) Try.underlying23 hT (fun z hz => hlt z (by rw [hx.2]; simp [hz]))
    obtain ⟨R, rfl, hR⟩ := choice_list (f := fun p : Ac => [Value.int .u16 p.1, .int .u8 p.2.1, .bool p.2.2]) css fun cs hcs => by
      obtain ⟨h2, fuel, y, hy⟩ := hall cs hcs
      exact acc_cells h2 hy
    rw [q0, q1, q2, q3, q4] at e
    refine ⟨tag, len, seed, ex, ao, n, cap, R, ?_, hex, by simpa [acs, List.flatMap] using hLi, by simpa using hcl, hR, bounds_i64 w1, bounds_u8 w2⟩
    congr 1
    apply Array.ext'
    rw [e]; rfl
end Go.Proofs.Ytfdmbgmhgbhggaa.Ca
