/- The reference of package frame: a picture read of any bytes. -/
import Derived.Test.YtbfdlfhidebjlaaFrRefU
namespace Go.Proofs.Ytbfdlfhidebjlaa.Cl
open Go.RowKit Go.Deep
set_option linter.unusedVariables false
set_option linter.unusedSimpArgs false
set_option maxRecDepth 1000000 in
set_option maxHeartbeats 1000000 in
theorem refun_short (w : World) (ao : Option Addr) (n cap : Nat) (bs : List Int) (hn : n = bs.length) (h2 : (n : Int) < 2) :
    Calls Try.prog 24 #[.slice ao n cap] w fun e w' => ∃ r, e = .returned (.tuple #[r, .int .i64 (picF bs).2]) ∧ TPic w' r (picF bs).1 ∧ Below w.heap.size w w' := by
  have HF := hideR (picF_short (b := bs) (by omega))
  have hd2 : decide ((n : Int) < 2) = true := decide_eq_true h2
  clear hn
  go_enter Try.func24, Try.ntmps24
  go_wp2_with fail
  go_quiet (fail)
  go_wp2
  go_ret2
  rw [HF.out]
  exact ⟨_, rfl, TPic.nil _, below_drewN (Below.refl _ _) _⟩
set_option maxRecDepth 1000000 in
set_option maxHeartbeats 1000000 in
theorem refun_many (w : World) (ao : Option Addr) (n cap : Nat) (bs : List Int) (hL : Lies w 1 (.slice ao n cap) bs.length (bs.map (Value.int .u8))) (hb : Byt bs) (hs : bs.length ≤ 1000000) (h2 : 2 ≤ (n : Int)) (hbig : 320 < pix bs 0 + 256 * pix bs 1) :
    Calls Try.prog 24 #[.slice ao n cap] w fun e w' => ∃ r, e = .returned (.tuple #[r, .int .i64 (picF bs).2]) ∧ TPic w' r (picF bs).1 ∧ Below w.heap.size w w' := by
  obtain ⟨hn, hcap, HC⟩ := bytesAt hL
  obtain ⟨b, off, rfl, hbl, hc⟩ := HC.out.resolve_left (by omega)
  have hc0 := hc 0 (by omega)
  have hc1 := hc 1 (by omega)
  rw [Nat.add_zero] at hc0
  have hp0 := pix_byt hb 0
  have hp1 := pix_byt hb 1
  have hw0 : IntKind.i64.wrap (pix bs 0) = pix bs 0 := IntWalk.i64_in _ (by omega)
  have hw1 : IntKind.i64.wrap (pix bs 1) = pix bs 1 := IntWalk.i64_in _ (by omega)
  have HF := hideR (picF_many hbig)
  have hd2 : decide ((n : Int) < 2) = false := decide_eq_false (by omega)
  have hd3 : decide (320 < pix bs 0 + 256 * pix bs 1) = true := decide_eq_true hbig
  generalize pix bs 0 = p0 at *
  generalize pix bs 1 = p1 at *
  clear hc HC hL hb hn hs hcap
  go_enter Try.func24, Try.ntmps24
  go_wp2_with fail
  go_quiet (fail)
  go_wp2
  go_ret2
  rw [HF.out]
  exact ⟨_, rfl, TPic.nil _, below_drewN (Below.refl _ _) _⟩
theorem refun_any (w : World) (v : Value) (bs : List Int) (hL : Lies w 1 v bs.length (bs.map (Value.int .u8))) (hb : Byt bs) (hs : bs.length ≤ 1000000) :
    Calls Try.prog 24 #[v] w fun e w' => ∃ r, e = .returned (.tuple #[r, .int .i64 (picF bs).2]) ∧ TPic w' r (picF bs).1 ∧ Below w.heap.size w w' := by
  obtain ⟨n, ao, cap, rfl⟩ : ∃ n ao cap, v = .slice ao n cap := by obtain ⟨_, ao, cap, h, _⟩ := hL; exact ⟨_, _, _, h⟩
  by_cases h2 : (n : Int) < 2
  · exact refun_short w ao n cap bs (bytesAt hL).1 h2
  · by_cases hbig : 320 < pix bs 0 + 256 * pix bs 1
    · exact refun_many w ao n cap bs hL hb hs (by omega) hbig
    · exact refun_core w ao n cap bs hL hb hs (by omega) (by omega)
end Go.Proofs.Ytbfdlfhidebjlaa.Cl
