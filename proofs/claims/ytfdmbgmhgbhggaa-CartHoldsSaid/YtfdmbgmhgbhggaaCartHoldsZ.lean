/- The Go law CartHolds: its walk, whole. -/
import Derived.Test.YtfdmbgmhgbhggaaCartHoldsY
namespace Go.Proofs.Ytfdmbgmhgbhggaa.cartHolds
open Go.RowKit Go.Deep Go.Proofs.Ytfdmbgmhgbhggaa Go.Proofs.Ytfdmbgmhgbhggaa.Cl Go.Proofs.Ytfdmbgmhgbhggaa.Ca
set_option linter.unusedVariables false
theorem cartHolds_walk (tag : ByteArray) (len seed : Int) (ex : List Int) (ao : Option Addr) (n cap : Nat) (L : List Ac) (a x : Int) (wf : Bool) (W : World) (hex : ex.length = 128) (hL : Lies W 3 (.slice ao n cap) n (acs L)) (hLn : L.length = n) (hLo : AcOk L)
    (l0 : -9223372036854775808 ≤ len) (l1 : len ≤ 9223372036854775807) (s0 : 0 ≤ seed) (s1 : seed ≤ 255) (a0 : 0 ≤ a) (a1 : a ≤ 65535) (x0 : 0 ≤ x) (x1 : x ≤ 255) :
    Calls Try.prog 4 #[.agg (playL tag len seed (ex.map (Value.int .u8)) ao n cap).toArray, .agg #[.int .u16 a, .int .u8 x, .bool wf]] W fun e W' => e = .returned (.bool true) ∧ Below W.heap.size W W' := by
  by_cases h : n ≤ 200 ∧ len ≤ 32768
  · cases hok : Img.okK (Img.idx tag) len.toNat
    · exact holds_no W tag len seed ex ao n cap a x wf hex h.1 l0 h.2 s0 s1 len.toNat rfl hok
    · exact holds_yes W tag len seed ex ao n cap L a x wf hex h.1 l0 h.2 s0 s1 len.toNat rfl hok hL hLn hLo a0 a1 x0 x1
  · exact holds_big W tag len seed _ ao n cap a x wf (by simpa using hex) h
end Go.Proofs.Ytfdmbgmhgbhggaa.cartHolds
