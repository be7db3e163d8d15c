/- The Go law CartPlays: its walk, whole. -/
import Derived.Test.YtfdmbgmhgbhggaaCartPlaysY
namespace Go.Proofs.Ytfdmbgmhgbhggaa.cartPlays
open Go.RowKit Go.Deep Go.Proofs.Ytfdmbgmhgbhggaa Go.Proofs.Ytfdmbgmhgbhggaa.Cl Go.Proofs.Ytfdmbgmhgbhggaa.Ca
set_option linter.unusedVariables false
theorem cartPlays_walk (tag : ByteArray) (len seed : Int) (ex : List Int) (ao : Option Addr) (n cap : Nat) (L : List Ac) (W : World) (hex : ex.length = 128) (hL : Lies W 3 (.slice ao n cap) n (acs L)) (hLn : L.length = n) (hLo : AcOk L)
    (l0 : -9223372036854775808 ≤ len) (l1 : len ≤ 9223372036854775807) (s0 : 0 ≤ seed) (s1 : seed ≤ 255) :
    Calls Try.prog 5 #[.agg (playL tag len seed (ex.map (Value.int .u8)) ao n cap).toArray] W fun e W' => e = .returned (.bool true) ∧ Below W.heap.size W W' := by
  by_cases h : n ≤ 200 ∧ len ≤ 32768
  · cases hok : Img.okK (Img.idx tag) len.toNat
    · exact plays_no W tag len seed ex ao n cap hex h.1 l0 h.2 s0 s1 len.toNat rfl hok
    · exact plays_yes W tag len seed ex ao n cap L hex h.1 l0 h.2 s0 s1 len.toNat rfl hok hL hLn hLo
  · exact plays_big W tag len seed _ ao n cap (by simpa using hex) h
end Go.Proofs.Ytfdmbgmhgbhggaa.cartPlays
