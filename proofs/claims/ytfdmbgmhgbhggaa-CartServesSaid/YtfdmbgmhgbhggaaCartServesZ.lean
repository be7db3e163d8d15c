/- The Go law CartServes: its walk, whole. -/
import Derived.Test.YtfdmbgmhgbhggaaCartServesY
namespace Go.Proofs.Ytfdmbgmhgbhggaa.cartServes
open Go.RowKit Go.Deep Go.Proofs.Ytfdmbgmhgbhggaa Go.Proofs.Ytfdmbgmhgbhggaa.Cl Go.Proofs.Ytfdmbgmhgbhggaa.Ca
set_option linter.unusedVariables false
theorem cartServes_walk (tag : ByteArray) (len seed : Int) (ex : List Int) (ao : Option Addr) (n cap : Nat) (L : List Ac) (a : Int) (W : World) (hex : ex.length = 128) (hL : Lies W 3 (.slice ao n cap) n (acs L)) (hLn : L.length = n) (hLo : AcOk L)
    (l0 : -9223372036854775808 ≤ len) (l1 : len ≤ 9223372036854775807) (s0 : 0 ≤ seed) (s1 : seed ≤ 255) (a0 : 0 ≤ a) (a1 : a ≤ 65535) :
    Calls Try.prog 3 #[.agg (playL tag len seed (ex.map (Value.int .u8)) ao n cap).toArray, .int .u16 a] W fun e W' => e = .returned (.bool true) ∧ Below W.heap.size W W' := by
  by_cases h : n ≤ 200 ∧ len ≤ 32768
  · cases hok : Img.okK (Img.idx tag) len.toNat
    · exact serves_no W tag len seed ex ao n cap a hex h.1 l0 h.2 s0 s1 len.toNat rfl hok
    · exact serves_yes W tag len seed ex ao n cap L a hex h.1 l0 h.2 s0 s1 len.toNat rfl hok hL hLn hLo a0 a1
  · exact serves_big W tag len seed _ ao n cap a (by simpa using hex) h
end Go.Proofs.Ytfdmbgmhgbhggaa.cartServes
