/- The Go law CartCopies: its walk, whole. -/
import Derived.Test.YtfdmbgmhgbhggaaCartCopiesY
namespace Go.Proofs.Ytfdmbgmhgbhggaa.cartCopies
open Go.RowKit Go.Deep Go.Proofs.Ytfdmbgmhgbhggaa Go.Proofs.Ytfdmbgmhgbhggaa.Cl Go.Proofs.Ytfdmbgmhgbhggaa.Ca
set_option linter.unusedVariables false
theorem cartCopies_walk (tag : ByteArray) (len seed : Int) (ex : List Int) (ao : Option Addr) (n cap : Nat) (L : List Ac) (mo : Option Addr) (mn mc : Nat) (M : List Ac) (W : World) (hex : ex.length = 128) (hL : Lies W 3 (.slice ao n cap) n (acs L)) (hLn : L.length = n) (hLo : AcOk L)
    (l0 : -9223372036854775808 ≤ len) (l1 : len ≤ 9223372036854775807) (s0 : 0 ≤ seed) (s1 : seed ≤ 255) (hM : Lies W 3 (.slice mo mn mc) mn (acs M)) (hMn : M.length = mn) (hMo : AcOk M) :
    Calls Try.prog 6 #[.agg (playL tag len seed (ex.map (Value.int .u8)) ao n cap).toArray, .slice mo mn mc] W fun e W' => e = .returned (.bool true) ∧ Below W.heap.size W W' := by
  by_cases h : n ≤ 200 ∧ len ≤ 32768
  · by_cases hm : mn ≤ 100
    · cases hok : Img.okK (Img.idx tag) len.toNat
      · exact copies_no W tag len seed ex ao n cap mo mn mc hex hm h.1 l0 h.2 s0 s1 len.toNat rfl hok
      · exact copies_yes W tag len seed ex ao n cap L mo mn mc M hex h.1 l0 h.2 s0 s1 len.toNat rfl hok hL hLn hLo hM hMn hMo hm
    · exact copies_many W tag len seed _ ao n cap mo mn mc (by simpa using hex) h.1 h.2 hm
  · exact copies_big W tag len seed _ ao n cap mo mn mc (by simpa using hex) h
end Go.Proofs.Ytfdmbgmhgbhggaa.cartCopies
