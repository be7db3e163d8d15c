/- Plain facts on mappers and images: no program in sight. -/
import Derived.RowKit
import Derived.Lib.Strings
namespace Go.Proofs.Ytfdmbgmhgbhggaa.Img
open Go
set_option linter.unusedVariables false

def tagAt : Nat → List UInt8
  | 0 => [50, 75]
  | 1 => [51, 70]
  | 2 => [52, 75]
  | 3 => [69, 48]
  | 4 => [70, 52]
  | 5 => [70, 52, 83, 67]
  | 6 => [70, 54]
  | 7 => [70, 54, 83, 67]
  | 8 => [70, 56]
  | 9 => [70, 56, 83, 67]
  | 10 => [70, 69]
  | _ => []
def idx (tag : ByteArray) : Int := if (tagAt 0 == tag.toList) = true then 0 else if (tagAt 1 == tag.toList) = true then 1 else if (tagAt 2 == tag.toList) = true then 2 else if (tagAt 3 == tag.toList) = true then 3 else if (tagAt 4 == tag.toList) = true then 4 else if (tagAt 5 == tag.toList) = true then 5 else if (tagAt 6 == tag.toList) = true then 6 else if (tagAt 7 == tag.toList) = true then 7 else if (tagAt 8 == tag.toList) = true then 8 else if (tagAt 9 == tag.toList) = true then 9 else if (tagAt 10 == tag.toList) = true then 10 else -1
theorem idx_in (tag : ByteArray) : -1 ≤ idx tag ∧ idx tag ≤ 10 := by
  unfold idx; repeat' split
  all_goals omega
theorem idx_at (tag : ByteArray) (h : 0 ≤ idx tag) : (tagAt (idx tag).toNat == tag.toList) = true := by
  unfold idx at h ⊢
  repeat' split
  all_goals first | assumption | skip
  all_goals simp_all
theorem idx_iff (tag : ByteArray) (k : Nat) (hk : k < 11) : (tagAt k == tag.toList) = true ↔ idx tag = k := by
  have inj : ∀ i : Fin 11, ∀ j : Fin 11, tagAt i.val = tagAt j.val → i = j := by decide
  have key : (tagAt k == tag.toList) = true → 0 ≤ idx tag := by
    intro h
    rcases Int.lt_or_le (idx tag) 0 with hn | hn
    · exfalso
      unfold idx at hn
      repeat' split at hn
      all_goals first | omega | skip
      have : ∀ j : Fin 11, (tagAt j.val == tag.toList) = true → False := by
        intro j hj
        match j, hj with
        | ⟨0, _⟩, hj => simp_all
        | ⟨1, _⟩, hj => simp_all
        | ⟨2, _⟩, hj => simp_all
        | ⟨3, _⟩, hj => simp_all
        | ⟨4, _⟩, hj => simp_all
        | ⟨5, _⟩, hj => simp_all
        | ⟨6, _⟩, hj => simp_all
        | ⟨7, _⟩, hj => simp_all
        | ⟨8, _⟩, hj => simp_all
        | ⟨9, _⟩, hj => simp_all
        | ⟨10, _⟩, hj => simp_all
      exact this ⟨k, hk⟩ h
    · exact hn
  constructor
  · intro h
    have h0 := key h
    have h1 := idx_at tag h0
    have hi := idx_in tag
    have := inj ⟨k, hk⟩ ⟨(idx tag).toNat, by omega⟩ ((beq_iff_eq.1 h).trans (beq_iff_eq.1 h1).symm)
    have := congrArg Fin.val this
    simp only at this
    omega
  · intro h
    have := idx_at tag (by omega)
    rw [h] at this; simpa using this
theorem idx_not (tag : ByteArray) (k : Nat) (hk : k < 11) (h : idx tag ≠ k) : (tagAt k == tag.toList) = false := by
  cases e : (tagAt k == tag.toList)
  · rfl
  · exact absurd ((idx_iff tag k hk).1 e) h
/-! how an image is cut -/
def lenK (k : Int) : Int := if k = 0 then 2048 else if k = 1 then 2048 else if k = 2 then 4096 else if k = 3 then 8192 else if k = 4 then 32768 else if k = 5 then 32768 else if k = 6 then 16384 else if k = 7 then 16384 else if k = 8 then 8192 else if k = 9 then 8192 else if k = 10 then 8192 else 0
def sizeK (k : Int) : Int := if k = 0 then 2048 else if k = 1 then 2048 else if k = 2 then 4096 else if k = 3 then 1024 else if k = 4 then 4096 else if k = 5 then 4096 else if k = 6 then 4096 else if k = 7 then 4096 else if k = 8 then 4096 else if k = 9 then 4096 else if k = 10 then 4096 else 4096
def extK (k : Int) : Bool := if k = 0 then false else if k = 1 then false else if k = 2 then false else if k = 3 then false else if k = 4 then false else if k = 5 then true else if k = 6 then false else if k = 7 then true else if k = 8 then false else if k = 9 then true else if k = 10 then false else false
def fitsK (k n : Int) : Bool := if k = 1 then (decide (0 < n) && (decide (n ≤ 524288) && (n % 2048 == 0))) else (n == lenK k)
def okK (k n : Int) : Bool := decide (0 ≤ k) && fitsK k n
def errK (k n : Int) : Int := if k < 0 then 3 else if fitsK k n then 0 else 4
def banksK (k n : Int) : Int := if okK k n then n / sizeK k else 0
def szK (k n : Int) : Int := if okK k n then sizeK k else 0
def winsK (k n : Int) : Int := if okK k n then 4096 / sizeK k else 0
def exK (k n : Int) : Bool := if okK k n then extK k else false
def shape (k n : Int) : Value := .agg #[.int .i64 (banksK k n), .int .i64 (szK k n), .int .i64 (winsK k n), .bool (exK k n)]
def firstK (k n : Int) : List Int := if okK k n then (if k = 0 then [0, 0] else if k = 1 then [0, n / 2048 - 1] else if k = 3 then [4, 5, 6, 7] else if k = 10 then [0] else [n / sizeK k - 1]) else []
theorem toList_of (tag : ByteArray) (k : Nat) (hk : k < 11) (h : idx tag = k) : tag.toList = tagAt k := (beq_iff_eq.1 ((idx_iff tag k hk).2 h)).symm
theorem size_toList (tag : ByteArray) : tag.size = tag.toList.length := by
  rw [Lib.toList_data]; exact Lib.size_eq tag
end Go.Proofs.Ytfdmbgmhgbhggaa.Img
