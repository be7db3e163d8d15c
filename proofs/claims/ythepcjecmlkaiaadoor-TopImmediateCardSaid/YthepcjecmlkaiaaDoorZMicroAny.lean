/- Package micro: Pins and Clock of any processor. -/
import Derived.Test.YthepcjecmlkaiaaDoorZMicroP12
import Derived.Test.YthepcjecmlkaiaaDoorZMicroP3
import Derived.Test.YthepcjecmlkaiaaDoorZMicroP4
import Derived.Test.YthepcjecmlkaiaaDoorZMicroK3
import Derived.Test.YthepcjecmlkaiaaDoorZMicroK4
import Derived.Test.YthepcjecmlkaiaaDoorZMicroK5
import Derived.Test.YthepcjecmlkaiaaDoorZMicroK6
namespace Go.Proofs.YthepcjecmlkaiaaDoor.Mi
open Go Go.RowKit Go.Proofs.YthepcjecmlkaiaaDoor Go.Proofs.YthepcjecmlkaiaaDoor.Ex
set_option linter.unusedVariables false
theorem step_cases {P : Prop} {c : Cp} (ok : c.ok) (k : ∀ n : Nat, n ≤ 56 → c.t = (n : Int) → P) : P := k c.t.toNat (by have := ok.t0; have := ok.t1; omega) (by have := ok.t0; omega)
theorem pins_any (c : Cp) (ok : c.ok) (w : World) (B : Nat) (hS : CpuS w B c) : Calls Tryd.prog 11 #[.pointer (some ⟨B, 0, none⟩)] w fun e w' => e = .returned (pinV (pinsF c)) ∧ Below w.heap.size w w' := by
  have h0 := ok.t0
  have h1 := ok.t1
  unfold pinsF
  rcases (by omega : c.t = 0 ∨ c.t = 1 ∨ c.t = 2 ∨ c.t = 3 ∨ c.t = 4 ∨ c.t = 5 ∨ c.t = 6 ∨ c.t = 7 ∨ c.t = 8 ∨ c.t = 9 ∨ c.t = 10 ∨ c.t = 11 ∨ c.t = 12 ∨ c.t = 13 ∨ c.t = 14 ∨ c.t = 15 ∨ c.t = 16 ∨ c.t = 17 ∨ c.t = 18 ∨ c.t = 19 ∨ c.t = 20 ∨ c.t = 21 ∨ c.t = 22 ∨ c.t = 23 ∨ c.t = 24 ∨ c.t = 25 ∨ c.t = 26 ∨ c.t = 27 ∨ c.t = 28 ∨ c.t = 29 ∨ c.t = 30 ∨ c.t = 31 ∨ c.t = 32 ∨ c.t = 33 ∨ c.t = 34 ∨ c.t = 35 ∨ c.t = 36 ∨ c.t = 37 ∨ c.t = 38 ∨ c.t = 39 ∨ c.t = 40 ∨ c.t = 41 ∨ c.t = 42 ∨ c.t = 43 ∨ c.t = 44 ∨ c.t = 45 ∨ c.t = 46 ∨ c.t = 47 ∨ c.t = 48 ∨ c.t = 49 ∨ c.t = 50 ∨ c.t = 51 ∨ c.t = 52 ∨ c.t = 53 ∨ c.t = 54 ∨ c.t = 55 ∨ c.t = 56) with h | h | h | h | h | h | h | h | h | h | h | h | h | h | h | h | h | h | h | h | h | h | h | h | h | h | h | h | h | h | h | h | h | h | h | h | h | h | h | h | h | h | h | h | h | h | h | h | h | h | h | h | h | h | h | h | h
  · rw [show c.t.toNat = 0 from by rw [h]; rfl]; exact pins_0 c ok w B hS h
  · rw [show c.t.toNat = 1 from by rw [h]; rfl]; exact pins_1 c ok w B hS h
  · rw [show c.t.toNat = 2 from by rw [h]; rfl]; exact pins_2 c ok w B hS h
  · rw [show c.t.toNat = 3 from by rw [h]; rfl]; exact pins_3 c ok w B hS h
  · rw [show c.t.toNat = 4 from by rw [h]; rfl]; exact pins_4 c ok w B hS h
  · rw [show c.t.toNat = 5 from by rw [h]; rfl]; exact pins_5 c ok w B hS h
  · rw [show c.t.toNat = 6 from by rw [h]; rfl]; exact pins_6 c ok w B hS h
  · rw [show c.t.toNat = 7 from by rw [h]; rfl]; exact pins_7 c ok w B hS h
  · rw [show c.t.toNat = 8 from by rw [h]; rfl]; exact pins_8 c ok w B hS h
  · rw [show c.t.toNat = 9 from by rw [h]; rfl]; exact pins_9 c ok w B hS h
  · rw [show c.t.toNat = 10 from by rw [h]; rfl]; exact pins_10 c ok w B hS h
  · rw [show c.t.toNat = 11 from by rw [h]; rfl]; exact pins_11 c ok w B hS h
  · rw [show c.t.toNat = 12 from by rw [h]; rfl]; exact pins_12 c ok w B hS h
  · rw [show c.t.toNat = 13 from by rw [h]; rfl]; exact pins_13 c ok w B hS h
  · rw [show c.t.toNat = 14 from by rw [h]; rfl]; exact pins_14 c ok w B hS h
  · rw [show c.t.toNat = 15 from by rw [h]; rfl]; exact pins_15 c ok w B hS h
  · rw [show c.t.toNat = 16 from by rw [h]; rfl]; exact pins_16 c ok w B hS h
  · rw [show c.t.toNat = 17 from by rw [h]; rfl]; exact pins_17 c ok w B hS h
  · rw [show c.t.toNat = 18 from by rw [h]; rfl]; exact pins_18 c ok w B hS h
  · rw [show c.t.toNat = 19 from by rw [h]; rfl]; exact pins_19 c ok w B hS h
  · rw [show c.t.toNat = 20 from by rw [h]; rfl]; exact pins_20 c ok w B hS h
  · rw [show c.t.toNat = 21 from by rw [h]; rfl]; exact pins_21 c ok w B hS h
  · rw [show c.t.toNat = 22 from by rw [h]; rfl]; exact pins_22 c ok w B hS h
  · rw [show c.t.toNat = 23 from by rw [h]; rfl]; exact pins_23 c ok w B hS h
  · rw [show c.t.toNat = 24 from by rw [h]; rfl]; exact pins_24 c ok w B hS h
  · rw [show c.t.toNat = 25 from by rw [h]; rfl]; exact pins_25 c ok w B hS h
  · rw [show c.t.toNat = 26 from by rw [h]; rfl]; exact pins_26 c ok w B hS h
  · rw [show c.t.toNat = 27 from by rw [h]; rfl]; exact pins_27 c ok w B hS h
  · rw [show c.t.toNat = 28 from by rw [h]; rfl]; exact pins_28 c ok w B hS h
  · rw [show c.t.toNat = 29 from by rw [h]; rfl]; exact pins_29 c ok w B hS h
  · rw [show c.t.toNat = 30 from by rw [h]; rfl]; exact pins_30 c ok w B hS h
  · rw [show c.t.toNat = 31 from by rw [h]; rfl]; exact pins_31 c ok w B hS h
  · rw [show c.t.toNat = 32 from by rw [h]; rfl]; exact pins_32 c ok w B hS h
  · rw [show c.t.toNat = 33 from by rw [h]; rfl]; exact pins_33 c ok w B hS h
  · rw [show c.t.toNat = 34 from by rw [h]; rfl]; exact pins_34 c ok w B hS h
  · rw [show c.t.toNat = 35 from by rw [h]; rfl]; exact pins_35 c ok w B hS h
  · rw [show c.t.toNat = 36 from by rw [h]; rfl]; exact pins_36 c ok w B hS h
  · rw [show c.t.toNat = 37 from by rw [h]; rfl]; exact pins_37 c ok w B hS h
  · rw [show c.t.toNat = 38 from by rw [h]; rfl]; exact pins_38 c ok w B hS h
  · rw [show c.t.toNat = 39 from by rw [h]; rfl]; exact pins_39 c ok w B hS h
  · rw [show c.t.toNat = 40 from by rw [h]; rfl]; exact pins_40 c ok w B hS h
  · rw [show c.t.toNat = 41 from by rw [h]; rfl]; exact pins_41 c ok w B hS h
  · rw [show c.t.toNat = 42 from by rw [h]; rfl]; exact pins_42 c ok w B hS h
  · rw [show c.t.toNat = 43 from by rw [h]; rfl]; exact pins_43 c ok w B hS h
  · rw [show c.t.toNat = 44 from by rw [h]; rfl]; exact pins_44 c ok w B hS h
  · rw [show c.t.toNat = 45 from by rw [h]; rfl]; exact pins_45 c ok w B hS h
  · rw [show c.t.toNat = 46 from by rw [h]; rfl]; exact pins_46 c ok w B hS h
  · rw [show c.t.toNat = 47 from by rw [h]; rfl]; exact pins_47 c ok w B hS h
  · rw [show c.t.toNat = 48 from by rw [h]; rfl]; exact pins_48 c ok w B hS h
  · rw [show c.t.toNat = 49 from by rw [h]; rfl]; exact pins_49 c ok w B hS h
  · rw [show c.t.toNat = 50 from by rw [h]; rfl]; exact pins_50 c ok w B hS h
  · rw [show c.t.toNat = 51 from by rw [h]; rfl]; exact pins_51 c ok w B hS h
  · rw [show c.t.toNat = 52 from by rw [h]; rfl]; exact pins_52 c ok w B hS h
  · rw [show c.t.toNat = 53 from by rw [h]; rfl]; exact pins_53 c ok w B hS h
  · rw [show c.t.toNat = 54 from by rw [h]; rfl]; exact pins_54 c ok w B hS h
  · rw [show c.t.toNat = 55 from by rw [h]; rfl]; exact pins_55 c ok w B hS h
  · rw [show c.t.toNat = 56 from by rw [h]; rfl]; exact pins_56 c ok w B hS h
theorem clock_any (c : Cp) (ok : c.ok) (w : World) (B : Nat) (hS : CpuS w B c) (hG : Co.Gl w) (v : Int) (v0 : 0 ≤ v) (v1 : v ≤ 255) : Calls Tryd.prog 10 #[.pointer (some ⟨B, 0, none⟩), .int .u8 v] w (MPost w B (clockF c v)) := by
  have h0 := ok.t0
  have h1 := ok.t1
  unfold clockF
  rcases (by omega : c.t = 0 ∨ c.t = 1 ∨ c.t = 2 ∨ c.t = 3 ∨ c.t = 4 ∨ c.t = 5 ∨ c.t = 6 ∨ c.t = 7 ∨ c.t = 8 ∨ c.t = 9 ∨ c.t = 10 ∨ c.t = 11 ∨ c.t = 12 ∨ c.t = 13 ∨ c.t = 14 ∨ c.t = 15 ∨ c.t = 16 ∨ c.t = 17 ∨ c.t = 18 ∨ c.t = 19 ∨ c.t = 20 ∨ c.t = 21 ∨ c.t = 22 ∨ c.t = 23 ∨ c.t = 24 ∨ c.t = 25 ∨ c.t = 26 ∨ c.t = 27 ∨ c.t = 28 ∨ c.t = 29 ∨ c.t = 30 ∨ c.t = 31 ∨ c.t = 32 ∨ c.t = 33 ∨ c.t = 34 ∨ c.t = 35 ∨ c.t = 36 ∨ c.t = 37 ∨ c.t = 38 ∨ c.t = 39 ∨ c.t = 40 ∨ c.t = 41 ∨ c.t = 42 ∨ c.t = 43 ∨ c.t = 44 ∨ c.t = 45 ∨ c.t = 46 ∨ c.t = 47 ∨ c.t = 48 ∨ c.t = 49 ∨ c.t = 50 ∨ c.t = 51 ∨ c.t = 52 ∨ c.t = 53 ∨ c.t = 54 ∨ c.t = 55 ∨ c.t = 56) with h | h | h | h | h | h | h | h | h | h | h | h | h | h | h | h | h | h | h | h | h | h | h | h | h | h | h | h | h | h | h | h | h | h | h | h | h | h | h | h | h | h | h | h | h | h | h | h | h | h | h | h | h | h | h | h | h
  · rw [show c.t.toNat = 0 from by rw [h]; rfl]; exact clock_0 c ok w B hS hG h v v0 v1
  · rw [show c.t.toNat = 1 from by rw [h]; rfl]; exact clock_1 c ok w B hS h v v0 v1
  · rw [show c.t.toNat = 2 from by rw [h]; rfl]; exact clock_2 c ok w B hS h v v0 v1
  · rw [show c.t.toNat = 3 from by rw [h]; rfl]; exact clock_3 c ok w B hS h v v0 v1
  · rw [show c.t.toNat = 4 from by rw [h]; rfl]; exact clock_4 c ok w B hS h v v0 v1
  · rw [show c.t.toNat = 5 from by rw [h]; rfl]; exact clock_5 c ok w B hS h v v0 v1
  · rw [show c.t.toNat = 6 from by rw [h]; rfl]; exact clock_6 c ok w B hS h v v0 v1
  · rw [show c.t.toNat = 7 from by rw [h]; rfl]; exact clock_7 c ok w B hS h v v0 v1
  · rw [show c.t.toNat = 8 from by rw [h]; rfl]; exact clock_8 c ok w B hS h v v0 v1
  · rw [show c.t.toNat = 9 from by rw [h]; rfl]; exact clock_9 c ok w B hS h v v0 v1
  · rw [show c.t.toNat = 10 from by rw [h]; rfl]; exact clock_10 c ok w B hS h v v0 v1
  · rw [show c.t.toNat = 11 from by rw [h]; rfl]; exact clock_11 c ok w B hS h v v0 v1
  · rw [show c.t.toNat = 12 from by rw [h]; rfl]; exact clock_12 c ok w B hS h v v0 v1
  · rw [show c.t.toNat = 13 from by rw [h]; rfl]; exact clock_13 c ok w B hS h v v0 v1
  · rw [show c.t.toNat = 14 from by rw [h]; rfl]; exact clock_14 c ok w B hS h v v0 v1
  · rw [show c.t.toNat = 15 from by rw [h]; rfl]; exact clock_15 c ok w B hS h v v0 v1
  · rw [show c.t.toNat = 16 from by rw [h]; rfl]; exact clock_16 c ok w B hS h v v0 v1
  · rw [show c.t.toNat = 17 from by rw [h]; rfl]; exact clock_17 c ok w B hS h v v0 v1
  · rw [show c.t.toNat = 18 from by rw [h]; rfl]; exact clock_18 c ok w B hS h v v0 v1
  · rw [show c.t.toNat = 19 from by rw [h]; rfl]; exact clock_19 c ok w B hS h v v0 v1
  · rw [show c.t.toNat = 20 from by rw [h]; rfl]; exact clock_20 c ok w B hS h v v0 v1
  · rw [show c.t.toNat = 21 from by rw [h]; rfl]; exact clock_21 c ok w B hS h v v0 v1
  · rw [show c.t.toNat = 22 from by rw [h]; rfl]; exact clock_22 c ok w B hS h v v0 v1
  · rw [show c.t.toNat = 23 from by rw [h]; rfl]; exact clock_23 c ok w B hS h v v0 v1
  · rw [show c.t.toNat = 24 from by rw [h]; rfl]; exact clock_24 c ok w B hS h v v0 v1
  · rw [show c.t.toNat = 25 from by rw [h]; rfl]; exact clock_25 c ok w B hS h v v0 v1
  · rw [show c.t.toNat = 26 from by rw [h]; rfl]; exact clock_26 c ok w B hS h v v0 v1
  · rw [show c.t.toNat = 27 from by rw [h]; rfl]; exact clock_27 c ok w B hS h v v0 v1
  · rw [show c.t.toNat = 28 from by rw [h]; rfl]; exact clock_28 c ok w B hS h v v0 v1
  · rw [show c.t.toNat = 29 from by rw [h]; rfl]; exact clock_29 c ok w B hS h v v0 v1
  · rw [show c.t.toNat = 30 from by rw [h]; rfl]; exact clock_30 c ok w B hS h v v0 v1
  · rw [show c.t.toNat = 31 from by rw [h]; rfl]; exact clock_31 c ok w B hS h v v0 v1
  · rw [show c.t.toNat = 32 from by rw [h]; rfl]; exact clock_32 c ok w B hS h v v0 v1
  · rw [show c.t.toNat = 33 from by rw [h]; rfl]; exact clock_33 c ok w B hS h v v0 v1
  · rw [show c.t.toNat = 34 from by rw [h]; rfl]; exact clock_34 c ok w B hS h v v0 v1
  · rw [show c.t.toNat = 35 from by rw [h]; rfl]; exact clock_35 c ok w B hS h v v0 v1
  · rw [show c.t.toNat = 36 from by rw [h]; rfl]; exact clock_36 c ok w B hS h v v0 v1
  · rw [show c.t.toNat = 37 from by rw [h]; rfl]; exact clock_37 c ok w B hS h v v0 v1
  · rw [show c.t.toNat = 38 from by rw [h]; rfl]; exact clock_38 c ok w B hS h v v0 v1
  · rw [show c.t.toNat = 39 from by rw [h]; rfl]; exact clock_39 c ok w B hS h v v0 v1
  · rw [show c.t.toNat = 40 from by rw [h]; rfl]; exact clock_40 c ok w B hS h v v0 v1
  · rw [show c.t.toNat = 41 from by rw [h]; rfl]; exact clock_41 c ok w B hS h v v0 v1
  · rw [show c.t.toNat = 42 from by rw [h]; rfl]; exact clock_42 c ok w B hS h v v0 v1
  · rw [show c.t.toNat = 43 from by rw [h]; rfl]; exact clock_43 c ok w B hS h v v0 v1
  · rw [show c.t.toNat = 44 from by rw [h]; rfl]; exact clock_44 c ok w B hS h v v0 v1
  · rw [show c.t.toNat = 45 from by rw [h]; rfl]; exact clock_45 c ok w B hS h v v0 v1
  · rw [show c.t.toNat = 46 from by rw [h]; rfl]; exact clock_46 c ok w B hS h v v0 v1
  · rw [show c.t.toNat = 47 from by rw [h]; rfl]; exact clock_47 c ok w B hS h v v0 v1
  · rw [show c.t.toNat = 48 from by rw [h]; rfl]; exact clock_48 c ok w B hS h v v0 v1
  · rw [show c.t.toNat = 49 from by rw [h]; rfl]; exact clock_49 c ok w B hS h v v0 v1
  · rw [show c.t.toNat = 50 from by rw [h]; rfl]; exact clock_50 c ok w B hS h v v0 v1
  · rw [show c.t.toNat = 51 from by rw [h]; rfl]; exact clock_51 c ok w B hS h v v0 v1
  · rw [show c.t.toNat = 52 from by rw [h]; rfl]; exact clock_52 c ok w B hS h v v0 v1
  · rw [show c.t.toNat = 53 from by rw [h]; rfl]; exact clock_53 c ok w B hS h v v0 v1
  · rw [show c.t.toNat = 54 from by rw [h]; rfl]; exact clock_54 c ok w B hS h v v0 v1
  · rw [show c.t.toNat = 55 from by rw [h]; rfl]; exact clock_55 c ok w B hS h v v0 v1
  · rw [show c.t.toNat = 56 from by rw [h]; rfl]; exact clock_56 c ok w B hS h v v0 v1
end Go.Proofs.YthepcjecmlkaiaaDoor.Mi
