/- The law of any colour's red, green, blue: its walk. -/
import Derived.Test.YtbfdlfhidebjlaaFrAwake
import Derived.Test.YtbfdlfhidebjlaaFrShade
namespace Go.Proofs.Ytbfdlfhidebjlaa
open Go.RowKit Go.Deep Cl
set_option linter.unusedVariables false
set_option linter.unusedSimpArgs false

theorem items_same {P : Program} (w : World) (d : Nat) (e : TypeId) (k : IntKind) (xs : List Int) (he : P.plainKey e = true) (hu : P.underlying e = some (.int k)) (L : List Nat) (hL : ∀ i ∈ L, i < xs.length) :
    (Op.eqItems (d + 1) e 1 (xs.map (Value.int k)).toArray (xs.map (Value.int k)).toArray L).run P w = .ok true w := by
  induction L with
  | nil => simp [Op.eqItems]
  | cons j t ih =>
    have hj := hL j (by simp)
    have hx : (xs.map (Value.int k)).toArray[j * 1]? = some (.int k xs[j]) := by simp [hj]
    simp only [Op.eqItems, Sem.run_bind, run_part_plain w he hx, Result.andThen_ok, run_equalIn_int w d e k k _ _ hu]
    simpa using ih fun i hi => hL i (by simp [hi])
theorem same_ints {P : Program} (w : World) (d : Nat) (t e : TypeId) (n : Nat) (i : TypeInfo) (k : IntKind) (xs : List Int) (ht : P.underlying t = some (.array n e)) (hi : P.info? e = some i) (hc : P.cellsOf e = 1) (he : P.plainKey e = true) (hu : P.underlying e = some (.int k)) (hl : xs.length = n) :
    (Op.equalIn (d + 2) t (.agg (xs.map (Value.int k)).toArray) (.agg (xs.map (Value.int k)).toArray)).run P w = .ok true w := by
  rw [run_equalIn_array w (d + 1) _ _ ht hi, hc]
  exact items_same w d e k xs he hu _ fun i hi => by rw [hl]; exact List.mem_range.1 hi
theorem same_3 (w : World) (x y z : Int) : (Op.equalIn 10000 48 (.agg #[.int .u8 x, .int .u8 y, .int .u8 z]) (.agg #[.int .u8 x, .int .u8 y, .int .u8 z])).run Try.prog w = .ok true w := by
  obtain ⟨i0, hi, _⟩ := info_parts info_u8
  exact same_ints w 9998 _ 5 3 i0 .u8 [x, y, z] Try.underlying48 hi (by kernel_rfl) (by kernel_rfl) Try.underlying5 rfl
set_option maxRecDepth 100000 in
theorem frameShades_walk (c : Int) (w : World) (h0 : 0 ≤ c) (h1 : c ≤ 255) : Calls Try.prog 6 #[.int .u8 c] w fun e w' => e = .returned (.bool true) ∧ Below w.heap.size w w' := by
  have k1 := shade_any w c h0 h1
  have k2 := fun w => rshade_any w c h0 h1
  have keq := fun w => same_3 w (shadeF c).1 (shadeF c).2.1 (shadeF c).2.2
  generalize (shadeF c).1 = x at *
  generalize (shadeF c).2.1 = y at *
  generalize (shadeF c).2.2 = z at *
  go_enter Try.func6, Try.ntmps6
  go_wp2_with fail
  refine k1.mono ?_
  rintro e w1 ⟨rfl, hb1⟩
  go_wp2_with fail
  refine (k2 w1).mono ?_
  rintro e w2 ⟨rfl, hb2⟩
  have hb3 := hb1.trans (hb2.mono hb1.size)
  go_wp2_with fail
  refine (awake_any _).mono ?_
  rintro e w3 ⟨rfl, hb4⟩
  have hb5 := hb3.trans (hb4.mono hb3.size)
  go_wp2
  go_ret
  exact ⟨rfl, hb5⟩
end Go.Proofs.Ytbfdlfhidebjlaa
