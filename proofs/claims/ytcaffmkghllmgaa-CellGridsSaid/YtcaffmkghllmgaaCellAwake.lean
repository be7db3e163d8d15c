/- The laws of package cell: what the chapter's examples say comes to true. -/
import Derived.Test.YtcaffmkghllmgaaCellUp
import Derived.Test.YtcaffmkghllmgaaCellNew
import Derived.Lib.SlBytesConst
namespace Go.Proofs.Ytcaffmkghllmgaa.Cl
open Go.RowKit Go.Deep
set_option linter.unusedVariables false
set_option linter.unusedSimpArgs false

set_option maxRecDepth 100000 in
theorem awake_any (w : World) :
    Calls Try.prog 14 #[] w fun e w' => e = .returned (.bool true) ∧ Below w.heap.size w w' := by
  go_enter Try.func14, Try.ntmps14
  go_wp2_with fail
  refine (newring_string w 2 (by decide) (by decide)).mono ?_
  rintro e w1 ⟨rfl, hr1, hb1, hs1⟩
  generalize hB : w.heap.size + 1 = B at *
  go_wp2_with fail
  refine (putlt_string w1 B w.heap.size 2 0 0 _ hr1 (by decide) ⟨#[49]⟩).mono ?_
  rintro e w2 ⟨rfl, hr2, ho2⟩
  have hb2 := ho2.below hb1 (by omega) (Nat.le_refl _)
  go_wp2_with fail
  refine (putlt_string w2 B w.heap.size 2 0 1 _ hr2 (by decide) ⟨#[50]⟩).mono ?_
  rintro e w3 ⟨rfl, hr3, ho3⟩
  have hb3 := ho3.below hb2 (by omega) (Nat.le_refl _)
  go_wp2_with fail
  refine (putfull_string w3 B w.heap.size 2 0 2 _ hr3 rfl ⟨#[51]⟩ ⟨#[49]⟩ rfl).mono ?_
  rintro e w4 ⟨rfl, hr4, ho4⟩
  have hb4 := ho4.below hb3 (by omega) (Nat.le_refl _)
  have hs4 := hb4.size
  generalize hC4 : (((List.replicate 2 (Value.string ⟨#[]⟩)).set ((0 + 0) % 2) (Value.string ⟨#[49]⟩)).set ((0 + 1) % 2) (Value.string ⟨#[50]⟩)).set 0 (Value.string ⟨#[51]⟩) = C4 at hr4
  clear hC4 hr1 hr2 hr3 hb1 hb2 hb3 ho2 ho3 ho4
  have kc := Lib.run_convert_bytes_const (P := Try.prog) w4 73 5 #[.int .u8 97, .int .u8 97, .int .u8 98] 3 3 Try.underlying73 Try.underlying5
  go_wp2_with fail
  refine (pack_byte _ _ [97, 97, 98] (lies_block (heap_alloc_new w4 _) rfl (by decide)) (by decide)).mono ?_
  rintro e w5 ⟨v, rfl, hown5, hb5⟩
  rw [show pack [97, 97, 98] = [(97, 2), (98, 1)] from rfl] at hown5
  obtain ⟨g5, cap5, rfl, hg5, hlt5⟩ := hown5.form (by decide)
  have hc5 : w5.cell? ⟨g5, 1, none⟩ = some (.int .i64 2) := (hown5.cellAt 1 (by decide)).trans rfl
  have hb45 : Below w4.heap.size w4 w5 := ((Below.refl _ w4).alloc (Nat.le_refl _) (.cells (List.map (Value.int .u8) [97, 97, 98]).toArray 5 (3, 4))).trans (hb5.mono (by simp))
  have hr5 := hr4.below hb45
  have hb50 := hb4.trans (hb45.mono hs4)
  have hs5 := hb50.size
  clear hown5 hb5 hb45 hr4 kc hb4
  go_wp2_with fail
  refine (unpack_int _ _ [(1, 3)] 2 (lies_block (heap_alloc_new w5 _) rfl (by decide)) (by decide) (by decide) (by decide) (.inl (by decide))).mono ?_
  rintro e w6 ⟨v, rfl, _, hb6⟩
  rw [show (unp 2 [] [(1, 3)]).2 = 13 from rfl]
  have hb56 : Below w5.heap.size w5 w6 := ((Below.refl _ w5).alloc (Nat.le_refl _) (.cells (rcs .i64 [(1, 3)]).toArray 28)).trans (hb6.mono (by simp))
  have hr6 := hr5.below hb56
  have hb60 := hb50.trans (hb56.mono hs5)
  have hc6 : w6.cell? ⟨g5, 1, none⟩ = some (.int .i64 2) := (hb56.cell hlt5).trans hc5
  clear hb6 hb56 hr5 hb50 hc5
  go_wp2_with fail
  refine (len_string _ _ _ _ _ _ _ hr6).mono ?_
  rintro e w7 ⟨rfl, rfl⟩
  go_wp2_with fail
  go_ret
  exact ⟨rfl, hb60⟩
end Go.Proofs.Ytcaffmkghllmgaa.Cl
