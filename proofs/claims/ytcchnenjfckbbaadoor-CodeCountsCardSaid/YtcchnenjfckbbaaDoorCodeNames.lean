/- Package code: Names. -/
import Derived.Test.YtcchnenjfckbbaaDoorCodeFind
import Derived.Maps.AppendAt
import Derived.Sort.OwnSorted
import Derived.Lib.RowBridge
namespace Go.Proofs.YtcchnenjfckbbaaDoor.Co
open Go.RowKit Go.Shelf Go.Deep Go.Sort
attribute [local go_sem] Oper.semAt_some
set_option linter.unusedVariables false
set_option linter.unusedSimpArgs false
theorem info_str : (Tryd.prog.info? 9).map (fun i => (i.zero, i.size, i.bytes)) = some (some (.string ⟨#[]⟩), 1, 16) := by kernel_rfl
def nmL (x : Nat) : List UInt8 := (nameO x).data.toList
def allN : List (List UInt8) := (List.range 256).map nmL
def sortN : List (List UInt8) := allN.mergeSort fun x y => decide (x ≤ y)
/-- A round's own. -/
def AxN (w : World) (x : Nat) (a : Act) (W : World) : Prop :=
  ∃ C, w.heap.size + 1 ≤ C ∧ W.heap[C]? = some (.cells #[.string (nameO x), .int .u8 (modeO x), .int .u8 (kindC x), .bool (knownC x)] 25 (0, 0)) ∧
    a = { tmps := #[.slice none 0 0, .pointer (some ⟨w.heap.size, 0, none⟩), undef, .pointer (some ⟨C, 0, none⟩), .func (.func 33) #[] #[], .int .u8 (x : Int), codeV x, undef, undef, undef, undef, undef, undef, undef, undef, undef], defers := [] }
def INm (w : World) (pre : List Nat) (W : World) : Prop :=
  (∃ v, Boxed W w.heap.size 38 v ∧ W.ownsRow w.heap.size 9 1 v pre.length ((pre.map nmL).map encStr) ∧ True) ∧ Below w.heap.size w W
set_option maxRecDepth 100000 in
set_option maxHeartbeats 2000000 in
theorem names_any (w : World) (hG : Gl w) :
    Calls Tryd.prog 16 #[] w fun e W' => ∃ g cap, e = .returned (.slice (some ⟨g, 0, none⟩) (Lib.compact sortN).length cap) ∧ w.heap.size ≤ g ∧ Below w.heap.size w W' ∧ (∀ i b, (Lib.compact sortN)[i]? = some b → W'.cell? ⟨g, i, none⟩ = some (.string ⟨b.toArray⟩)) := by
  obtain ⟨i0, hi, hz0, hz1, hz2⟩ := info_parts info_str
  refine (callsIn_wide (n := 5)).1 ?_
  refine callsIn_of_wp_marks Tryd.func16 rfl trivial ?_ rfl
  simp only [Tryd.ntmps16, List.size_toArray, List.length_cons, List.length_nil, Nat.reduceAdd, Nat.reduceSub, Array.replicate_succ, Array.replicate_zero, List.push_toArray, List.append_toArray, List.nil_append, List.cons_append]
  gi_wp2_with fail
  refine ⟨trivial, (all_any Fence.wide _ trivial rfl _).mono ?_⟩
  rintro e w' ⟨rfl, rfl⟩
  gi_wp2_with fail
  have bO := Boxed.new w 38 (.slice none 0 0)
  have hB0 : Below w.heap.size w (w.alloc (.cells #[.slice none 0 0] 38)) := (Below.refl _ w).alloc (Nat.le_refl _) _
  have hz6 : (w.alloc (.cells #[.slice none 0 0] 38)).heap.size = w.heap.size + 1 := by simp only [World.size_alloc]
  generalize w.alloc (.cells #[.slice none 0 0] 38) = v6 at *
  refine wpIn_rangeFunc_ownH rfl (by decide) (gf := 33) (lb := #[]) rfl trivial (enters_of Tryd.func33 (by kernel_rfl) rfl)
    (all_stops _ (by decide) w hG v6 hB0) belowK_t (belowK_b (by omega)) (Below.refl _ _) (fun _ => rfl)
    (INm w) (fun _ _ _ => False)
    (OwnFrom.and (Own.from (holdsRow_own w.heap.size w.heap.size 38 9 1 (fun pre : List Nat => pre.length) (fun pre => (pre.map nmL).map encStr) (fun _ _ => True)) _) (ownFrom_below (Nat.le_refl _) (by omega)))
    (fun _ _ _ _ _ hs _ _ => hs)
    ⟨⟨_, bO, World.ownsRow_nil _ _ _ _, trivial⟩, hB0⟩
    (AxN w)
    (fun x a' _ A B row h hg hr => by
      obtain ⟨C, hC, h1, h2⟩ := h
      exact ⟨C, hC, (hg.block C (Array.getElem?_eq_some_iff.1 h1).1 (fun e => by obtain ⟨o, ho, hc⟩ := (hr C e.symm).2; rw [h1] at ho; cases ho; cases hc)).trans h1, h2⟩)
    ?assign ?body ?done ?stop
  case assign =>
    intro l pre x W K hI hK
    simp only [encO, codeV]
    gi_wp2
    obtain ⟨⟨v, h1, h2, _⟩, h3⟩ := hI
    exact hK _ _ (KeepsFrom.of_grownBy (World.grownBy_alloc W _ none) (fun j e => by cases e)) ((Below.refl _ W).alloc h3.size _) ⟨⟨v, h1.alloc _, h2.alloc _, trivial⟩, h3.alloc h3.size _⟩ ⟨W.heap.size, h1.lt, World.alloc_heap_new W _, rfl⟩
  case body =>
    rintro l pre x a' W hl ⟨r, hr⟩ ⟨⟨v, hv, hrow, _⟩, hB⟩ ⟨C, hC, hCr, rfl⟩ hlt'
    have hc := hv.cell
    have c0 : W.cell? ⟨C, 0, none⟩ = some (.string (nameO x)) := by rw [cell_of_row W C 0 _ _ _ hCr]; rfl
    gi_wp2_with (gi_at_builtin; refine wpListIn_append_own _ rfl _ _ 38 rfl w.heap.size 9 i0 (.string ⟨#[]⟩) 1 16 Tryd.underlying38 hi hz0 hz1 hz2 rfl (by decide) _ _ _ rfl (hrow.alloc _) ⟨W.heap.size, 0, none⟩ 1 1 [.string (nameO x)] rfl rfl (cell_one_new _ _ _) (by simp [Value.oneCell']) (by simp only [maxLen]; omega) (by omega) (by have := hB.size; simp; omega) ?_; intro v' w1 hown' hgrow _; obtain ⟨g', cap', rfl⟩ := ownsRow_succ hown'; obtain ⟨hv1, hv2, hr2, hk2, hb2⟩ := hv.appended (by decide) hrow hB.size (Nat.le_refl _) hown' hgrow; have hc1 := hv1.cell; have hf1 := hv1.frozen)
    exact ⟨hk2.from _, hb2, ⟨⟨_, hv2, by simpa [nmL, encStr] using hr2, trivial⟩, hB.trans hb2⟩⟩
  case done =>
    rintro D ys W hD rfl ⟨⟨v, hv, hrow, _⟩, hB⟩ hK
    have hc := hv.cell
    rw [List.length_range] at hrow
    have hrow' : W.ownsRow w.heap.size 9 1 v 256 (allN.map encStr) := hrow
    rcases hrow'.2 with ⟨_, h0⟩ | ⟨g, cap, cur, rfl, hbase, hb, h1, h2, h3, h4⟩
    · omega
    have hal : allN.length = 256 := by simp [allN]
    have hsl : sortN.length = 256 := by simp [sortN, hal]
    have hgl : g < W.heap.size := (Array.getElem?_eq_some_iff.1 hb).1
    have kS := Tryd.slices_Sort_string g 0 cap allN W (holds_of_block hb (by rw [hal]; simpa using h4)) hgl (by rw [hal]; decide)
    rw [hal] at kS
    have KS := Lib.hid ((callsIn_wide (n := 4)).2 kS)
    have hHC := fun (W2 : World) (hh : Holds encStr W2 g 0 sortN.toArray) => Tryd.slices_Compact_string g 0 cap sortN W2 hh (by rw [hsl]; decide) (by rw [hsl]; exact h1)
    rw [hsl] at hHC
    have HC := Lib.hid fun W2 hh => (callsIn_wide (n := 4)).2 (hHC W2 hh)
    clear kS hHC
    have hne := hv.not_row (by decide) hrow'
    gi_wp2_with fail
    refine ⟨trivial, KS.out.mono ?_⟩
    rintro e W2 ⟨rfl, n, os, hW2⟩
    have hg2 : W.grownBy W2 (some g) := by rw [hW2]; exact grownBy_sorted _
    have hb2 : W2.heap[g]? = some (.cells (putCells encStr 0 sortN.toArray cur) 9 (0, 0)) := by rw [hW2]; exact heap_sorted _ hb
    have hv2 := hv.kept hg2 hne
    have hc2 := hv2.cell
    have hB2 : Below w.heap.size w W2 := hB.grown hg2 hB.size (fun k e => by cases e; exact hbase)
    have hH2 : Holds encStr W2 g 0 sortN.toArray := holds_of_block hb2 (take_putCells cur sortN (by rw [hsl, h3]; omega))
    clear hW2
    have hKl := (Array.getElem?_eq_some_iff.1 hK).1
    have hDg : ¬ D = g := fun e => by rw [e, hb] at hK; cases hK
    have hK2 : W2.heap[D]? = some (.deferred (some [])) := (hg2.block D hKl (fun e => hDg (Option.some.inj e))).trans hK
    have hcl := Lib.compact_length_le sortN
    rw [hsl] at hcl
    clear hg2 hv2 KS hv hrow hc hrow' hb h4 hgl hne hK hB hB0 bO
    gi_wp2_with fail
    refine ⟨trivial, (HC.out _ hH2).mono ?_⟩
    rintro e W3 ⟨rfl, q, hW3⟩
    have hts : (Lib.compact sortN ++ List.replicate (256 - (Lib.compact sortN).length) []).length = 256 := by simp; omega
    generalize hL : Lib.compact sortN = L at *
    generalize hT : L ++ List.replicate (256 - L.length) [] = T at *
    have hW3' : W3 = grow (putRow encStr (Sort.ahead W2 q) g 0 T.toArray) #[] := by rw [grow_empty]; exact hW3
    have hg3 : W2.grownBy W3 (some g) := by rw [hW3']; exact grownBy_sorted _
    have hb3 : W3.heap[g]? = some (.cells (putCells encStr 0 T.toArray (putCells encStr 0 sortN.toArray cur)) 9 (0, 0)) := by rw [hW3']; exact heap_sorted _ hb2
    have hH3 : Holds encStr W3 g 0 T.toArray := holds_of_block hb3 (take_putCells _ T (by rw [hts]; simp [putCells, h3]; omega))
    have hB3 : Below w.heap.size w W3 := hB2.grown hg3 hB2.size (fun k e => by cases e; exact hbase)
    have hK3 : W3.heap[D]? = some (.deferred (some [])) := (hg3.block D (Array.getElem?_eq_some_iff.1 hK2).1 (fun e => hDg (Option.some.inj e))).trans hK2
    clear hW3 hW3' hg3 hb3 hH2 hb2 hB2 hK2 HC hc2
    gi_wp2_with fail
    refine ⟨by simp, .inl ⟨_, _, rfl, run_takeDeferred hK3, ?_⟩⟩
    refine ⟨_, results_tmp rfl _ _ _, g, cap, by rw [hL]; rfl, hbase, hB3.trans (belowK_b (w := w) (Nat.le_refl _) W3 D _ _ (by omega) hK3 rfl rfl), fun i b hib => ?_⟩
    rw [hL] at hib
    have hiL := (List.getElem?_eq_some_iff.1 hib).1
    have hiT : T[i]? = some b := by rw [← hT, List.getElem?_append_left hiL]; exact hib
    have hlt : i < T.toArray.size := by simp; omega
    have h5 := (hH3 i hlt).1
    rw [Nat.zero_add, getElem!_pos _ i hlt] at h5
    have h6 : T.toArray[i] = b := by simpa using (List.getElem?_eq_some_iff.1 hiT).2
    rw [h6] at h5
    exact cell_kept h5 (grownBy_putObj' W3 D _) (fun r hr => by cases hr; exact ⟨_, hK3, rfl⟩)
  case stop =>
    rintro D c pre W _ _ h _
    exact h.elim
end Go.Proofs.YtcchnenjfckbbaaDoor.Co
