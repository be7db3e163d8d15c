/- The law of which picture any bytes are: its walk. -/
import Derived.Test.YtbfdlfhidebjlaaFrAwake
import Derived.Test.YtbfdlfhidebjlaaFrRefA
namespace Go.Proofs.Ytbfdlfhidebjlaa
open Go.RowKit Go.Deep Cl
set_option linter.unusedVariables false
set_option linter.unusedSimpArgs false

theorem picF_all {b : List Int} (hb : Byt b) : (∀ r ∈ (picF b).1, Byt r) ∧ (picF b).1.length ≤ 320 := by
  unfold picF
  split
  · exact ⟨fun r h => by (cases h), by decide⟩
  · split
    · exact ⟨fun r h => by (cases h), by decide⟩
    · rename_i h1 h2
      have hp0 := pix_byt hb 0
      have hp1 := pix_byt hb 1
      split
      · rename_i A hA
        have := rowsF_all (b := b.drop 2) (fun x hx => hb x (List.mem_of_mem_drop hx)) hA
        exact ⟨fun r h => (this.2.1 r h).2, by rw [this.1]; omega⟩
      · exact ⟨fun r h => by (cases h), by decide⟩
set_option maxRecDepth 1000000 in
set_option maxHeartbeats 1000000 in
theorem reads_core (ao : Option Addr) (n cap : Nat) (xs : List Int) (w : World) (hL : Lies w 1 (.slice ao n cap) xs.length (xs.map (Value.int .u8))) (hb : Byt xs) :
    Calls Try.prog 8 #[.slice ao n cap] w fun e w' => e = .returned (.bool true) ∧ Below w.heap.size w w' := by
  have hn := (bytesAt hL).1
  have HL := hideR hL
  have HN := hideR hn
  by_cases hbig : (4000 : Int) < n
  · clear hL hn
    go_enter Try.func8, Try.ntmps8
    go_wp2
    go_ret
    exact ⟨rfl, Below.refl _ _⟩
  obtain ⟨i0, hi, hz0, hz1, hz2⟩ := info_parts info_u8
  have hown0 := World.ownsRow_lit (base := w.heap.size) (e := 5) (size := 1) w #[] 0 (Nat.le_refl _) (by decide) rfl
  have hb0 : Below w.heap.size w (w.alloc (.cells #[] 5)) := (Below.refl _ _).alloc (Nat.le_refl _) _
  have hxl : xs.length ≤ 4000 := by omega
  have hall := picF_all hb
  clear hL hn
  go_enter Try.func8, Try.ntmps8
  go_wp2_with (at_builtin; refine wpList_append_of rfl _ _ 45 rfl w.heap.size 5 i0 (.int .u8 0) 1 1 Try.underlying45 hi hz0 hz1 hz2 rfl (by decide) _ _ _ rfl hown0 _ _ _ rfl (HL.out.below ((Below.refl _ _).alloc (Nat.le_refl _) _)) (ints_oneCell _ _) (by simp only [maxLen]; omega) (by omega) hb0.size ?_)
  intro v1 w1 hown1 hgrow1
  have hb1 : Below w.heap.size w w1 := hb0.grown hgrow1 hb0.size (fun k hk => by cases hk; exact Nat.le_refl _)
  clear hown0 hgrow1 hb0
  have hL1 : Lies w1 1 v1 xs.length (xs.map (Value.int .u8)) := by
    have := Lies.of_owns hown1
    simpa using this
  have k1 := unpack_any w1 v1 xs hL1 hb (by omega)
  have HP := hideR hall
  generalize hpq : picF xs = pq at *
  obtain ⟨A, er⟩ := pq
  have HPQ := hideR hpq
  clear hpq hall hown1 hL1
  go_wp2_with fail
  refine k1.mono ?_
  rintro e w2 ⟨v, rfl, hT, hb2⟩
  obtain ⟨aoT, nT, capT, rfl⟩ : ∃ ao n c, v = .slice ao n c := by obtain ⟨vs, _, h, _⟩ := hT; obtain ⟨ao, cap, rfl⟩ := shapeOf h; exact ⟨_, _, _, rfl⟩
  have hb3 := hb1.trans (hb2.mono hb1.size)
  have hA := (Below.refl _ w2).alloc (Nat.le_refl _) (.cells #[.slice aoT nT capT] 33)
  have hb4 := hb3.trans (hA.mono hb3.size)
  have hT4 := hT.below hA
  have hcf := heap_alloc_new w2 (.cells #[.slice aoT nT capT] 33)
  have hsf : w2.heap.size < (w2.alloc (.cells #[.slice aoT nT capT] 33)).heap.size := by simp
  clear k1 hT hb2 hb3 hA hb1
  go_wp2_with fail
  generalize w2.alloc (.cells #[.slice aoT nT capT] 33) = V at *
  generalize w2.heap.size = F at *
  have k2 := refun_any V _ xs (HL.out.below hb4) hb (by omega)
  rw [HPQ.out] at k2
  have cf : V.cell? ⟨F, 0, none⟩ = some (.slice aoT nT capT) := by rw [cell_of_row V F 0 _ _ _ hcf]; rfl
  refine k2.mono ?_
  rintro e w3 ⟨r, rfl, hR, hb5⟩
  have hb6 := hb4.trans (hb5.mono hb4.size)
  have cf3 := (hb5.cell (p := ⟨F, 0, none⟩) hsf).trans cf
  have k3 := same_pic w3 _ r A A (hT4.below hb5).pic hR.pic HP.out.1 HP.out.1 (by have := HP.out.2; omega)
  rw [decide_eq_true rfl] at k3
  clear k2 cf hT4 hR hb5 hb4 hcf
  go_wp2_with fail
  refine k3.mono ?_
  rintro e w4 ⟨rfl, hb7⟩
  have hb8 := hb6.trans (hb7.mono hb6.size)
  go_wp2_with fail
  refine (awake_any _).mono ?_
  rintro e w5 ⟨rfl, hb9⟩
  have hb10 := hb8.trans (hb9.mono hb8.size)
  go_wp2
  go_ret
  exact ⟨rfl, hb10⟩
theorem frameReads_walk (v : Value) (xs : List Int) (W : World) (hx : Lies W 1 v xs.length (xs.map (Value.int .u8)) ∧ Byt xs) : Calls Try.prog 8 #[v] W fun e w' => e = .returned (.bool true) ∧ Below W.heap.size W w' := by
  obtain ⟨hx, hb⟩ := hx
  obtain ⟨n, ao, cap, rfl⟩ : ∃ n ao cap, v = .slice ao n cap := by obtain ⟨_, ao, cap, h, _⟩ := hx; exact ⟨_, _, _, h⟩
  exact reads_core ao n cap xs W hx hb
end Go.Proofs.Ytbfdlfhidebjlaa
