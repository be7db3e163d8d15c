/- Package frame: a picture's bytes. -/
import Derived.Test.YtbfdlfhidebjlaaFrRowsT
import Derived.Test.YtbfdlfhidebjlaaFrUp
namespace Go.Proofs.Ytbfdlfhidebjlaa.Cl
open Go.RowKit Go.Deep
set_option linter.unusedVariables false
set_option linter.unusedSimpArgs false

/-- A row's bytes, of its runs; a picture's bytes, and an error's number. -/
def runsB (R : List Rn) : List Int := R.flatMap fun p => [p.2, p.1]
def rowB (row : List Int) : List Int := (pack row).length :: runsB (pack row)
def bodyB (rows : List (List Int)) : List Int := rows.flatMap rowB
def headB (n : Nat) : List Int := [((n % 256 : Nat) : Int), ((n / 256 : Nat) : Int)]
def packF (rows : List (List Int)) : List Int × Int :=
  if 320 < rows.length then ([], 7) else if ∀ row ∈ rows, row.length = 160 then (headB rows.length ++ bodyB rows, 0) else ([], 4)
theorem runsB_length (R : List Rn) : (runsB R).length = 2 * R.length := by
  induction R with
  | nil => rfl
  | cons p t ih => simp only [runsB, List.flatMap_cons, List.length_append, List.length_cons, List.length_nil] at ih ⊢; omega
theorem runsB_take (R : List Rn) (k : Nat) (h : k < R.length) : runsB (R.take (k + 1)) = runsB (R.take k) ++ [R[k].2, R[k].1] := by
  rw [List.take_succ_eq_append_getElem h, runsB, List.flatMap_append]; rfl
theorem rowB_length (row : List Int) : (rowB row).length ≤ 1 + 2 * row.length := by
  have := pack_length row
  simp only [rowB, List.length_cons, runsB_length]; omega
theorem bodyB_take (rows : List (List Int)) (k : Nat) (h : k < rows.length) : bodyB (rows.take (k + 1)) = bodyB (rows.take k) ++ rowB rows[k] := by
  rw [List.take_succ_eq_append_getElem h, bodyB, List.flatMap_append]; simp [bodyB]
theorem bodyB_length (rows : List (List Int)) (h : ∀ row ∈ rows, row.length = 160) : (bodyB rows).length ≤ 321 * rows.length := by
  induction rows with
  | nil => simp [bodyB]
  | cons r t ih =>
    have h1 := rowB_length r
    have h2 := h r (by simp)
    have h3 := ih (fun x hx => h x (by simp [hx]))
    simp only [bodyB, List.flatMap_cons, List.length_append, List.length_cons] at *
    omega
theorem owns_ne {W : World} {b1 b2 e1 e2 s1 s2 n1 n2 : Nat} {v1 v2 : Value} {c1 c2 : List Value} (h1 : W.ownsRow b1 e1 s1 v1 n1 c1) (h2 : W.ownsRow b2 e2 s2 v2 n2 c2) (he : e1 ≠ e2) : v1.ownBlock = none ∨ v1.ownBlock ≠ v2.ownBlock := by
  obtain ⟨_, ⟨rfl, _⟩ | ⟨g, cap, cur, rfl, _, hh, _⟩⟩ := h1
  · exact .inl rfl
  · obtain ⟨_, ⟨rfl, _⟩ | ⟨g', cap', cur', rfl, _, hh', _⟩⟩ := h2
    · exact .inr (by simp [Value.ownBlock])
    · refine .inr fun e => ?_
      simp only [Value.ownBlock, Option.some.injEq] at e
      subst e
      rw [hh] at hh'
      simp only [Option.some.injEq, Obj.cells.injEq] at hh'
      exact he hh'.2.1
theorem info_u8 : (Try.prog.info? 5).map (fun i => (i.zero, i.size, i.bytes)) = some (some (.int .u8 0), 1, 1) := by kernel_rfl

set_option maxRecDepth 1000000 in
set_option maxHeartbeats 1000000 in
theorem pack_core (w : World) (ao : Option Addr) (n cap : Nat) (vs : List Value) (rows : List (List Int)) (hnr : n = rows.length) (HS : Hid (∀ row ∈ rows, row.length ≤ 1000000)) (HN : Hid (vs.length = n))
    (HR : Hid (∀ (y : Nat) u row, vs[y]? = some u → rows[y]? = some row → Lies w 1 u row.length (row.map (Value.int .u8))))
    (HC : Hid (n = 0 ∨ ∃ b off, ao = some ⟨b, off, none⟩ ∧ b < w.heap.size ∧ ∀ i u, vs[i]? = some u → w.cell? ⟨b, off + i, none⟩ = some u)) :
    Calls Try.prog 26 #[.agg #[.slice ao n cap]] w fun e w' => ∃ r, e = .returned (.tuple #[r, .int .i64 (packF rows).2]) ∧ w'.ownsRow w.heap.size 5 1 r (packF rows).1.length ((packF rows).1.map (Value.int .u8)) ∧ Below w.heap.size w w' := by
  obtain ⟨i0, hi, hz0, hz1, hz2⟩ := info_parts info_u8
  by_cases hlen : 320 < rows.length
  · have hl' : (320 : Int) < n := by omega
    rw [show packF rows = ([], 7) from by unfold packF; rw [if_pos hlen]]
    clear hnr hlen
    go_enter Try.func26, Try.ntmps26
    go_wp2
    go_ret2
    exact ⟨_, rfl, World.ownsRow_nil _ _ _ _, (Below.refl _ w).alloc (Nat.le_refl _) _⟩
  have hl' : ¬ (320 : Int) < n := by omega
  have hw1 : IntKind.u8.wrap (n : Int) = ((n % 256 : Nat) : Int) := by rw [IntKind.wrap_u8]; omega
  obtain ⟨q, hq⟩ : ∃ q : Nat, q = n / 256 := ⟨_, rfl⟩
  obtain ⟨m, hm⟩ : ∃ m : Nat, m = n % 256 := ⟨_, rfl⟩
  have hsh : (n : Int) / 256 = q := by omega
  have hw2 : IntKind.u8.wrap (q : Int) = q := by rw [IntKind.wrap_u8]; omega
  rw [← hm] at hw1
  have HQ := hideR hq
  have HM := hideR hm
  clear hq hm
  have HH := hideR hnr
  have HL := hideR hlen
  clear hnr hlen
  go_enter Try.func26, Try.ntmps26
  go_wp2
  have hn320 : n ≤ 320 := by omega
  have hown0 := World.ownsRow_lit (base := w.heap.size) (e := 5) (size := 1) (w.alloc (.cells #[.slice ao n cap] 33)) #[.int .u8 m, .int .u8 q] 2 (by simp) (by decide) rfl
  have hb0 : Below w.heap.size w ((w.alloc (.cells #[.slice ao n cap] 33)).alloc (.cells #[.int .u8 m, .int .u8 q] 5)) := ((Below.refl _ w).alloc (Nat.le_refl _) _).alloc (by simp) _
  rw [World.size_alloc] at hown0
  go_loopw [4, 27] (fun v i wr => ∃ k : Nat, k ≤ n ∧ i = .int .i64 k ∧ (∀ row ∈ rows.take k, row.length = 160) ∧ wr.ownsRow w.heap.size 5 1 v (headB n ++ bodyB (rows.take k)).length ((headB n ++ bodyB (rows.take k)).map (Value.int .u8)) ∧ Below w.heap.size w wr)
    (fun _ i _ => n - (intOf i).toNat)
  case atStart =>
    refine ⟨0, Nat.zero_le _, rfl, by simp, ?_, hb0⟩
    have : headB n ++ bodyB (rows.take 0) = [(m : Int), (q : Int)] := by simp [headB, bodyB, HQ.out, HM.out]
    rw [this]
    exact hown0
  case round =>
    obtain ⟨k, hk, rfl, hall, hown, hnx⟩ := hrel
    clear hown0 hb0
    by_cases hkl : k < n
    · obtain ⟨b, off, rfl, hb, hc⟩ := HC.out.resolve_left (by omega)
      have hkr : k < rows.length := by rw [← HH.out]; exact hkl
      have hkv : k < vs.length := by rw [HN.out]; exact hkl
      have hu := hc k _ (List.getElem?_eq_getElem hkv)
      have hL := HR.out k _ _ (List.getElem?_eq_getElem hkv) (List.getElem?_eq_getElem hkr)
      have hrs := HS.out rows[k] (List.getElem_mem hkr)
      have hcu := (hnx.cell (p := ⟨b, off + k, none⟩) hb).trans hu
      have htk : rows.take (k + 1) = rows.take k ++ [rows[k]] := List.take_succ_eq_append_getElem hkr
      have hbt := bodyB_take rows k hkr
      have hbl := bodyB_length (rows.take k) hall
      generalize rows[k] = row at *
      generalize vs[k] = u at *
      have hsz := hnx.size
      obtain ⟨ao', cap', rfl⟩ : ∃ ao' cap', u = .slice ao' row.length cap' := by obtain ⟨_, ao, cap, h, _⟩ := hL; exact ⟨_, _, h⟩
      by_cases h160 : row.length = 160
      · have hI : (row.length : Int) = 160 := by omega
        have kp := pack_byte wr _ row (hL.below hnx) hrs
        have hpl := pack_length row
        have hpos := pack_pos row
        have hcount : ∀ p ∈ pack row, p.2 ≤ 160 := fun p hp => by have := packR_count row p (by simpa [pack] using hp); omega
        have hRB : rowB row = ((pack row).length : Int) :: runsB (pack row) := rfl
        generalize hR : pack row = R at *
        have HHp := hideR hpos
        have HHc := hideR hcount
        have hRl : R.length ≤ 160 := by omega
        have H160 := hideR h160
        have HALL := hideR hall
        clear hu hpos hcount hL hc hR hall h160
        have hwL : IntKind.u8.wrap (R.length : Int) = R.length := by rw [IntKind.wrap_u8]; omega
        have hal : (headB n ++ bodyB (rows.take k)).length ≤ 2 + 321 * 320 := by
          rw [List.length_append]
          have : (headB n).length = 2 := rfl
          have : (rows.take k).length ≤ 320 := by rw [List.length_take]; omega
          omega
        generalize hA : headB n ++ bodyB (rows.take k) = A at *
        have HA := hideR hA
        have HB := hideR hbt
        have HT := hideR htk
        have HRB := hideR hRB
        clear hA hbt htk hRB hbl
        obtain ⟨aoV, capV, rfl⟩ := shapeOf hown
        go_wp2_with fail
        refine kp.mono ?_
        rintro e w1 ⟨r, rfl, hro, hb1⟩
        obtain ⟨aoR, capR, rfl⟩ := shapeOf hro
        have hown1 := owns_below hown hb1
        have hnx1 := hnx.trans (hb1.mono hsz)
        have hs1 := hnx1.size
        clear hown hnx kp hcu
        go_wp2_with (at_builtin; refine wpList_append_lies _ rfl _ _ 45 rfl w.heap.size 5 i0 (.int .u8 0) 1 1 Try.underlying45 hi hz0 hz1 hz2 rfl (by decide) _ _ _ rfl (hown1.alloc _) ⟨w1.heap.size, 0, none⟩ 1 1 [.int .u8 R.length] rfl rfl (World.news_of_block (heap_alloc_new _ _)) (by simp [Value.oneCell']) (by decide) (by simp only [maxLen]; omega) (by omega) (by simp; omega) (w1.heap.size + 1) (by simp) ?_)
        intro g2 cap2 w2 hown2 hgrow2 hat2 hlt2
        have hb2 := (hnx1.alloc hs1 (.cells #[.int .u8 R.length] 5)).grown hgrow2 (by simp; omega) (fun j hj => (hown1.lt j hj).1)
        have hro2 := (hro.alloc (.cells #[.int .u8 R.length] 5)).kept hgrow2 (owns_ne hro hown1 (by decide))
        clear hgrow2 hat2 hown1 hro hb1 hnx1
        generalize wr.heap.size = B0 at *
        go_wp2
        go_loopw [4, 44] (fun v i wq => ∃ j : Nat, j ≤ R.length ∧ i = .int .i64 j ∧ wq.ownsRow w.heap.size 5 1 v (A ++ ((R.length : Int) :: runsB (R.take j))).length ((A ++ ((R.length : Int) :: runsB (R.take j))).map (Value.int .u8)) ∧ wq.ownsRow B0 91 2 (.slice aoR R.length capR) R.length (rcs .u8 R) ∧ Below w.heap.size w wq)
          (fun _ i _ => R.length - (intOf i).toNat)
        case atStart =>
          refine ⟨0, Nat.zero_le _, rfl, ?_, hro2, hb2⟩
          have e1 : A ++ ((R.length : Int) :: runsB (R.take 0)) = A ++ [(R.length : Int)] := by simp [runsB]
          rw [e1, List.length_append, List.map_append]
          exact hown2
        case round =>
          obtain ⟨j, hj, rfl, hownq, hrq, hnq⟩ := hrel
          clear hown2 hro2 hb2
          by_cases hjl : j < R.length
          · obtain ⟨gR, hgR⟩ : ∃ gR, aoR = some ⟨gR, 0, none⟩ := by
              obtain ⟨_, ⟨h, h0⟩ | ⟨g, cap', cur, h, _⟩⟩ := hrq
              · omega
              · cases h; exact ⟨g, rfl⟩
            subst hgR
            have hat := rcs_at .u8 R j hjl
            have hrl : (rcs .u8 R).length = R.length * 2 := rcs_length _ _
            have hc0 : wr.cell? ⟨gR, j * 2, none⟩ = some (.int .u8 R[j].1) := (hrq.cellAt _ (by omega)).trans hat.1
            have hc1 : wr.cell? ⟨gR, j * 2 + 1, none⟩ = some (.int .i64 R[j].2) := (hrq.cellAt _ (by omega)).trans hat.2
            have hRT := runsB_take R j hjl
            have hp1 := HHp.out R[j] (List.getElem_mem hjl)
            have hp2 := HHc.out R[j] (List.getElem_mem hjl)
            generalize R[j] = p at *
            obtain ⟨x, c⟩ := p
            simp only at hc0 hc1 hRT hp1 hp2
            have hwc : IntKind.u8.wrap c = c := by rw [IntKind.wrap_u8]; omega
            have hln : (A ++ ((R.length : Int) :: runsB (R.take j))).length ≤ 2 + 321 * 320 + 321 := by
              rw [List.length_append, List.length_cons, runsB_length, List.length_take]; omega
            have hEq : A ++ ((R.length : Int) :: runsB (R.take (j + 1))) = (A ++ ((R.length : Int) :: runsB (R.take j))) ++ [c, x] := by rw [hRT]; simp
            generalize hE : A ++ ((R.length : Int) :: runsB (R.take j)) = E at *
            have HEq := hideR hEq
            have hsq := hnq.size
            obtain ⟨aoE, capE, rfl⟩ := shapeOf hownq
            have hown3 := hownq.alloc (.cells #[.int .u8 x, .int .i64 c] 91)
            have hrq3 := hrq.alloc (.cells #[.int .u8 x, .int .i64 c] 91)
            have hb3 := hnq.alloc hsq (.cells #[.int .u8 x, .int .i64 c] 91)
            have hnw : ((wr.alloc (.cells #[.int .u8 x, .int .i64 c] 91)).alloc (.cells #[.int .u8 c, .int .u8 x] 5)).heap[wr.heap.size + 1]? = some (Obj.cells #[.int .u8 c, .int .u8 x] 5 (0, 0)) := by
              have := heap_alloc_new (wr.alloc (.cells #[.int .u8 x, .int .i64 c] 91)) (.cells #[.int .u8 c, .int .u8 x] 5)
              rwa [World.size_alloc] at this
            clear hE hEq hRT hat hp1 hp2 hownq hrq hnq
            go_wp2_with (at_builtin; refine wpList_append_lies _ rfl _ _ 45 rfl w.heap.size 5 i0 (.int .u8 0) 1 1 Try.underlying45 hi hz0 hz1 hz2 rfl (by decide) _ _ _ rfl (hown3.alloc _) ⟨wr.heap.size + 1, 0, none⟩ 2 2 [.int .u8 c, .int .u8 x] rfl rfl (World.news_of_block hnw) (by simp [Value.oneCell']) (by decide) (by simp only [maxLen]; omega) (by omega) (by simp; omega) (wr.heap.size + 1 + 1) (by simp) ?_)
            intro g4 cap4 w4 hown4 hgrow4 hat4 hlt4
            have hb4 := (hb3.alloc (by simp; omega) (.cells #[.int .u8 c, .int .u8 x] 5)).grown hgrow4 (by simp; omega) (fun j hj => (hown3.lt j hj).1)
            have hro4 := (hrq3.alloc (.cells #[.int .u8 c, .int .u8 x] 5)).kept hgrow4 (owns_ne hrq3 hown3 (by decide))
            clear hgrow4 hat4 hown3 hrq3 hb3 hc0 hc1
            go_wp2
            go_roundw
            case rel =>
              refine ⟨j + 1, hjl, by go_num, ?_, hro4, hb4⟩
              rw [HEq.out, List.length_append, List.map_append]
              exact hown4
            case measure => simp [intOf]; omega
          · obtain rfl : j = R.length := by omega
            rw [List.take_length] at hownq
            go_wp2
            go_roundw
            case rel =>
              refine ⟨k + 1, hkl, by go_num, ?_, ?_, hnq⟩
              · rw [HT.out]
                intro x hx
                rcases List.mem_append.1 hx with h | h
                · exact HALL.out x h
                · rw [List.mem_singleton.1 h]; exact H160.out
              · have e : headB n ++ bodyB (rows.take (k + 1)) = A ++ ((R.length : Int) :: runsB R) := by rw [HB.out, ← HA.out, HRB.out]; simp
                rw [e]; exact hownq
            case measure => simp [intOf]; omega
      · have hI : ¬ (row.length : Int) = 160 := by omega
        have hF : packF rows = ([], 4) := by
          unfold packF
          rw [if_neg HL.out, if_neg]
          intro h
          have hm : row ∈ rows.take (k + 1) := by rw [htk]; simp
          exact h160 (h row (List.mem_of_mem_take hm))
        clear hown hu hc hL
        go_wp2
        go_ret2
        rw [hF]
        exact ⟨_, rfl, World.ownsRow_nil _ _ _ _, hnx⟩
    · obtain rfl : k = n := by omega
      have hk2 : rows.take k = rows := List.take_of_length_le (by rw [← HH.out]; exact Nat.le_refl _)
      rw [hk2] at hown hall
      have hF : packF rows = (headB k ++ bodyB rows, 0) := by unfold packF; rw [if_neg HL.out, if_pos hall, HH.out]
      go_wp2
      go_ret2
      rw [hF]
      exact ⟨_, rfl, hown, hnx⟩
theorem pack_pic (w : World) (v : Value) (rows : List (List Int)) (hP : Pic w v rows) (hs : ∀ row ∈ rows, row.length ≤ 1000000) :
    Calls Try.prog 26 #[.agg #[v]] w fun e w' => ∃ r, e = .returned (.tuple #[r, .int .i64 (packF rows).2]) ∧ w'.ownsRow w.heap.size 5 1 r (packF rows).1.length ((packF rows).1.map (Value.int .u8)) ∧ Below w.heap.size w w' := by
  obtain ⟨vs, ⟨_, ao, cap, rfl, hcap, hcs⟩, hvl, hrow⟩ := hP
  exact pack_core w ao vs.length cap vs rows hvl hs rfl hrow hcs
end Go.Proofs.Ytbfdlfhidebjlaa.Cl
