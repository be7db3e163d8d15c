/- The reference of package cart: what it is, plainly, and how it lies; Where and Peek. -/
import Derived.Test.YtfdmbgmhgbhggaaCartCopy
import Derived.Test.YtfdmbgmhgbhggaaCartRFirst
import Derived.Laws.Tables
namespace Go.Proofs.Ytfdmbgmhgbhggaa.Ca
open Go.RowKit Go.Deep Go.Proofs.Ytfdmbgmhgbhggaa Go.Proofs.Ytfdmbgmhgbhggaa.Cl
set_option linter.unusedVariables false
set_option linter.unusedSimpArgs false
def Ct.win (c : Ct) : Int := Img.winsK c.k c.n
def Ct.rl (c : Ct) (imv shv : Value) : List Value :=
  .string c.tag :: imv :: .int .i64 c.banks :: .int .i64 c.sz :: .int .i64 c.win :: .bool c.ram :: shv :: (c.ex.map (Value.int .u8) ++ [.bool c.armed])
structure RefAt (W : World) (c : Ct) (imv shv : Value) : Prop where
  hi : Lies W 1 imv c.im.length (c.im.map (Value.int .u8))
  hs : Lies W 1 shv c.sh.length (c.sh.map (Value.int .i64))
theorem RefAt.below {W W' : World} {c : Ct} {imv shv : Value} (h : RefAt W c imv shv) (hb : Below W.heap.size W W') : RefAt W' c imv shv := ⟨h.hi.below hb, h.hs.below hb⟩
theorem RefAt.drew {W : World} {c : Ct} {imv shv : Value} (h : RefAt W c imv shv) : RefAt W.drew c imv shv := h.below (Below.refl _ _).drew
theorem lies_row {W : World} {v : Value} {k : IntKind} {n : Nat} {xs : List Int} (h : Lies W 1 v n (xs.map (Value.int k))) (hn : xs.length = n) (hp : 0 < n) :
    ∃ b off cap, v = .slice (some ⟨b, off, none⟩) n cap ∧ b < W.heap.size ∧ ∀ i, i < n → W.cell? ⟨b, off + i, none⟩ = some (.int k (xs.getD i 0)) := by
  obtain ⟨_, ao, cap, rfl, _, h0 | ⟨b, off, rfl, hb, hc⟩⟩ := h
  · omega
  · refine ⟨b, off, cap, rfl, hb, fun i hi => hc i _ ?_⟩
    rw [List.getElem?_map, List.getElem?_eq_getElem (by omega)]
    simp [List.getD, show i < xs.length by omega]
theorem rl_len (c : Ct) (imv shv : Value) (h : c.ex.length = 128) : (c.rl imv shv).length = 136 := by simp [Ct.rl, h]
theorem rl_one (c : Ct) {imv shv : Value} (h1 : imv.oneCell' = true) (h2 : shv.oneCell' = true) : ∀ u ∈ c.rl imv shv, u.oneCell' = true := fun u hu => by
  simp only [Ct.rl, List.mem_cons, List.mem_append, List.mem_map, List.not_mem_nil, or_false] at hu
  rcases hu with rfl | rfl | rfl | rfl | rfl | rfl | rfl | ⟨x, _, rfl⟩ | rfl <;> first | rfl | assumption
theorem rl_ex (c : Ct) (imv shv : Value) (h : c.ex.length = 128) (i : Nat) (hi : i < 128) : (c.rl imv shv)[7 + i]? = some (.int .u8 (c.ex.getD i 0)) := by
  rw [show 7 + i = i + 1 + 1 + 1 + 1 + 1 + 1 + 1 from by omega]
  simp only [Ct.rl, List.getElem?_cons_succ]
  rw [List.getElem?_append_left (by simp; omega), List.getElem?_map, List.getElem?_eq_getElem (by omega)]
  simp [List.getD, h, hi]
theorem rl_armed (c : Ct) (imv shv : Value) (h : c.ex.length = 128) : (c.rl imv shv)[135]? = some (.bool c.armed) := by
  rw [show 135 = 128 + 1 + 1 + 1 + 1 + 1 + 1 + 1 from rfl]
  simp only [Ct.rl, List.getElem?_cons_succ]
  rw [List.getElem?_append_right (by simp; omega)]
  simp [h]
theorem rl_sh (c : Ct) (imv shv shv' : Value) (l : List Int) : (c.rl imv shv).set 6 shv' = ({ c with sh := l } : Ct).rl imv shv' := rfl
theorem rl_setEx (c : Ct) (imv shv : Value) (i : Nat) (v : Int) (hi : i < c.ex.length) : (c.rl imv shv).set (7 + i) (.int .u8 v) = ({ c with ex := c.ex.set i v } : Ct).rl imv shv := by
  rw [show 7 + i = i + 1 + 1 + 1 + 1 + 1 + 1 + 1 from by omega]
  simp only [Ct.rl, List.set_cons_succ]
  rw [List.set_append_left _ _ (by simpa using hi)]
  simp [Ct.sz, Ct.ram, Ct.win, Ct.banks, Ct.k, Ct.n, List.map_set]
theorem rl_setArmed (c : Ct) (imv shv : Value) (v : Bool) (hl : c.ex.length = 128) : (c.rl imv shv).set 135 (.bool v) = ({ c with armed := v } : Ct).rl imv shv := by
  rw [show 135 = 128 + 1 + 1 + 1 + 1 + 1 + 1 + 1 from rfl]
  simp only [Ct.rl, List.set_cons_succ]
  rw [List.set_append_right _ _ (by simp; omega)]
  simp [Ct.sz, Ct.ram, Ct.win, Ct.banks, Ct.k, Ct.n, hl]
theorem fine_pos (c : Ct) (hF : Fine c) : 0 < c.im.length ∧ 0 < c.sh.length ∧ c.sh.length ≤ 4 := by
  obtain ⟨p1, p2, p3, p4, p5, p6, _⟩ := fine_nums c hF
  have hn : c.n = (c.im.length : Int) := rfl
  have h1 : 1 * c.sz ≤ c.banks * c.sz := Int.mul_le_mul_of_nonneg_right p4 (by omega)
  refine ⟨by omega, ?_⟩
  rcases p1 with e | e | e <;> rw [e] at p2 <;> omega
set_option maxRecDepth 1000000 in
set_option maxHeartbeats 2000000 in
theorem rwhere_any (W : World) (c : Ct) (imv shv : Value) (h : RefAt W c imv shv) (hF : Fine c) (a : Int) (h0 : 0 ≤ a) (h1 : a ≤ 65535) :
    Calls Try.prog 21 #[.agg (c.rl imv shv).toArray, .int .i64 a] W fun e W' => e = .returned (.int .i64 (whereF c a)) ∧ Below W.heap.size W W' := by
  have hb1 : Below W.heap.size W (W.alloc (.cells (c.rl imv shv).toArray 52)) := (Below.refl _ _).alloc (Nat.le_refl _) _
  have f3 : (W.alloc (.cells (c.rl imv shv).toArray 52)).cell? ⟨W.heap.size, 3, none⟩ = some (.int .i64 c.sz) := World.cell?_alloc_at _ _ _ _ rfl
  have f5 : (W.alloc (.cells (c.rl imv shv).toArray 52)).cell? ⟨W.heap.size, 5, none⟩ = some (.bool c.ram) := World.cell?_alloc_at _ _ _ _ rfl
  have f6 : (W.alloc (.cells (c.rl imv shv).toArray 52)).cell? ⟨W.heap.size, 6, none⟩ = some shv := World.cell?_alloc_at _ _ _ _ rfl
  by_cases hw : a / 4096 % 2 = 0 ∨ c.ram = true ∧ a % 4096 < 256
  · rw [where_off c a hw]
    by_cases hm : a / 4096 % 2 = 0
    · clear hw
      generalize c.rl imv shv = rl at *
      go_enter Try.func21, Try.ntmps21
      go_wp2_with fail
      go_ret
      exact ⟨rfl, hb1⟩
    · obtain ⟨hr, ho⟩ := hw.resolve_left hm
      rw [hr] at f5
      have hm1 : a / 4096 % 2 = 1 := by omega
      clear hw hm
      generalize c.rl imv shv = rl at *
      go_enter Try.func21, Try.ntmps21
      go_wp2_with fail
      go_ret
      exact ⟨rfl, hb1⟩
  · have hm1 : a / 4096 % 2 = 1 := by omega
    have h2 : c.ram = true → 256 ≤ a % 4096 := fun hr => Int.not_lt.1 fun h' => hw (.inr ⟨hr, h'⟩)
    rw [(where_in c hF a h0 hm1 h2).1]
    obtain ⟨p1, p2, p3, p4, p5, p6, _⟩ := fine_nums c hF
    obtain ⟨_, hs0, hlen⟩ := fine_pos c hF
    obtain ⟨g, off, cap, rfl, hg, hc⟩ := lies_row (h.hs.below hb1) rfl hs0
    have hz : ¬ c.sz = 0 := by omega
    have hzp : 0 < c.sz := by omega
    have o0 : 0 ≤ a % 4096 := by omega
    have q0 : 0 ≤ a % 4096 / c.sz := Int.ediv_nonneg o0 (by omega)
    have q1 : a % 4096 / c.sz < c.sh.length := Int.ediv_lt_of_lt_mul hzp (by rw [Int.mul_comm]; omega)
    obtain ⟨q, hq⟩ := Int.eq_ofNat_of_zero_le q0
    have hql : q < c.sh.length := by omega
    have hv := hF.inb (c.sh.getD q 0) (by simp [List.getD, hql])
    have cs := hc q hql
    have r0 := Int.emod_nonneg (a % 4096) hz
    have r1 := Int.emod_lt_of_pos (a % 4096) hzp
    rw [hq, Int.toNat_natCast]
    generalize c.sh.getD q 0 = v at *
    have hm : v * c.sz ≤ c.banks * c.sz - c.sz := by
      have : v * c.sz ≤ (c.banks - 1) * c.sz := Int.mul_le_mul_of_nonneg_right (by omega) (by omega)
      rw [Int.sub_mul] at this; omega
    have hm0 : 0 ≤ v * c.sz := Int.mul_nonneg hv.1 (by omega)
    have t1 : Int.tdiv (a % 4096) c.sz = q := by rw [Int.tdiv_eq_ediv_of_nonneg o0, hq]
    have t2 : Int.tmod (a % 4096) c.sz = a % 4096 % c.sz := Int.tmod_eq_emod_of_nonneg o0
    generalize c.rl imv (.slice (some ⟨g, off, none⟩) c.sh.length cap) = rl at *
    generalize c.sz = S at *
    generalize a % 4096 % S = R at *
    generalize hM : v * S = M at *
    have hw1 : IntKind.i64.wrap M = M := IntWalk.i64_in _ (by omega)
    have hw2 : IntKind.i64.wrap (M + R) = M + R := IntWalk.i64_in _ (by omega)
    have hw3 : IntKind.i64.wrap (q : Int) = q := IntWalk.i64_in _ (by omega)
    have hw4 : IntKind.i64.wrap R = R := IntWalk.i64_in _ (by omega)
    have i0 : ¬ (q : Int) < 0 := by omega
    have i1 : ¬ (c.sh.length : Int) ≤ (q : Int) := by omega
    cases hr : c.ram
    · rw [hr] at f5
      clear hc hw h2 q0 q1 hq p1 p2 p3 p4 p5 p6 hv hm hm0 h hr
      go_enter Try.func21, Try.ntmps21
      go_wp2_with fail
      go_region
      go_wp2
      go_ret
      exact ⟨rfl, hb1.drew⟩
    · rw [hr] at f5
      have ho : ¬ a % 4096 < 256 := by have := h2 hr; omega
      clear hc hw h2 q0 q1 hq p1 p2 p3 p4 p5 p6 hv hm hm0 h hr
      go_enter Try.func21, Try.ntmps21
      go_wp2_with fail
      go_region
      go_wp2
      go_ret
      exact ⟨rfl, hb1.drew⟩
set_option maxRecDepth 1000000 in
set_option maxHeartbeats 2000000 in
theorem rpeek_any (W : World) (c : Ct) (imv shv : Value) (h : RefAt W c imv shv) (hF : Fine c) (a : Int) (h0 : 0 ≤ a) (h1 : a ≤ 65535) :
    Calls Try.prog 20 #[.agg (c.rl imv shv).toArray, .int .i64 a] W fun e W' => e = .returned (.tuple #[.int .u8 (peekF c a).1, .bool (peekF c a).2]) ∧ Below W.heap.size W W' := by
  have hb1 : Below W.heap.size W (W.alloc (.cells (c.rl imv shv).toArray 52)) := (Below.refl _ _).alloc (Nat.le_refl _) _
  have hz1 : (W.alloc (.cells (c.rl imv shv).toArray 52)).heap.size = W.heap.size + 1 := by simp
  have hn1 : (W.alloc (.cells (c.rl imv shv).toArray 52)).heap[W.heap.size]? = some (.cells (c.rl imv shv).toArray 52 (0, 0)) := heap_alloc_new W _
  have kw := fun w (hw : RefAt w c imv shv) => rwhere_any w c imv shv hw hF a h0 h1
  have hR1 := h.below hb1
  have hrl := rl_len c imv shv hF.ex
  have hu := Try.underlying52
  have hi : (Try.prog.info? 52).map (·.size) = some (c.rl imv shv).length := by rw [hrl]; kernel_rfl
  have e1 : (c.rl imv shv)[1]? = some imv := rfl
  have E1 := hideR e1
  have ex := rl_ex c imv shv hF.ex
  obtain ⟨hi0, _, _⟩ := fine_pos c hF
  have HI := hideR h.hi
  generalize c.rl imv shv = rl at *
  have hr1 : (W.alloc (.cells rl.toArray 52)).rangeAt W.heap.size 0 rl := fun j v hv => by rw [cell_of_row _ _ _ _ _ _ hn1, List.getElem?_toArray, Nat.zero_add]; exact hv
  have HR1 := hideR hr1
  have HN1 := hideR hn1
  have HB1 := hideR hb1
  have HU := hideR hu
  have HI2 := hideR hi
  clear hr1 hn1 hrl e1 hu hi
  by_cases hw0 : 0 ≤ whereF c a
  · have hp : peekF c a = (c.im.getD (whereF c a).toNat 0, true) := by unfold peekF; rw [if_pos hw0]
    rw [hp]
    have hwl : whereF c a < c.n := by
      by_cases hw : a / 4096 % 2 = 0 ∨ c.ram = true ∧ a % 4096 < 256
      · rw [where_off c a hw] at hw0; omega
      · exact (where_in c hF a h0 (by omega) (fun hr => Int.not_lt.1 fun h' => hw (.inr ⟨hr, h'⟩))).2.2
    obtain ⟨i, hi'⟩ := Int.eq_ofNat_of_zero_le hw0
    have hn : c.n = (c.im.length : Int) := rfl
    have kw1 := kw _ hR1
    rw [hi'] at kw1
    rw [hi', Int.toNat_natCast]
    obtain ⟨g, off, cap, rfl, hg, hc⟩ := lies_row HI.out rfl hi0
    have hil : i < c.im.length := by omega
    have ci := hc i hil
    generalize c.im.getD i 0 = u at *
    have i0 : ¬ (i : Int) < 0 := by omega
    have i1 : ¬ (c.im.length : Int) ≤ (i : Int) := by omega
    clear hc hp hw0 hwl hi' kw HI h hR1 hn
    go_enter Try.func20, Try.ntmps20
    go_wp2_with (refine wpList_load_mid rfl _ _ rfl W.heap.size 0 rfl rl _ HR1.out HU.out rfl HI2.out ?_)
    refine kw1.mono ?_
    rintro e w2 ⟨rfl, hb2⟩
    have d1 : w2.cell? ⟨W.heap.size, 1, none⟩ = some (.slice (some ⟨g, off, none⟩) c.im.length cap) := by
      rw [hb2.cell (p := ⟨W.heap.size, 1, none⟩) (by show W.heap.size < _; omega), cell_of_row _ _ _ _ _ _ HN1.out, List.getElem?_toArray]; exact E1.out
    have d2 := ((HB1.out.trans (hb2.mono (by omega))).cell (p := ⟨g, off + i, none⟩) hg).trans ci
    go_wp2_with fail
    go_ret2
    exact ⟨rfl, HB1.out.trans (hb2.mono (by omega))⟩
  · have hwm : whereF c a = -1 := by
      by_cases hw : a / 4096 % 2 = 0 ∨ c.ram = true ∧ a % 4096 < 256
      · exact where_off c a hw
      · exact absurd (where_in c hF a h0 (by omega) (fun hr => Int.not_lt.1 fun h' => hw (.inr ⟨hr, h'⟩))).2.1 hw0
    have kw1 := kw _ hR1
    rw [hwm] at kw1
    by_cases hin : a / 4096 % 2 = 1 ∧ 128 ≤ a % 4096 ∧ a % 4096 < 256
    · have hp : peekF c a = (c.ex.getD (a % 4096 - 128).toNat 0, true) := by unfold peekF; rw [if_neg (by omega), if_pos hin]
      rw [hp]
      obtain ⟨m1, m2, m3⟩ := hin
      obtain ⟨i, hi'⟩ := Int.eq_ofNat_of_zero_le (show 0 ≤ a % 4096 - 128 by omega)
      have hil : i < 128 := by omega
      have exi := ex i hil
      rw [hi', Int.toNat_natCast]
      generalize c.ex.getD i 0 = u at *
      have i0 : ¬ (i : Int) < 0 := by omega
      have i1 : ¬ (128 : Int) ≤ (i : Int) := by omega
      have EXI := hideR exi
      clear hp hw0 hwm kw HI h hR1 ex exi
      go_enter Try.func20, Try.ntmps20
      go_wp2_with (refine wpList_load_mid rfl _ _ rfl W.heap.size 0 rfl rl _ HR1.out HU.out rfl HI2.out ?_)
      refine kw1.mono ?_
      rintro e w2 ⟨rfl, hb2⟩
      have d2 : w2.cell? ⟨W.heap.size, 7 + i, none⟩ = some (.int .u8 u) := by
        rw [hb2.cell (p := ⟨W.heap.size, 7 + i, none⟩) (by show W.heap.size < _; omega), cell_of_row _ _ _ _ _ _ HN1.out, List.getElem?_toArray]; exact EXI.out
      go_wp2_with fail
      go_ret2
      exact ⟨rfl, HB1.out.trans (hb2.mono (by omega))⟩
    · have hp : peekF c a = (0, false) := by unfold peekF; rw [if_neg (by omega), if_neg hin]
      rw [hp]
      by_cases m1 : a / 4096 % 2 = 1
      · by_cases m2 : 128 ≤ a % 4096
        · have m3 : ¬ a % 4096 < 256 := fun h => hin ⟨m1, m2, h⟩
          clear hp hw0 hwm kw HI h hR1 ex hin
          go_enter Try.func20, Try.ntmps20
          go_wp2_with (refine wpList_load_mid rfl _ _ rfl W.heap.size 0 rfl rl _ HR1.out HU.out rfl HI2.out ?_)
          refine kw1.mono ?_
          rintro e w2 ⟨rfl, hb2⟩
          go_wp2_with fail
          go_ret2
          exact ⟨rfl, HB1.out.trans (hb2.mono (by omega))⟩
        · clear hp hw0 hwm kw HI h hR1 ex hin
          go_enter Try.func20, Try.ntmps20
          go_wp2_with (refine wpList_load_mid rfl _ _ rfl W.heap.size 0 rfl rl _ HR1.out HU.out rfl HI2.out ?_)
          refine kw1.mono ?_
          rintro e w2 ⟨rfl, hb2⟩
          go_wp2_with fail
          go_ret2
          exact ⟨rfl, HB1.out.trans (hb2.mono (by omega))⟩
      · have m0 : a / 4096 % 2 = 0 := by omega
        clear hp hw0 hwm kw HI h hR1 ex hin m1
        go_enter Try.func20, Try.ntmps20
        go_wp2_with (refine wpList_load_mid rfl _ _ rfl W.heap.size 0 rfl rl _ HR1.out HU.out rfl HI2.out ?_)
        refine kw1.mono ?_
        rintro e w2 ⟨rfl, hb2⟩
        go_wp2_with fail
        go_ret2
        exact ⟨rfl, HB1.out.trans (hb2.mono (by omega))⟩
end Go.Proofs.Ytfdmbgmhgbhggaa.Ca
