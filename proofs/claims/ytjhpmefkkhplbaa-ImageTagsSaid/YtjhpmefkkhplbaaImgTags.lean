/- The walk of the law on the tags. -/
import Derived.Test.YtjhpmefkkhplbaaImgWalks
import Derived.OwnWalk
namespace Go.Proofs.Ytjhpmefkkhplbaa
open Go.RowKit
set_option linter.unusedVariables false
set_option linter.unusedSimpArgs false
def tagStrs : List Value := [.string ⟨#[50, 75]⟩, .string ⟨#[51, 70]⟩, .string ⟨#[52, 75]⟩, .string ⟨#[69, 48]⟩, .string ⟨#[70, 52]⟩, .string ⟨#[70, 52, 83, 67]⟩, .string ⟨#[70, 54]⟩, .string ⟨#[70, 54, 83, 67]⟩, .string ⟨#[70, 56]⟩, .string ⟨#[70, 56, 83, 67]⟩, .string ⟨#[70, 69]⟩]
theorem info9 : (Try.prog.info? 9).map (fun i => (i.zero, i.size, i.bytes)) = some (some (.string ⟨#[]⟩), 1, 16) := by kernel_rfl
theorem tags_below {w wr w2 : World} {v : Value} {n : Nat} {xs : List Value} {A B : Obj} (hb : Below w.heap.size w wr) (hown : wr.ownsRow w.heap.size 9 1 v n xs) (hgrow : ((wr.alloc A).alloc B).grownBy w2 v.ownBlock) : Below w.heap.size w w2 :=
  ((hb.alloc hb.size A).alloc (by have := hb.size; simp; omega) B).grown hgrow (by have := hb.size; simp; omega) (fun j hj => (hown.lt j hj).1)
set_option maxHeartbeats 8000000 in
theorem tags_any (w : World) : Calls Try.prog 12 #[] w fun e w' => ∃ v, e = .returned v ∧ w'.ownsRow w.heap.size 9 1 v 11 tagStrs ∧ Below w.heap.size w w' := by
  obtain ⟨i0, hi, hz0, hz1, hz2⟩ := info_parts info9
  have HI := Lib.hid hi
  have HZ0 := Lib.hid hz0
  have HZ1 := Lib.hid hz1
  have HZ2 := Lib.hid hz2
  clear hi hz0 hz1 hz2
  go_enter Try.func12, Try.ntmps12
  go_wp2_with fail
  refine (mappers_any _).mono ?_
  rintro e w1 ⟨rfl, hb1⟩
  go_wp2_with fail
  go_loopw [1, 5] (fun v i wr => ∃ k : Nat, k ≤ 11 ∧ i = .int .i64 k ∧ wr.ownsRow w.heap.size 9 1 v k (tagStrs.take k) ∧ Below w.heap.size w wr) (fun _ i _ => (11 - intOf i).toNat)
  case atStart => exact ⟨0, by omega, rfl, ⟨rfl, Or.inl ⟨rfl, rfl⟩⟩, hb1⟩
  case round =>
    obtain ⟨k, hk, rfl, hown, hb⟩ := hrel
    have zb := hb.size
    obtain rfl | hk0 := Decidable.em (k = 0)
    · have hx : ∀ W, (Instr.index 40 (.agg mapRow) (.int .i64 0)).run Try.prog W = .ok (.agg #[.string ⟨#[50, 75]⟩, .int .i64 2048, .int .i64 2048, .bool false, .bool false]) W := fun _ => by kernel_rfl
      go_wp2_with (at_builtin; refine wpList_append_own _ rfl _ _ 35 rfl w.heap.size 9 i0 (.string ⟨#[]⟩) 1 16 Try.underlying35 HI.out HZ0.out HZ1.out HZ2.out rfl (by decide) _ _ _ rfl ((hown.alloc _).alloc _) ⟨wr.heap.size + 1, 0, none⟩ 1 1 [.string ⟨#[50, 75]⟩] rfl rfl ?c1 ?c2 ?c3 ?c4 ?c5 ?_)
      case c1 =>
        intro j u hj
        match j, hj with
        | 0, hj => simp at hj; subst hj; simp [Addr.add]
      case c2 => intro u hu; simp at hu; subst hu; rfl
      case c3 => unfold maxLen; omega
      case c4 => omega
      case c5 => simp; omega
      · intro v' w2 hown' hgrow _
        have hB := tags_below hb hown hgrow
        clear hgrow hown
        go_wp2
        go_roundw
        case rel => exact ⟨1, by omega, rfl, hown', hB⟩
        case measure => simp [intOf]
    obtain rfl | hk1 := Decidable.em (k = 1)
    · have hx : ∀ W, (Instr.index 40 (.agg mapRow) (.int .i64 1)).run Try.prog W = .ok (.agg #[.string ⟨#[51, 70]⟩, .int .i64 2048, .int .i64 2048, .bool false, .bool true]) W := fun _ => by kernel_rfl
      go_wp2_with (at_builtin; refine wpList_append_own _ rfl _ _ 35 rfl w.heap.size 9 i0 (.string ⟨#[]⟩) 1 16 Try.underlying35 HI.out HZ0.out HZ1.out HZ2.out rfl (by decide) _ _ _ rfl ((hown.alloc _).alloc _) ⟨wr.heap.size + 1, 0, none⟩ 1 1 [.string ⟨#[51, 70]⟩] rfl rfl ?c1 ?c2 ?c3 ?c4 ?c5 ?_)
      case c1 =>
        intro j u hj
        match j, hj with
        | 0, hj => simp at hj; subst hj; simp [Addr.add]
      case c2 => intro u hu; simp at hu; subst hu; rfl
      case c3 => unfold maxLen; omega
      case c4 => omega
      case c5 => simp; omega
      · intro v' w2 hown' hgrow _
        have hB := tags_below hb hown hgrow
        clear hgrow hown
        go_wp2
        go_roundw
        case rel => exact ⟨2, by omega, rfl, hown', hB⟩
        case measure => simp [intOf]
    obtain rfl | hk2 := Decidable.em (k = 2)
    · have hx : ∀ W, (Instr.index 40 (.agg mapRow) (.int .i64 2)).run Try.prog W = .ok (.agg #[.string ⟨#[52, 75]⟩, .int .i64 4096, .int .i64 4096, .bool false, .bool false]) W := fun _ => by kernel_rfl
      go_wp2_with (at_builtin; refine wpList_append_own _ rfl _ _ 35 rfl w.heap.size 9 i0 (.string ⟨#[]⟩) 1 16 Try.underlying35 HI.out HZ0.out HZ1.out HZ2.out rfl (by decide) _ _ _ rfl ((hown.alloc _).alloc _) ⟨wr.heap.size + 1, 0, none⟩ 1 1 [.string ⟨#[52, 75]⟩] rfl rfl ?c1 ?c2 ?c3 ?c4 ?c5 ?_)
      case c1 =>
        intro j u hj
        match j, hj with
        | 0, hj => simp at hj; subst hj; simp [Addr.add]
      case c2 => intro u hu; simp at hu; subst hu; rfl
      case c3 => unfold maxLen; omega
      case c4 => omega
      case c5 => simp; omega
      · intro v' w2 hown' hgrow _
        have hB := tags_below hb hown hgrow
        clear hgrow hown
        go_wp2
        go_roundw
        case rel => exact ⟨3, by omega, rfl, hown', hB⟩
        case measure => simp [intOf]
    obtain rfl | hk3 := Decidable.em (k = 3)
    · have hx : ∀ W, (Instr.index 40 (.agg mapRow) (.int .i64 3)).run Try.prog W = .ok (.agg #[.string ⟨#[69, 48]⟩, .int .i64 8192, .int .i64 1024, .bool false, .bool false]) W := fun _ => by kernel_rfl
      go_wp2_with (at_builtin; refine wpList_append_own _ rfl _ _ 35 rfl w.heap.size 9 i0 (.string ⟨#[]⟩) 1 16 Try.underlying35 HI.out HZ0.out HZ1.out HZ2.out rfl (by decide) _ _ _ rfl ((hown.alloc _).alloc _) ⟨wr.heap.size + 1, 0, none⟩ 1 1 [.string ⟨#[69, 48]⟩] rfl rfl ?c1 ?c2 ?c3 ?c4 ?c5 ?_)
      case c1 =>
        intro j u hj
        match j, hj with
        | 0, hj => simp at hj; subst hj; simp [Addr.add]
      case c2 => intro u hu; simp at hu; subst hu; rfl
      case c3 => unfold maxLen; omega
      case c4 => omega
      case c5 => simp; omega
      · intro v' w2 hown' hgrow _
        have hB := tags_below hb hown hgrow
        clear hgrow hown
        go_wp2
        go_roundw
        case rel => exact ⟨4, by omega, rfl, hown', hB⟩
        case measure => simp [intOf]
    obtain rfl | hk4 := Decidable.em (k = 4)
    · have hx : ∀ W, (Instr.index 40 (.agg mapRow) (.int .i64 4)).run Try.prog W = .ok (.agg #[.string ⟨#[70, 52]⟩, .int .i64 32768, .int .i64 4096, .bool false, .bool false]) W := fun _ => by kernel_rfl
      go_wp2_with (at_builtin; refine wpList_append_own _ rfl _ _ 35 rfl w.heap.size 9 i0 (.string ⟨#[]⟩) 1 16 Try.underlying35 HI.out HZ0.out HZ1.out HZ2.out rfl (by decide) _ _ _ rfl ((hown.alloc _).alloc _) ⟨wr.heap.size + 1, 0, none⟩ 1 1 [.string ⟨#[70, 52]⟩] rfl rfl ?c1 ?c2 ?c3 ?c4 ?c5 ?_)
      case c1 =>
        intro j u hj
        match j, hj with
        | 0, hj => simp at hj; subst hj; simp [Addr.add]
      case c2 => intro u hu; simp at hu; subst hu; rfl
      case c3 => unfold maxLen; omega
      case c4 => omega
      case c5 => simp; omega
      · intro v' w2 hown' hgrow _
        have hB := tags_below hb hown hgrow
        clear hgrow hown
        go_wp2
        go_roundw
        case rel => exact ⟨5, by omega, rfl, hown', hB⟩
        case measure => simp [intOf]
    obtain rfl | hk5 := Decidable.em (k = 5)
    · have hx : ∀ W, (Instr.index 40 (.agg mapRow) (.int .i64 5)).run Try.prog W = .ok (.agg #[.string ⟨#[70, 52, 83, 67]⟩, .int .i64 32768, .int .i64 4096, .bool true, .bool false]) W := fun _ => by kernel_rfl
      go_wp2_with (at_builtin; refine wpList_append_own _ rfl _ _ 35 rfl w.heap.size 9 i0 (.string ⟨#[]⟩) 1 16 Try.underlying35 HI.out HZ0.out HZ1.out HZ2.out rfl (by decide) _ _ _ rfl ((hown.alloc _).alloc _) ⟨wr.heap.size + 1, 0, none⟩ 1 1 [.string ⟨#[70, 52, 83, 67]⟩] rfl rfl ?c1 ?c2 ?c3 ?c4 ?c5 ?_)
      case c1 =>
        intro j u hj
        match j, hj with
        | 0, hj => simp at hj; subst hj; simp [Addr.add]
      case c2 => intro u hu; simp at hu; subst hu; rfl
      case c3 => unfold maxLen; omega
      case c4 => omega
      case c5 => simp; omega
      · intro v' w2 hown' hgrow _
        have hB := tags_below hb hown hgrow
        clear hgrow hown
        go_wp2
        go_roundw
        case rel => exact ⟨6, by omega, rfl, hown', hB⟩
        case measure => simp [intOf]
    obtain rfl | hk6 := Decidable.em (k = 6)
    · have hx : ∀ W, (Instr.index 40 (.agg mapRow) (.int .i64 6)).run Try.prog W = .ok (.agg #[.string ⟨#[70, 54]⟩, .int .i64 16384, .int .i64 4096, .bool false, .bool false]) W := fun _ => by kernel_rfl
      go_wp2_with (at_builtin; refine wpList_append_own _ rfl _ _ 35 rfl w.heap.size 9 i0 (.string ⟨#[]⟩) 1 16 Try.underlying35 HI.out HZ0.out HZ1.out HZ2.out rfl (by decide) _ _ _ rfl ((hown.alloc _).alloc _) ⟨wr.heap.size + 1, 0, none⟩ 1 1 [.string ⟨#[70, 54]⟩] rfl rfl ?c1 ?c2 ?c3 ?c4 ?c5 ?_)
      case c1 =>
        intro j u hj
        match j, hj with
        | 0, hj => simp at hj; subst hj; simp [Addr.add]
      case c2 => intro u hu; simp at hu; subst hu; rfl
      case c3 => unfold maxLen; omega
      case c4 => omega
      case c5 => simp; omega
      · intro v' w2 hown' hgrow _
        have hB := tags_below hb hown hgrow
        clear hgrow hown
        go_wp2
        go_roundw
        case rel => exact ⟨7, by omega, rfl, hown', hB⟩
        case measure => simp [intOf]
    obtain rfl | hk7 := Decidable.em (k = 7)
    · have hx : ∀ W, (Instr.index 40 (.agg mapRow) (.int .i64 7)).run Try.prog W = .ok (.agg #[.string ⟨#[70, 54, 83, 67]⟩, .int .i64 16384, .int .i64 4096, .bool true, .bool false]) W := fun _ => by kernel_rfl
      go_wp2_with (at_builtin; refine wpList_append_own _ rfl _ _ 35 rfl w.heap.size 9 i0 (.string ⟨#[]⟩) 1 16 Try.underlying35 HI.out HZ0.out HZ1.out HZ2.out rfl (by decide) _ _ _ rfl ((hown.alloc _).alloc _) ⟨wr.heap.size + 1, 0, none⟩ 1 1 [.string ⟨#[70, 54, 83, 67]⟩] rfl rfl ?c1 ?c2 ?c3 ?c4 ?c5 ?_)
      case c1 =>
        intro j u hj
        match j, hj with
        | 0, hj => simp at hj; subst hj; simp [Addr.add]
      case c2 => intro u hu; simp at hu; subst hu; rfl
      case c3 => unfold maxLen; omega
      case c4 => omega
      case c5 => simp; omega
      · intro v' w2 hown' hgrow _
        have hB := tags_below hb hown hgrow
        clear hgrow hown
        go_wp2
        go_roundw
        case rel => exact ⟨8, by omega, rfl, hown', hB⟩
        case measure => simp [intOf]
    obtain rfl | hk8 := Decidable.em (k = 8)
    · have hx : ∀ W, (Instr.index 40 (.agg mapRow) (.int .i64 8)).run Try.prog W = .ok (.agg #[.string ⟨#[70, 56]⟩, .int .i64 8192, .int .i64 4096, .bool false, .bool false]) W := fun _ => by kernel_rfl
      go_wp2_with (at_builtin; refine wpList_append_own _ rfl _ _ 35 rfl w.heap.size 9 i0 (.string ⟨#[]⟩) 1 16 Try.underlying35 HI.out HZ0.out HZ1.out HZ2.out rfl (by decide) _ _ _ rfl ((hown.alloc _).alloc _) ⟨wr.heap.size + 1, 0, none⟩ 1 1 [.string ⟨#[70, 56]⟩] rfl rfl ?c1 ?c2 ?c3 ?c4 ?c5 ?_)
      case c1 =>
        intro j u hj
        match j, hj with
        | 0, hj => simp at hj; subst hj; simp [Addr.add]
      case c2 => intro u hu; simp at hu; subst hu; rfl
      case c3 => unfold maxLen; omega
      case c4 => omega
      case c5 => simp; omega
      · intro v' w2 hown' hgrow _
        have hB := tags_below hb hown hgrow
        clear hgrow hown
        go_wp2
        go_roundw
        case rel => exact ⟨9, by omega, rfl, hown', hB⟩
        case measure => simp [intOf]
    obtain rfl | hk9 := Decidable.em (k = 9)
    · have hx : ∀ W, (Instr.index 40 (.agg mapRow) (.int .i64 9)).run Try.prog W = .ok (.agg #[.string ⟨#[70, 56, 83, 67]⟩, .int .i64 8192, .int .i64 4096, .bool true, .bool false]) W := fun _ => by kernel_rfl
      go_wp2_with (at_builtin; refine wpList_append_own _ rfl _ _ 35 rfl w.heap.size 9 i0 (.string ⟨#[]⟩) 1 16 Try.underlying35 HI.out HZ0.out HZ1.out HZ2.out rfl (by decide) _ _ _ rfl ((hown.alloc _).alloc _) ⟨wr.heap.size + 1, 0, none⟩ 1 1 [.string ⟨#[70, 56, 83, 67]⟩] rfl rfl ?c1 ?c2 ?c3 ?c4 ?c5 ?_)
      case c1 =>
        intro j u hj
        match j, hj with
        | 0, hj => simp at hj; subst hj; simp [Addr.add]
      case c2 => intro u hu; simp at hu; subst hu; rfl
      case c3 => unfold maxLen; omega
      case c4 => omega
      case c5 => simp; omega
      · intro v' w2 hown' hgrow _
        have hB := tags_below hb hown hgrow
        clear hgrow hown
        go_wp2
        go_roundw
        case rel => exact ⟨10, by omega, rfl, hown', hB⟩
        case measure => simp [intOf]
    obtain rfl | hk10 := Decidable.em (k = 10)
    · have hx : ∀ W, (Instr.index 40 (.agg mapRow) (.int .i64 10)).run Try.prog W = .ok (.agg #[.string ⟨#[70, 69]⟩, .int .i64 8192, .int .i64 4096, .bool false, .bool false]) W := fun _ => by kernel_rfl
      go_wp2_with (at_builtin; refine wpList_append_own _ rfl _ _ 35 rfl w.heap.size 9 i0 (.string ⟨#[]⟩) 1 16 Try.underlying35 HI.out HZ0.out HZ1.out HZ2.out rfl (by decide) _ _ _ rfl ((hown.alloc _).alloc _) ⟨wr.heap.size + 1, 0, none⟩ 1 1 [.string ⟨#[70, 69]⟩] rfl rfl ?c1 ?c2 ?c3 ?c4 ?c5 ?_)
      case c1 =>
        intro j u hj
        match j, hj with
        | 0, hj => simp at hj; subst hj; simp [Addr.add]
      case c2 => intro u hu; simp at hu; subst hu; rfl
      case c3 => unfold maxLen; omega
      case c4 => omega
      case c5 => simp; omega
      · intro v' w2 hown' hgrow _
        have hB := tags_below hb hown hgrow
        clear hgrow hown
        go_wp2
        go_roundw
        case rel => exact ⟨11, by omega, rfl, hown', hB⟩
        case measure => simp [intOf]
    · obtain rfl : k = 11 := by omega
      go_wp2
      go_ret
      exact ⟨_, rfl, hown, hb⟩
set_option maxHeartbeats 2000000 in
theorem rtags_any (w : World) : Calls Try.prog 13 #[] w fun e w' => ∃ v, e = .returned v ∧ w'.ownsRow w.heap.size 9 1 v 11 tagStrs ∧ Below w.heap.size w w' := by
  go_enter Try.func13, Try.ntmps13
  go_wp2
  go_ret
  refine ⟨_, rfl, ⟨rfl, Or.inr ⟨_, _, _, rfl, Nat.le_refl _, heap_alloc_last w _, Nat.le_refl _, by unfold maxLen; omega, rfl, rfl⟩⟩, (Below.refl _ _).alloc (Nat.le_refl _) _⟩
end Go.Proofs.Ytjhpmefkkhplbaa
