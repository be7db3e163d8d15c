/- The walk of the law ExecTwice: one that does two things at once does what both do, one behind the other. -/
import Derived.Test.YtlecpfkfnaiabaaExecAwake
import Derived.Test.YtlecpfkfnaiabaaExecTu2
import Derived.Test.YtlecpfkfnaiabaaExecTu3
import Derived.Test.YtlecpfkfnaiabaaExecTu4
import Derived.Test.YtlecpfkfnaiabaaKeep
import Derived.Test.YtlecpfkfnaiabaaExecC
namespace Go.Proofs.Ytlecpfkfnaiabaa
open Go.RowKit
set_option linter.unusedVariables false
set_option linter.unusedSimpArgs false

set_option maxRecDepth 100000 in
set_option maxHeartbeats 4000000 in
theorem execTwice_walk (n : Int) (r : Ex.Rg) (ok : r.ok) (m : Int) (w : World) (n0 : 0 ≤ n) (n1 : n ≤ 255) (g0 : 0 ≤ m) (g1 : m ≤ 255) :
    Calls Try.prog 6 #[.int .u8 n, rgU r, .int .u8 m] w fun e w' => e = .returned (.bool true) ∧ Below w.heap.size w w' := by
  obtain ⟨a, x, y, s, p, pc⟩ := r
  unfold rgU
  go_enter Try.func6, Try.ntmps6
  repeat (first | (with_reducible refine wp_keep _ (((KS.nil w).alloc _ _).alloc #[_, _, _, _, _, _, _, _, _, _, _, _, _, _, _, _, _, _] _) ?_) | go_step)
  rintro W hS
  have h6 : n % 6 = 0 ∨ n % 6 = 1 ∨ n % 6 = 2 ∨ n % 6 = 3 ∨ n % 6 = 4 ∨ n % 6 = 5 := by omega
  have hk := hS.2.2
  simp only [World.size_alloc, List.forall_mem_cons] at hk
  obtain ⟨⟨-, l1, t1, -⟩, ⟨-, l0, t0, -⟩, -⟩ := hk
  rcases h6 with hn | hn | hn | hn | hn | hn
  · have ok2 : (Ex.Rg.mk a x y s (Ex.turnP .ASL p m) pc).ok := ⟨ok.a0, ok.a1, ok.x0, ok.x1, ok.y0, ok.y1, ok.s0, ok.s1, (Ex.turnP_in .ASL p m ok.p0 ok.p1).1, (Ex.turnP_in .ASL p m ok.p0 ok.p1).2, ok.pc0, ok.pc1⟩
    have k1 := fun w' => turn_SLO _ ok m g0 g1 ⟨#[83, 76, 79]⟩ (by decide +kernel) w'
    have k2 := fun w' => turn_ASL _ ok m g0 g1 ⟨#[65, 83, 76]⟩ (by decide +kernel) w'
    have k3 := fun w' => read_ORA _ ok2 (Ex.turnV .ASL p m) (Ex.turnV_in .ASL p m g0 g1).1 (Ex.turnV_in .ASL p m g0 g1).2 ⟨#[79, 82, 65]⟩ (by decide +kernel) w'
    rw [show Ex.turnR .ASL ⟨a, x, y, s, p, pc⟩ m = ⟨a, x, y, s, Ex.turnP .ASL p m, pc⟩ from rfl] at k2
    rw [show Ex.readF .ORA ⟨a, x, y, s, Ex.turnP .ASL p m, pc⟩ (Ex.turnV .ASL p m) = Ex.turnR .SLO ⟨a, x, y, s, p, pc⟩ m from rfl] at k3
    simp only [] at k1 k2
    rw [show Ex.turnV .SLO p m = Ex.turnV .ASL p m from rfl] at k1
    have v0 := Ex.turnV_in .ASL p m g0 g1
    clear ok ok2
    generalize Ex.turnR .SLO ⟨a, x, y, s, p, pc⟩ m = E at *
    generalize Ex.turnV .ASL p m = V at *
    generalize Ex.turnP .ASL p m = Q at *
    obtain ⟨ea, ex, ey, es, ep, epc⟩ := E
    simp only [rgU] at k1 k2 k3
    repeat (first | (with_reducible refine wp_keep _ (hS.alloc #[_, _, _] _) ?_) | go_step)
    rintro W1 hS1
    clear t1 t0 l1 l0 hS
    have hk := hS1.2.2
    simp only [World.size_alloc, List.forall_mem_cons] at hk
    obtain ⟨⟨-, l2, t2, -⟩, ⟨-, l1, t1, -⟩, ⟨-, l0, t0, -⟩, -⟩ := hk
    go_wp2_with fail
    refine (k1 _).mono ?_
    rintro e w1 ⟨rfl, hw1⟩
    simp only []
    repeat (first | (with_reducible refine wp_keep _ ((hS1.below hw1).alloc #[_, _, _, _, _, _] _) ?_) | go_step)
    rintro W2 hS2
    clear t2 t1 t0 l2 l1 l0 hS1
    have hk := hS2.2.2
    simp only [World.size_alloc, List.forall_mem_cons] at hk
    obtain ⟨⟨-, l3, t3, -⟩, ⟨-, l2, t2, -⟩, ⟨-, l1, t1, -⟩, ⟨-, l0, t0, -⟩, -⟩ := hk
    go_wp2_with fail
    refine (k2 _).mono ?_
    rintro e w2 ⟨rfl, hw2⟩
    simp only []
    repeat (first | (with_reducible refine wp_keep _ ((hS2.below hw2).alloc #[_, _, _, _, _, _] _) ?_) | go_step)
    rintro W3 hS3
    clear t3 t2 t1 t0 l3 l2 l1 l0 hS2
    have hk := hS3.2.2
    simp only [World.size_alloc, List.forall_mem_cons] at hk
    obtain ⟨⟨-, l4, t4, -⟩, ⟨-, l3, t3, -⟩, ⟨-, l2, t2, -⟩, -⟩ := hk
    go_wp2_with fail
    refine (k3 _).mono ?_
    rintro e w3 ⟨rfl, hw3⟩
    simp only []
    repeat (first | (with_reducible refine wp_keep _ ((hS3.below hw3).alloc #[_, _, _, _, _, _] _) ?_) | go_step)
    rintro W4 hS4
    clear t4 t3 t2 l4 l3 l2 hS3
    have hb4 := hS4.1
    have hk := hS4.2.2
    simp only [World.size_alloc, List.forall_mem_cons] at hk
    obtain ⟨⟨-, l5, t5, -⟩, ⟨-, l4, t4, -⟩, ⟨-, l3, t3, -⟩, -⟩ := hk
    go_wp2_with fail
    refine (awake_any _).mono ?_
    rintro e w4 ⟨rfl, hw4⟩
    go_wp2_with fail
    go_ret
    exact ⟨rfl, hb4.trans (hw4.mono hS4.2.1)⟩
  · have ok2 : (Ex.Rg.mk a x y s (Ex.turnP .ROL p m) pc).ok := ⟨ok.a0, ok.a1, ok.x0, ok.x1, ok.y0, ok.y1, ok.s0, ok.s1, (Ex.turnP_in .ROL p m ok.p0 ok.p1).1, (Ex.turnP_in .ROL p m ok.p0 ok.p1).2, ok.pc0, ok.pc1⟩
    have k1 := fun w' => turn_RLA _ ok m g0 g1 ⟨#[82, 76, 65]⟩ (by decide +kernel) w'
    have k2 := fun w' => turn_ROL _ ok m g0 g1 ⟨#[82, 79, 76]⟩ (by decide +kernel) w'
    have k3 := fun w' => read_AND _ ok2 (Ex.turnV .ROL p m) (Ex.turnV_in .ROL p m g0 g1).1 (Ex.turnV_in .ROL p m g0 g1).2 ⟨#[65, 78, 68]⟩ (by decide +kernel) w'
    rw [show Ex.turnR .ROL ⟨a, x, y, s, p, pc⟩ m = ⟨a, x, y, s, Ex.turnP .ROL p m, pc⟩ from rfl] at k2
    rw [show Ex.readF .AND ⟨a, x, y, s, Ex.turnP .ROL p m, pc⟩ (Ex.turnV .ROL p m) = Ex.turnR .RLA ⟨a, x, y, s, p, pc⟩ m from rfl] at k3
    simp only [] at k1 k2
    rw [show Ex.turnV .RLA p m = Ex.turnV .ROL p m from rfl] at k1
    have v0 := Ex.turnV_in .ROL p m g0 g1
    clear ok ok2
    generalize Ex.turnR .RLA ⟨a, x, y, s, p, pc⟩ m = E at *
    generalize Ex.turnV .ROL p m = V at *
    generalize Ex.turnP .ROL p m = Q at *
    obtain ⟨ea, ex, ey, es, ep, epc⟩ := E
    simp only [rgU] at k1 k2 k3
    repeat (first | (with_reducible refine wp_keep _ (hS.alloc #[_, _, _] _) ?_) | go_step)
    rintro W1 hS1
    clear t1 t0 l1 l0 hS
    have hk := hS1.2.2
    simp only [World.size_alloc, List.forall_mem_cons] at hk
    obtain ⟨⟨-, l2, t2, -⟩, ⟨-, l1, t1, -⟩, ⟨-, l0, t0, -⟩, -⟩ := hk
    go_wp2_with fail
    refine (k1 _).mono ?_
    rintro e w1 ⟨rfl, hw1⟩
    simp only []
    repeat (first | (with_reducible refine wp_keep _ ((hS1.below hw1).alloc #[_, _, _, _, _, _] _) ?_) | go_step)
    rintro W2 hS2
    clear t2 t1 t0 l2 l1 l0 hS1
    have hk := hS2.2.2
    simp only [World.size_alloc, List.forall_mem_cons] at hk
    obtain ⟨⟨-, l3, t3, -⟩, ⟨-, l2, t2, -⟩, ⟨-, l1, t1, -⟩, ⟨-, l0, t0, -⟩, -⟩ := hk
    go_wp2_with fail
    refine (k2 _).mono ?_
    rintro e w2 ⟨rfl, hw2⟩
    simp only []
    repeat (first | (with_reducible refine wp_keep _ ((hS2.below hw2).alloc #[_, _, _, _, _, _] _) ?_) | go_step)
    rintro W3 hS3
    clear t3 t2 t1 t0 l3 l2 l1 l0 hS2
    have hk := hS3.2.2
    simp only [World.size_alloc, List.forall_mem_cons] at hk
    obtain ⟨⟨-, l4, t4, -⟩, ⟨-, l3, t3, -⟩, ⟨-, l2, t2, -⟩, -⟩ := hk
    go_wp2_with fail
    refine (k3 _).mono ?_
    rintro e w3 ⟨rfl, hw3⟩
    simp only []
    repeat (first | (with_reducible refine wp_keep _ ((hS3.below hw3).alloc #[_, _, _, _, _, _] _) ?_) | go_step)
    rintro W4 hS4
    clear t4 t3 t2 l4 l3 l2 hS3
    have hb4 := hS4.1
    have hk := hS4.2.2
    simp only [World.size_alloc, List.forall_mem_cons] at hk
    obtain ⟨⟨-, l5, t5, -⟩, ⟨-, l4, t4, -⟩, ⟨-, l3, t3, -⟩, -⟩ := hk
    go_wp2_with fail
    refine (awake_any _).mono ?_
    rintro e w4 ⟨rfl, hw4⟩
    go_wp2_with fail
    go_ret
    exact ⟨rfl, hb4.trans (hw4.mono hS4.2.1)⟩
  · have ok2 : (Ex.Rg.mk a x y s (Ex.turnP .LSR p m) pc).ok := ⟨ok.a0, ok.a1, ok.x0, ok.x1, ok.y0, ok.y1, ok.s0, ok.s1, (Ex.turnP_in .LSR p m ok.p0 ok.p1).1, (Ex.turnP_in .LSR p m ok.p0 ok.p1).2, ok.pc0, ok.pc1⟩
    have k1 := fun w' => turn_SRE _ ok m g0 g1 ⟨#[83, 82, 69]⟩ (by decide +kernel) w'
    have k2 := fun w' => turn_LSR _ ok m g0 g1 ⟨#[76, 83, 82]⟩ (by decide +kernel) w'
    have k3 := fun w' => read_EOR _ ok2 (Ex.turnV .LSR p m) (Ex.turnV_in .LSR p m g0 g1).1 (Ex.turnV_in .LSR p m g0 g1).2 ⟨#[69, 79, 82]⟩ (by decide +kernel) w'
    rw [show Ex.turnR .LSR ⟨a, x, y, s, p, pc⟩ m = ⟨a, x, y, s, Ex.turnP .LSR p m, pc⟩ from rfl] at k2
    rw [show Ex.readF .EOR ⟨a, x, y, s, Ex.turnP .LSR p m, pc⟩ (Ex.turnV .LSR p m) = Ex.turnR .SRE ⟨a, x, y, s, p, pc⟩ m from rfl] at k3
    simp only [] at k1 k2
    rw [show Ex.turnV .SRE p m = Ex.turnV .LSR p m from rfl] at k1
    have v0 := Ex.turnV_in .LSR p m g0 g1
    clear ok ok2
    generalize Ex.turnR .SRE ⟨a, x, y, s, p, pc⟩ m = E at *
    generalize Ex.turnV .LSR p m = V at *
    generalize Ex.turnP .LSR p m = Q at *
    obtain ⟨ea, ex, ey, es, ep, epc⟩ := E
    simp only [rgU] at k1 k2 k3
    repeat (first | (with_reducible refine wp_keep _ (hS.alloc #[_, _, _] _) ?_) | go_step)
    rintro W1 hS1
    clear t1 t0 l1 l0 hS
    have hk := hS1.2.2
    simp only [World.size_alloc, List.forall_mem_cons] at hk
    obtain ⟨⟨-, l2, t2, -⟩, ⟨-, l1, t1, -⟩, ⟨-, l0, t0, -⟩, -⟩ := hk
    go_wp2_with fail
    refine (k1 _).mono ?_
    rintro e w1 ⟨rfl, hw1⟩
    simp only []
    repeat (first | (with_reducible refine wp_keep _ ((hS1.below hw1).alloc #[_, _, _, _, _, _] _) ?_) | go_step)
    rintro W2 hS2
    clear t2 t1 t0 l2 l1 l0 hS1
    have hk := hS2.2.2
    simp only [World.size_alloc, List.forall_mem_cons] at hk
    obtain ⟨⟨-, l3, t3, -⟩, ⟨-, l2, t2, -⟩, ⟨-, l1, t1, -⟩, ⟨-, l0, t0, -⟩, -⟩ := hk
    go_wp2_with fail
    refine (k2 _).mono ?_
    rintro e w2 ⟨rfl, hw2⟩
    simp only []
    repeat (first | (with_reducible refine wp_keep _ ((hS2.below hw2).alloc #[_, _, _, _, _, _] _) ?_) | go_step)
    rintro W3 hS3
    clear t3 t2 t1 t0 l3 l2 l1 l0 hS2
    have hk := hS3.2.2
    simp only [World.size_alloc, List.forall_mem_cons] at hk
    obtain ⟨⟨-, l4, t4, -⟩, ⟨-, l3, t3, -⟩, ⟨-, l2, t2, -⟩, -⟩ := hk
    go_wp2_with fail
    refine (k3 _).mono ?_
    rintro e w3 ⟨rfl, hw3⟩
    simp only []
    repeat (first | (with_reducible refine wp_keep _ ((hS3.below hw3).alloc #[_, _, _, _, _, _] _) ?_) | go_step)
    rintro W4 hS4
    clear t4 t3 t2 l4 l3 l2 hS3
    have hb4 := hS4.1
    have hk := hS4.2.2
    simp only [World.size_alloc, List.forall_mem_cons] at hk
    obtain ⟨⟨-, l5, t5, -⟩, ⟨-, l4, t4, -⟩, ⟨-, l3, t3, -⟩, -⟩ := hk
    go_wp2_with fail
    refine (awake_any _).mono ?_
    rintro e w4 ⟨rfl, hw4⟩
    go_wp2_with fail
    go_ret
    exact ⟨rfl, hb4.trans (hw4.mono hS4.2.1)⟩
  · have ok2 : (Ex.Rg.mk a x y s (Ex.turnP .ROR p m) pc).ok := ⟨ok.a0, ok.a1, ok.x0, ok.x1, ok.y0, ok.y1, ok.s0, ok.s1, (Ex.turnP_in .ROR p m ok.p0 ok.p1).1, (Ex.turnP_in .ROR p m ok.p0 ok.p1).2, ok.pc0, ok.pc1⟩
    have k1 := fun w' => turn_RRA _ ok m g0 g1 ⟨#[82, 82, 65]⟩ (by decide +kernel) w'
    have k2 := fun w' => turn_ROR _ ok m g0 g1 ⟨#[82, 79, 82]⟩ (by decide +kernel) w'
    have k3 := fun w' => read_ADC _ ok2 (Ex.turnV .ROR p m) (Ex.turnV_in .ROR p m g0 g1).1 (Ex.turnV_in .ROR p m g0 g1).2 ⟨#[65, 68, 67]⟩ (by decide +kernel) w'
    rw [show Ex.turnR .ROR ⟨a, x, y, s, p, pc⟩ m = ⟨a, x, y, s, Ex.turnP .ROR p m, pc⟩ from rfl] at k2
    rw [show Ex.readF .ADC ⟨a, x, y, s, Ex.turnP .ROR p m, pc⟩ (Ex.turnV .ROR p m) = Ex.turnR .RRA ⟨a, x, y, s, p, pc⟩ m from rfl] at k3
    simp only [] at k1 k2
    rw [show Ex.turnV .RRA p m = Ex.turnV .ROR p m from rfl] at k1
    have v0 := Ex.turnV_in .ROR p m g0 g1
    clear ok ok2
    generalize Ex.turnR .RRA ⟨a, x, y, s, p, pc⟩ m = E at *
    generalize Ex.turnV .ROR p m = V at *
    generalize Ex.turnP .ROR p m = Q at *
    obtain ⟨ea, ex, ey, es, ep, epc⟩ := E
    simp only [rgU] at k1 k2 k3
    repeat (first | (with_reducible refine wp_keep _ (hS.alloc #[_, _, _] _) ?_) | go_step)
    rintro W1 hS1
    clear t1 t0 l1 l0 hS
    have hk := hS1.2.2
    simp only [World.size_alloc, List.forall_mem_cons] at hk
    obtain ⟨⟨-, l2, t2, -⟩, ⟨-, l1, t1, -⟩, ⟨-, l0, t0, -⟩, -⟩ := hk
    go_wp2_with fail
    refine (k1 _).mono ?_
    rintro e w1 ⟨rfl, hw1⟩
    simp only []
    repeat (first | (with_reducible refine wp_keep _ ((hS1.below hw1).alloc #[_, _, _, _, _, _] _) ?_) | go_step)
    rintro W2 hS2
    clear t2 t1 t0 l2 l1 l0 hS1
    have hk := hS2.2.2
    simp only [World.size_alloc, List.forall_mem_cons] at hk
    obtain ⟨⟨-, l3, t3, -⟩, ⟨-, l2, t2, -⟩, ⟨-, l1, t1, -⟩, ⟨-, l0, t0, -⟩, -⟩ := hk
    go_wp2_with fail
    refine (k2 _).mono ?_
    rintro e w2 ⟨rfl, hw2⟩
    simp only []
    repeat (first | (with_reducible refine wp_keep _ ((hS2.below hw2).alloc #[_, _, _, _, _, _] _) ?_) | go_step)
    rintro W3 hS3
    clear t3 t2 t1 t0 l3 l2 l1 l0 hS2
    have hk := hS3.2.2
    simp only [World.size_alloc, List.forall_mem_cons] at hk
    obtain ⟨⟨-, l4, t4, -⟩, ⟨-, l3, t3, -⟩, ⟨-, l2, t2, -⟩, -⟩ := hk
    go_wp2_with fail
    refine (k3 _).mono ?_
    rintro e w3 ⟨rfl, hw3⟩
    simp only []
    repeat (first | (with_reducible refine wp_keep _ ((hS3.below hw3).alloc #[_, _, _, _, _, _] _) ?_) | go_step)
    rintro W4 hS4
    clear t4 t3 t2 l4 l3 l2 hS3
    have hb4 := hS4.1
    have hk := hS4.2.2
    simp only [World.size_alloc, List.forall_mem_cons] at hk
    obtain ⟨⟨-, l5, t5, -⟩, ⟨-, l4, t4, -⟩, ⟨-, l3, t3, -⟩, -⟩ := hk
    go_wp2_with fail
    refine (awake_any _).mono ?_
    rintro e w4 ⟨rfl, hw4⟩
    go_wp2_with fail
    go_ret
    exact ⟨rfl, hb4.trans (hw4.mono hS4.2.1)⟩
  · have ok2 : (Ex.Rg.mk a x y s (Ex.turnP .DEC p m) pc).ok := ⟨ok.a0, ok.a1, ok.x0, ok.x1, ok.y0, ok.y1, ok.s0, ok.s1, (Ex.turnP_in .DEC p m ok.p0 ok.p1).1, (Ex.turnP_in .DEC p m ok.p0 ok.p1).2, ok.pc0, ok.pc1⟩
    have k1 := fun w' => turn_DCP _ ok m g0 g1 ⟨#[68, 67, 80]⟩ (by decide +kernel) w'
    have k2 := fun w' => turn_DEC _ ok m g0 g1 ⟨#[68, 69, 67]⟩ (by decide +kernel) w'
    have k3 := fun w' => read_CMP _ ok2 (Ex.turnV .DEC p m) (Ex.turnV_in .DEC p m g0 g1).1 (Ex.turnV_in .DEC p m g0 g1).2 ⟨#[67, 77, 80]⟩ (by decide +kernel) w'
    rw [show Ex.turnR .DEC ⟨a, x, y, s, p, pc⟩ m = ⟨a, x, y, s, Ex.turnP .DEC p m, pc⟩ from rfl] at k2
    rw [show Ex.readF .CMP ⟨a, x, y, s, Ex.turnP .DEC p m, pc⟩ (Ex.turnV .DEC p m) = Ex.turnR .DCP ⟨a, x, y, s, p, pc⟩ m from Ex.twice_cmp a x y s p pc m ok.p0 ok.p1] at k3
    simp only [] at k1 k2
    rw [show Ex.turnV .DCP p m = Ex.turnV .DEC p m from rfl] at k1
    have v0 := Ex.turnV_in .DEC p m g0 g1
    clear ok ok2
    generalize Ex.turnR .DCP ⟨a, x, y, s, p, pc⟩ m = E at *
    generalize Ex.turnV .DEC p m = V at *
    generalize Ex.turnP .DEC p m = Q at *
    obtain ⟨ea, ex, ey, es, ep, epc⟩ := E
    simp only [rgU] at k1 k2 k3
    repeat (first | (with_reducible refine wp_keep _ (hS.alloc #[_, _, _] _) ?_) | go_step)
    rintro W1 hS1
    clear t1 t0 l1 l0 hS
    have hk := hS1.2.2
    simp only [World.size_alloc, List.forall_mem_cons] at hk
    obtain ⟨⟨-, l2, t2, -⟩, ⟨-, l1, t1, -⟩, ⟨-, l0, t0, -⟩, -⟩ := hk
    go_wp2_with fail
    refine (k1 _).mono ?_
    rintro e w1 ⟨rfl, hw1⟩
    simp only []
    repeat (first | (with_reducible refine wp_keep _ ((hS1.below hw1).alloc #[_, _, _, _, _, _] _) ?_) | go_step)
    rintro W2 hS2
    clear t2 t1 t0 l2 l1 l0 hS1
    have hk := hS2.2.2
    simp only [World.size_alloc, List.forall_mem_cons] at hk
    obtain ⟨⟨-, l3, t3, -⟩, ⟨-, l2, t2, -⟩, ⟨-, l1, t1, -⟩, ⟨-, l0, t0, -⟩, -⟩ := hk
    go_wp2_with fail
    refine (k2 _).mono ?_
    rintro e w2 ⟨rfl, hw2⟩
    simp only []
    repeat (first | (with_reducible refine wp_keep _ ((hS2.below hw2).alloc #[_, _, _, _, _, _] _) ?_) | go_step)
    rintro W3 hS3
    clear t3 t2 t1 t0 l3 l2 l1 l0 hS2
    have hk := hS3.2.2
    simp only [World.size_alloc, List.forall_mem_cons] at hk
    obtain ⟨⟨-, l4, t4, -⟩, ⟨-, l3, t3, -⟩, ⟨-, l2, t2, -⟩, -⟩ := hk
    go_wp2_with fail
    refine (k3 _).mono ?_
    rintro e w3 ⟨rfl, hw3⟩
    simp only []
    repeat (first | (with_reducible refine wp_keep _ ((hS3.below hw3).alloc #[_, _, _, _, _, _] _) ?_) | go_step)
    rintro W4 hS4
    clear t4 t3 t2 l4 l3 l2 hS3
    have hb4 := hS4.1
    have hk := hS4.2.2
    simp only [World.size_alloc, List.forall_mem_cons] at hk
    obtain ⟨⟨-, l5, t5, -⟩, ⟨-, l4, t4, -⟩, ⟨-, l3, t3, -⟩, -⟩ := hk
    go_wp2_with fail
    refine (awake_any _).mono ?_
    rintro e w4 ⟨rfl, hw4⟩
    go_wp2_with fail
    go_ret
    exact ⟨rfl, hb4.trans (hw4.mono hS4.2.1)⟩
  · have ok2 : (Ex.Rg.mk a x y s (Ex.turnP .INC p m) pc).ok := ⟨ok.a0, ok.a1, ok.x0, ok.x1, ok.y0, ok.y1, ok.s0, ok.s1, (Ex.turnP_in .INC p m ok.p0 ok.p1).1, (Ex.turnP_in .INC p m ok.p0 ok.p1).2, ok.pc0, ok.pc1⟩
    have k1 := fun w' => turn_ISC _ ok m g0 g1 ⟨#[73, 83, 67]⟩ (by decide +kernel) w'
    have k2 := fun w' => turn_INC _ ok m g0 g1 ⟨#[73, 78, 67]⟩ (by decide +kernel) w'
    have k3 := fun w' => read_SBC _ ok2 (Ex.turnV .INC p m) (Ex.turnV_in .INC p m g0 g1).1 (Ex.turnV_in .INC p m g0 g1).2 ⟨#[83, 66, 67]⟩ (by decide +kernel) w'
    rw [show Ex.turnR .INC ⟨a, x, y, s, p, pc⟩ m = ⟨a, x, y, s, Ex.turnP .INC p m, pc⟩ from rfl] at k2
    rw [show Ex.readF .SBC ⟨a, x, y, s, Ex.turnP .INC p m, pc⟩ (Ex.turnV .INC p m) = Ex.turnR .ISC ⟨a, x, y, s, p, pc⟩ m from Ex.twice_sub a x y s p pc m ok.p0 ok.p1] at k3
    simp only [] at k1 k2
    rw [show Ex.turnV .ISC p m = Ex.turnV .INC p m from rfl] at k1
    have v0 := Ex.turnV_in .INC p m g0 g1
    clear ok ok2
    generalize Ex.turnR .ISC ⟨a, x, y, s, p, pc⟩ m = E at *
    generalize Ex.turnV .INC p m = V at *
    generalize Ex.turnP .INC p m = Q at *
    obtain ⟨ea, ex, ey, es, ep, epc⟩ := E
    simp only [rgU] at k1 k2 k3
    repeat (first | (with_reducible refine wp_keep _ (hS.alloc #[_, _, _] _) ?_) | go_step)
    rintro W1 hS1
    clear t1 t0 l1 l0 hS
    have hk := hS1.2.2
    simp only [World.size_alloc, List.forall_mem_cons] at hk
    obtain ⟨⟨-, l2, t2, -⟩, ⟨-, l1, t1, -⟩, ⟨-, l0, t0, -⟩, -⟩ := hk
    go_wp2_with fail
    refine (k1 _).mono ?_
    rintro e w1 ⟨rfl, hw1⟩
    simp only []
    repeat (first | (with_reducible refine wp_keep _ ((hS1.below hw1).alloc #[_, _, _, _, _, _] _) ?_) | go_step)
    rintro W2 hS2
    clear t2 t1 t0 l2 l1 l0 hS1
    have hk := hS2.2.2
    simp only [World.size_alloc, List.forall_mem_cons] at hk
    obtain ⟨⟨-, l3, t3, -⟩, ⟨-, l2, t2, -⟩, ⟨-, l1, t1, -⟩, ⟨-, l0, t0, -⟩, -⟩ := hk
    go_wp2_with fail
    refine (k2 _).mono ?_
    rintro e w2 ⟨rfl, hw2⟩
    simp only []
    repeat (first | (with_reducible refine wp_keep _ ((hS2.below hw2).alloc #[_, _, _, _, _, _] _) ?_) | go_step)
    rintro W3 hS3
    clear t3 t2 t1 t0 l3 l2 l1 l0 hS2
    have hk := hS3.2.2
    simp only [World.size_alloc, List.forall_mem_cons] at hk
    obtain ⟨⟨-, l4, t4, -⟩, ⟨-, l3, t3, -⟩, ⟨-, l2, t2, -⟩, -⟩ := hk
    go_wp2_with fail
    refine (k3 _).mono ?_
    rintro e w3 ⟨rfl, hw3⟩
    simp only []
    repeat (first | (with_reducible refine wp_keep _ ((hS3.below hw3).alloc #[_, _, _, _, _, _] _) ?_) | go_step)
    rintro W4 hS4
    clear t4 t3 t2 l4 l3 l2 hS3
    have hb4 := hS4.1
    have hk := hS4.2.2
    simp only [World.size_alloc, List.forall_mem_cons] at hk
    obtain ⟨⟨-, l5, t5, -⟩, ⟨-, l4, t4, -⟩, ⟨-, l3, t3, -⟩, -⟩ := hk
    go_wp2_with fail
    refine (awake_any _).mono ?_
    rintro e w4 ⟨rfl, hw4⟩
    go_wp2_with fail
    go_ret
    exact ⟨rfl, hb4.trans (hw4.mono hS4.2.1)⟩
end Go.Proofs.Ytlecpfkfnaiabaa
