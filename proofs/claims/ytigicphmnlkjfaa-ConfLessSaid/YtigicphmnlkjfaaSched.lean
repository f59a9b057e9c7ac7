/- The contracts of sched.Right, ratchetref15.Right, conf.isOpt and ratchetref21.opt. (Printed by wip/gen_sched.py.) -/
import Derived.Test.YtigicphmnlkjfaaLeaf
namespace Go.Proofs.Ytigicphmnlkjfaa
open Go.RowKit
set_option linter.unusedVariables false

set_option maxRecDepth 100000 in
set_option maxHeartbeats 2000000 in
theorem sched_right (kind base rate fin warm every last pow f : Int) (b : Bool) (hb : b = decide (0 ≤ f ∧ f ≤ 40 ∧ 0 ≤ kind ∧ kind ≤ 3 ∧ 0 ≤ base ∧ 0 ≤ warm ∧ warm ≤ 1000000 ∧ (¬ kind = 2 ∨ (1 ≤ every ∧ every ≤ 1000000 ∧ 0 ≤ rate ∧ rate ≤ 2 ^ f.toNat)) ∧ (¬ kind = 3 ∨ (1 ≤ last ∧ last ≤ 1000000 ∧ 1 ≤ pow ∧ pow ≤ 8 ∧ 0 ≤ fin ∧ fin ≤ base)))) (w : World) :
    Calls Try.prog 28 #[.agg #[.int .i64 kind, .int .i64 base, .int .i64 rate, .int .i64 fin, .int .i64 warm, .int .i64 every, .int .i64 last, .int .i64 pow], .int .i64 f] w fun e w' => e = .returned (.bool b) ∧ Bl w w' := by
  have HB := Lib.hid hb
  clear hb
  go_enter Try.func28, Try.ntmps28
  by_cases q1 : 0 ≤ f ∧ f ≤ 40
  rotate_left
  · have D1 := Lib.hid (decide_eq_false q1).symm
    go_wp2_with fail
    refine (in_to f 0 40 false (by first | exact D1.out | exact D2.out | exact D3.out | exact D4.out | exact D5.out) _).mono ?_
    rintro e w1 ⟨rfl, rfl⟩
    (go_wp2; go_ret; first | exact ⟨ret_t HB.out (by omega), Bl.alloc _ _⟩ | exact ⟨ret_f HB.out (by omega), Bl.alloc _ _⟩ | exact ⟨ret_d HB.out (by omega), Bl.alloc _ _⟩)
  have D1 := Lib.hid (decide_eq_true q1).symm
  by_cases q2 : 0 ≤ kind ∧ kind ≤ 3
  rotate_left
  · have D2 := Lib.hid (decide_eq_false q2).symm
    go_wp2_with fail
    refine (in_to f 0 40 true (by first | exact D1.out | exact D2.out | exact D3.out | exact D4.out | exact D5.out) _).mono ?_
    rintro e w1 ⟨rfl, rfl⟩
    go_wp2_with fail
    refine (in_to kind 0 3 false (by first | exact D1.out | exact D2.out | exact D3.out | exact D4.out | exact D5.out) _).mono ?_
    rintro e w1 ⟨rfl, rfl⟩
    (go_wp2; go_ret; first | exact ⟨ret_t HB.out (by omega), Bl.alloc _ _⟩ | exact ⟨ret_f HB.out (by omega), Bl.alloc _ _⟩ | exact ⟨ret_d HB.out (by omega), Bl.alloc _ _⟩)
  have D2 := Lib.hid (decide_eq_true q2).symm
  by_cases q3 : 0 ≤ base
  rotate_left
  · have q3' : base < 0 := by omega
    go_wp2_with fail
    refine (in_to f 0 40 true (by first | exact D1.out | exact D2.out | exact D3.out | exact D4.out | exact D5.out) _).mono ?_
    rintro e w1 ⟨rfl, rfl⟩
    go_wp2_with fail
    refine (in_to kind 0 3 true (by first | exact D1.out | exact D2.out | exact D3.out | exact D4.out | exact D5.out) _).mono ?_
    rintro e w1 ⟨rfl, rfl⟩
    (go_wp2; go_ret; first | exact ⟨ret_t HB.out (by omega), Bl.alloc _ _⟩ | exact ⟨ret_f HB.out (by omega), Bl.alloc _ _⟩ | exact ⟨ret_d HB.out (by omega), Bl.alloc _ _⟩)
  by_cases q4 : 0 ≤ warm ∧ warm ≤ 1000000
  rotate_left
  · have D3 := Lib.hid (decide_eq_false q4).symm
    go_wp2_with fail
    refine (in_to f 0 40 true (by first | exact D1.out | exact D2.out | exact D3.out | exact D4.out | exact D5.out) _).mono ?_
    rintro e w1 ⟨rfl, rfl⟩
    go_wp2_with fail
    refine (in_to kind 0 3 true (by first | exact D1.out | exact D2.out | exact D3.out | exact D4.out | exact D5.out) _).mono ?_
    rintro e w1 ⟨rfl, rfl⟩
    go_wp2_with fail
    refine (in_to warm 0 1000000 false (by first | exact D1.out | exact D2.out | exact D3.out | exact D4.out | exact D5.out) _).mono ?_
    rintro e w1 ⟨rfl, rfl⟩
    (go_wp2; go_ret; first | exact ⟨ret_t HB.out (by omega), Bl.alloc _ _⟩ | exact ⟨ret_f HB.out (by omega), Bl.alloc _ _⟩ | exact ⟨ret_d HB.out (by omega), Bl.alloc _ _⟩)
  have D3 := Lib.hid (decide_eq_true q4).symm
  by_cases k2 : kind = 2
  · subst k2
    replace HB : Hid (b = decide (0 ≤ f ∧ f ≤ 40 ∧ 0 ≤ base ∧ 0 ≤ warm ∧ warm ≤ 1000000 ∧ 1 ≤ every ∧ every ≤ 1000000 ∧ 0 ≤ rate ∧ rate ≤ 2 ^ f.toNat)) := Lib.hid (by rw [HB.out]; exact decide_eq_decide.2 (by simp))
    obtain ⟨one, ho, ho2, h3, h4⟩ := pow40 q1.1 q1.2
    rw [← ho2] at HB
    have HO2 := Lib.hid ho2
    clear ho2
    go_wp2_with fail
    refine (in_to f 0 40 true (by first | exact D1.out | exact D2.out | exact D3.out | exact D4.out | exact D5.out) _).mono ?_
    rintro e w1 ⟨rfl, rfl⟩
    go_wp2_with fail
    refine (in_to 2 0 3 true (by first | exact D1.out | exact D2.out | exact D3.out | exact D4.out | exact D5.out) _).mono ?_
    rintro e w1 ⟨rfl, rfl⟩
    go_wp2_with fail
    refine (in_to warm 0 1000000 true (by first | exact D1.out | exact D2.out | exact D3.out | exact D4.out | exact D5.out) _).mono ?_
    rintro e w1 ⟨rfl, rfl⟩
    go_wp2
    by_cases q5 : 1 ≤ every ∧ every ≤ 1000000
    rotate_left
    · have D4 := Lib.hid (decide_eq_false q5).symm
      go_quiet (first | (go_at_call 46; exact Calls.quiet_of_same (in_to every 1 1000000 _ D4.out _)))
      (go_wp2; go_ret; first | exact ⟨ret_t HB.out (by omega), (Bl.alloc _ _).trans (Bl.drewN _ _)⟩ | exact ⟨ret_f HB.out (by omega), (Bl.alloc _ _).trans (Bl.drewN _ _)⟩ | exact ⟨ret_d HB.out (by omega), (Bl.alloc _ _).trans (Bl.drewN _ _)⟩)
    have D4 := Lib.hid (decide_eq_true q5).symm
    by_cases q6 : 0 ≤ rate
    rotate_left
    · have d6 := decide_eq_false q6
      go_quiet (first | (go_at_call 46; exact Calls.quiet_of_same (in_to every 1 1000000 _ D4.out _)))
      (go_wp2; go_ret; first | exact ⟨ret_t HB.out (by omega), (Bl.alloc _ _).trans (Bl.drewN _ _)⟩ | exact ⟨ret_f HB.out (by omega), (Bl.alloc _ _).trans (Bl.drewN _ _)⟩ | exact ⟨ret_d HB.out (by omega), (Bl.alloc _ _).trans (Bl.drewN _ _)⟩)
    go_quiet (first | (go_at_call 46; exact Calls.quiet_of_same (in_to every 1 1000000 _ D4.out _)))
    (go_wp2; go_ret; first | exact ⟨ret_t HB.out (by omega), (Bl.alloc _ _).trans (Bl.drewN _ _)⟩ | exact ⟨ret_f HB.out (by omega), (Bl.alloc _ _).trans (Bl.drewN _ _)⟩ | exact ⟨ret_d HB.out (by omega), (Bl.alloc _ _).trans (Bl.drewN _ _)⟩)
  have m2 : (kind == 2) = false := by simpa using k2
  by_cases k3 : kind = 3
  · subst k3
    replace HB : Hid (b = decide (0 ≤ f ∧ f ≤ 40 ∧ 0 ≤ base ∧ 0 ≤ warm ∧ warm ≤ 1000000 ∧ 1 ≤ last ∧ last ≤ 1000000 ∧ 1 ≤ pow ∧ pow ≤ 8 ∧ 0 ≤ fin ∧ fin ≤ base)) := Lib.hid (by rw [HB.out]; exact decide_eq_decide.2 (by simp))
    by_cases q5 : 1 ≤ last ∧ last ≤ 1000000
    rotate_left
    · have D4 := Lib.hid (decide_eq_false q5).symm
      go_wp2_with fail
      refine (in_to f 0 40 true (by first | exact D1.out | exact D2.out | exact D3.out | exact D4.out | exact D5.out) _).mono ?_
      rintro e w1 ⟨rfl, rfl⟩
      go_wp2_with fail
      refine (in_to 3 0 3 true (by first | exact D1.out | exact D2.out | exact D3.out | exact D4.out | exact D5.out) _).mono ?_
      rintro e w1 ⟨rfl, rfl⟩
      go_wp2_with fail
      refine (in_to warm 0 1000000 true (by first | exact D1.out | exact D2.out | exact D3.out | exact D4.out | exact D5.out) _).mono ?_
      rintro e w1 ⟨rfl, rfl⟩
      go_wp2_with fail
      refine (in_to last 1 1000000 false (by first | exact D1.out | exact D2.out | exact D3.out | exact D4.out | exact D5.out) _).mono ?_
      rintro e w1 ⟨rfl, rfl⟩
      (go_wp2; go_ret; first | exact ⟨ret_t HB.out (by omega), Bl.alloc _ _⟩ | exact ⟨ret_f HB.out (by omega), Bl.alloc _ _⟩ | exact ⟨ret_d HB.out (by omega), Bl.alloc _ _⟩)
    have D4 := Lib.hid (decide_eq_true q5).symm
    by_cases q6 : 1 ≤ pow ∧ pow ≤ 8
    rotate_left
    · have D5 := Lib.hid (decide_eq_false q6).symm
      go_wp2_with fail
      refine (in_to f 0 40 true (by first | exact D1.out | exact D2.out | exact D3.out | exact D4.out | exact D5.out) _).mono ?_
      rintro e w1 ⟨rfl, rfl⟩
      go_wp2_with fail
      refine (in_to 3 0 3 true (by first | exact D1.out | exact D2.out | exact D3.out | exact D4.out | exact D5.out) _).mono ?_
      rintro e w1 ⟨rfl, rfl⟩
      go_wp2_with fail
      refine (in_to warm 0 1000000 true (by first | exact D1.out | exact D2.out | exact D3.out | exact D4.out | exact D5.out) _).mono ?_
      rintro e w1 ⟨rfl, rfl⟩
      go_wp2_with fail
      refine (in_to last 1 1000000 true (by first | exact D1.out | exact D2.out | exact D3.out | exact D4.out | exact D5.out) _).mono ?_
      rintro e w1 ⟨rfl, rfl⟩
      go_wp2_with fail
      refine (in_to pow 1 8 false (by first | exact D1.out | exact D2.out | exact D3.out | exact D4.out | exact D5.out) _).mono ?_
      rintro e w1 ⟨rfl, rfl⟩
      (go_wp2; go_ret; first | exact ⟨ret_t HB.out (by omega), Bl.alloc _ _⟩ | exact ⟨ret_f HB.out (by omega), Bl.alloc _ _⟩ | exact ⟨ret_d HB.out (by omega), Bl.alloc _ _⟩)
    have D5 := Lib.hid (decide_eq_true q6).symm
    by_cases q7 : 0 ≤ fin
    rotate_left
    · have d7 := decide_eq_false q7
      go_wp2_with fail
      refine (in_to f 0 40 true (by first | exact D1.out | exact D2.out | exact D3.out | exact D4.out | exact D5.out) _).mono ?_
      rintro e w1 ⟨rfl, rfl⟩
      go_wp2_with fail
      refine (in_to 3 0 3 true (by first | exact D1.out | exact D2.out | exact D3.out | exact D4.out | exact D5.out) _).mono ?_
      rintro e w1 ⟨rfl, rfl⟩
      go_wp2_with fail
      refine (in_to warm 0 1000000 true (by first | exact D1.out | exact D2.out | exact D3.out | exact D4.out | exact D5.out) _).mono ?_
      rintro e w1 ⟨rfl, rfl⟩
      go_wp2_with fail
      refine (in_to last 1 1000000 true (by first | exact D1.out | exact D2.out | exact D3.out | exact D4.out | exact D5.out) _).mono ?_
      rintro e w1 ⟨rfl, rfl⟩
      go_wp2_with fail
      refine (in_to pow 1 8 true (by first | exact D1.out | exact D2.out | exact D3.out | exact D4.out | exact D5.out) _).mono ?_
      rintro e w1 ⟨rfl, rfl⟩
      (go_wp2; go_ret; first | exact ⟨ret_t HB.out (by omega), Bl.alloc _ _⟩ | exact ⟨ret_f HB.out (by omega), Bl.alloc _ _⟩ | exact ⟨ret_d HB.out (by omega), Bl.alloc _ _⟩)
    go_wp2_with fail
    refine (in_to f 0 40 true (by first | exact D1.out | exact D2.out | exact D3.out | exact D4.out | exact D5.out) _).mono ?_
    rintro e w1 ⟨rfl, rfl⟩
    go_wp2_with fail
    refine (in_to 3 0 3 true (by first | exact D1.out | exact D2.out | exact D3.out | exact D4.out | exact D5.out) _).mono ?_
    rintro e w1 ⟨rfl, rfl⟩
    go_wp2_with fail
    refine (in_to warm 0 1000000 true (by first | exact D1.out | exact D2.out | exact D3.out | exact D4.out | exact D5.out) _).mono ?_
    rintro e w1 ⟨rfl, rfl⟩
    go_wp2_with fail
    refine (in_to last 1 1000000 true (by first | exact D1.out | exact D2.out | exact D3.out | exact D4.out | exact D5.out) _).mono ?_
    rintro e w1 ⟨rfl, rfl⟩
    go_wp2_with fail
    refine (in_to pow 1 8 true (by first | exact D1.out | exact D2.out | exact D3.out | exact D4.out | exact D5.out) _).mono ?_
    rintro e w1 ⟨rfl, rfl⟩
    (go_wp2; go_ret; first | exact ⟨ret_t HB.out (by omega), Bl.alloc _ _⟩ | exact ⟨ret_f HB.out (by omega), Bl.alloc _ _⟩ | exact ⟨ret_d HB.out (by omega), Bl.alloc _ _⟩)
  replace HB : Hid (b = decide (0 ≤ f ∧ f ≤ 40 ∧ 0 ≤ kind ∧ kind ≤ 3 ∧ 0 ≤ base ∧ 0 ≤ warm ∧ warm ≤ 1000000)) := Lib.hid (by rw [HB.out]; exact decide_eq_decide.2 (by simp [k2, k3]))
  have m3 : (kind == 3) = false := by simpa using k3
  go_wp2_with fail
  refine (in_to f 0 40 true (by first | exact D1.out | exact D2.out | exact D3.out | exact D4.out | exact D5.out) _).mono ?_
  rintro e w1 ⟨rfl, rfl⟩
  go_wp2_with fail
  refine (in_to kind 0 3 true (by first | exact D1.out | exact D2.out | exact D3.out | exact D4.out | exact D5.out) _).mono ?_
  rintro e w1 ⟨rfl, rfl⟩
  go_wp2_with fail
  refine (in_to warm 0 1000000 true (by first | exact D1.out | exact D2.out | exact D3.out | exact D4.out | exact D5.out) _).mono ?_
  rintro e w1 ⟨rfl, rfl⟩
  (go_wp2; go_ret; first | exact ⟨ret_t HB.out (by omega), Bl.alloc _ _⟩ | exact ⟨ret_f HB.out (by omega), Bl.alloc _ _⟩ | exact ⟨ret_d HB.out (by omega), Bl.alloc _ _⟩)
set_option maxRecDepth 100000 in
set_option maxHeartbeats 2000000 in
theorem rsched_right (kind base rate fin warm every last pow f : Int) (b : Bool) (hb : b = decide (0 ≤ f ∧ f ≤ 40 ∧ 0 ≤ kind ∧ kind ≤ 3 ∧ 0 ≤ base ∧ 0 ≤ warm ∧ warm ≤ 1000000 ∧ (¬ kind = 2 ∨ (1 ≤ every ∧ every ≤ 1000000 ∧ 0 ≤ rate ∧ rate ≤ 2 ^ f.toNat)) ∧ (¬ kind = 3 ∨ (1 ≤ last ∧ last ≤ 1000000 ∧ 1 ≤ pow ∧ pow ≤ 8 ∧ 0 ≤ fin ∧ fin ≤ base)))) (w : World) :
    Calls Try.prog 34 #[.agg #[.int .i64 kind, .int .i64 base, .int .i64 rate, .int .i64 fin, .int .i64 warm, .int .i64 every, .int .i64 last, .int .i64 pow], .int .i64 f] w fun e w' => e = .returned (.bool b) ∧ Bl w w' := by
  have HB := Lib.hid hb
  clear hb
  go_enter Try.func34, Try.ntmps34
  by_cases q1 : 0 ≤ f ∧ f ≤ 40
  rotate_left
  · have D1 := Lib.hid (decide_eq_false q1).symm
    go_wp2_with fail
    refine (rin_to f 0 40 false (by first | exact D1.out | exact D2.out | exact D3.out | exact D4.out | exact D5.out) _).mono ?_
    rintro e w1 ⟨rfl, rfl⟩
    (go_wp2; go_ret; first | exact ⟨ret_t HB.out (by omega), Bl.alloc _ _⟩ | exact ⟨ret_f HB.out (by omega), Bl.alloc _ _⟩ | exact ⟨ret_d HB.out (by omega), Bl.alloc _ _⟩)
  have D1 := Lib.hid (decide_eq_true q1).symm
  by_cases q2 : 0 ≤ kind ∧ kind ≤ 3
  rotate_left
  · have D2 := Lib.hid (decide_eq_false q2).symm
    go_wp2_with fail
    refine (rin_to f 0 40 true (by first | exact D1.out | exact D2.out | exact D3.out | exact D4.out | exact D5.out) _).mono ?_
    rintro e w1 ⟨rfl, rfl⟩
    go_wp2_with fail
    refine (rin_to kind 0 3 false (by first | exact D1.out | exact D2.out | exact D3.out | exact D4.out | exact D5.out) _).mono ?_
    rintro e w1 ⟨rfl, rfl⟩
    (go_wp2; go_ret; first | exact ⟨ret_t HB.out (by omega), Bl.alloc _ _⟩ | exact ⟨ret_f HB.out (by omega), Bl.alloc _ _⟩ | exact ⟨ret_d HB.out (by omega), Bl.alloc _ _⟩)
  have D2 := Lib.hid (decide_eq_true q2).symm
  by_cases q3 : 0 ≤ base
  rotate_left
  · have q3' : base < 0 := by omega
    go_wp2_with fail
    refine (rin_to f 0 40 true (by first | exact D1.out | exact D2.out | exact D3.out | exact D4.out | exact D5.out) _).mono ?_
    rintro e w1 ⟨rfl, rfl⟩
    go_wp2_with fail
    refine (rin_to kind 0 3 true (by first | exact D1.out | exact D2.out | exact D3.out | exact D4.out | exact D5.out) _).mono ?_
    rintro e w1 ⟨rfl, rfl⟩
    (go_wp2; go_ret; first | exact ⟨ret_t HB.out (by omega), Bl.alloc _ _⟩ | exact ⟨ret_f HB.out (by omega), Bl.alloc _ _⟩ | exact ⟨ret_d HB.out (by omega), Bl.alloc _ _⟩)
  by_cases q4 : 0 ≤ warm ∧ warm ≤ 1000000
  rotate_left
  · have D3 := Lib.hid (decide_eq_false q4).symm
    go_wp2_with fail
    refine (rin_to f 0 40 true (by first | exact D1.out | exact D2.out | exact D3.out | exact D4.out | exact D5.out) _).mono ?_
    rintro e w1 ⟨rfl, rfl⟩
    go_wp2_with fail
    refine (rin_to kind 0 3 true (by first | exact D1.out | exact D2.out | exact D3.out | exact D4.out | exact D5.out) _).mono ?_
    rintro e w1 ⟨rfl, rfl⟩
    go_wp2_with fail
    refine (rin_to warm 0 1000000 false (by first | exact D1.out | exact D2.out | exact D3.out | exact D4.out | exact D5.out) _).mono ?_
    rintro e w1 ⟨rfl, rfl⟩
    (go_wp2; go_ret; first | exact ⟨ret_t HB.out (by omega), Bl.alloc _ _⟩ | exact ⟨ret_f HB.out (by omega), Bl.alloc _ _⟩ | exact ⟨ret_d HB.out (by omega), Bl.alloc _ _⟩)
  have D3 := Lib.hid (decide_eq_true q4).symm
  by_cases k2 : kind = 2
  · subst k2
    replace HB : Hid (b = decide (0 ≤ f ∧ f ≤ 40 ∧ 0 ≤ base ∧ 0 ≤ warm ∧ warm ≤ 1000000 ∧ 1 ≤ every ∧ every ≤ 1000000 ∧ 0 ≤ rate ∧ rate ≤ 2 ^ f.toNat)) := Lib.hid (by rw [HB.out]; exact decide_eq_decide.2 (by simp))
    obtain ⟨one, ho, ho2, h3, h4⟩ := pow40 q1.1 q1.2
    rw [← ho2] at HB
    have HO2 := Lib.hid ho2
    clear ho2
    go_wp2_with fail
    refine (rin_to f 0 40 true (by first | exact D1.out | exact D2.out | exact D3.out | exact D4.out | exact D5.out) _).mono ?_
    rintro e w1 ⟨rfl, rfl⟩
    go_wp2_with fail
    refine (rin_to 2 0 3 true (by first | exact D1.out | exact D2.out | exact D3.out | exact D4.out | exact D5.out) _).mono ?_
    rintro e w1 ⟨rfl, rfl⟩
    go_wp2_with fail
    refine (rin_to warm 0 1000000 true (by first | exact D1.out | exact D2.out | exact D3.out | exact D4.out | exact D5.out) _).mono ?_
    rintro e w1 ⟨rfl, rfl⟩
    go_wp2
    by_cases q5 : 1 ≤ every ∧ every ≤ 1000000
    rotate_left
    · have D4 := Lib.hid (decide_eq_false q5).symm
      go_quiet (first | (go_at_call 51; exact Calls.quiet_of_same (rin_to every 1 1000000 _ D4.out _)) | (go_at_call 52; exact Calls.quiet_of_same (rOne f one q1.1 q1.2 HO2.out _)))
      (go_wp2; go_ret; first | exact ⟨ret_t HB.out (by omega), (Bl.alloc _ _).trans (Bl.drewN _ _)⟩ | exact ⟨ret_f HB.out (by omega), (Bl.alloc _ _).trans (Bl.drewN _ _)⟩ | exact ⟨ret_d HB.out (by omega), (Bl.alloc _ _).trans (Bl.drewN _ _)⟩)
    have D4 := Lib.hid (decide_eq_true q5).symm
    by_cases q6 : 0 ≤ rate
    rotate_left
    · have d6 := decide_eq_false q6
      go_quiet (first | (go_at_call 51; exact Calls.quiet_of_same (rin_to every 1 1000000 _ D4.out _)) | (go_at_call 52; exact Calls.quiet_of_same (rOne f one q1.1 q1.2 HO2.out _)))
      (go_wp2; go_ret; first | exact ⟨ret_t HB.out (by omega), (Bl.alloc _ _).trans (Bl.drewN _ _)⟩ | exact ⟨ret_f HB.out (by omega), (Bl.alloc _ _).trans (Bl.drewN _ _)⟩ | exact ⟨ret_d HB.out (by omega), (Bl.alloc _ _).trans (Bl.drewN _ _)⟩)
    go_quiet (first | (go_at_call 51; exact Calls.quiet_of_same (rin_to every 1 1000000 _ D4.out _)) | (go_at_call 52; exact Calls.quiet_of_same (rOne f one q1.1 q1.2 HO2.out _)))
    (go_wp2; go_ret; first | exact ⟨ret_t HB.out (by omega), (Bl.alloc _ _).trans (Bl.drewN _ _)⟩ | exact ⟨ret_f HB.out (by omega), (Bl.alloc _ _).trans (Bl.drewN _ _)⟩ | exact ⟨ret_d HB.out (by omega), (Bl.alloc _ _).trans (Bl.drewN _ _)⟩)
  have m2 : (kind == 2) = false := by simpa using k2
  by_cases k3 : kind = 3
  · subst k3
    replace HB : Hid (b = decide (0 ≤ f ∧ f ≤ 40 ∧ 0 ≤ base ∧ 0 ≤ warm ∧ warm ≤ 1000000 ∧ 1 ≤ last ∧ last ≤ 1000000 ∧ 1 ≤ pow ∧ pow ≤ 8 ∧ 0 ≤ fin ∧ fin ≤ base)) := Lib.hid (by rw [HB.out]; exact decide_eq_decide.2 (by simp))
    by_cases q5 : 1 ≤ last ∧ last ≤ 1000000
    rotate_left
    · have D4 := Lib.hid (decide_eq_false q5).symm
      go_wp2_with fail
      refine (rin_to f 0 40 true (by first | exact D1.out | exact D2.out | exact D3.out | exact D4.out | exact D5.out) _).mono ?_
      rintro e w1 ⟨rfl, rfl⟩
      go_wp2_with fail
      refine (rin_to 3 0 3 true (by first | exact D1.out | exact D2.out | exact D3.out | exact D4.out | exact D5.out) _).mono ?_
      rintro e w1 ⟨rfl, rfl⟩
      go_wp2_with fail
      refine (rin_to warm 0 1000000 true (by first | exact D1.out | exact D2.out | exact D3.out | exact D4.out | exact D5.out) _).mono ?_
      rintro e w1 ⟨rfl, rfl⟩
      go_wp2_with fail
      refine (rin_to last 1 1000000 false (by first | exact D1.out | exact D2.out | exact D3.out | exact D4.out | exact D5.out) _).mono ?_
      rintro e w1 ⟨rfl, rfl⟩
      (go_wp2; go_ret; first | exact ⟨ret_t HB.out (by omega), Bl.alloc _ _⟩ | exact ⟨ret_f HB.out (by omega), Bl.alloc _ _⟩ | exact ⟨ret_d HB.out (by omega), Bl.alloc _ _⟩)
    have D4 := Lib.hid (decide_eq_true q5).symm
    by_cases q6 : 1 ≤ pow ∧ pow ≤ 8
    rotate_left
    · have D5 := Lib.hid (decide_eq_false q6).symm
      go_wp2_with fail
      refine (rin_to f 0 40 true (by first | exact D1.out | exact D2.out | exact D3.out | exact D4.out | exact D5.out) _).mono ?_
      rintro e w1 ⟨rfl, rfl⟩
      go_wp2_with fail
      refine (rin_to 3 0 3 true (by first | exact D1.out | exact D2.out | exact D3.out | exact D4.out | exact D5.out) _).mono ?_
      rintro e w1 ⟨rfl, rfl⟩
      go_wp2_with fail
      refine (rin_to warm 0 1000000 true (by first | exact D1.out | exact D2.out | exact D3.out | exact D4.out | exact D5.out) _).mono ?_
      rintro e w1 ⟨rfl, rfl⟩
      go_wp2_with fail
      refine (rin_to last 1 1000000 true (by first | exact D1.out | exact D2.out | exact D3.out | exact D4.out | exact D5.out) _).mono ?_
      rintro e w1 ⟨rfl, rfl⟩
      go_wp2_with fail
      refine (rin_to pow 1 8 false (by first | exact D1.out | exact D2.out | exact D3.out | exact D4.out | exact D5.out) _).mono ?_
      rintro e w1 ⟨rfl, rfl⟩
      (go_wp2; go_ret; first | exact ⟨ret_t HB.out (by omega), Bl.alloc _ _⟩ | exact ⟨ret_f HB.out (by omega), Bl.alloc _ _⟩ | exact ⟨ret_d HB.out (by omega), Bl.alloc _ _⟩)
    have D5 := Lib.hid (decide_eq_true q6).symm
    by_cases q7 : 0 ≤ fin
    rotate_left
    · have d7 := decide_eq_false q7
      go_wp2_with fail
      refine (rin_to f 0 40 true (by first | exact D1.out | exact D2.out | exact D3.out | exact D4.out | exact D5.out) _).mono ?_
      rintro e w1 ⟨rfl, rfl⟩
      go_wp2_with fail
      refine (rin_to 3 0 3 true (by first | exact D1.out | exact D2.out | exact D3.out | exact D4.out | exact D5.out) _).mono ?_
      rintro e w1 ⟨rfl, rfl⟩
      go_wp2_with fail
      refine (rin_to warm 0 1000000 true (by first | exact D1.out | exact D2.out | exact D3.out | exact D4.out | exact D5.out) _).mono ?_
      rintro e w1 ⟨rfl, rfl⟩
      go_wp2_with fail
      refine (rin_to last 1 1000000 true (by first | exact D1.out | exact D2.out | exact D3.out | exact D4.out | exact D5.out) _).mono ?_
      rintro e w1 ⟨rfl, rfl⟩
      go_wp2_with fail
      refine (rin_to pow 1 8 true (by first | exact D1.out | exact D2.out | exact D3.out | exact D4.out | exact D5.out) _).mono ?_
      rintro e w1 ⟨rfl, rfl⟩
      (go_wp2; go_ret; first | exact ⟨ret_t HB.out (by omega), Bl.alloc _ _⟩ | exact ⟨ret_f HB.out (by omega), Bl.alloc _ _⟩ | exact ⟨ret_d HB.out (by omega), Bl.alloc _ _⟩)
    go_wp2_with fail
    refine (rin_to f 0 40 true (by first | exact D1.out | exact D2.out | exact D3.out | exact D4.out | exact D5.out) _).mono ?_
    rintro e w1 ⟨rfl, rfl⟩
    go_wp2_with fail
    refine (rin_to 3 0 3 true (by first | exact D1.out | exact D2.out | exact D3.out | exact D4.out | exact D5.out) _).mono ?_
    rintro e w1 ⟨rfl, rfl⟩
    go_wp2_with fail
    refine (rin_to warm 0 1000000 true (by first | exact D1.out | exact D2.out | exact D3.out | exact D4.out | exact D5.out) _).mono ?_
    rintro e w1 ⟨rfl, rfl⟩
    go_wp2_with fail
    refine (rin_to last 1 1000000 true (by first | exact D1.out | exact D2.out | exact D3.out | exact D4.out | exact D5.out) _).mono ?_
    rintro e w1 ⟨rfl, rfl⟩
    go_wp2_with fail
    refine (rin_to pow 1 8 true (by first | exact D1.out | exact D2.out | exact D3.out | exact D4.out | exact D5.out) _).mono ?_
    rintro e w1 ⟨rfl, rfl⟩
    (go_wp2; go_ret; first | exact ⟨ret_t HB.out (by omega), Bl.alloc _ _⟩ | exact ⟨ret_f HB.out (by omega), Bl.alloc _ _⟩ | exact ⟨ret_d HB.out (by omega), Bl.alloc _ _⟩)
  replace HB : Hid (b = decide (0 ≤ f ∧ f ≤ 40 ∧ 0 ≤ kind ∧ kind ≤ 3 ∧ 0 ≤ base ∧ 0 ≤ warm ∧ warm ≤ 1000000)) := Lib.hid (by rw [HB.out]; exact decide_eq_decide.2 (by simp [k2, k3]))
  have m3 : (kind == 3) = false := by simpa using k3
  go_wp2_with fail
  refine (rin_to f 0 40 true (by first | exact D1.out | exact D2.out | exact D3.out | exact D4.out | exact D5.out) _).mono ?_
  rintro e w1 ⟨rfl, rfl⟩
  go_wp2_with fail
  refine (rin_to kind 0 3 true (by first | exact D1.out | exact D2.out | exact D3.out | exact D4.out | exact D5.out) _).mono ?_
  rintro e w1 ⟨rfl, rfl⟩
  go_wp2_with fail
  refine (rin_to warm 0 1000000 true (by first | exact D1.out | exact D2.out | exact D3.out | exact D4.out | exact D5.out) _).mono ?_
  rintro e w1 ⟨rfl, rfl⟩
  (go_wp2; go_ret; first | exact ⟨ret_t HB.out (by omega), Bl.alloc _ _⟩ | exact ⟨ret_f HB.out (by omega), Bl.alloc _ _⟩ | exact ⟨ret_d HB.out (by omega), Bl.alloc _ _⟩)

/-- Is a schedule right? -/
def schedB (s : SchedP) (f : Int) : Bool := decide (0 ≤ f ∧ f ≤ 40 ∧ 0 ≤ s.skind ∧ s.skind ≤ 3 ∧ 0 ≤ s.base ∧ 0 ≤ s.warm ∧ s.warm ≤ 1000000 ∧ (¬ s.skind = 2 ∨ (1 ≤ s.every ∧ s.every ≤ 1000000 ∧ 0 ≤ s.rate ∧ s.rate ≤ 2 ^ f.toNat)) ∧ (¬ s.skind = 3 ∨ (1 ≤ s.last ∧ s.last ≤ 1000000 ∧ 1 ≤ s.pow ∧ s.pow ≤ 8 ∧ 0 ≤ s.fin ∧ s.fin ≤ s.base)))
/-- Is an optimiser right? -/
def optB (o : OptP) (f : Int) : Bool := if o.kind = 0 then decide (0 ≤ f ∧ f ≤ 40 ∧ 0 ≤ o.ml ∧ 0 ≤ o.mm ∧ o.mm < 2 ^ f.toNat ∧ 0 ≤ o.mw ∧ o.mw ≤ 2 ^ f.toNat) else if o.kind = 1 then decide (0 ≤ f ∧ f ≤ 40 ∧ 0 ≤ o.al ∧ 1 ≤ o.ae ∧ 0 ≤ o.b1 ∧ o.b1 < 2 ^ f.toNat ∧ 0 ≤ o.b2 ∧ o.b2 < 2 ^ f.toNat ∧ 0 ≤ o.aw ∧ o.aw ≤ 2 ^ f.toNat) else if o.kind = 2 then decide (0 ≤ f ∧ f ≤ 40 ∧ 0 ≤ o.dl ∧ 1 ≤ o.de ∧ 2 ^ f.toNat ≤ o.dd) else false
set_option maxRecDepth 100000 in
set_option maxHeartbeats 1000000 in
theorem opt_to (o : OptP) (f : Int) (b : Bool) (hb : b = optB o f) (w : World) :
    Calls Try.prog 27 #[.agg o.cs.toArray, .int .i64 f] w fun e w' => e = .returned (.bool b) ∧ Bl w w' := by
  obtain ⟨kind, ml, mm, mw, nest, al, b1, b2, ae, aw, apart, dl, de, dd⟩ := o
  have BL := Lib.hid (Bl.alloc w (.cells (OptP.cs ⟨kind, ml, mm, mw, nest, al, b1, b2, ae, aw, apart, dl, de, dd⟩).toArray 49))
  unfold optB at hb
  unfold OptP.cs at BL ⊢
  simp only at hb BL ⊢
  by_cases k0 : kind = 0
  · subst k0
    have HC := Lib.hid (fun w => mom_right ml mm mw nest f b (by simpa using hb) w)
    clear hb
    go_enter Try.func27, Try.ntmps27
    go_wp2_with fail
    refine (HC.out _).mono ?_
    rintro e w1 ⟨rfl, b1⟩
    have B1 := Lib.hid (BL.out.trans b1)
    clear b1
    go_wp2
    go_ret
    exact ⟨rfl, B1.out⟩
  rw [if_neg k0] at hb
  have m0 : (kind == 0) = false := by simpa using k0
  by_cases k1 : kind = 1
  · subst k1
    have HC := Lib.hid (fun w => adam_right al b1 b2 ae aw apart f b (by simpa using hb) w)
    clear hb
    go_enter Try.func27, Try.ntmps27
    go_wp2_with fail
    refine (HC.out _).mono ?_
    rintro e w1 ⟨rfl, b1⟩
    have B1 := Lib.hid (BL.out.trans b1)
    clear b1
    go_wp2
    go_ret
    exact ⟨rfl, B1.out⟩
  rw [if_neg k1] at hb
  have m1 : (kind == 1) = false := by simpa using k1
  by_cases k2 : kind = 2
  · subst k2
    have HC := Lib.hid (fun w => ada_right dl de dd f b (by simpa using hb) w)
    clear hb
    go_enter Try.func27, Try.ntmps27
    go_wp2_with fail
    refine (HC.out _).mono ?_
    rintro e w1 ⟨rfl, b1⟩
    have B1 := Lib.hid (BL.out.trans b1)
    clear b1
    go_wp2
    go_ret
    exact ⟨rfl, B1.out⟩
  rw [if_neg k2] at hb
  have m2 : (kind == 2) = false := by simpa using k2
  subst hb
  go_enter Try.func27, Try.ntmps27
  go_wp2
  go_ret
  exact ⟨rfl, BL.out⟩
set_option maxRecDepth 100000 in
set_option maxHeartbeats 1000000 in
theorem ropt_to (o : OptP) (f : Int) (b : Bool) (hb : b = optB o f) (w : World) :
    Calls Try.prog 33 #[.agg o.cs.toArray, .int .i64 f] w fun e w' => e = .returned (.bool b) ∧ Bl w w' := by
  obtain ⟨kind, ml, mm, mw, nest, al, b1, b2, ae, aw, apart, dl, de, dd⟩ := o
  have BL := Lib.hid (Bl.alloc w (.cells (OptP.cs ⟨kind, ml, mm, mw, nest, al, b1, b2, ae, aw, apart, dl, de, dd⟩).toArray 49))
  unfold optB at hb
  unfold OptP.cs at BL ⊢
  simp only at hb BL ⊢
  by_cases k0 : kind = 0
  · subst k0
    have HC := Lib.hid (fun w => rmom_right ml mm mw nest f b (by simpa using hb) w)
    clear hb
    go_enter Try.func33, Try.ntmps33
    go_wp2_with fail
    refine (HC.out _).mono ?_
    rintro e w1 ⟨rfl, b1⟩
    have B1 := Lib.hid (BL.out.trans b1)
    clear b1
    go_wp2
    go_ret
    exact ⟨rfl, B1.out⟩
  rw [if_neg k0] at hb
  have m0 : (kind == 0) = false := by simpa using k0
  by_cases k1 : kind = 1
  · subst k1
    have HC := Lib.hid (fun w => radam_right al b1 b2 ae aw apart f b (by simpa using hb) w)
    clear hb
    go_enter Try.func33, Try.ntmps33
    go_wp2_with fail
    refine (HC.out _).mono ?_
    rintro e w1 ⟨rfl, b1⟩
    have B1 := Lib.hid (BL.out.trans b1)
    clear b1
    go_wp2
    go_ret
    exact ⟨rfl, B1.out⟩
  rw [if_neg k1] at hb
  have m1 : (kind == 1) = false := by simpa using k1
  by_cases k2 : kind = 2
  · subst k2
    have HC := Lib.hid (fun w => rada_right dl de dd f b (by simpa using hb) w)
    clear hb
    go_enter Try.func33, Try.ntmps33
    go_wp2_with fail
    refine (HC.out _).mono ?_
    rintro e w1 ⟨rfl, b1⟩
    have B1 := Lib.hid (BL.out.trans b1)
    clear b1
    go_wp2
    go_ret
    exact ⟨rfl, B1.out⟩
  rw [if_neg k2] at hb
  have m2 : (kind == 2) = false := by simpa using k2
  subst hb
  go_enter Try.func33, Try.ntmps33
  go_wp2
  go_ret
  exact ⟨rfl, BL.out⟩
end Go.Proofs.Ytigicphmnlkjfaa
