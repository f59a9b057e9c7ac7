/- The contracts of the small tests: tens.May, book.Signed, mom.Right, adam.Right, ada.Right, and the reference's. (Printed by wip/gen_leaf.py.) -/
import Derived.Test.YtigicphmnlkjfaaConf
import Derived.Outline
import Derived.BigQuiet
import Derived.Deep.QuietTactic
import Derived.Laws.BitsAllLaws
namespace Go.Proofs.Ytigicphmnlkjfaa
open Go.RowKit
set_option linter.unusedVariables false

theorem ret_t {b : Bool} {p : Prop} [Decidable p] (hb : b = decide p) (h : p) : Ending.returned (.bool true) = .returned (.bool b) := by rw [hb, decide_eq_true h]
theorem ret_f {b : Bool} {p : Prop} [Decidable p] (hb : b = decide p) (h : ¬ p) : Ending.returned (.bool false) = .returned (.bool b) := by rw [hb, decide_eq_false h]
theorem ret_d {b : Bool} {p q : Prop} [Decidable p] [Decidable q] (hb : b = decide p) (h : q ↔ p) : Ending.returned (.bool (decide q)) = .returned (.bool b) := by rw [hb, decide_eq_decide.2 h]
theorem ret_o {b : Bool} {n k m : Int} (hb : b = decide (n = k ∨ n = m)) : Ending.returned (.bool (n == k || n == m)) = .returned (.bool b) := by
  rw [hb]
  by_cases h1 : n = k <;> by_cases h2 : n = m <;> simp [h1, h2]
theorem pow_pos (n : Nat) : (1 : Int) ≤ 2 ^ n := by
  have := Nat.one_le_two_pow (n := n)
  exact_mod_cast this
theorem pow_le {n m : Nat} (h : n ≤ m) : (2 : Int) ^ n ≤ 2 ^ m := by
  have := Nat.pow_le_pow_right (n := 2) (by omega) h
  exact_mod_cast this
theorem pow40 {f : Int} (h0 : 0 ≤ f) (h1 : f ≤ 40) : ∃ one : Int, wrap64 (2 ^ f.toNat) = one ∧ one = 2 ^ f.toNat ∧ 1 ≤ one ∧ one ≤ 1099511627776 := by
  have h2 : (2 : Int) ^ f.toNat ≤ 2 ^ 40 := pow_le (by omega)
  have h3 := pow_pos f.toNat
  exact ⟨2 ^ f.toNat, by unfold wrap64; omega, rfl, h3, by omega⟩

set_option maxRecDepth 100000 in
theorem in_to (n lo hi : Int) (b : Bool) (hb : b = decide (lo ≤ n ∧ n ≤ hi)) (w : World) : Calls Try.prog 46 #[.int .i64 n, .int .i64 lo, .int .i64 hi] w fun e w' => e = .returned (.bool b) ∧ w' = w := by
  have HB := Lib.hid hb
  clear hb
  go_enter Try.func46, Try.ntmps46
  go_wp2
  all_goals (go_ret; first | exact ⟨ret_t HB.out (by omega), rfl⟩ | exact ⟨ret_f HB.out (by omega), rfl⟩ | exact ⟨ret_d HB.out (by omega), rfl⟩ | exact ⟨ret_o HB.out, rfl⟩)
set_option maxRecDepth 100000 in
theorem rin_to (n lo hi : Int) (b : Bool) (hb : b = decide (lo ≤ n ∧ n ≤ hi)) (w : World) : Calls Try.prog 51 #[.int .i64 n, .int .i64 lo, .int .i64 hi] w fun e w' => e = .returned (.bool b) ∧ w' = w := by
  have HB := Lib.hid hb
  clear hb
  go_enter Try.func51, Try.ntmps51
  go_wp2
  all_goals (go_ret; first | exact ⟨ret_t HB.out (by omega), rfl⟩ | exact ⟨ret_f HB.out (by omega), rfl⟩ | exact ⟨ret_d HB.out (by omega), rfl⟩ | exact ⟨ret_o HB.out, rfl⟩)
set_option maxRecDepth 100000 in
theorem isMany_to (n : Int) (b : Bool) (hb : b = decide (1 ≤ n ∧ n ≤ 8)) (w : World) : Calls Try.prog 25 #[.int .i64 n] w fun e w' => e = .returned (.bool b) ∧ w' = w := by
  have HB := Lib.hid hb
  clear hb
  go_enter Try.func25, Try.ntmps25
  go_wp2
  all_goals (go_ret; first | exact ⟨ret_t HB.out (by omega), rfl⟩ | exact ⟨ret_f HB.out (by omega), rfl⟩ | exact ⟨ret_d HB.out (by omega), rfl⟩ | exact ⟨ret_o HB.out, rfl⟩)
set_option maxRecDepth 100000 in
theorem isSide_to (n : Int) (b : Bool) (hb : b = decide (1 ≤ n ∧ n ≤ 512)) (w : World) : Calls Try.prog 47 #[.int .i64 n] w fun e w' => e = .returned (.bool b) ∧ w' = w := by
  have HB := Lib.hid hb
  clear hb
  go_enter Try.func47, Try.ntmps47
  go_wp2
  all_goals (go_ret; first | exact ⟨ret_t HB.out (by omega), rfl⟩ | exact ⟨ret_f HB.out (by omega), rfl⟩ | exact ⟨ret_d HB.out (by omega), rfl⟩ | exact ⟨ret_o HB.out, rfl⟩)
set_option maxRecDepth 100000 in
theorem signed_to (n : Int) (b : Bool) (hb : b = decide (n = 0 ∨ n = 2)) (w : World) : Calls Try.prog 24 #[.int .i64 n] w fun e w' => e = .returned (.bool b) ∧ w' = w := by
  have HB := Lib.hid hb
  clear hb
  go_enter Try.func24, Try.ntmps24
  go_wp2
  all_goals (go_ret; first | exact ⟨ret_t HB.out (by omega), rfl⟩ | exact ⟨ret_f HB.out (by omega), rfl⟩ | exact ⟨ret_d HB.out (by omega), rfl⟩ | exact ⟨ret_o HB.out, rfl⟩)
set_option maxRecDepth 100000 in
theorem rsigned_to (n : Int) (b : Bool) (hb : b = decide (n = 0 ∨ n = 2)) (w : World) : Calls Try.prog 32 #[.int .i64 n] w fun e w' => e = .returned (.bool b) ∧ w' = w := by
  have HB := Lib.hid hb
  clear hb
  go_enter Try.func32, Try.ntmps32
  go_wp2
  all_goals (go_ret; first | exact ⟨ret_t HB.out (by omega), rfl⟩ | exact ⟨ret_f HB.out (by omega), rfl⟩ | exact ⟨ret_d HB.out (by omega), rfl⟩ | exact ⟨ret_o HB.out, rfl⟩)
set_option maxRecDepth 100000 in
theorem one_adam (f one : Int) (h0 : 0 ≤ f) (h1 : f ≤ 40) (ho : one = 2 ^ f.toNat) (w : World) : Calls Try.prog 61 #[.int .i64 f] w fun e w' => e = .returned (.int .i64 one) ∧ w' = w := by
  obtain ⟨one', hw, ho', _, _⟩ := pow40 h0 h1
  obtain rfl : one' = one := by rw [ho', ho]
  clear ho ho'
  go_enter Try.func61, Try.ntmps61
  go_wp2
  all_goals (go_ret; exact ⟨congrArg (fun m : Int => Ending.returned (.int .i64 m)) hw, rfl⟩)
set_option maxRecDepth 100000 in
theorem one_ada (f one : Int) (h0 : 0 ≤ f) (h1 : f ≤ 40) (ho : one = 2 ^ f.toNat) (w : World) : Calls Try.prog 62 #[.int .i64 f] w fun e w' => e = .returned (.int .i64 one) ∧ w' = w := by
  obtain ⟨one', hw, ho', _, _⟩ := pow40 h0 h1
  obtain rfl : one' = one := by rw [ho', ho]
  clear ho ho'
  go_enter Try.func62, Try.ntmps62
  go_wp2
  all_goals (go_ret; exact ⟨congrArg (fun m : Int => Ending.returned (.int .i64 m)) hw, rfl⟩)
set_option maxRecDepth 100000 in
theorem rOne (f one : Int) (h0 : 0 ≤ f) (h1 : f ≤ 40) (ho : one = 2 ^ f.toNat) (w : World) : Calls Try.prog 52 #[.int .i64 f] w fun e w' => e = .returned (.int .i64 one) ∧ w' = w := by
  obtain ⟨n, rfl⟩ : ∃ n : Nat, f = (n : Int) := ⟨f.toNat, by omega⟩
  have hn : n ≤ 40 := by omega
  have HO : Hid (one = 2 ^ n) := Lib.hid (by rw [ho]; rfl)
  clear h0 h1 ho
  go_enter Try.func52, Try.ntmps52
  go_wp2
  go_loop [3, 4] (fun v i => ∃ (k : Nat) (m : Int), k ≤ n ∧ i = .int .i64 k ∧ v = .int .i64 m ∧ Hid (m = 2 ^ k) ∧ 1 ≤ m ∧ m ≤ 1099511627776) (fun _ i => n - (intOf i).toNat)
  case atStart => exact ⟨0, 1, Nat.zero_le _, rfl, rfl, Lib.hid (by simp), by omega, by omega⟩
  case round =>
    obtain ⟨k, m, hk, rfl, rfl, HM, h1, h2⟩ := hrel
    by_cases hlt : k < n
    · have hw : wrap64 (m * 2) = m * 2 := by unfold wrap64; omega
      have HM2 : Hid (m * 2 = 2 ^ (k + 1)) := Lib.hid (by rw [HM.out, Int.pow_succ])
      have h3 : m * 2 ≤ 1099511627776 := by
        rw [HM2.out]
        exact Int.le_trans (pow_le (show k + 1 ≤ 40 by omega)) (by decide)
      have h4 : 1 ≤ m * 2 := by omega
      clear HM
      go_wp2
      go_round
      case rel => exact ⟨k + 1, m * 2, by omega, by go_num, by go_num, HM2, h4, h3⟩
      case measure => simp [intOf]; omega
    · have HM2 : Hid (m = one) := Lib.hid (by rw [HM.out, HO.out, show k = n by omega])
      clear HM HO
      go_wp2
      go_ret
      exact ⟨congrArg (fun m : Int => Ending.returned (.int .i64 m)) HM2.out, rfl⟩
theorem rOne17 (f one : Int) (h0 : 0 ≤ f) (h1 : f ≤ 40) (ho : one = 2 ^ f.toNat) (w : World) : Calls Try.prog 63 #[.int .i64 f] w fun e w' => e = .returned (.int .i64 one) ∧ w' = w := by
  have h := rOne f one h0 h1 ho w
  have H := Lib.hid h
  clear h ho
  go_enter Try.func63, Try.ntmps63
  go_wp2_with fail
  refine H.out.mono ?_
  rintro e w1 ⟨rfl, rfl⟩
  go_wp2
  go_ret
  exact ⟨rfl, rfl⟩
set_option maxRecDepth 100000 in
theorem may_to (kind size small out : Int) (b : Bool) (hb : b = decide (0 ≤ kind ∧ kind ≤ 3 ∧ 1 ≤ size ∧ size ≤ 4096 ∧ 0 ≤ small ∧ 0 ≤ out)) (w : World) :
    Calls Try.prog 23 #[.agg #[.int .i64 kind, .int .i64 size, .int .i64 small, .int .i64 out]] w fun e w' => e = .returned (.bool b) ∧ Bl w w' := by
  have HB := Lib.hid hb
  clear hb
  go_enter Try.func23, Try.ntmps23
  go_wp2
  all_goals (go_ret; first | exact ⟨ret_t HB.out (by omega), Bl.alloc _ _⟩ | exact ⟨ret_f HB.out (by omega), Bl.alloc _ _⟩ | exact ⟨ret_d HB.out (by omega), Bl.alloc _ _⟩)
set_option maxRecDepth 100000 in
theorem rmay_to (kind size small out : Int) (b : Bool) (hb : b = decide (0 ≤ kind ∧ kind ≤ 3 ∧ 1 ≤ size ∧ size ≤ 4096 ∧ 0 ≤ small ∧ 0 ≤ out)) (w : World) :
    Calls Try.prog 31 #[.agg #[.int .i64 kind, .int .i64 size, .int .i64 small, .int .i64 out]] w fun e w' => e = .returned (.bool b) ∧ Bl w w' := by
  have HB := Lib.hid hb
  clear hb
  go_enter Try.func31, Try.ntmps31
  go_wp2
  all_goals (go_ret; first | exact ⟨ret_t HB.out (by omega), Bl.alloc _ _⟩ | exact ⟨ret_f HB.out (by omega), Bl.alloc _ _⟩ | exact ⟨ret_d HB.out (by omega), Bl.alloc _ _⟩)
set_option maxRecDepth 100000 in
set_option maxHeartbeats 1000000 in
theorem mom_right (ml mm mw : Int) (nest : Bool) (f : Int) (b : Bool) (hb : b = decide (0 ≤ f ∧ f ≤ 40 ∧ 0 ≤ ml ∧ 0 ≤ mm ∧ mm < 2 ^ f.toNat ∧ 0 ≤ mw ∧ mw ≤ 2 ^ f.toNat)) (w : World) :
    Calls Try.prog 43 #[.agg #[.int .i64 ml, .int .i64 mm, .int .i64 mw, .bool nest], .int .i64 f] w fun e w' => e = .returned (.bool b) ∧ Bl w w' := by
  have HB := Lib.hid hb
  clear hb
  go_enter Try.func43, Try.ntmps43
  by_cases h0 : 0 ≤ f
  · by_cases h1 : f ≤ 40
    · obtain ⟨one, ho, ho2, h3, h4⟩ := pow40 h0 h1
      rw [← ho2] at HB
      clear ho2
      go_wp2
      all_goals (go_ret; first | exact ⟨ret_t HB.out (by omega), Bl.alloc _ _⟩ | exact ⟨ret_f HB.out (by omega), Bl.alloc _ _⟩ | exact ⟨ret_d HB.out (by omega), Bl.alloc _ _⟩)
    · go_wp2
      all_goals (go_ret; first | exact ⟨ret_t HB.out (by omega), Bl.alloc _ _⟩ | exact ⟨ret_f HB.out (by omega), Bl.alloc _ _⟩ | exact ⟨ret_d HB.out (by omega), Bl.alloc _ _⟩)
  · go_wp2
    all_goals (go_ret; first | exact ⟨ret_t HB.out (by omega), Bl.alloc _ _⟩ | exact ⟨ret_f HB.out (by omega), Bl.alloc _ _⟩ | exact ⟨ret_d HB.out (by omega), Bl.alloc _ _⟩)
set_option maxRecDepth 100000 in
set_option maxHeartbeats 1000000 in
theorem ada_right (dl de dd : Int) (f : Int) (b : Bool) (hb : b = decide (0 ≤ f ∧ f ≤ 40 ∧ 0 ≤ dl ∧ 1 ≤ de ∧ 2 ^ f.toNat ≤ dd)) (w : World) :
    Calls Try.prog 45 #[.agg #[.int .i64 dl, .int .i64 de, .int .i64 dd], .int .i64 f] w fun e w' => e = .returned (.bool b) ∧ Bl w w' := by
  have HB := Lib.hid hb
  clear hb
  go_enter Try.func45, Try.ntmps45
  go_wp2
  by_cases h0 : 0 ≤ f
  rotate_left
  · have d0 := decide_eq_false h0
    go_quiet (fail)
    (go_wp2; go_ret; first | exact ⟨ret_t HB.out (by omega), (Bl.alloc _ _).trans (Bl.drewN _ _)⟩ | exact ⟨ret_f HB.out (by omega), (Bl.alloc _ _).trans (Bl.drewN _ _)⟩ | exact ⟨ret_d HB.out (by omega), (Bl.alloc _ _).trans (Bl.drewN _ _)⟩)
  by_cases h1 : f ≤ 40
  rotate_left
  · have d0 := decide_eq_false h1
    go_quiet (fail)
    (go_wp2; go_ret; first | exact ⟨ret_t HB.out (by omega), (Bl.alloc _ _).trans (Bl.drewN _ _)⟩ | exact ⟨ret_f HB.out (by omega), (Bl.alloc _ _).trans (Bl.drewN _ _)⟩ | exact ⟨ret_d HB.out (by omega), (Bl.alloc _ _).trans (Bl.drewN _ _)⟩)
  obtain ⟨one, ho, ho2, h3, h4⟩ := pow40 h0 h1
  rw [← ho2] at HB
  have HO2 := Lib.hid ho2
  clear ho2
  by_cases q0 : 0 ≤ dl
  rotate_left
  · have d0 := decide_eq_false q0
    go_quiet (first | (go_at_call 62; exact Calls.quiet_of_same (one_ada f one h0 h1 HO2.out _)))
    (go_wp2; go_ret; first | exact ⟨ret_t HB.out (by omega), (Bl.alloc _ _).trans (Bl.drewN _ _)⟩ | exact ⟨ret_f HB.out (by omega), (Bl.alloc _ _).trans (Bl.drewN _ _)⟩ | exact ⟨ret_d HB.out (by omega), (Bl.alloc _ _).trans (Bl.drewN _ _)⟩)
  by_cases q1 : 0 < de
  rotate_left
  · have d1 := decide_eq_false q1
    go_quiet (first | (go_at_call 62; exact Calls.quiet_of_same (one_ada f one h0 h1 HO2.out _)))
    (go_wp2; go_ret; first | exact ⟨ret_t HB.out (by omega), (Bl.alloc _ _).trans (Bl.drewN _ _)⟩ | exact ⟨ret_f HB.out (by omega), (Bl.alloc _ _).trans (Bl.drewN _ _)⟩ | exact ⟨ret_d HB.out (by omega), (Bl.alloc _ _).trans (Bl.drewN _ _)⟩)
  by_cases q2 : one ≤ dd
  rotate_left
  · have d2 := decide_eq_false q2
    go_quiet (first | (go_at_call 62; exact Calls.quiet_of_same (one_ada f one h0 h1 HO2.out _)))
    (go_wp2; go_ret; first | exact ⟨ret_t HB.out (by omega), (Bl.alloc _ _).trans (Bl.drewN _ _)⟩ | exact ⟨ret_f HB.out (by omega), (Bl.alloc _ _).trans (Bl.drewN _ _)⟩ | exact ⟨ret_d HB.out (by omega), (Bl.alloc _ _).trans (Bl.drewN _ _)⟩)
  go_quiet (first | (go_at_call 62; exact Calls.quiet_of_same (one_ada f one h0 h1 HO2.out _)))
  (go_wp2; go_ret; first | exact ⟨ret_t HB.out (by omega), (Bl.alloc _ _).trans (Bl.drewN _ _)⟩ | exact ⟨ret_f HB.out (by omega), (Bl.alloc _ _).trans (Bl.drewN _ _)⟩ | exact ⟨ret_d HB.out (by omega), (Bl.alloc _ _).trans (Bl.drewN _ _)⟩)
set_option maxRecDepth 100000 in
set_option maxHeartbeats 1000000 in
theorem rada_right (dl de dd : Int) (f : Int) (b : Bool) (hb : b = decide (0 ≤ f ∧ f ≤ 40 ∧ 0 ≤ dl ∧ 1 ≤ de ∧ 2 ^ f.toNat ≤ dd)) (w : World) :
    Calls Try.prog 50 #[.agg #[.int .i64 dl, .int .i64 de, .int .i64 dd], .int .i64 f] w fun e w' => e = .returned (.bool b) ∧ Bl w w' := by
  have HB := Lib.hid hb
  clear hb
  go_enter Try.func50, Try.ntmps50
  go_wp2
  by_cases h0 : 0 ≤ f
  rotate_left
  · have d0 := decide_eq_false h0
    go_quiet (fail)
    (go_wp2; go_ret; first | exact ⟨ret_t HB.out (by omega), (Bl.alloc _ _).trans (Bl.drewN _ _)⟩ | exact ⟨ret_f HB.out (by omega), (Bl.alloc _ _).trans (Bl.drewN _ _)⟩ | exact ⟨ret_d HB.out (by omega), (Bl.alloc _ _).trans (Bl.drewN _ _)⟩)
  by_cases h1 : f ≤ 40
  rotate_left
  · have d0 := decide_eq_false h1
    go_quiet (fail)
    (go_wp2; go_ret; first | exact ⟨ret_t HB.out (by omega), (Bl.alloc _ _).trans (Bl.drewN _ _)⟩ | exact ⟨ret_f HB.out (by omega), (Bl.alloc _ _).trans (Bl.drewN _ _)⟩ | exact ⟨ret_d HB.out (by omega), (Bl.alloc _ _).trans (Bl.drewN _ _)⟩)
  obtain ⟨one, ho, ho2, h3, h4⟩ := pow40 h0 h1
  rw [← ho2] at HB
  have HO2 := Lib.hid ho2
  clear ho2
  by_cases q0 : 0 ≤ dl
  rotate_left
  · have d0 := decide_eq_false q0
    go_quiet (first | (go_at_call 63; exact Calls.quiet_of_same (rOne17 f one h0 h1 HO2.out _)))
    (go_wp2; go_ret; first | exact ⟨ret_t HB.out (by omega), (Bl.alloc _ _).trans (Bl.drewN _ _)⟩ | exact ⟨ret_f HB.out (by omega), (Bl.alloc _ _).trans (Bl.drewN _ _)⟩ | exact ⟨ret_d HB.out (by omega), (Bl.alloc _ _).trans (Bl.drewN _ _)⟩)
  by_cases q1 : 1 ≤ de
  rotate_left
  · have d1 := decide_eq_false q1
    go_quiet (first | (go_at_call 63; exact Calls.quiet_of_same (rOne17 f one h0 h1 HO2.out _)))
    (go_wp2; go_ret; first | exact ⟨ret_t HB.out (by omega), (Bl.alloc _ _).trans (Bl.drewN _ _)⟩ | exact ⟨ret_f HB.out (by omega), (Bl.alloc _ _).trans (Bl.drewN _ _)⟩ | exact ⟨ret_d HB.out (by omega), (Bl.alloc _ _).trans (Bl.drewN _ _)⟩)
  by_cases q2 : one ≤ dd
  rotate_left
  · have d2 := decide_eq_false q2
    go_quiet (first | (go_at_call 63; exact Calls.quiet_of_same (rOne17 f one h0 h1 HO2.out _)))
    (go_wp2; go_ret; first | exact ⟨ret_t HB.out (by omega), (Bl.alloc _ _).trans (Bl.drewN _ _)⟩ | exact ⟨ret_f HB.out (by omega), (Bl.alloc _ _).trans (Bl.drewN _ _)⟩ | exact ⟨ret_d HB.out (by omega), (Bl.alloc _ _).trans (Bl.drewN _ _)⟩)
  go_quiet (first | (go_at_call 63; exact Calls.quiet_of_same (rOne17 f one h0 h1 HO2.out _)))
  (go_wp2; go_ret; first | exact ⟨ret_t HB.out (by omega), (Bl.alloc _ _).trans (Bl.drewN _ _)⟩ | exact ⟨ret_f HB.out (by omega), (Bl.alloc _ _).trans (Bl.drewN _ _)⟩ | exact ⟨ret_d HB.out (by omega), (Bl.alloc _ _).trans (Bl.drewN _ _)⟩)
set_option maxRecDepth 100000 in
set_option maxHeartbeats 1000000 in
theorem rmom_right (ml mm mw : Int) (nest : Bool) (f : Int) (b : Bool) (hb : b = decide (0 ≤ f ∧ f ≤ 40 ∧ 0 ≤ ml ∧ 0 ≤ mm ∧ mm < 2 ^ f.toNat ∧ 0 ≤ mw ∧ mw ≤ 2 ^ f.toNat)) (w : World) :
    Calls Try.prog 48 #[.agg #[.int .i64 ml, .int .i64 mm, .int .i64 mw, .bool nest], .int .i64 f] w fun e w' => e = .returned (.bool b) ∧ Bl w w' := by
  have HB := Lib.hid hb
  clear hb
  go_enter Try.func48, Try.ntmps48
  by_cases h0 : 0 ≤ f
  rotate_left
  · (go_wp2; go_ret; first | exact ⟨ret_t HB.out (by omega), Bl.alloc _ _⟩ | exact ⟨ret_f HB.out (by omega), Bl.alloc _ _⟩ | exact ⟨ret_d HB.out (by omega), Bl.alloc _ _⟩)
  by_cases h1 : f ≤ 40
  rotate_left
  · (go_wp2; go_ret; first | exact ⟨ret_t HB.out (by omega), Bl.alloc _ _⟩ | exact ⟨ret_f HB.out (by omega), Bl.alloc _ _⟩ | exact ⟨ret_d HB.out (by omega), Bl.alloc _ _⟩)
  by_cases h2 : 0 ≤ ml
  rotate_left
  · (go_wp2; go_ret; first | exact ⟨ret_t HB.out (by omega), Bl.alloc _ _⟩ | exact ⟨ret_f HB.out (by omega), Bl.alloc _ _⟩ | exact ⟨ret_d HB.out (by omega), Bl.alloc _ _⟩)
  obtain ⟨one, ho, ho2, h3, h4⟩ := pow40 h0 h1
  rw [← ho2] at HB
  have HO2 := Lib.hid ho2
  clear ho2
  go_wp2
  by_cases q0 : 0 ≤ mm
  rotate_left
  · have d0 := decide_eq_false q0
    go_quiet (first | (go_at_call 63; exact Calls.quiet_of_same (rOne17 f one h0 h1 HO2.out _)))
    (go_wp2; go_ret; first | exact ⟨ret_t HB.out (by omega), (Bl.alloc _ _).trans (Bl.drewN _ _)⟩ | exact ⟨ret_f HB.out (by omega), (Bl.alloc _ _).trans (Bl.drewN _ _)⟩ | exact ⟨ret_d HB.out (by omega), (Bl.alloc _ _).trans (Bl.drewN _ _)⟩)
  by_cases q1 : mm < one
  rotate_left
  · have d1 := decide_eq_false q1
    go_quiet (first | (go_at_call 63; exact Calls.quiet_of_same (rOne17 f one h0 h1 HO2.out _)))
    (go_wp2; go_ret; first | exact ⟨ret_t HB.out (by omega), (Bl.alloc _ _).trans (Bl.drewN _ _)⟩ | exact ⟨ret_f HB.out (by omega), (Bl.alloc _ _).trans (Bl.drewN _ _)⟩ | exact ⟨ret_d HB.out (by omega), (Bl.alloc _ _).trans (Bl.drewN _ _)⟩)
  by_cases q2 : 0 ≤ mw
  rotate_left
  · have d2 := decide_eq_false q2
    go_quiet (first | (go_at_call 63; exact Calls.quiet_of_same (rOne17 f one h0 h1 HO2.out _)))
    (go_wp2; go_ret; first | exact ⟨ret_t HB.out (by omega), (Bl.alloc _ _).trans (Bl.drewN _ _)⟩ | exact ⟨ret_f HB.out (by omega), (Bl.alloc _ _).trans (Bl.drewN _ _)⟩ | exact ⟨ret_d HB.out (by omega), (Bl.alloc _ _).trans (Bl.drewN _ _)⟩)
  by_cases q3 : mw ≤ one
  rotate_left
  · have d3 := decide_eq_false q3
    go_quiet (first | (go_at_call 63; exact Calls.quiet_of_same (rOne17 f one h0 h1 HO2.out _)))
    (go_wp2; go_ret; first | exact ⟨ret_t HB.out (by omega), (Bl.alloc _ _).trans (Bl.drewN _ _)⟩ | exact ⟨ret_f HB.out (by omega), (Bl.alloc _ _).trans (Bl.drewN _ _)⟩ | exact ⟨ret_d HB.out (by omega), (Bl.alloc _ _).trans (Bl.drewN _ _)⟩)
  go_quiet (first | (go_at_call 63; exact Calls.quiet_of_same (rOne17 f one h0 h1 HO2.out _)))
  (go_wp2; go_ret; first | exact ⟨ret_t HB.out (by omega), (Bl.alloc _ _).trans (Bl.drewN _ _)⟩ | exact ⟨ret_f HB.out (by omega), (Bl.alloc _ _).trans (Bl.drewN _ _)⟩ | exact ⟨ret_d HB.out (by omega), (Bl.alloc _ _).trans (Bl.drewN _ _)⟩)
set_option maxRecDepth 100000 in
set_option maxHeartbeats 1000000 in
theorem radam_right (al b1 b2 ae aw : Int) (apart : Bool) (f : Int) (b : Bool) (hb : b = decide (0 ≤ f ∧ f ≤ 40 ∧ 0 ≤ al ∧ 1 ≤ ae ∧ 0 ≤ b1 ∧ b1 < 2 ^ f.toNat ∧ 0 ≤ b2 ∧ b2 < 2 ^ f.toNat ∧ 0 ≤ aw ∧ aw ≤ 2 ^ f.toNat)) (w : World) :
    Calls Try.prog 49 #[.agg #[.int .i64 al, .int .i64 b1, .int .i64 b2, .int .i64 ae, .int .i64 aw, .bool apart], .int .i64 f] w fun e w' => e = .returned (.bool b) ∧ Bl w w' := by
  have HB := Lib.hid hb
  clear hb
  go_enter Try.func49, Try.ntmps49
  by_cases h0 : 0 ≤ f
  rotate_left
  · (go_wp2; go_ret; first | exact ⟨ret_t HB.out (by omega), Bl.alloc _ _⟩ | exact ⟨ret_f HB.out (by omega), Bl.alloc _ _⟩ | exact ⟨ret_d HB.out (by omega), Bl.alloc _ _⟩)
  by_cases h1 : f ≤ 40
  rotate_left
  · (go_wp2; go_ret; first | exact ⟨ret_t HB.out (by omega), Bl.alloc _ _⟩ | exact ⟨ret_f HB.out (by omega), Bl.alloc _ _⟩ | exact ⟨ret_d HB.out (by omega), Bl.alloc _ _⟩)
  by_cases h2 : 0 ≤ al
  rotate_left
  · (go_wp2; go_ret; first | exact ⟨ret_t HB.out (by omega), Bl.alloc _ _⟩ | exact ⟨ret_f HB.out (by omega), Bl.alloc _ _⟩ | exact ⟨ret_d HB.out (by omega), Bl.alloc _ _⟩)
  by_cases h5 : 1 ≤ ae
  rotate_left
  · (go_wp2; go_ret; first | exact ⟨ret_t HB.out (by omega), Bl.alloc _ _⟩ | exact ⟨ret_f HB.out (by omega), Bl.alloc _ _⟩ | exact ⟨ret_d HB.out (by omega), Bl.alloc _ _⟩)
  obtain ⟨one, ho, ho2, h3, h4⟩ := pow40 h0 h1
  rw [← ho2] at HB
  have H1 := Lib.hid (fun w => rOne17 f one h0 h1 ho2 w)
  clear ho2
  go_wp2_with fail
  refine (H1.out _).mono ?_
  rintro e w1 ⟨rfl, rfl⟩
  go_wp2
  all_goals (go_ret; first | exact ⟨ret_t HB.out (by omega), Bl.alloc _ _⟩ | exact ⟨ret_f HB.out (by omega), Bl.alloc _ _⟩ | exact ⟨ret_d HB.out (by omega), Bl.alloc _ _⟩)
set_option maxRecDepth 100000 in
theorem isBeta_to (n f one : Int) (g : Nat) (h0 : 0 ≤ f) (h1 : f ≤ 40) (ho : one = 2 ^ f.toNat) (b : Bool) (hb : b = decide (0 ≤ n ∧ n < one)) (w : World) (hc : w.cell? ⟨g, 0, none⟩ = some (.int .i64 f)) :
    Calls Try.prog 60 #[.int .i64 n, .pointer (some ⟨g, 0, none⟩)] w fun e w' => e = .returned (.bool b) ∧ w' = w := by
  have HB := Lib.hid hb
  have H1 := Lib.hid (one_adam f one h0 h1 ho)
  clear hb ho
  go_enter Try.func60, Try.ntmps60
  by_cases h2 : 0 ≤ n
  · go_wp2_with fail
    refine (H1.out _).mono ?_
    rintro e w1 ⟨rfl, rfl⟩
    go_wp2
    all_goals (go_ret; first | exact ⟨ret_t HB.out (by omega), rfl⟩ | exact ⟨ret_f HB.out (by omega), rfl⟩ | exact ⟨ret_d HB.out (by omega), rfl⟩)
  · go_wp2
    all_goals (go_ret; first | exact ⟨ret_t HB.out (by omega), rfl⟩ | exact ⟨ret_f HB.out (by omega), rfl⟩ | exact ⟨ret_d HB.out (by omega), rfl⟩)
set_option maxRecDepth 100000 in
set_option maxHeartbeats 1000000 in
theorem adam_right (al b1 b2 ae aw : Int) (apart : Bool) (f : Int) (b : Bool) (hb : b = decide (0 ≤ f ∧ f ≤ 40 ∧ 0 ≤ al ∧ 1 ≤ ae ∧ 0 ≤ b1 ∧ b1 < 2 ^ f.toNat ∧ 0 ≤ b2 ∧ b2 < 2 ^ f.toNat ∧ 0 ≤ aw ∧ aw ≤ 2 ^ f.toNat)) (w : World) :
    Calls Try.prog 44 #[.agg #[.int .i64 al, .int .i64 b1, .int .i64 b2, .int .i64 ae, .int .i64 aw, .bool apart], .int .i64 f] w fun e w' => e = .returned (.bool b) ∧ Bl w w' := by
  have HB := Lib.hid hb
  clear hb
  go_enter Try.func44, Try.ntmps44
  have BL := Lib.hid ((Bl.alloc w (.cells #[.int .i64 al, .int .i64 b1, .int .i64 b2, .int .i64 ae, .int .i64 aw, .bool apart] 45)).trans (Bl.alloc _ (.cells #[.int .i64 f] 3)))
  by_cases h0 : 0 ≤ f
  rotate_left
  · (go_wp2; go_ret; first | exact ⟨ret_t HB.out (by omega), BL.out⟩ | exact ⟨ret_f HB.out (by omega), BL.out⟩ | exact ⟨ret_d HB.out (by omega), BL.out⟩)
  by_cases h1 : f ≤ 40
  rotate_left
  · (go_wp2; go_ret; first | exact ⟨ret_t HB.out (by omega), BL.out⟩ | exact ⟨ret_f HB.out (by omega), BL.out⟩ | exact ⟨ret_d HB.out (by omega), BL.out⟩)
  obtain ⟨one, ho, ho2, h3, h4⟩ := pow40 h0 h1
  rw [← ho2] at HB
  have HO2 := Lib.hid ho2
  clear ho2
  go_wp2
  have HC : Hid (∀ n, (((w.alloc (.cells #[.int .i64 al, .int .i64 b1, .int .i64 b2, .int .i64 ae, .int .i64 aw, .bool apart] 45)).alloc (.cells #[.int .i64 f] 3)).drewN n).cell? ⟨w.heap.size + 1, 0, none⟩ = some (.int .i64 f)) := by
    show ∀ _, _
    intro n
    have h := (Blk.new (w.alloc (.cells #[.int .i64 al, .int .i64 b1, .int .i64 b2, .int .i64 ae, .int .i64 aw, .bool apart] 45)) 3 #[.int .i64 f]).cell 0
    rw [show (w.alloc (.cells #[.int .i64 al, .int .i64 b1, .int .i64 b2, .int .i64 ae, .int .i64 aw, .bool apart] 45)).heap.size = w.heap.size + 1 from by simp] at h
    exact h
  by_cases q0 : 0 ≤ al
  rotate_left
  · have d0 := decide_eq_false q0
    go_quiet (first | (go_at_call 61; exact Calls.quiet_of_same (one_adam f one h0 h1 HO2.out _)) | (go_at_call 60; exact Calls.quiet_of_same (isBeta_to _ f one _ h0 h1 HO2.out _ (by first | exact D1.out | exact D2.out) _ (HC.out _))))
    (go_wp2; go_ret; first | exact ⟨ret_t HB.out (by omega), BL.out.trans (Bl.drewN _ _)⟩ | exact ⟨ret_f HB.out (by omega), BL.out.trans (Bl.drewN _ _)⟩ | exact ⟨ret_d HB.out (by omega), BL.out.trans (Bl.drewN _ _)⟩)
  by_cases q1 : 0 < ae
  rotate_left
  · have d1 := decide_eq_false q1
    go_quiet (first | (go_at_call 61; exact Calls.quiet_of_same (one_adam f one h0 h1 HO2.out _)) | (go_at_call 60; exact Calls.quiet_of_same (isBeta_to _ f one _ h0 h1 HO2.out _ (by first | exact D1.out | exact D2.out) _ (HC.out _))))
    (go_wp2; go_ret; first | exact ⟨ret_t HB.out (by omega), BL.out.trans (Bl.drewN _ _)⟩ | exact ⟨ret_f HB.out (by omega), BL.out.trans (Bl.drewN _ _)⟩ | exact ⟨ret_d HB.out (by omega), BL.out.trans (Bl.drewN _ _)⟩)
  by_cases q2 : 0 ≤ b1 ∧ b1 < one
  rotate_left
  · have D1 := Lib.hid (decide_eq_false q2).symm
    go_quiet (first | (go_at_call 61; exact Calls.quiet_of_same (one_adam f one h0 h1 HO2.out _)) | (go_at_call 60; exact Calls.quiet_of_same (isBeta_to _ f one _ h0 h1 HO2.out _ (by first | exact D1.out | exact D2.out) _ (HC.out _))))
    (go_wp2; go_ret; first | exact ⟨ret_t HB.out (by omega), BL.out.trans (Bl.drewN _ _)⟩ | exact ⟨ret_f HB.out (by omega), BL.out.trans (Bl.drewN _ _)⟩ | exact ⟨ret_d HB.out (by omega), BL.out.trans (Bl.drewN _ _)⟩)
  have D1 := Lib.hid (decide_eq_true q2).symm
  by_cases q3 : 0 ≤ b2 ∧ b2 < one
  rotate_left
  · have D2 := Lib.hid (decide_eq_false q3).symm
    go_quiet (first | (go_at_call 61; exact Calls.quiet_of_same (one_adam f one h0 h1 HO2.out _)) | (go_at_call 60; exact Calls.quiet_of_same (isBeta_to _ f one _ h0 h1 HO2.out _ (by first | exact D1.out | exact D2.out) _ (HC.out _))))
    (go_wp2; go_ret; first | exact ⟨ret_t HB.out (by omega), BL.out.trans (Bl.drewN _ _)⟩ | exact ⟨ret_f HB.out (by omega), BL.out.trans (Bl.drewN _ _)⟩ | exact ⟨ret_d HB.out (by omega), BL.out.trans (Bl.drewN _ _)⟩)
  have D2 := Lib.hid (decide_eq_true q3).symm
  by_cases q4 : 0 ≤ aw
  rotate_left
  · have d4 := decide_eq_false q4
    go_quiet (first | (go_at_call 61; exact Calls.quiet_of_same (one_adam f one h0 h1 HO2.out _)) | (go_at_call 60; exact Calls.quiet_of_same (isBeta_to _ f one _ h0 h1 HO2.out _ (by first | exact D1.out | exact D2.out) _ (HC.out _))))
    (go_wp2; go_ret; first | exact ⟨ret_t HB.out (by omega), BL.out.trans (Bl.drewN _ _)⟩ | exact ⟨ret_f HB.out (by omega), BL.out.trans (Bl.drewN _ _)⟩ | exact ⟨ret_d HB.out (by omega), BL.out.trans (Bl.drewN _ _)⟩)
  by_cases q5 : aw ≤ one
  rotate_left
  · have d5 := decide_eq_false q5
    go_quiet (first | (go_at_call 61; exact Calls.quiet_of_same (one_adam f one h0 h1 HO2.out _)) | (go_at_call 60; exact Calls.quiet_of_same (isBeta_to _ f one _ h0 h1 HO2.out _ (by first | exact D1.out | exact D2.out) _ (HC.out _))))
    (go_wp2; go_ret; first | exact ⟨ret_t HB.out (by omega), BL.out.trans (Bl.drewN _ _)⟩ | exact ⟨ret_f HB.out (by omega), BL.out.trans (Bl.drewN _ _)⟩ | exact ⟨ret_d HB.out (by omega), BL.out.trans (Bl.drewN _ _)⟩)
  go_quiet (first | (go_at_call 61; exact Calls.quiet_of_same (one_adam f one h0 h1 HO2.out _)) | (go_at_call 60; exact Calls.quiet_of_same (isBeta_to _ f one _ h0 h1 HO2.out _ (by first | exact D1.out | exact D2.out) _ (HC.out _))))
  (go_wp2; go_ret; first | exact ⟨ret_t HB.out (by omega), BL.out.trans (Bl.drewN _ _)⟩ | exact ⟨ret_f HB.out (by omega), BL.out.trans (Bl.drewN _ _)⟩ | exact ⟨ret_d HB.out (by omega), BL.out.trans (Bl.drewN _ _)⟩)
end Go.Proofs.Ytigicphmnlkjfaa
