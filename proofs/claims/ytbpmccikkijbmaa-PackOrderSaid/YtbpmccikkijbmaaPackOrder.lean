/- PackOrder's walk. -/
import Derived.Test.YtbpmccikkijbmaaUni13
import Derived.Test.YtbpmccikkijbmaaPlain13
namespace Go.Proofs.Ytbpmccikkijbmaa
open Go.RowKit
set_option linter.unusedVariables false

set_option maxRecDepth 100000 in
set_option maxHeartbeats 2000000 in
theorem packOrder_eq_pos (a b : Nat) (n : Int) (x y z : List UInt8) (w : World) (ha : Hid (a < 2 ^ 64)) (hb : Hid (b < 2 ^ 64)) (hn : Hid ((Lit.int .i64 n).wf = true))
    (hx : Hid (x = [] ++ enc a)) (hy : Hid (y = [] ++ enc b)) (hz : Hid (z = [] ++ enc (zig n))) (hzn : Hid (zig n < 2 ^ 64)) (hzl : Hid (z.length ≤ 9223372036854775807)) (x1 : 1 ≤ x.length) (x2 : x.length ≤ 10) (y2 : y.length ≤ 10) (h0 : 0 ≤ n) :
    Calls Try.prog 7 #[.int .u64 a, .int .u64 a, .int .i64 n] w fun e w' => e = .returned (.bool true) ∧ Bl w w' := by
  have HW := Lib.hid (zig_pos h0 (i64_bd hn.out).2)
  go_enter Try.func7, Try.ntmps7
  go_wp2_with fail
  refine (put_sl (SL.nil_ w) a x hx.out (by simp) ha.out).mono ?_
  rintro e w1 ⟨A1, c1, rfl, s1, _, b⟩
  have bb := b; clear b
  go_wp2_with fail
  refine (put_sl (SL.nil_ _) a x hx.out (by simp) ha.out).mono ?_
  rintro e w2 ⟨A2, c2, rfl, s2, _, b⟩
  replace s1 := s1.step b; replace bb := bb.trans b; clear b
  go_wp2_with fail
  refine (alive13_sl _).mono ?_
  rintro e w3 ⟨rfl, b⟩
  replace s1 := s1.step b; replace s2 := s2.step b; replace bb := bb.trans b; clear b
  go_wp2_with fail
  refine (putInt_sl (SL.nil_ _) n z hz.out (by simp) hn.out).mono ?_
  rintro e w4 ⟨A3, c3, rfl, s3, _, b⟩
  replace s1 := s1.step b; replace s2 := s2.step b; replace bb := bb.trans b; clear b
  go_wp2_with fail
  rw [HW.out]
  go_wp2_with fail
  refine (put_sl (SL.nil_ _) (zig n) z hz.out (by simp) hzn.out).mono ?_
  rintro e w5 ⟨A4, c4, rfl, s4, _, b⟩
  replace s1 := s1.step b; replace s2 := s2.step b; replace s3 := s3.step b; replace bb := bb.trans b; clear b
  go_wp2_with fail
  refine (same_sl s3 s4 hzl.out).mono ?_
  rintro e w6 ⟨rfl, b⟩
  clear s3 s4
  replace s1 := s1.step b; replace s2 := s2.step b; replace bb := bb.trans b; clear b
  go_wp2_with fail
  refine (same_sl s1 s2 (by omega)).mono ?_
  rintro e w7 ⟨rfl, b⟩
  clear s1 s2
  replace bb := bb.trans b; clear b
  go_wp2
  go_ret
  exact ⟨rfl, bb⟩

set_option maxRecDepth 100000 in
set_option maxHeartbeats 2000000 in
theorem packOrder_lt_pos (a b : Nat) (n : Int) (x y z : List UInt8) (w : World) (ha : Hid (a < 2 ^ 64)) (hb : Hid (b < 2 ^ 64)) (hn : Hid ((Lit.int .i64 n).wf = true))
    (hx : Hid (x = [] ++ enc a)) (hy : Hid (y = [] ++ enc b)) (hz : Hid (z = [] ++ enc (zig n))) (hzn : Hid (zig n < 2 ^ 64)) (hzl : Hid (z.length ≤ 9223372036854775807)) (x1 : 1 ≤ x.length) (x2 : x.length ≤ 10) (y2 : y.length ≤ 10) (h0 : 0 ≤ n) (HXY : Hid (x ≠ y)) (hab : a ≤ b) (hne : ((a : Int) == (b : Int)) = false) (hxy : x.length ≤ y.length) :
    Calls Try.prog 7 #[.int .u64 a, .int .u64 b, .int .i64 n] w fun e w' => e = .returned (.bool true) ∧ Bl w w' := by
  have HW := Lib.hid (zig_pos h0 (i64_bd hn.out).2)
  go_enter Try.func7, Try.ntmps7
  go_wp2_with fail
  refine (put_sl (SL.nil_ w) a x hx.out (by simp) ha.out).mono ?_
  rintro e w1 ⟨A1, c1, rfl, s1, _, b⟩
  have bb := b; clear b
  go_wp2_with fail
  refine (put_sl (SL.nil_ _) b y hy.out (by simp) hb.out).mono ?_
  rintro e w2 ⟨A2, c2, rfl, s2, _, b⟩
  replace s1 := s1.step b; replace bb := bb.trans b; clear b
  go_wp2_with fail
  refine (alive13_sl _).mono ?_
  rintro e w3 ⟨rfl, b⟩
  replace s1 := s1.step b; replace s2 := s2.step b; replace bb := bb.trans b; clear b
  go_wp2_with fail
  refine (putInt_sl (SL.nil_ _) n z hz.out (by simp) hn.out).mono ?_
  rintro e w4 ⟨A3, c3, rfl, s3, _, b⟩
  replace s1 := s1.step b; replace s2 := s2.step b; replace bb := bb.trans b; clear b
  go_wp2_with fail
  rw [HW.out]
  go_wp2_with fail
  refine (put_sl (SL.nil_ _) (zig n) z hz.out (by simp) hzn.out).mono ?_
  rintro e w5 ⟨A4, c4, rfl, s4, _, b⟩
  replace s1 := s1.step b; replace s2 := s2.step b; replace s3 := s3.step b; replace bb := bb.trans b; clear b
  go_wp2_with fail
  refine (same_sl s3 s4 hzl.out).mono ?_
  rintro e w6 ⟨rfl, b⟩
  clear s3 s4
  replace s1 := s1.step b; replace s2 := s2.step b; replace bb := bb.trans b; clear b
  go_wp2_with fail
  refine (same_not_sl s1 s2 (by omega) (by omega) HXY.out).mono ?_
  rintro e w7 ⟨rfl, b⟩
  clear s1 s2
  replace bb := bb.trans b; clear b
  go_wp2
  go_ret
  exact ⟨rfl, bb⟩

set_option maxRecDepth 100000 in
set_option maxHeartbeats 2000000 in
theorem packOrder_gt_pos (a b : Nat) (n : Int) (x y z : List UInt8) (w : World) (ha : Hid (a < 2 ^ 64)) (hb : Hid (b < 2 ^ 64)) (hn : Hid ((Lit.int .i64 n).wf = true))
    (hx : Hid (x = [] ++ enc a)) (hy : Hid (y = [] ++ enc b)) (hz : Hid (z = [] ++ enc (zig n))) (hzn : Hid (zig n < 2 ^ 64)) (hzl : Hid (z.length ≤ 9223372036854775807)) (x1 : 1 ≤ x.length) (x2 : x.length ≤ 10) (y2 : y.length ≤ 10) (h0 : 0 ≤ n) (HXY : Hid (x ≠ y)) (hab : ¬ a ≤ b) (hne : ((a : Int) == (b : Int)) = false) :
    Calls Try.prog 7 #[.int .u64 a, .int .u64 b, .int .i64 n] w fun e w' => e = .returned (.bool true) ∧ Bl w w' := by
  have HW := Lib.hid (zig_pos h0 (i64_bd hn.out).2)
  go_enter Try.func7, Try.ntmps7
  go_wp2_with fail
  refine (put_sl (SL.nil_ w) a x hx.out (by simp) ha.out).mono ?_
  rintro e w1 ⟨A1, c1, rfl, s1, _, b⟩
  have bb := b; clear b
  go_wp2_with fail
  refine (put_sl (SL.nil_ _) b y hy.out (by simp) hb.out).mono ?_
  rintro e w2 ⟨A2, c2, rfl, s2, _, b⟩
  replace s1 := s1.step b; replace bb := bb.trans b; clear b
  go_wp2_with fail
  refine (alive13_sl _).mono ?_
  rintro e w3 ⟨rfl, b⟩
  replace s1 := s1.step b; replace s2 := s2.step b; replace bb := bb.trans b; clear b
  go_wp2_with fail
  refine (putInt_sl (SL.nil_ _) n z hz.out (by simp) hn.out).mono ?_
  rintro e w4 ⟨A3, c3, rfl, s3, _, b⟩
  replace s1 := s1.step b; replace s2 := s2.step b; replace bb := bb.trans b; clear b
  go_wp2_with fail
  rw [HW.out]
  go_wp2_with fail
  refine (put_sl (SL.nil_ _) (zig n) z hz.out (by simp) hzn.out).mono ?_
  rintro e w5 ⟨A4, c4, rfl, s4, _, b⟩
  replace s1 := s1.step b; replace s2 := s2.step b; replace s3 := s3.step b; replace bb := bb.trans b; clear b
  go_wp2_with fail
  refine (same_sl s3 s4 hzl.out).mono ?_
  rintro e w6 ⟨rfl, b⟩
  clear s3 s4
  replace s1 := s1.step b; replace s2 := s2.step b; replace bb := bb.trans b; clear b
  go_wp2_with fail
  refine (same_not_sl s1 s2 (by omega) (by omega) HXY.out).mono ?_
  rintro e w7 ⟨rfl, b⟩
  clear s1 s2
  replace bb := bb.trans b; clear b
  go_wp2
  go_ret
  exact ⟨rfl, bb⟩

set_option maxRecDepth 100000 in
set_option maxHeartbeats 2000000 in
theorem packOrder_eq_neg (a b : Nat) (n : Int) (x y z : List UInt8) (w : World) (ha : Hid (a < 2 ^ 64)) (hb : Hid (b < 2 ^ 64)) (hn : Hid ((Lit.int .i64 n).wf = true))
    (hx : Hid (x = [] ++ enc a)) (hy : Hid (y = [] ++ enc b)) (hz : Hid (z = [] ++ enc (zig n))) (hzn : Hid (zig n < 2 ^ 64)) (hzl : Hid (z.length ≤ 9223372036854775807)) (x1 : 1 ≤ x.length) (x2 : x.length ≤ 10) (y2 : y.length ≤ 10) (h0 : ¬ 0 ≤ n) :
    Calls Try.prog 7 #[.int .u64 a, .int .u64 a, .int .i64 n] w fun e w' => e = .returned (.bool true) ∧ Bl w w' := by
  have HW := Lib.hid (zig_neg h0 (i64_bd hn.out).1)
  go_enter Try.func7, Try.ntmps7
  go_wp2_with fail
  refine (put_sl (SL.nil_ w) a x hx.out (by simp) ha.out).mono ?_
  rintro e w1 ⟨A1, c1, rfl, s1, _, b⟩
  have bb := b; clear b
  go_wp2_with fail
  refine (put_sl (SL.nil_ _) a x hx.out (by simp) ha.out).mono ?_
  rintro e w2 ⟨A2, c2, rfl, s2, _, b⟩
  replace s1 := s1.step b; replace bb := bb.trans b; clear b
  go_wp2_with fail
  refine (alive13_sl _).mono ?_
  rintro e w3 ⟨rfl, b⟩
  replace s1 := s1.step b; replace s2 := s2.step b; replace bb := bb.trans b; clear b
  go_wp2_with fail
  refine (putInt_sl (SL.nil_ _) n z hz.out (by simp) hn.out).mono ?_
  rintro e w4 ⟨A3, c3, rfl, s3, _, b⟩
  replace s1 := s1.step b; replace s2 := s2.step b; replace bb := bb.trans b; clear b
  go_wp2_with fail
  rw [HW.out]
  go_wp2_with fail
  refine (put_sl (SL.nil_ _) (zig n) z hz.out (by simp) hzn.out).mono ?_
  rintro e w5 ⟨A4, c4, rfl, s4, _, b⟩
  replace s1 := s1.step b; replace s2 := s2.step b; replace s3 := s3.step b; replace bb := bb.trans b; clear b
  go_wp2_with fail
  refine (same_sl s3 s4 hzl.out).mono ?_
  rintro e w6 ⟨rfl, b⟩
  clear s3 s4
  replace s1 := s1.step b; replace s2 := s2.step b; replace bb := bb.trans b; clear b
  go_wp2_with fail
  refine (same_sl s1 s2 (by omega)).mono ?_
  rintro e w7 ⟨rfl, b⟩
  clear s1 s2
  replace bb := bb.trans b; clear b
  go_wp2
  go_ret
  exact ⟨rfl, bb⟩

set_option maxRecDepth 100000 in
set_option maxHeartbeats 2000000 in
theorem packOrder_lt_neg (a b : Nat) (n : Int) (x y z : List UInt8) (w : World) (ha : Hid (a < 2 ^ 64)) (hb : Hid (b < 2 ^ 64)) (hn : Hid ((Lit.int .i64 n).wf = true))
    (hx : Hid (x = [] ++ enc a)) (hy : Hid (y = [] ++ enc b)) (hz : Hid (z = [] ++ enc (zig n))) (hzn : Hid (zig n < 2 ^ 64)) (hzl : Hid (z.length ≤ 9223372036854775807)) (x1 : 1 ≤ x.length) (x2 : x.length ≤ 10) (y2 : y.length ≤ 10) (h0 : ¬ 0 ≤ n) (HXY : Hid (x ≠ y)) (hab : a ≤ b) (hne : ((a : Int) == (b : Int)) = false) (hxy : x.length ≤ y.length) :
    Calls Try.prog 7 #[.int .u64 a, .int .u64 b, .int .i64 n] w fun e w' => e = .returned (.bool true) ∧ Bl w w' := by
  have HW := Lib.hid (zig_neg h0 (i64_bd hn.out).1)
  go_enter Try.func7, Try.ntmps7
  go_wp2_with fail
  refine (put_sl (SL.nil_ w) a x hx.out (by simp) ha.out).mono ?_
  rintro e w1 ⟨A1, c1, rfl, s1, _, b⟩
  have bb := b; clear b
  go_wp2_with fail
  refine (put_sl (SL.nil_ _) b y hy.out (by simp) hb.out).mono ?_
  rintro e w2 ⟨A2, c2, rfl, s2, _, b⟩
  replace s1 := s1.step b; replace bb := bb.trans b; clear b
  go_wp2_with fail
  refine (alive13_sl _).mono ?_
  rintro e w3 ⟨rfl, b⟩
  replace s1 := s1.step b; replace s2 := s2.step b; replace bb := bb.trans b; clear b
  go_wp2_with fail
  refine (putInt_sl (SL.nil_ _) n z hz.out (by simp) hn.out).mono ?_
  rintro e w4 ⟨A3, c3, rfl, s3, _, b⟩
  replace s1 := s1.step b; replace s2 := s2.step b; replace bb := bb.trans b; clear b
  go_wp2_with fail
  rw [HW.out]
  go_wp2_with fail
  refine (put_sl (SL.nil_ _) (zig n) z hz.out (by simp) hzn.out).mono ?_
  rintro e w5 ⟨A4, c4, rfl, s4, _, b⟩
  replace s1 := s1.step b; replace s2 := s2.step b; replace s3 := s3.step b; replace bb := bb.trans b; clear b
  go_wp2_with fail
  refine (same_sl s3 s4 hzl.out).mono ?_
  rintro e w6 ⟨rfl, b⟩
  clear s3 s4
  replace s1 := s1.step b; replace s2 := s2.step b; replace bb := bb.trans b; clear b
  go_wp2_with fail
  refine (same_not_sl s1 s2 (by omega) (by omega) HXY.out).mono ?_
  rintro e w7 ⟨rfl, b⟩
  clear s1 s2
  replace bb := bb.trans b; clear b
  go_wp2
  go_ret
  exact ⟨rfl, bb⟩

set_option maxRecDepth 100000 in
set_option maxHeartbeats 2000000 in
theorem packOrder_gt_neg (a b : Nat) (n : Int) (x y z : List UInt8) (w : World) (ha : Hid (a < 2 ^ 64)) (hb : Hid (b < 2 ^ 64)) (hn : Hid ((Lit.int .i64 n).wf = true))
    (hx : Hid (x = [] ++ enc a)) (hy : Hid (y = [] ++ enc b)) (hz : Hid (z = [] ++ enc (zig n))) (hzn : Hid (zig n < 2 ^ 64)) (hzl : Hid (z.length ≤ 9223372036854775807)) (x1 : 1 ≤ x.length) (x2 : x.length ≤ 10) (y2 : y.length ≤ 10) (h0 : ¬ 0 ≤ n) (HXY : Hid (x ≠ y)) (hab : ¬ a ≤ b) (hne : ((a : Int) == (b : Int)) = false) :
    Calls Try.prog 7 #[.int .u64 a, .int .u64 b, .int .i64 n] w fun e w' => e = .returned (.bool true) ∧ Bl w w' := by
  have HW := Lib.hid (zig_neg h0 (i64_bd hn.out).1)
  go_enter Try.func7, Try.ntmps7
  go_wp2_with fail
  refine (put_sl (SL.nil_ w) a x hx.out (by simp) ha.out).mono ?_
  rintro e w1 ⟨A1, c1, rfl, s1, _, b⟩
  have bb := b; clear b
  go_wp2_with fail
  refine (put_sl (SL.nil_ _) b y hy.out (by simp) hb.out).mono ?_
  rintro e w2 ⟨A2, c2, rfl, s2, _, b⟩
  replace s1 := s1.step b; replace bb := bb.trans b; clear b
  go_wp2_with fail
  refine (alive13_sl _).mono ?_
  rintro e w3 ⟨rfl, b⟩
  replace s1 := s1.step b; replace s2 := s2.step b; replace bb := bb.trans b; clear b
  go_wp2_with fail
  refine (putInt_sl (SL.nil_ _) n z hz.out (by simp) hn.out).mono ?_
  rintro e w4 ⟨A3, c3, rfl, s3, _, b⟩
  replace s1 := s1.step b; replace s2 := s2.step b; replace bb := bb.trans b; clear b
  go_wp2_with fail
  rw [HW.out]
  go_wp2_with fail
  refine (put_sl (SL.nil_ _) (zig n) z hz.out (by simp) hzn.out).mono ?_
  rintro e w5 ⟨A4, c4, rfl, s4, _, b⟩
  replace s1 := s1.step b; replace s2 := s2.step b; replace s3 := s3.step b; replace bb := bb.trans b; clear b
  go_wp2_with fail
  refine (same_sl s3 s4 hzl.out).mono ?_
  rintro e w6 ⟨rfl, b⟩
  clear s3 s4
  replace s1 := s1.step b; replace s2 := s2.step b; replace bb := bb.trans b; clear b
  go_wp2_with fail
  refine (same_not_sl s1 s2 (by omega) (by omega) HXY.out).mono ?_
  rintro e w7 ⟨rfl, b⟩
  clear s1 s2
  replace bb := bb.trans b; clear b
  go_wp2
  go_ret
  exact ⟨rfl, bb⟩

theorem packOrder_walk (a b : Nat) (n : Int) (w : World) (ha : a < 2 ^ 64) (hb : b < 2 ^ 64) (hn : (Lit.int .i64 n).wf = true) :
    Calls Try.prog 7 #[.int .u64 a, .int .u64 b, .int .i64 n] w fun e w' => e = .returned (.bool true) ∧ Bl w w' := by
  have hz := zig_lt (i64_bd hn).1 (i64_bd hn).2
  have e0 : ∀ k : List UInt8, [] ++ k = k := fun _ => rfl
  have hzl : Hid (([] ++ enc (zig n) : List UInt8).length ≤ 9223372036854775807) := by have := enc_len10 hz; show (enc (zig n)).length ≤ _; omega
  have x1 : 1 ≤ ([] ++ enc a : List UInt8).length := enc_pos a
  have x2 : ([] ++ enc a : List UInt8).length ≤ 10 := enc_len10 ha
  have y2 : ([] ++ enc b : List UInt8).length ≤ 10 := enc_len10 hb
  by_cases hab : a = b
  · subst hab
    by_cases h0 : 0 ≤ n
    · exact packOrder_eq_pos a a n _ _ _ w ha ha hn rfl rfl rfl hz hzl x1 x2 x2 h0
    · exact packOrder_eq_neg a a n _ _ _ w ha ha hn rfl rfl rfl hz hzl x1 x2 x2 h0
  · have hne : ((a : Int) == (b : Int)) = false := by simp; omega
    have hxy : Hid (([] ++ enc a : List UInt8) ≠ [] ++ enc b) := fun e => hab (enc_inj ha hb e)
    by_cases hle : a ≤ b
    · have hm : ([] ++ enc a : List UInt8).length ≤ ([] ++ enc b : List UInt8).length := enc_mono b a hle
      by_cases h0 : 0 ≤ n
      · exact packOrder_lt_pos a b n _ _ _ w ha hb hn rfl rfl rfl hz hzl x1 x2 y2 h0 hxy hle hne hm
      · exact packOrder_lt_neg a b n _ _ _ w ha hb hn rfl rfl rfl hz hzl x1 x2 y2 h0 hxy hle hne hm
    · by_cases h0 : 0 ≤ n
      · exact packOrder_gt_pos a b n _ _ _ w ha hb hn rfl rfl rfl hz hzl x1 x2 y2 h0 hxy hle hne
      · exact packOrder_gt_neg a b n _ _ _ w ha hb hn rfl rfl rfl hz hzl x1 x2 y2 h0 hxy hle hne
end Go.Proofs.Ytbpmccikkijbmaa
