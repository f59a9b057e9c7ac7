/- PackNumbers is proved: for every row, number and integer the statement's function returns true and changes nothing. No condition. -/
import Derived.Test.YtbpmccikkijbmaaUni13
namespace Go.Proofs.Ytbpmccikkijbmaa
open Go.RowKit
set_option linter.unusedVariables false

set_option maxRecDepth 100000 in
set_option maxHeartbeats 2000000 in
theorem packNumbers_walk (A : Option Addr) (c : Nat) (l : List UInt8) (n : Nat) (m : Int) (w : World) (h : SL w A c l) (hl : l.length ≤ maxLen) (hn : n < 2 ^ 64) (hm : (Lit.int .i64 m).wf = true) :
    Calls Try.prog 3 #[.slice A l.length c, .int .u64 n, .int .i64 m] w fun e w' => e = .returned (.bool true) ∧ Bl w w' := by
  unfold maxLen at hl
  by_cases hlen : 1000 < l.length
  · clear h
    go_enter Try.func3, Try.ntmps3
    go_wp2_with fail
    refine (alive13_sl _).mono ?_
    rintro e w1 ⟨rfl, b1⟩
    go_wp2
    go_ret
    exact ⟨rfl, b1⟩
  · have HN := Lib.hid hn
    have HM := Lib.hid hm
    obtain ⟨x, hx⟩ : ∃ x, x = l ++ enc n := ⟨_, rfl⟩
    obtain ⟨y, hy⟩ : ∃ y, y = l ++ enc (zig m) := ⟨_, rfl⟩
    have hxl : Hid (x.length ≤ 9223372036854775807) := by subst hx; simp only [Hid, List.length_append]; have := enc_len10 hn; omega
    have hyl : Hid (y.length ≤ 9223372036854775807) := by subst hy; simp only [Hid, List.length_append]; have := enc_len10 (zig_lt (i64_bd hm).1 (i64_bd hm).2); omega
    have hrl : Hid ((dR l).length ≤ 9223372036854775807) := by
      show _ ≤ _
      unfold dR
      rcases hd : dec l with _ | ⟨n, r⟩
      · simp
      · have := dec_len hd; simp only; omega
    have hL : Hid (l.length ≤ 140737488355000) := by simp only [Hid]; omega
    have hL2 : Hid (l.length ≤ 140737488355328) := by simp only [Hid]; omega
    have HX := Lib.hid hx
    have HY := Lib.hid hy
    clear hx hy hn hm hl
    go_enter Try.func3, Try.ntmps3
    go_wp2_with fail
    refine (take_sl h hL2.out).mono ?_
    rintro e w1 ⟨A1, c1, rfl, s1, b1⟩
    replace h := h.step b1
    go_wp2_with fail
    refine (rtake_sl h hL2.out).mono ?_
    rintro e w2 ⟨A2, c2, rfl, s2, b2⟩
    replace h := h.step b2; replace s1 := s1.step b2; replace b1 := b1.trans b2; clear b2
    go_wp2_with fail
    refine (takeInt_sl h hL2.out).mono ?_
    rintro e w3 ⟨A3, c3, rfl, s3, b3⟩
    replace h := h.step b3; replace s1 := s1.step b3; replace s2 := s2.step b3; replace b1 := b1.trans b3; clear b3
    go_wp2_with fail
    refine (rtakeInt_sl h hL2.out).mono ?_
    rintro e w4 ⟨A4, c4, rfl, s4, b4⟩
    replace h := h.step b4; replace s1 := s1.step b4; replace s2 := s2.step b4; replace s3 := s3.step b4; replace b1 := b1.trans b4; clear b4
    go_wp2_with fail
    refine (put_sl h n x HX.out hL.out HN.out).mono ?_
    rintro e w5 ⟨A5, c5, rfl, s5, _, b5⟩
    replace h := h.step b5; replace s1 := s1.step b5; replace s2 := s2.step b5; replace s3 := s3.step b5; replace s4 := s4.step b5; replace b1 := b1.trans b5; clear b5
    go_wp2_with fail
    refine (rput_sl h n x HX.out hL.out HN.out).mono ?_
    rintro e w6 ⟨A6, c6, rfl, s6, _, b6⟩
    replace h := h.step b6; replace s1 := s1.step b6; replace s2 := s2.step b6; replace s3 := s3.step b6; replace s4 := s4.step b6; replace s5 := s5.step b6; replace b1 := b1.trans b6; clear b6
    go_wp2_with fail
    refine (same_sl s5 s6 hxl.out).mono ?_
    rintro e w7 ⟨rfl, b7⟩
    clear s5 s6
    replace h := h.step b7; replace s1 := s1.step b7; replace s2 := s2.step b7; replace s3 := s3.step b7; replace s4 := s4.step b7; replace b1 := b1.trans b7; clear b7
    go_wp2_with fail
    refine (putInt_sl h m y HY.out hL.out HM.out).mono ?_
    rintro e w8 ⟨A8, c8, rfl, s5, _, b5⟩
    replace h := h.step b5; replace s1 := s1.step b5; replace s2 := s2.step b5; replace s3 := s3.step b5; replace s4 := s4.step b5; replace b1 := b1.trans b5; clear b5
    go_wp2_with fail
    refine (rputInt_sl h m y HY.out hL.out HM.out).mono ?_
    rintro e w9 ⟨A9, c9, rfl, s6, _, b6⟩
    replace h := h.step b6; replace s1 := s1.step b6; replace s2 := s2.step b6; replace s3 := s3.step b6; replace s4 := s4.step b6; replace s5 := s5.step b6; replace b1 := b1.trans b6; clear b6
    go_wp2_with fail
    refine (same_sl s5 s6 hyl.out).mono ?_
    rintro e w10 ⟨rfl, b7⟩
    clear s5 s6 h
    replace s1 := s1.step b7; replace s2 := s2.step b7; replace s3 := s3.step b7; replace s4 := s4.step b7; replace b1 := b1.trans b7; clear b7
    go_wp2_with fail
    refine (alive13_sl _).mono ?_
    rintro e w11 ⟨rfl, b7⟩
    replace s1 := s1.step b7; replace s2 := s2.step b7; replace s3 := s3.step b7; replace s4 := s4.step b7; replace b1 := b1.trans b7; clear b7
    go_wp2_with fail
    refine (same_sl s1 s2 hrl.out).mono ?_
    rintro e w12 ⟨rfl, b7⟩
    clear s1 s2
    replace s3 := s3.step b7; replace s4 := s4.step b7; replace b1 := b1.trans b7; clear b7
    go_wp2_with fail
    refine (same_sl s3 s4 hrl.out).mono ?_
    rintro e w13 ⟨rfl, b7⟩
    replace b1 := b1.trans b7
    go_wp2
    go_ret
    exact ⟨rfl, b1⟩
end Go.Proofs.Ytbpmccikkijbmaa
