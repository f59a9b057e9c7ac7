/- The contracts of PutInt and PutRow, both texts. -/
import Derived.Test.YtigicphmnlkjfaaPutR
import Derived.Lib.Zigzag
import Derived.Laws.BitsAllLaws
namespace Go.Proofs.Ytigicphmnlkjfaa
open Go.RowKit
set_option linter.unusedVariables false

/-- An integer as a number. -/
def zig (n : Int) : Nat := if 0 ≤ n then (n * 2).toNat else (-(n + 1) * 2 + 1).toNat
theorem zig_lt {n : Int} (h1 : -9223372036854775808 ≤ n) (h2 : n ≤ 9223372036854775807) : zig n < 2 ^ 64 := by
  unfold zig; split <;> omega

theorem zig_xor {n : Int} (h1 : -9223372036854775808 ≤ n) (h2 : n ≤ 9223372036854775807) :
    bits .xor .u64 (IntKind.u64.wrap (IntKind.u64.wrap n * 2)) (IntKind.u64.wrap (n / 9223372036854775808)) = (zig n : Int) := by
  by_cases h0 : 0 ≤ n
  · rw [IntWalk.u64_in n (by omega), IntWalk.u64_in (n * 2) (by omega), show n / 9223372036854775808 = 0 from by omega, IntWalk.u64_in 0 (by omega)]
    obtain ⟨k, rfl⟩ := Int.eq_ofNat_of_zero_le h0
    rw [show ((k : Int) * 2) = ((k * 2 : Nat) : Int) from by omega, show (0 : Int) = ((0 : Nat) : Int) from rfl, u64_xor_nat _ _ (by omega) (by omega), Nat.xor_zero]
    unfold zig; rw [if_pos (by omega)]; omega
  · have e1 : IntKind.u64.wrap n = n + 18446744073709551616 := by
      simp [IntKind.wrap, IntKind.bits, IntKind.signed]; omega
    have e2 : IntKind.u64.wrap ((n + 18446744073709551616) * 2) = ((n * 2 + 18446744073709551616).toNat : Int) := by
      simp [IntKind.wrap, IntKind.bits, IntKind.signed]; omega
    have e3 : IntKind.u64.wrap (n / 9223372036854775808) = ((2 ^ 64 - 1 : Nat) : Int) := by
      rw [show n / 9223372036854775808 = -1 from by omega]
      simp [IntKind.wrap, IntKind.bits, IntKind.signed]
    rw [e1, e2, e3, u64_xor_nat _ _ (by omega) (by omega), Nat.xor_comm, Lib.xor_ones64 _ (by omega)]
    unfold zig; rw [if_neg h0]; omega
theorem zig_pos {n : Int} (h0 : 0 ≤ n) (h2 : n ≤ 9223372036854775807) : IntKind.u64.wrap (IntKind.u64.wrap n * 2) = (zig n : Int) := by
  rw [IntWalk.u64_in n (by omega), IntWalk.u64_in (n * 2) (by omega)]
  unfold zig; rw [if_pos h0]; omega
theorem zig_neg {n : Int} (h0 : ¬ 0 ≤ n) (h1 : -9223372036854775808 ≤ n) :
    IntKind.u64.wrap (IntKind.u64.wrap (IntKind.u64.wrap (wrap64 (-wrap64 (n + 1))) * 2) + 1) = (zig n : Int) := by
  rw [IntWalk.wrap64_in (n + 1) (by omega), IntWalk.wrap64_in _ (by omega), IntWalk.u64_in (-(n + 1)) (by omega), IntWalk.u64_in (-(n + 1) * 2) (by omega), IntWalk.u64_in _ (by omega)]
  unfold zig; rw [if_neg h0]; omega
theorem i64_bd {n : Int} (hn : (Lit.int .i64 n).wf = true) : -9223372036854775808 ≤ n ∧ n ≤ 9223372036854775807 := by
  simpa [Lit.wf, IntKind.min, IntKind.max, IntKind.signed, IntKind.bits] using hn

theorem putInt_any (A : Option Addr) (c : Nat) (l : List UInt8) (n : Int) (w : World) (h : RB w w.heap.size A l) (hc : l.length ≤ c) (hA : A = none → l.length = 0)
    (hl : l.length ≤ 140737488355000) (hn : (Lit.int .i64 n).wf = true) :
    Calls Try.prog 53 #[.slice A l.length c, .int .i64 n] w fun e w' => ∃ v, e = .returned v ∧ Gives w w' v (l ++ enc (zig n)) := by
  have hz := Lib.hid (zig_xor (i64_bd hn).1 (i64_bd hn).2)
  have hP := Lib.hid (put_any A c l (zig n) w h hc hA hl (zig_lt (i64_bd hn).1 (i64_bd hn).2))
  clear hn h hA hl
  go_enter Try.func53, Try.ntmps53
  go_wp2_with fail
  rw [hz.out]
  refine hP.out.mono ?_
  rintro e w' ⟨v, rfl, hg⟩
  go_wp2
  go_ret
  exact ⟨v, rfl, hg⟩

theorem rputInt_any (A : Option Addr) (c : Nat) (l : List UInt8) (n : Int) (w : World) (h : RB w w.heap.size A l)
    (hl : l.length ≤ 140737488355000) (hn : (Lit.int .i64 n).wf = true) :
    Calls Try.prog 55 #[.slice A l.length c, .int .i64 n] w fun e w' => ∃ v, e = .returned v ∧ Gives w w' v (l ++ enc (zig n)) := by
  have hP := Lib.hid (rput_any A c l (zig n) w h hl (zig_lt (i64_bd hn).1 (i64_bd hn).2))
  by_cases h0 : 0 ≤ n
  · have hz := Lib.hid (zig_pos h0 (i64_bd hn).2)
    clear hn h hl
    go_enter Try.func55, Try.ntmps55
    go_wp2_with fail
    rw [hz.out]
    refine hP.out.mono ?_
    rintro e w' ⟨v, rfl, hg⟩
    go_wp2
    go_ret
    exact ⟨v, rfl, hg⟩
  · have hz := Lib.hid (zig_neg h0 (i64_bd hn).1)
    clear hn h hl
    go_enter Try.func55, Try.ntmps55
    go_wp2_with fail
    rw [hz.out]
    refine hP.out.mono ?_
    rintro e w' ⟨v, rfl, hg⟩
    go_wp2
    go_ret
    exact ⟨v, rfl, hg⟩

theorem putRow_any (A D : Option Addr) (c d : Nat) (l k : List UInt8) (w : World) (h : RB w w.heap.size A l) (hc : l.length ≤ c) (hA : A = none → l.length = 0) (hk : RB w w.heap.size D k)
    (hl : l.length + k.length ≤ 140737488355000) :
    Calls Try.prog 54 #[.slice A l.length c, .slice D k.length d] w fun e w' => ∃ v, e = .returned v ∧ Gives w w' v (l ++ (enc k.length ++ k)) := by
  have hn : k.length < 2 ^ 64 := by omega
  have hl10 := enc_len10 hn
  have hP := Lib.hid (put_any A c l k.length w h hc hA (by omega) hn)
  clear hn h hA
  go_enter Try.func54, Try.ntmps54
  go_wp2_with fail
  refine hP.out.mono ?_
  rintro e w1 ⟨v, rfl, A1, c1, rfl, hap, hbel⟩
  have hk1 := Lib.hid (hk.below hbel)
  simp only [List.length_append] at hap
  have hsz := hbel.size
  clear hk
  go_wp2_with (at_builtin; refine wpList_append_ap _ rfl (.tmp 9) (.tmp 10) _ rfl bytesT hap rfl hk1.out rfl rfl (by omega) hsz ?_; intro A2 c2 w2 hd)
  go_ret
  refine ⟨_, rfl, A2, c2, by simp [Nat.add_assoc], ?_, hbel.trans hd.below⟩
  have := hd.ap
  simpa [Nat.add_assoc] using this

theorem rputRow_any (A D : Option Addr) (c d : Nat) (l k : List UInt8) (w : World) (h : RB w w.heap.size A l) (hk : RB w w.heap.size D k)
    (hl : l.length + k.length ≤ 140737488355000) :
    Calls Try.prog 57 #[.slice A l.length c, .slice D k.length d] w fun e w' => ∃ v, e = .returned v ∧ Gives w w' v (l ++ (enc k.length ++ k)) := by
  have hn : k.length < 2 ^ 64 := by omega
  have hl10 := enc_len10 hn
  have hP := Lib.hid (rput_any A c l k.length w h (by omega) hn)
  clear hn h
  go_enter Try.func57, Try.ntmps57
  go_wp2_with fail
  refine hP.out.mono ?_
  rintro e w1 ⟨v, rfl, A1, c1, rfl, hap, hbel⟩
  have hk1 := Lib.hid (hk.below hbel)
  simp only [List.length_append] at hap
  have hsz := hbel.size
  clear hk
  go_wp2_with (at_builtin; refine wpList_append_ap _ rfl (.tmp 9) (.tmp 10) _ rfl bytesT hap rfl hk1.out rfl rfl (by omega) hsz ?_; intro A2 c2 w2 hd)
  go_ret
  refine ⟨_, rfl, A2, c2, by simp [Nat.add_assoc], ?_, hbel.trans hd.below⟩
  have := hd.ap
  simpa [Nat.add_assoc] using this
end Go.Proofs.Ytigicphmnlkjfaa
