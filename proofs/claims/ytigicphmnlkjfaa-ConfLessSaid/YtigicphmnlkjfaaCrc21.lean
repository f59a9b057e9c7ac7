/- The contracts of crc.Of and of the reference's Step, On, Of. -/
import Derived.Test.YtigicphmnlkjfaaCrcOn0
import Derived.Test.YtigicphmnlkjfaaSame
namespace Go.Proofs.Ytigicphmnlkjfaa
open Go.RowKit
set_option linter.unusedVariables false

theorem on_sl {w : World} {A : Option Addr} {c : Nat} {l : List UInt8} (h : SL w A c l) (s : Nat) (hl : l.length ≤ 9223372036854775807) (hs : s < 2 ^ 32) :
    Calls Try.prog 58 #[.int .u32 s, .slice A l.length c] w fun e w' => e = .returned (.int .u32 (crcOn s l : Nat)) ∧ Bl w w' :=
  on_any s A c 0 l w h.rb hl hs

theorem of_sl {w : World} {A : Option Addr} {c : Nat} {l : List UInt8} (h : SL w A c l) (n : Nat) (hn : n = crcOf l) (hl : l.length ≤ 9223372036854775807) :
    Calls Try.prog 41 #[.slice A l.length c] w fun e w' => e = .returned (.int .u32 n) ∧ Bl w w' := by
  have ho := on_sl h 0 hl (by omega)
  rw [show crcOn 0 l = n from hn.symm] at ho
  have HO := Lib.hid ho
  clear ho hn
  go_enter Try.func41, Try.ntmps41
  go_wp2_with fail
  refine HO.out.mono ?_
  rintro e w1 ⟨rfl, b⟩
  go_wp2
  go_ret
  exact ⟨rfl, b⟩

set_option maxRecDepth 100000 in
theorem rstep_any (s : Nat) (c : UInt8) (w : World) (hs : s < 2 ^ 32) :
    Calls Try.prog 59 #[.int .u32 s, .int .u8 c.toNat] w fun e w' => e = .returned (.int .u32 (stp s c : Nat)) ∧ w = w' := by
  have HS := Lib.hid hs
  have hb := byte_lt c
  clear hs
  go_enter Try.func59, Try.ntmps59
  go_wp2
  go_loop [5, 6] (fun v j => ∃ i n : Nat, i ≤ 8 ∧ j = .int .i64 i ∧ v = .int .u32 n ∧ Hid (n = btk i (s ^^^ c.toNat))) (fun _ j => 8 - (intOf j).toNat)
  case atStart => exact ⟨0, s ^^^ c.toNat, Nat.zero_le _, rfl, by rw [u32_xor_nat _ _ (by have := HS.out; omega) (by omega)], rfl⟩
  case round =>
    obtain ⟨i, n, hi, rfl, rfl, HE⟩ := hrel
    by_cases hj : i < 8
    · have hn : n < 4294967296 := by rw [HE.out]; exact btk_lt i (Nat.xor_lt_two_pow HS.out (by omega))
      obtain ⟨m, hm⟩ : ∃ m, m = bit1 n := ⟨_, rfl⟩
      have HM : Hid (m = btk (i + 1) (s ^^^ c.toNat)) := by show _ = _; rw [btk_succ, ← HE.out, hm]
      rcases Nat.mod_two_eq_zero_or_one n with h2 | h2
      · have hm2 : Hid (n / 2 = m) := by show _ = _; rw [hm]; unfold bit1; rw [if_neg (by omega)]
        have h2' : ((n : Int) % 2 == 1) = false := by simp; omega
        clear h2 hm
        go_wp2
        go_round
        case rel => exact ⟨i + 1, n / 2, by omega, by go_num, by go_num, by show n / 2 = _; rw [hm2.out]; exact HM.out⟩
        case measure => simp [intOf]; omega
      · have hx : bits .xor .u32 ((n : Int) / 2) 3988292384 = (m : Int) := by
          rw [hm]; unfold bit1
          rw [if_pos h2, show ((n : Int) / 2) = ((n / 2 : Nat) : Int) from by omega, show (3988292384 : Int) = ((3988292384 : Nat) : Int) from rfl, u32_xor_nat _ _ (by omega) (by omega)]
        have h2' : ((n : Int) % 2 == 1) = true := by simp; omega
        clear h2 hm
        go_wp2
        go_round
        case rel => exact ⟨i + 1, m, by omega, by go_num, rfl, HM⟩
        case measure => simp [intOf]; omega
    · obtain rfl : i = 8 := by omega
      go_wp2
      go_ret
      exact ⟨ret_int (by rw [HE.out]; rfl), rfl⟩

theorem inv_sub {s : Nat} (h : s < 2 ^ 32) : 4294967295 - (s : Int) = ((inv s : Nat) : Int) := by
  have e : inv s = 4294967295 - s := by
    unfold inv
    apply Nat.eq_of_testBit_eq
    intro i
    rw [Nat.testBit_xor, show (4294967295 : Nat) - s = 2 ^ 32 - (s + 1) from by omega, Nat.testBit_two_pow_sub_succ h, show (4294967295 : Nat) = 2 ^ 32 - 1 from by omega, Nat.testBit_two_pow_sub_one]
    by_cases hi : i < 32
    · simp [hi]
    · have : s.testBit i = false := Nat.testBit_lt_two_pow (Nat.lt_of_lt_of_le h (Nat.pow_le_pow_right (by omega) (by omega)))
      simp [hi, this]
  rw [e]; omega

set_option maxRecDepth 100000 in
theorem ron_any (s : Nat) (A : Option Addr) (c B : Nat) (l : List UInt8) (w : World) (h : RB w B A l) (hl : l.length ≤ 9223372036854775807) (hs : s < 2 ^ 32) :
    Calls Try.prog 42 #[.int .u32 s, .slice A l.length c] w fun e w' => e = .returned (.int .u32 (crcOn s l : Nat)) ∧ w = w' := by
  have HS := Lib.hid hs
  have hs2 : s ≤ 4294967295 := by omega
  clear hs
  go_enter Try.func42, Try.ntmps42
  go_wp2
  go_loop [5, 6] (fun v i => ∃ k S : Nat, k ≤ l.length ∧ i = .int .i64 k ∧ v = .int .u32 S ∧ Hid (S = run (inv s) (l.take k))) (fun _ i => l.length - (intOf i).toNat)
  case atStart => exact ⟨0, inv s, Nat.zero_le _, rfl, by rw [← inv_sub HS.out], by simp [Hid, run]⟩
  case round =>
    obtain ⟨k, S, hk, rfl, rfl, HE⟩ := hrel
    have hS : Hid (S < 2 ^ 32) := by rw [HE.out]; exact run_lt _ (inv_lt HS.out)
    by_cases hlt : k < l.length
    · obtain ⟨ad, hAd, _, e1⟩ := h.at_ hlt
      subst hAd
      unfold vb at e1
      have hb := byte_lt l[k]
      obtain ⟨S', hS'⟩ : ∃ S', S' = stp S l[k] := ⟨_, rfl⟩
      have HN : Hid (S' = run (inv s) (l.take (k + 1))) := by show _ = _; rw [hS', run_snoc _ _ _ hlt, ← HE.out]
      have hst := rstep_any S l[k] w hS.out
      rw [← hS'] at hst
      have HST := Lib.hid hst
      clear h hS' hst
      go_wp2_with fail
      refine HST.out.mono ?_
      rintro e w' ⟨rfl, rfl⟩
      go_wp2
      go_round
      case rel => exact ⟨k + 1, S', by omega, by go_num, rfl, HN⟩
      case measure => simp [intOf]; omega
    · have hS2 : S ≤ 4294967295 := by have := hS.out; omega
      go_wp2
      go_ret
      have e : l.take k = l := List.take_of_length_le (by omega)
      exact ⟨ret_int (by rw [inv_sub hS.out, HE.out, e]; rfl), rfl⟩

theorem rof_sl {w : World} {A : Option Addr} {c : Nat} {l : List UInt8} (h : SL w A c l) (n : Nat) (hn : n = crcOf l) (hl : l.length ≤ 9223372036854775807) :
    Calls Try.prog 22 #[.slice A l.length c] w fun e w' => e = .returned (.int .u32 n) ∧ w = w' := by
  have ho := ron_any 0 A c w.heap.size l w h.rb hl (by omega)
  rw [show crcOn 0 l = n from hn.symm] at ho
  have HO := Lib.hid ho
  clear ho hn
  go_enter Try.func22, Try.ntmps22
  go_wp2_with fail
  refine HO.out.mono ?_
  rintro e w1 ⟨rfl, rfl⟩
  go_wp2
  go_ret
  exact ⟨rfl, rfl⟩

end Go.Proofs.Ytigicphmnlkjfaa
