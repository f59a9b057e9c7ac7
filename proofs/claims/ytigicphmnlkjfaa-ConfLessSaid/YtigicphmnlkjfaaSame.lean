/- The contract of ratchetref12.Same: two rows of bytes that read as lists: true just if the lists are one. -/
import Derived.Test.YtigicphmnlkjfaaProg
import Derived.Test.YtigicphmnlkjfaaSL
import Derived.BigQuiet
import Derived.Deep.QuietTactic
import Derived.Outline
namespace Go.Proofs.Ytigicphmnlkjfaa
open Go.RowKit
set_option linter.unusedVariables false

theorem same_true (A1 A2 : Option Addr) (c1 c2 B1 B2 : Nat) (l : List UInt8) (w : World) (h1 : RB w B1 A1 l) (h2 : RB w B2 A2 l)
    (hm : l.length ≤ 9223372036854775807) :
    Calls Try.prog 16 #[.slice A1 l.length c1, .slice A2 l.length c2] w
      fun e w' => e = .returned (.bool true) ∧ ∃ n, w' = w.drewN n := by
  go_enter Try.func16, Try.ntmps16
  go_wp2
  go_loopw [5] (fun i wr => ∃ k n : Nat, k ≤ l.length ∧ i = .int .i64 k ∧ wr = w.drewN n) (fun i _ => l.length - (intOf i).toNat)
  case atStart => exact ⟨0, 0, Nat.zero_le _, rfl, rfl⟩
  case round =>
    obtain ⟨k, n, hk, rfl, rfl⟩ := hrel
    by_cases hlt : k < l.length
    · obtain ⟨ad1, rfl, _, e1⟩ := h1.at_ hlt
      obtain ⟨ad2, rfl, _, e2⟩ := h2.at_ hlt
      unfold vb at e1 e2
      have hb := byte_lt l[k]
      have i1 : (0 : Int) ≤ (k : Int) := by omega
      have i2 : (k : Int) < (l.length : Int) := by omega
      clear h1 h2
      go_wp2
      go_quiet (fail)
      go_wp2
      go_roundw
      case rel => exact ⟨k + 1, _, by omega, by go_num, rfl⟩
      case measure => simp [intOf]; omega
    · go_wp2
      go_ret
      exact ⟨rfl, _, rfl⟩

theorem same_false (A1 A2 : Option Addr) (c1 c2 B1 B2 : Nat) (l1 l2 : List UInt8) (w : World) (h1 : RB w B1 A1 l1) (h2 : RB w B2 A2 l2)
    (hm1 : l1.length ≤ 9223372036854775807) (hm2 : l2.length ≤ 9223372036854775807) (hne : l1 ≠ l2) :
    Calls Try.prog 16 #[.slice A1 l1.length c1, .slice A2 l2.length c2] w
      fun e w' => e = .returned (.bool false) ∧ ∃ n, w' = w.drewN n := by
  by_cases hl : l1.length = l2.length
  · have HN := Lib.hid hne
    have HL := Lib.hid hl
    have hl' : ((l1.length : Int) != (l2.length : Int)) = false := by rw [hl]; simp
    clear hne hl
    go_enter Try.func16, Try.ntmps16
    go_wp2
    clear hl'
    go_loopw [5] (fun i wr => ∃ k n : Nat, k ≤ l1.length ∧ i = .int .i64 k ∧ wr = w.drewN n ∧ Hid (l1.take k = l2.take k)) (fun i _ => l1.length - (intOf i).toNat)
    case atStart => exact ⟨0, 0, Nat.zero_le _, rfl, rfl, by simp [Hid]⟩
    case round =>
      obtain ⟨k, n, hk, rfl, rfl, HE⟩ := hrel
      by_cases hlt : k < l1.length
      · have hlt2 : k < l2.length := by have := HL.out; omega
        obtain ⟨ad1, rfl, _, e1⟩ := h1.at_ hlt
        obtain ⟨ad2, rfl, _, e2⟩ := h2.at_ hlt2
        unfold vb at e1 e2
        have hb1 := byte_lt l1[k]
        have hb2 := byte_lt l2[k]
        have i1 : (0 : Int) ≤ (k : Int) := by omega
        have i2 : (k : Int) < (l1.length : Int) := by omega
        have i3 : (k : Int) < (l2.length : Int) := by omega
        clear h1 h2
        by_cases hc : l1[k] = l2[k]
        · have HC := Lib.hid hc
          have hc' : ((l1[k].toNat : Int) != (l2[k].toNat : Int)) = false := by rw [hc]; simp
          clear hc
          go_wp2
          go_quiet (fail)
          go_wp2
          go_roundw
          case rel => exact ⟨k + 1, _, by omega, by go_num, rfl, by
            show l1.take (k + 1) = l2.take (k + 1)
            rw [List.take_succ_eq_append_getElem hlt, List.take_succ_eq_append_getElem hlt2, HE.out, HC.out]⟩
          case measure => simp [intOf]; omega
        · have hc' : ((l1[k].toNat : Int) != (l2[k].toNat : Int)) = true := by
            simp only [bne_iff_ne, ne_eq]
            intro h
            exact hc (UInt8.toNat_inj.1 (by omega))
          clear hc
          go_wp2
          go_quiet (fail)
          go_wp2
          go_ret
          exact ⟨rfl, _, by rw [World.drewN_drewN]⟩
      · exfalso
        have e1 := HE.out
        rw [List.take_of_length_le (by omega), List.take_of_length_le (by have := HL.out; omega)] at e1
        exact HN.out e1
  · have hl' : ((l1.length : Int) != (l2.length : Int)) = true := by simp; omega
    go_enter Try.func16, Try.ntmps16
    go_wp2
    go_ret
    exact ⟨rfl, 0, rfl⟩

theorem same_sl {w : World} {A D : Option Addr} {c d : Nat} {l : List UInt8} (h : SL w A c l) (hk : SL w D d l) (hl : l.length ≤ 9223372036854775807) :
    Calls Try.prog 16 #[.slice A l.length c, .slice D l.length d] w fun e w' => e = .returned (.bool true) ∧ Bl w w' :=
  (same_true A D c d _ _ l w h.rb hk.rb hl).mono fun _ _ ⟨he, n, hn⟩ => ⟨he, hn ▸ Bl.drewN _ _⟩
theorem same_not_sl {w : World} {A D : Option Addr} {c d : Nat} {l k : List UInt8} (h : SL w A c l) (hk : SL w D d k) (hl : l.length ≤ 9223372036854775807) (hl2 : k.length ≤ 9223372036854775807) (hne : l ≠ k) :
    Calls Try.prog 16 #[.slice A l.length c, .slice D k.length d] w fun e w' => e = .returned (.bool false) ∧ Bl w w' :=
  (same_false A D c d _ _ l k w h.rb hk.rb hl hl2 hne).mono fun _ _ ⟨he, n, hn⟩ => ⟨he, hn ▸ Bl.drewN _ _⟩
end Go.Proofs.Ytigicphmnlkjfaa
