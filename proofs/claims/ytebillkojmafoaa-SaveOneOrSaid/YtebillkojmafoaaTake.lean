/- The contracts of Take, both texts. -/
import Derived.Test.YtebillkojmafoaaPut
import Derived.Test.YtebillkojmafoaaTakePlain
import Derived.BigQuiet
import Derived.Deep.QuietTactic
namespace Go.Proofs.Ytebillkojmafoaa
open Go.RowKit
set_option linter.unusedVariables false

/-- What Take gives where something is taken: the number, the rest, no error; nothing but draws was done. -/
def TakeGives (w : World) (B : Nat) (n : Nat) (r : List UInt8) (e : Ending) (w' : World) : Prop :=
  ∃ A c j, e = .returned (.tuple #[.int .u64 n, .slice A r.length c, .int .i64 0]) ∧ RB w B A r ∧ r.length ≤ c ∧ (A = none → c = 0) ∧ w' = w.drewN j
/-- What Take gives where nothing is taken. -/
def TakeNot (w : World) (e : Ending) (w' : World) : Prop := e = .returned (.tuple #[.int .u64 0, .slice none 0 0, .int .i64 3]) ∧ ∃ j, w' = w.drewN j
/-- What Take gives, of what 'dec' says. -/
def TakePost (w : World) (B : Nat) (o : Option (Nat × List UInt8)) (e : Ending) (w' : World) : Prop :=
  match o with
  | none => TakeNot w e w'
  | some (n, r) => TakeGives w B n r e w'

theorem takeGives_mk {w : World} {B M n c j : Nat} {ad : Addr} {r : List UInt8} (hn : n = r.length) (h : RB w B (some ad) r) (hc : n ≤ c) :
    TakeGives w B M r (.returned (.tuple #[.int .u64 M, .slice (some ad) n c, .int .i64 0])) (w.drewN j) := by
  subst hn
  exact ⟨_, _, _, rfl, h, hc, (fun e => by cases e), rfl⟩

/-- The tests of a place and its byte, decided. -/
theorem guards {k : Nat} (c : UInt8) (h9 : k ≤ 9) (h : ¬ ((k = 9 ∧ 1 < c.toNat) ∨ (0 < k ∧ c.toNat = 0))) :
    (decide ((9 : Int) < (k : Int)) = false ∧ ((k : Int) == 9) = false ∧ ¬ 0 < k) ∨
    (decide ((9 : Int) < (k : Int)) = false ∧ ((k : Int) == 9) = false ∧ 0 < k ∧ ((c.toNat : Int) == 0) = false) ∨
    (decide ((9 : Int) < (k : Int)) = false ∧ ((k : Int) == 9) = true ∧ 0 < k ∧ ((c.toNat : Int) == 0) = false ∧ decide ((1 : Int) < (c.toNat : Int)) = false) := by
  simp only [decide_eq_false_iff_not, beq_eq_false_iff_ne, beq_iff_eq, ne_eq]
  omega

set_option maxRecDepth 100000 in
set_option maxHeartbeats 2000000 in
theorem take_any (A : Option Addr) (c B : Nat) (l : List UInt8) (w : World) (h : RB w B A l) (hc : l.length ≤ c) (hA : A = none → c = 0) (hl : l.length ≤ 140737488355328) :
    Calls Try.prog 36 #[.slice A l.length c] w (TakePost w B (dec l)) := by
  have HA := Lib.hid hA
  clear hA
  go_enter Try.func36, Try.ntmps36
  go_wp2
  go_loop [5, 10] (fun v i => ∃ k N : Nat, k ≤ l.length ∧ k ≤ 9 ∧ i = .int .i64 k ∧ v = .int .u64 N ∧ Hid (N < 128 ^ k ∧ decF k N (l.drop k) = dec l)) (fun _ i => l.length - (intOf i).toNat)
  case atStart => exact ⟨0, 0, Nat.zero_le _, Nat.zero_le _, rfl, rfl, by simp [Hid, dec]⟩
  case round =>
    obtain ⟨k, N, hk, hk9, rfl, rfl, HE⟩ := hrel
    by_cases hlt : k < l.length
    · obtain ⟨ad, hAd, _, e1⟩ := h.at_ hlt
      subst hAd
      unfold vb at e1
      have hb := byte_lt l[k]
      have hcut := Lib.hid (h.cut (k := k + 1) (by omega) hc)
      clear h
      by_cases hbad : (k = 9 ∧ 1 < l[k].toNat) ∨ (0 < k ∧ l[k].toNat = 0)
      · have hnone : Hid (dec l = none) := by rw [← HE.out.2]; exact decF_bad hlt hbad
        clear HE
        rcases hbad with ⟨h9, h1⟩ | ⟨h0, h1⟩
        · have h9' : 9 ≤ k := by omega
          clear h9
          go_wp2
          go_ret3
          rw [hnone.out]
          exact ⟨rfl, 0, rfl⟩
        · go_wp2
          all_goals go_ret3
          all_goals rw [hnone.out]
          all_goals exact ⟨rfl, 0, rfl⟩
      · by_cases h128 : l[k].toNat < 128
        · obtain ⟨M, hM⟩ : ∃ M, M = N + l[k].toNat % 128 * 128 ^ k := ⟨_, rfl⟩
          have hor := or_shl (k := k) (N := N) l[k] (by omega) HE.out.1
          rw [← hM] at hor
          have hsome : Hid (dec l = some (M, l.drop (k + 1))) := by rw [← HE.out.2, hM]; exact decF_end hlt hk9 hbad h128
          have hg1 := guards (k := k) l[k] hk9 hbad
          have hg3 : k + 1 < c ∨ ¬ k + 1 < c := by omega
          have i1 : (0 : Int) ≤ (k : Int) + 1 := by omega
          have i2 : (k : Int) + 1 ≤ (l.length : Int) := by omega
          have i3 : (l.length : Int) ≤ (c : Int) := by omega
          clear hbad HE hM
          rcases hg1 with ⟨t1, t2, t3⟩ | ⟨t1, t2, t3, t4⟩ | ⟨t1, t2, t3, t4, t5⟩ <;> rcases hg3 with hg3 | hg3
          all_goals
            go_wp2
            go_quiet (fail)
            go_wp2
            go_ret3
            rw [hsome.out]
            exact takeGives_mk (by rw [List.length_drop]) (by
              have hcut' := hcut.out
              first
                | rw [if_pos (by omega)] at hcut'; exact hcut'
                | rw [if_neg (by omega)] at hcut'; simpa [Addr.add] using hcut') (by omega)
        · obtain ⟨M, hM⟩ : ∃ M, M = N + l[k].toNat % 128 * 128 ^ k := ⟨_, rfl⟩
          have h8 : k ≤ 8 := by omega
          have h0 : ¬ l[k].toNat = 0 := by omega
          have hor := or_shl (k := k) (N := N) l[k] (by omega) HE.out.1
          rw [← hM] at hor
          have hnext := Lib.hid (decF_next (N := N) hlt hk9 hbad h128)
          have hltN := Lib.hid (add_lt_next (x := l[k].toNat % 128) (k := k) (N := N) (by omega) HE.out.1)
          rw [← hM] at hltN hnext
          have hg1 := guards (k := k) l[k] hk9 hbad
          clear hbad hM
          rcases hg1 with ⟨t1, t2, t3⟩ | ⟨t1, t2, t3, t4⟩ | ⟨t1, t2, t3, t4, t5⟩
          all_goals
            go_wp2
            go_round
            case rel => exact ⟨k + 1, M, by omega, by omega, by go_num, rfl, hltN.out, hnext.out.symm.trans HE.out.2⟩
            case measure => simp [intOf]; omega
    · have hnone : Hid (dec l = none) := by rw [← HE.out.2]; exact decF_out (by omega)
      clear h HE
      go_wp2
      go_ret3
      rw [hnone.out]
      exact ⟨rfl, 0, rfl⟩
end Go.Proofs.Ytebillkojmafoaa
