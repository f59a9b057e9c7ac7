/- What Take reckons of a byte, in both texts. Nothing of the program. -/
import Derived.Test.YtebillkojmafoaaPlain
import Derived.Test.YtebillkojmafoaaWords
import Derived.Laws.BitsAllLaws
namespace Go.Proofs.Ytebillkojmafoaa
open Go.RowKit

theorem pow128 (k : Nat) : 128 ^ k = 2 ^ (7 * k) := by rw [Nat.pow_mul]
theorem pow128_8 {k : Nat} (h : k ≤ 8) : 128 ^ k ≤ 2 ^ 56 := by rw [pow128]; exact Nat.pow_le_pow_right (by omega) (by omega)
theorem pow128_9 {k : Nat} (h : k ≤ 9) : 128 ^ k ≤ 2 ^ 63 := by rw [pow128]; exact Nat.pow_le_pow_right (by omega) (by omega)

theorem mul_lt {k x : Nat} (h : k ≤ 8 ∧ x < 128 ∨ k = 9 ∧ x ≤ 1) : x * 128 ^ k < 2 ^ 64 := by
  rcases h with ⟨h1, h2⟩ | ⟨rfl, h2⟩
  · have := pow128_8 h1
    calc x * 128 ^ k ≤ 128 * 2 ^ 56 := Nat.mul_le_mul (by omega) this
      _ < 2 ^ 64 := by omega
  · have : x * 128 ^ 9 ≤ 1 * 128 ^ 9 := Nat.mul_le_mul_right _ h2
    omega
theorem add_lt {k x N : Nat} (h : k ≤ 8 ∧ x < 128 ∨ k = 9 ∧ x ≤ 1) (hN : N < 128 ^ k) : N + x * 128 ^ k < 2 ^ 64 := by
  rcases h with ⟨h1, h2⟩ | ⟨rfl, h2⟩
  · have := pow128_8 h1
    calc N + x * 128 ^ k < 128 ^ k + 127 * 128 ^ k := Nat.add_lt_add_of_lt_of_le hN (Nat.mul_le_mul_right _ (by omega))
      _ = 128 * 128 ^ k := by omega
      _ ≤ 128 * 2 ^ 56 := Nat.mul_le_mul_left _ this
      _ ≤ 2 ^ 64 := by omega
  · have : x * 128 ^ 9 ≤ 1 * 128 ^ 9 := Nat.mul_le_mul_right _ h2
    omega
theorem add_lt_next {k x N : Nat} (hx : x < 128) (hN : N < 128 ^ k) : N + x * 128 ^ k < 128 ^ (k + 1) := by
  rw [Nat.pow_succ]
  have : x * 128 ^ k ≤ 127 * 128 ^ k := Nat.mul_le_mul_right _ (by omega)
  omega

theorem andNot_128 (c : UInt8) : bits .andNot .u8 (c.toNat : Int) 128 = ((c.toNat % 128 : Nat) : Int) := by
  have h : ∀ x : Fin 256, bits .andNot .u8 (x.val : Int) 128 = ((x.val % 128 : Nat) : Int) := by decide +kernel
  exact h ⟨c.toNat, c.toNat_lt⟩

/-- A byte's seven bits laid above what there is. -/
theorem or_shl {k N : Nat} (c : UInt8) (h : k ≤ 8 ∨ k = 9 ∧ c.toNat ≤ 1) (hN : N < 128 ^ k) :
    bits .or .u64 (N : Int) (IntKind.u64.wrap (IntKind.u64.wrap (bits .andNot .u8 (c.toNat : Int) 128) * 2 ^ (7 * k))) = ((N + c.toNat % 128 * 128 ^ k : Nat) : Int) := by
  have hx : k ≤ 8 ∧ c.toNat % 128 < 128 ∨ k = 9 ∧ c.toNat % 128 ≤ 1 := by omega
  have h1 := mul_lt hx
  have h2 := add_lt hx hN
  rw [andNot_128, IntWalk.u64_in ((c.toNat % 128 : Nat) : Int) (by omega)]
  have e : ((c.toNat % 128 : Nat) : Int) * 2 ^ (7 * k) = ((c.toNat % 128 * 128 ^ k : Nat) : Int) := by
    rw [pow128]; simp
  rw [e, IntWalk.u64_in _ (by omega), u64_or_nat _ _ (by omega) (by omega)]
  have e2 : N ||| (c.toNat % 128 * 128 ^ k) = N + c.toNat % 128 * 128 ^ k := by
    rw [pow128] at hN ⊢
    rw [Nat.or_comm, Nat.mul_comm, ← Nat.two_pow_add_eq_or_of_lt hN, Nat.add_comm]
  rw [e2]

/-- The steps of 'decF'. -/
theorem decF_bad {k N : Nat} {l : List UInt8} (hk : k < l.length) (h : (k = 9 ∧ 1 < l[k].toNat) ∨ (0 < k ∧ l[k].toNat = 0)) : decF k N (l.drop k) = none := by
  rw [List.drop_eq_getElem_cons hk, decF, if_pos (by omega)]
theorem decF_end {k N : Nat} {l : List UInt8} (hk : k < l.length) (h9 : k ≤ 9) (h : ¬ ((k = 9 ∧ 1 < l[k].toNat) ∨ (0 < k ∧ l[k].toNat = 0))) (hc : l[k].toNat < 128) :
    decF k N (l.drop k) = some (N + l[k].toNat % 128 * 128 ^ k, l.drop (k + 1)) := by
  rw [List.drop_eq_getElem_cons hk, decF, if_neg (by omega), if_pos hc, Nat.mod_eq_of_lt hc]
theorem decF_next {k N : Nat} {l : List UInt8} (hk : k < l.length) (h9 : k ≤ 9) (h : ¬ ((k = 9 ∧ 1 < l[k].toNat) ∨ (0 < k ∧ l[k].toNat = 0))) (hc : ¬ l[k].toNat < 128) :
    decF k N (l.drop k) = decF (k + 1) (N + l[k].toNat % 128 * 128 ^ k) (l.drop (k + 1)) := by
  have := l[k].toNat_lt
  rw [List.drop_eq_getElem_cons hk, decF, if_neg (by omega), if_neg hc, show l[k].toNat - 128 = l[k].toNat % 128 from by omega]
theorem decF_out {k N : Nat} {l : List UInt8} (hk : l.length ≤ k) : decF k N (l.drop k) = none := by
  rw [List.drop_eq_nil_of_le hk, decF]
end Go.Proofs.Ytebillkojmafoaa
