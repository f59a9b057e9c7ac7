/- The plain functions: numbers as bytes (enc), and taken again (dec). Nothing of the program. -/
namespace Go.Proofs.Ytigicphmnlkjfaa

/-- A number's bytes, seven bits each, the lowest first, 128 more where one follows. -/
def enc (n : Nat) : List UInt8 := if n < 128 then [UInt8.ofNat n] else UInt8.ofNat (n % 128 + 128) :: enc (n / 128)
termination_by n
decreasing_by omega

/-- A number taken of bytes, from place i on, with what there is already. -/
def decF : Nat → Nat → List UInt8 → Option (Nat × List UInt8)
  | _, _, [] => none
  | i, n, c :: r =>
    if 9 < i ∨ (i = 9 ∧ 1 < c.toNat) ∨ (0 < i ∧ c.toNat = 0) then none
    else if c.toNat < 128 then some (n + c.toNat * 128 ^ i, r) else decF (i + 1) (n + (c.toNat - 128) * 128 ^ i) r
def dec (l : List UInt8) : Option (Nat × List UInt8) := decF 0 0 l

theorem enc_lt {n : Nat} (h : n < 128) : enc n = [UInt8.ofNat n] := by rw [enc, if_pos h]
theorem enc_ge {n : Nat} (h : 128 ≤ n) : enc n = UInt8.ofNat (n % 128 + 128) :: enc (n / 128) := by rw [enc, if_neg (by omega)]
theorem enc_len (k : Nat) : ∀ n, n < 128 ^ k → 1 ≤ k → (enc n).length ≤ k := by
  induction k with
  | zero => intro n _ h; omega
  | succ k ih =>
    intro n h _
    by_cases hn : n < 128
    · rw [enc_lt hn]; simp
    · rw [enc_ge (by omega)]
      have hk : 1 ≤ k := by
        rcases Nat.eq_zero_or_pos k with h0 | h0
        · subst h0; omega
        · exact h0
      have := ih (n / 128) (by rw [Nat.pow_succ] at h; omega) hk
      simp; omega
theorem enc_len10 {n : Nat} (h : n < 2 ^ 64) : (enc n).length ≤ 10 := enc_len 10 n (by omega) (by omega)
theorem enc_pos (n : Nat) : 1 ≤ (enc n).length := by
  by_cases h : n < 128
  · rw [enc_lt h]; simp
  · rw [enc_ge (by omega)]; simp
end Go.Proofs.Ytigicphmnlkjfaa
