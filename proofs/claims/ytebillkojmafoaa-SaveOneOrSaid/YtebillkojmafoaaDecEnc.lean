/- What is put is taken, with what is behind. Nothing of the program. -/
import Derived.Test.YtebillkojmafoaaTakePlain
namespace Go.Proofs.Ytebillkojmafoaa

theorem toNat_ofNat_lt {n : Nat} (h : n < 256) : (UInt8.ofNat n).toNat = n := by simp; omega

theorem enc_mono : ∀ b a : Nat, a ≤ b → (enc a).length ≤ (enc b).length := by
  intro b
  induction b using Nat.strongRecOn with
  | _ b ih =>
    intro a h
    by_cases ha : a < 128
    · rw [enc_lt ha]; have := enc_pos b; simpa using this
    · rw [enc_ge (n := a) (by omega), enc_ge (n := b) (by omega)]
      have := ih (b / 128) (by omega) (a / 128) (by omega)
      simp; omega

theorem decF_enc (n : Nat) : ∀ (k N : Nat) (r : List UInt8), n * 128 ^ k < 2 ^ 64 → (k = 0 ∨ 0 < n) → k ≤ 9 → decF k N (enc n ++ r) = some (N + n * 128 ^ k, r) := by
  induction n using Nat.strongRecOn with
  | _ n ih =>
    intro k N r hb hk h9
    have hk9 : k = 9 → n ≤ 1 := by rintro rfl; omega
    by_cases hn : n < 128
    · rw [enc_lt hn]
      have e : (UInt8.ofNat n).toNat = n := toNat_ofNat_lt (by omega)
      show decF k N (UInt8.ofNat n :: r) = _
      rw [decF, e, if_neg (by omega), if_pos hn]
    · rw [enc_ge (by omega)]
      have e : (UInt8.ofNat (n % 128 + 128)).toNat = n % 128 + 128 := toNat_ofNat_lt (by omega)
      show decF k N (UInt8.ofNat (n % 128 + 128) :: (enc (n / 128) ++ r)) = _
      have h8 : k ≤ 8 := by
        rcases Nat.lt_or_ge k 9 with h | h
        · omega
        · have := hk9 (by omega); omega
      have e2 : n % 128 * 128 ^ k + n / 128 * 128 ^ (k + 1) = n * 128 ^ k := by
        rw [Nat.pow_succ, Nat.mul_comm (128 ^ k) 128, ← Nat.mul_assoc, ← Nat.add_mul]
        congr 1
        omega
      rw [decF, e, if_neg (by omega), if_neg (by omega), Nat.add_sub_cancel, ih (n / 128) (by omega) (k + 1) _ r (by omega) (by omega) (by omega), Nat.add_assoc, e2]
/-- BACK. -/
theorem dec_enc {n : Nat} (h : n < 2 ^ 64) (r : List UInt8) : dec (enc n ++ r) = some (n, r) := by
  unfold dec
  rw [decF_enc n 0 0 r (by omega) (.inl rfl) (by omega)]
  simp
theorem enc_inj {a b : Nat} (ha : a < 2 ^ 64) (hb : b < 2 ^ 64) (h : enc a = enc b) : a = b := by
  have h1 := dec_enc ha []
  have h2 := dec_enc hb []
  rw [h, h2] at h1
  injection h1 with h1
  injection h1 with h1
  exact h1.symm

end Go.Proofs.Ytebillkojmafoaa
