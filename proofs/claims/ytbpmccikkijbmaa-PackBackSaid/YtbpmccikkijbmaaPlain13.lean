/- Plain laws of layer 13: what is put is taken, one way, and in order. Nothing of the program. -/
import Derived.Test.YtbpmccikkijbmaaTakeInt
import Derived.Test.YtbpmccikkijbmaaPutInt
namespace Go.Proofs.Ytbpmccikkijbmaa

theorem toNat_ofNat_lt {n : Nat} (h : n < 256) : (UInt8.ofNat n).toNat = n := by simp; omega

theorem enc_mono : ∀ b a : Nat, a ≤ b → (enc a).length ≤ (enc b).length := by
  intro b
  induction b using Nat.strongRecOn with
  | _ b ih =>
    intro a h
    by_cases ha : a < 128
    · rw [enc_lt ha]; have := enc_pos b; simpa using this
    · rw [enc_ge (n := a) (by omega), enc_ge (n := b) (by omega)]
      have := ih (b / 128) (by omega) (a / 128) (by omega)
      simp; omega

theorem decF_enc (n : Nat) : ∀ (k N : Nat) (r : List UInt8), n * 128 ^ k < 2 ^ 64 → (k = 0 ∨ 0 < n) → k ≤ 9 → decF k N (enc n ++ r) = some (N + n * 128 ^ k, r) := by
  induction n using Nat.strongRecOn with
  | _ n ih =>
    intro k N r hb hk h9
    have hk9 : k = 9 → n ≤ 1 := by rintro rfl; omega
    by_cases hn : n < 128
    · rw [enc_lt hn]
      have e : (UInt8.ofNat n).toNat = n := toNat_ofNat_lt (by omega)
      show decF k N (UInt8.ofNat n :: r) = _
      rw [decF, e, if_neg (by omega), if_pos hn]
    · rw [enc_ge (by omega)]
      have e : (UInt8.ofNat (n % 128 + 128)).toNat = n % 128 + 128 := toNat_ofNat_lt (by omega)
      show decF k N (UInt8.ofNat (n % 128 + 128) :: (enc (n / 128) ++ r)) = _
      have h8 : k ≤ 8 := by
        rcases Nat.lt_or_ge k 9 with h | h
        · omega
        · have := hk9 (by omega); omega
      have e2 : n % 128 * 128 ^ k + n / 128 * 128 ^ (k + 1) = n * 128 ^ k := by
        rw [Nat.pow_succ, Nat.mul_comm (128 ^ k) 128, ← Nat.mul_assoc, ← Nat.add_mul]
        congr 1
        omega
      rw [decF, e, if_neg (by omega), if_neg (by omega), Nat.add_sub_cancel, ih (n / 128) (by omega) (k + 1) _ r (by omega) (by omega) (by omega), Nat.add_assoc, e2]
/-- BACK. -/
theorem dec_enc {n : Nat} (h : n < 2 ^ 64) (r : List UInt8) : dec (enc n ++ r) = some (n, r) := by
  unfold dec
  rw [decF_enc n 0 0 r (by omega) (.inl rfl) (by omega)]
  simp
theorem enc_inj {a b : Nat} (ha : a < 2 ^ 64) (hb : b < 2 ^ 64) (h : enc a = enc b) : a = b := by
  have h1 := dec_enc ha []
  have h2 := dec_enc hb []
  rw [h, h2] at h1
  injection h1 with h1
  injection h1 with h1
  exact h1.symm

theorem decF_one (l : List UInt8) : ∀ (k N : Nat) {n : Nat} {r : List UInt8}, decF k N l = some (n, r) → ∃ q, n = N + q * 128 ^ k ∧ l = enc q ++ r ∧ (0 < k → 0 < q) := by
  induction l with
  | nil => intro k N n r h; simp [decF] at h
  | cons c l ih =>
    intro k N n r h
    have hc := c.toNat_lt
    have e : ∀ x, x = c.toNat → UInt8.ofNat x = c := by rintro x rfl; simp
    rw [decF] at h
    split at h
    · cases h
    · split at h
      · injection h with h; injection h with h1 h2
        refine ⟨c.toNat, h1.symm, ?_, by omega⟩
        rw [enc_lt (by omega), e _ rfl, h2]
        rfl
      · obtain ⟨q, h1, h2, h3⟩ := ih _ _ h
        have hq := h3 (by omega)
        refine ⟨c.toNat - 128 + 128 * q, ?_, ?_, fun _ => by omega⟩
        · rw [h1, Nat.pow_succ, Nat.add_mul, Nat.add_assoc]
          congr 2
          rw [Nat.mul_comm (128 ^ k) 128, ← Nat.mul_assoc, Nat.mul_comm q 128]
        · rw [enc_ge (by omega), show (c.toNat - 128 + 128 * q) / 128 = q from by omega, e _ (by omega), h2]
          rfl
/-- ONE WAY. -/
theorem dec_one {l : List UInt8} {n : Nat} {r : List UInt8} (h : dec l = some (n, r)) : enc n ++ r = l := by
  obtain ⟨q, h1, h2, _⟩ := decF_one l 0 0 h
  have : n = q := by omega
  subst this
  exact h2.symm

theorem decF_more (l m : List UInt8) : ∀ k N : Nat, decF k N l = none → 10 ≤ k + l.length → decF k N (l ++ m) = none := by
  induction l with
  | nil =>
    intro k N _ h
    simp at h
    cases m with
    | nil => simp [decF]
    | cons c m => simp only [List.nil_append]; rw [decF, if_pos (by omega)]
  | cons c l ih =>
    intro k N h hk
    rw [decF] at h
    show decF k N (c :: (l ++ m)) = none
    rw [decF]
    split
    · rfl
    · rename_i hb
      rw [if_neg hb] at h
      split
      · rename_i hc; rw [if_pos hc] at h; cases h
      · rename_i hc
        rw [if_neg hc] at h
        exact ih _ _ h (by simp at hk; omega)
theorem dec_more {l : List UInt8} (h : dec l = none) (h10 : 10 ≤ l.length) (m : List UInt8) : dec (l ++ m) = none := decF_more l m 0 0 h (by omega)

/-- An integer's number is taken back. -/
theorem zag_zig (n : Int) : zag (zig n) = n := by
  unfold zig
  split
  · rw [zag_even (by omega)]; omega
  · rw [zag_odd (by omega)]; omega
theorem zig_zag (n : Nat) : zig (zag n) = n := by
  by_cases h : n % 2 = 0
  · rw [zag_even h]; unfold zig; rw [if_pos (by omega)]; omega
  · rw [zag_odd h]; unfold zig; rw [if_neg (by omega)]; omega
theorem zag_wf {n : Nat} (h : n < 2 ^ 64) : (Lit.int .i64 (zag n)).wf = true := by
  have : -9223372036854775808 ≤ zag n ∧ zag n ≤ 9223372036854775807 := by
    by_cases h : n % 2 = 0
    · rw [zag_even h]; omega
    · rw [zag_odd h]; omega
  simpa [Lit.wf, IntKind.min, IntKind.max, IntKind.signed, IntKind.bits] using this
end Go.Proofs.Ytbpmccikkijbmaa
