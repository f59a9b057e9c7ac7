/- The plain law of bytes that are changed in a row. Nothing of the program. -/
import Derived.Test.YtcbfcbkpbaefaaaCrcPlain
namespace Go.Proofs.Ytcbfcbkpbaefaaa

/-- Bytes after i changes from place a on, by the bytes of p. -/
def bTo (x : List UInt8) (a p : Nat) : Nat → List UInt8
  | 0 => x
  | i + 1 => (bTo x a p i).set (a + i) ((bTo x a p i).getD (a + i) 0 ^^^ UInt8.ofNat (p / 256 ^ i))
theorem bTo_len (x : List UInt8) (a p : Nat) : ∀ i, (bTo x a p i).length = x.length
  | 0 => rfl
  | i + 1 => by simp only [bTo, List.length_set]; exact bTo_len x a p i
theorem bTo_get (x : List UInt8) (a p : Nat) : ∀ (i j : Nat), (bTo x a p i)[j]? = if a ≤ j ∧ j < a + i then x[j]?.map (· ^^^ UInt8.ofNat (p / 256 ^ (j - a))) else x[j]?
  | 0, j => by rw [if_neg (by omega)]; rfl
  | i + 1, j => by
    simp only [bTo]
    rw [List.getElem?_set, bTo_len, List.getD_eq_getElem?_getD, bTo_get x a p i]
    by_cases e : a + i = j
    · subst e
      rw [if_pos rfl, if_neg (show ¬ (a ≤ a + i ∧ a + i < a + i) by omega), if_pos (show a ≤ a + i ∧ a + i < a + (i + 1) by omega), Nat.add_sub_cancel_left]
      by_cases hl : a + i < x.length
      · rw [if_pos hl, List.getElem?_eq_getElem hl]; rfl
      · rw [if_neg hl, List.getElem?_eq_none (by omega)]; rfl
    · rw [if_neg e, bTo_get x a p i]
      by_cases hj : a ≤ j ∧ j < a + i
      · rw [if_pos hj, if_pos (by omega)]
      · rw [if_neg hj, if_neg (by omega)]
theorem leN_get : ∀ (m p t : Nat), (leN m p)[t]? = if t < m then some (UInt8.ofNat (p / 256 ^ t)) else none
  | 0, p, t => by simp [leN]
  | m + 1, p, 0 => by
    simp only [leN, List.getElem?_cons_zero, Nat.pow_zero, Nat.div_one]
    rw [if_pos (by omega)]
    congr 1
    apply UInt8.toNat_inj.1; simp
  | m + 1, p, t + 1 => by
    simp only [leN, List.getElem?_cons_succ]
    rw [leN_get m (p / 256) t, Nat.div_div_eq_div_mul, Nat.mul_comm 256, ← Nat.pow_succ]
    by_cases h : t < m
    · rw [if_pos h, if_pos (by omega)]
    · rw [if_neg h, if_neg (by omega)]
theorem bTo_five {x : List UInt8} {a p : Nat} (h : a + 5 ≤ x.length) : bTo x a p 5 = List.zipWith (· ^^^ ·) x (burst a x.length p) := by
  apply List.ext_getElem?
  intro j
  rw [bTo_get, List.getElem?_zipWith]
  unfold burst
  by_cases h1 : j < a
  · rw [if_neg (by omega), List.getElem?_append_left (by simpa using h1), List.getElem?_replicate, if_pos h1, List.getElem?_eq_getElem (by omega)]
    simp
  · rw [List.getElem?_append_right (by simp; omega), List.length_replicate]
    by_cases h2 : j < a + 5
    · rw [if_pos (by omega), List.getElem?_append_left (by rw [leN_len]; omega), leN_get, if_pos (by omega), List.getElem?_eq_getElem (by omega)]
      simp
    · rw [if_neg (by omega), List.getElem?_append_right (by rw [leN_len]; omega), leN_len, List.getElem?_replicate]
      by_cases h3 : j < x.length
      · rw [if_pos (by omega), List.getElem?_eq_getElem h3]; simp
      · rw [if_neg (by omega), List.getElem?_eq_none (by omega)]
end Go.Proofs.Ytcbfcbkpbaefaaa
