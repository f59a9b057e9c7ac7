/- The plain law of the checksum: a register's step, its linearity, and that a burst is found. Nothing of the program. -/
namespace Go.Proofs.Ytigicphmnlkjfaa

/-- One bit of a step. -/
def bit1 (n : Nat) : Nat := if n % 2 = 1 then n / 2 ^^^ 3988292384 else n / 2
/-- k bits of steps. -/
def btk (k : Nat) (n : Nat) : Nat := match k with | 0 => n | k + 1 => btk k (bit1 n)
/-- A register's step with a byte. -/
def stp (s : Nat) (c : UInt8) : Nat := btk 8 (s ^^^ c.toNat)
/-- Steps with bytes, from a register on. -/
def run (s : Nat) (l : List UInt8) : Nat := l.foldl stp s
/-- The register's full complement. -/
def inv (s : Nat) : Nat := s ^^^ 4294967295
/-- A checksum gone on. -/
def crcOn (s : Nat) (l : List UInt8) : Nat := inv (run (inv s) l)
def crcOf (l : List UInt8) : Nat := crcOn 0 l
/-- The four bytes of a checksum, the lowest first. -/
def le4 (n : Nat) : List UInt8 := [UInt8.ofNat n, UInt8.ofNat (n / 256), UInt8.ofNat (n / 65536), UInt8.ofNat (n / 16777216)]
def crcPut (l : List UInt8) : List UInt8 := l ++ le4 (crcOf l)

theorem xor_lt32 {a b : Nat} (ha : a < 2 ^ 32) (hb : b < 2 ^ 32) : a ^^^ b < 2 ^ 32 := Nat.xor_lt_two_pow ha hb
theorem xor_div2 (a b : Nat) : (a ^^^ b) / 2 = a / 2 ^^^ b / 2 := by
  have := Nat.shiftRight_xor_distrib (a := a) (b := b) (i := 1)
  simpa [Nat.shiftRight_succ] using this
theorem xor_mod2 (a b : Nat) : (a ^^^ b) % 2 = (a % 2 + b % 2) % 2 := by
  have h := Nat.xor_mod_two_pow (a := a) (b := b) (n := 1)
  rw [Nat.pow_one] at h
  rw [h]
  rcases Nat.mod_two_eq_zero_or_one a with ha | ha <;> rcases Nat.mod_two_eq_zero_or_one b with hb | hb <;> simp [ha, hb]
theorem xor4 (a b p : Nat) : (a ^^^ p) ^^^ (b ^^^ p) = a ^^^ b := by
  rw [Nat.xor_assoc, Nat.xor_comm b p, ← Nat.xor_assoc p p b, Nat.xor_self, Nat.zero_xor]
theorem bit1_xor (a b : Nat) : bit1 (a ^^^ b) = bit1 a ^^^ bit1 b := by
  unfold bit1
  rw [xor_div2, xor_mod2]
  rcases Nat.mod_two_eq_zero_or_one a with ha | ha <;> rcases Nat.mod_two_eq_zero_or_one b with hb | hb <;> simp [ha, hb]
  · rw [Nat.xor_assoc]
  · rw [Nat.xor_assoc, Nat.xor_comm (b / 2), ← Nat.xor_assoc]
  · rw [xor4]
theorem btk_xor (k : Nat) : ∀ a b : Nat, btk k (a ^^^ b) = btk k a ^^^ btk k b := by
  induction k with
  | zero => intro a b; rfl
  | succ k ih => intro a b; simp only [btk]; rw [bit1_xor, ih]
theorem btk_add (j : Nat) : ∀ k n : Nat, btk (k + j) n = btk j (btk k n) := by
  intro k
  induction k with
  | zero => intro n; simp [btk]
  | succ k ih => intro n; rw [show k + 1 + j = (k + j) + 1 from by omega]; simp only [btk]; exact ih _
theorem btk_zero (k : Nat) : btk k 0 = 0 := by
  induction k with
  | zero => rfl
  | succ k ih => simpa [btk, bit1] using ih
/-- Noughts below are shifted out. -/
theorem btk_shift (k : Nat) : ∀ n : Nat, btk k (n * 2 ^ k) = n := by
  induction k with
  | zero => intro n; simp [btk]
  | succ k ih =>
    intro n
    have e : n * 2 ^ (k + 1) = 2 * (n * 2 ^ k) := by rw [Nat.pow_succ, ← Nat.mul_assoc, Nat.mul_comm]
    simp only [btk, bit1, e]
    rw [if_neg (by omega), Nat.mul_div_cancel_left _ (by omega)]
    exact ih n
theorem bit1_lt {n : Nat} (h : n < 2 ^ 32) : bit1 n < 2 ^ 32 := by
  unfold bit1
  split
  · exact Nat.xor_lt_two_pow (by omega) (by omega)
  · omega
theorem btk_lt (k : Nat) : ∀ {n : Nat}, n < 2 ^ 32 → btk k n < 2 ^ 32 := by
  induction k with
  | zero => intro n h; exact h
  | succ k ih => intro n h; exact ih (bit1_lt h)
theorem bit1_ne {n : Nat} (h : n < 2 ^ 32) (h0 : n ≠ 0) : bit1 n ≠ 0 := by
  unfold bit1
  split
  · intro e
    have e1 : n / 2 = 3988292384 := by
      have := congrArg (· ^^^ 3988292384) e
      simpa [Nat.xor_assoc] using this
    omega
  · omega
theorem btk_ne (k : Nat) : ∀ {n : Nat}, n < 2 ^ 32 → n ≠ 0 → btk k n ≠ 0 := by
  induction k with
  | zero => intro n _ h; exact h
  | succ k ih => intro n h h0; exact ih (bit1_lt h) (bit1_ne h h0)

theorem byte_xor (a b : UInt8) : (a ^^^ b).toNat = a.toNat ^^^ b.toNat := by simp
theorem stp_xor (s t : Nat) (a b : UInt8) : stp (s ^^^ t) (a ^^^ b) = stp s a ^^^ stp t b := by
  unfold stp
  rw [byte_xor, ← btk_xor]
  congr 1
  rw [Nat.xor_assoc, Nat.xor_assoc, ← Nat.xor_assoc t, Nat.xor_comm t, Nat.xor_assoc]
theorem stp_lt {s : Nat} (h : s < 2 ^ 32) (c : UInt8) : stp s c < 2 ^ 32 := btk_lt 8 (Nat.xor_lt_two_pow h (by have := c.toNat_lt; omega))
theorem run_lt (l : List UInt8) : ∀ {s : Nat}, s < 2 ^ 32 → run s l < 2 ^ 32 := by
  induction l with
  | nil => intro s h; exact h
  | cons c l ih => intro s h; exact ih (stp_lt h c)
theorem inv_lt {s : Nat} (h : s < 2 ^ 32) : inv s < 2 ^ 32 := Nat.xor_lt_two_pow h (by omega)
theorem inv_inv (s : Nat) : inv (inv s) = s := by unfold inv; rw [Nat.xor_assoc, Nat.xor_self, Nat.xor_zero]
theorem crcOn_lt {s : Nat} (h : s < 2 ^ 32) (l : List UInt8) : crcOn s l < 2 ^ 32 := inv_lt (run_lt l (inv_lt h))
theorem crcOf_lt (l : List UInt8) : crcOf l < 2 ^ 32 := crcOn_lt (by omega) l
theorem run_append (s : Nat) (l k : List UInt8) : run s (l ++ k) = run (run s l) k := by unfold run; rw [List.foldl_append]
theorem run_zip (l : List UInt8) : ∀ (k : List UInt8) (s t : Nat), l.length = k.length → run (s ^^^ t) (List.zipWith (· ^^^ ·) l k) = run s l ^^^ run t k := by
  induction l with
  | nil => intro k s t h; cases k with
    | nil => rfl
    | cons _ _ => simp at h
  | cons a l ih => intro k s t h; cases k with
    | nil => simp at h
    | cons b k =>
      simp only [List.zipWith_cons_cons]
      show run (stp (s ^^^ t) (a ^^^ b)) _ = run (stp s a) l ^^^ run (stp t b) k
      rw [stp_xor]
      exact ih k _ _ (by simpa using h)

/-- ON: a checksum gone on is that of both. -/
theorem crcOn_append (l k : List UInt8) (s : Nat) : crcOn (crcOn s l) k = crcOn s (l ++ k) := by
  unfold crcOn; rw [inv_inv, run_append]

/-- The step by the table. -/
theorem xor_div256 (a b : Nat) : (a ^^^ b) / 256 = a / 256 ^^^ b / 256 := by
  have := Nat.shiftRight_xor_distrib (a := a) (b := b) (i := 8)
  simpa [Nat.shiftRight_eq_div_pow] using this
theorem xor_mod256 (a b : Nat) : (a ^^^ b) % 256 = (a % 256) ^^^ (b % 256) := by
  have := Nat.xor_mod_two_pow (a := a) (b := b) (n := 8)
  simpa using this
theorem split256 (s : Nat) : s = (s / 256 * 256) ^^^ (s % 256) := by
  have h := Nat.two_pow_add_eq_or_of_lt (b := s % 256) (i := 8) (by omega) (s / 256)
  apply Nat.eq_of_testBit_eq
  intro i
  rw [Nat.testBit_xor]
  by_cases hi : i < 8
  · have e1 : (s / 256 * 256).testBit i = false := by
      rw [show s / 256 * 256 = 2 ^ 8 * (s / 256) from by omega, Nat.testBit_two_pow_mul]; simp; omega
    rw [e1, show (256 : Nat) = 2 ^ 8 from rfl, Nat.testBit_mod_two_pow]; simp [hi]
  · have e1 : (s % 256).testBit i = false := by
      rw [show (256 : Nat) = 2 ^ 8 from rfl, Nat.testBit_mod_two_pow]; simp [hi]
    have e2 : (s / 256 * 256).testBit i = s.testBit i := by
      rw [show s / 256 * 256 = 2 ^ 8 * (s / 2 ^ 8) from by omega, Nat.testBit_two_pow_mul, Nat.testBit_div_two_pow]
      rw [show i - 8 + 8 = i from by omega]; simp; intro h; omega
    rw [e1, e2]; simp
theorem stp_table (s : Nat) (c : UInt8) : stp s c = s / 256 ^^^ btk 8 ((s % 256) ^^^ c.toNat) := by
  unfold stp
  conv => lhs; rw [split256 s]
  rw [Nat.xor_assoc, btk_xor, show s / 256 * 256 = s / 256 * 2 ^ 8 from rfl, btk_shift]

/-! ### Bursts -/
/-- The m lowest bytes of a number, the lowest first. -/
def leN (m : Nat) (p : Nat) : List UInt8 := match m with | 0 => [] | m + 1 => UInt8.ofNat (p % 256) :: leN m (p / 256)
theorem ofNat_byte (p : Nat) : (UInt8.ofNat (p % 256)).toNat = p % 256 := by simp
theorem run_leN (m : Nat) : ∀ (s p : Nat), p < 256 ^ m → run s (leN m p) = btk (8 * m) (s ^^^ p) := by
  induction m with
  | zero => intro s p h; have : p = 0 := by simpa using h
            subst this; simp [leN, run, btk]
  | succ m ih =>
    intro s p h
    have e : run s (leN (m + 1) p) = run (stp s (UInt8.ofNat (p % 256))) (leN m (p / 256)) := rfl
    rw [e, ih _ _ (by rw [Nat.pow_succ] at h; omega), show 8 * (m + 1) = 8 + 8 * m from by omega, btk_add]
    congr 1
    unfold stp
    rw [ofNat_byte]
    have e2 : s ^^^ p = (s ^^^ p % 256) ^^^ (p / 256 * 2 ^ 8) := by
      conv => lhs; rw [split256 p]
      rw [Nat.xor_comm (p / 256 * 256), ← Nat.xor_assoc]
    rw [e2, btk_xor 8 (s ^^^ p % 256), btk_shift]
theorem le4_leN (n : Nat) : le4 n = leN 4 n := by
  have e : ∀ p : Nat, UInt8.ofNat (p % 256) = UInt8.ofNat p := fun p => by
    apply UInt8.toNat_inj.1; simp
  simp only [le4, leN]
  rw [e, e, e, e, show n / 256 / 256 = n / 65536 from by omega, show n / 65536 / 256 = n / 16777216 from by omega]
theorem run_zeros (k s : Nat) : run s (List.replicate k 0) = btk (8 * k) s := by
  induction k generalizing s with
  | zero => simp [run, btk]
  | succ k ih =>
    have e : run s (List.replicate (k + 1) 0) = run (stp s 0) (List.replicate k 0) := by rw [List.replicate_succ]; rfl
    rw [e, ih, show 8 * (k + 1) = 8 + 8 * k from by omega, btk_add]
    congr 1
    unfold stp
    simp
/-- Of what is put the register ends alike. -/
theorem run_put (l : List UInt8) : run 4294967295 (crcPut l) = btk 32 4294967295 := by
  have h := run_lt l (s := 4294967295) (by omega)
  unfold crcPut
  rw [run_append, le4_leN _, run_leN 4 _ _ (crcOf_lt l)]
  congr 1
  unfold crcOf crcOn
  have : inv 0 = 4294967295 := by unfold inv; simp
  rw [this]
  unfold inv
  rw [← Nat.xor_assoc, Nat.xor_self, Nat.zero_xor]
/-- Where bits were changed. -/
def burst (at_ len p : Nat) : List UInt8 := List.replicate at_ 0 ++ (leN 5 p ++ List.replicate (len - at_ - 5) 0)
theorem run_burst (at_ len b s : Nat) (hb : b < 2 ^ 32) (h0 : b ≠ 0) (hs : s < 8) : run 0 (burst at_ len (b * 2 ^ s)) ≠ 0 := by
  have hp : b * 2 ^ s < 256 ^ 5 := by
    have h1 : 2 ^ s ≤ 2 ^ 7 := Nat.pow_le_pow_right (by omega) (by omega)
    calc b * 2 ^ s ≤ b * 2 ^ 7 := Nat.mul_le_mul_left _ h1
      _ < 2 ^ 32 * 2 ^ 7 := by omega
      _ ≤ 256 ^ 5 := by omega
  unfold burst
  rw [run_append, run_append, run_zeros at_, btk_zero, run_leN 5 _ _ hp, run_zeros, Nat.zero_xor, show 8 * 5 = s + (40 - s) from by omega, btk_add, btk_shift]
  exact btk_ne _ (btk_lt _ hb) (btk_ne _ hb h0)
theorem leN_len (m : Nat) : ∀ p, (leN m p).length = m := by
  induction m with
  | zero => intro p; rfl
  | succ m ih => intro p; simp [leN, ih]
theorem le4_len (n : Nat) : (le4 n).length = 4 := rfl
theorem crcPut_len (l : List UInt8) : (crcPut l).length = l.length + 4 := by simp [crcPut, le4_len]
theorem burst_len {at_ len p : Nat} (h : at_ + 5 ≤ len) : (burst at_ len p).length = len := by
  simp [burst, leN_len]; omega
/-- BURST: what is put, changed by a burst, is not what would be put of what is ahead of its last four bytes. -/
theorem burst_found {l k : List UInt8} {at_ b s : Nat} (hb : b < 2 ^ 32) (h0 : b ≠ 0) (hs : s < 8) (hat : at_ + 5 ≤ l.length + 4) :
    crcPut k ≠ List.zipWith (· ^^^ ·) (crcPut l) (burst at_ (l.length + 4) (b * 2 ^ s)) := by
  intro e
  have h1 := run_put k
  have h2 := run_zip (crcPut l) (burst at_ (l.length + 4) (b * 2 ^ s)) 4294967295 0 (by rw [crcPut_len, burst_len hat])
  rw [Nat.xor_zero, ← e, h1, run_put] at h2
  have h3 := run_burst at_ (l.length + 4) b s hb h0 hs
  apply h3
  have := congrArg (btk 32 4294967295 ^^^ ·) h2
  simpa [← Nat.xor_assoc] using this.symm

/-- LINE. -/
theorem zip_self (l : List UInt8) : List.zipWith (· ^^^ ·) l l = List.replicate l.length 0 := by
  induction l with
  | nil => rfl
  | cons a l ih => rw [List.zipWith_cons_cons, ih]; simp [List.replicate_succ]
theorem zip_len (l k : List UInt8) (h : l.length = k.length) : (List.zipWith (· ^^^ ·) l k).length = l.length := by simp [h]
theorem crc_line (l k : List UInt8) (h : l.length = k.length) :
    crcOf (List.zipWith (· ^^^ ·) l k) ^^^ crcOf l ^^^ crcOf k = crcOf (List.replicate l.length 0) := by
  have h1 := run_zip l k 4294967295 0 h
  have h2 := run_zip l l 4294967295 4294967295 rfl
  have h3 := run_zip l (List.replicate l.length 0) 4294967295 4294967295 (by simp)
  have e0 : inv 0 = 4294967295 := by unfold inv; simp
  unfold crcOf crcOn
  rw [e0]
  unfold inv
  rw [zip_self, Nat.xor_self] at h2
  rw [Nat.xor_zero] at h1
  rw [h1]
  have h4 := run_zip k (List.replicate l.length 0) 0 4294967295 (by simp [h])
  rw [Nat.zero_xor] at h4
  have e5 : List.zipWith (· ^^^ ·) k (List.replicate l.length 0) = k := by
    apply List.ext_getElem
    · simp [h]
    · intro i _ _; simp
  rw [e5] at h4
  rw [h4]
  generalize run 4294967295 l = a
  generalize run 0 k = b
  generalize run 4294967295 (List.replicate l.length 0) = c
  apply Nat.eq_of_testBit_eq
  intro i
  simp only [Nat.testBit_xor]
  cases a.testBit i <;> cases b.testBit i <;> cases c.testBit i <;> cases Nat.testBit 4294967295 i <;> rfl
end Go.Proofs.Ytigicphmnlkjfaa
