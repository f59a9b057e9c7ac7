/- The contracts of TakeInt, both texts. -/
import Derived.Test.YtbpmccikkijbmaaTake
import Derived.Lib.Zigzag
namespace Go.Proofs.Ytbpmccikkijbmaa
open Go.RowKit
set_option linter.unusedVariables false

/-- The integer that a number stands for. -/
def zag (n : Nat) : Int := if n % 2 = 0 then (n / 2 : Nat) else -((n / 2 : Nat) : Int) - 1
theorem zag_even {n : Nat} (h : n % 2 = 0) : zag n = (n / 2 : Nat) := by unfold zag; rw [if_pos h]
theorem zag_odd {n : Nat} (h : ¬ n % 2 = 0) : zag n = -((n / 2 : Nat) : Int) - 1 := by unfold zag; rw [if_neg h]

def TIntGives (w : World) (B : Nat) (m : Int) (r : List UInt8) (e : Ending) (w' : World) : Prop :=
  ∃ A c j, e = .returned (.tuple #[.int .i64 m, .slice A r.length c, .int .i64 0]) ∧ RB w B A r ∧ r.length ≤ c ∧ (A = none → c = 0) ∧ w' = w.drewN j
def TIntNot (w : World) (e : Ending) (w' : World) : Prop := e = .returned (.tuple #[.int .i64 0, .slice none 0 0, .int .i64 3]) ∧ ∃ j, w' = w.drewN j
def TIntPost (w : World) (B : Nat) (o : Option (Nat × List UInt8)) (e : Ending) (w' : World) : Prop :=
  match o with
  | none => TIntNot w e w'
  | some (n, r) => TIntGives w B (zag n) r e w'

theorem ret_int {k : IntKind} {a b : Int} (h : a = b) : Ending.returned (.int k a) = .returned (.int k b) := by rw [h]
theorem tIntGives_mk {w : World} {B n c j : Nat} {m : Int} {A : Option Addr} {r : List UInt8} (hm : m = zag n) (h : RB w B A r) (hc : r.length ≤ c) (hA : A = none → c = 0) :
    TIntPost w B (some (n, r)) (.returned (.tuple #[.int .i64 m, .slice A r.length c, .int .i64 0])) (w.drewN j) := by
  subst hm
  exact ⟨_, _, _, rfl, h, hc, hA, rfl⟩
theorem zag_q0 {n : Nat} (hn : n < 2 ^ 64) (h : n % 2 = 0) : wrap64 (IntKind.u64.wrap ((n : Int) / 2)) = zag n := by
  rw [IntWalk.u64_in _ (by omega), IntWalk.wrap64_in _ (by omega), zag_even h]; omega
theorem zag_q1 {n : Nat} (hn : n < 2 ^ 64) (h : ¬ n % 2 = 0) : wrap64 (wrap64 (-wrap64 (IntKind.u64.wrap ((n : Int) / 2))) - 1) = zag n := by
  rw [IntWalk.u64_in _ (by omega), IntWalk.wrap64_in ((n : Int) / 2) (by omega), IntWalk.wrap64_in (-((n : Int) / 2)) (by omega), IntWalk.wrap64_in _ (by omega), zag_odd h]; omega

theorem i64_xor_comm (a b : Int) : bits .xor .i64 a b = bits .xor .i64 b a := by
  show IntKind.i64.wrap ((BitVec.ofInt 64 a ^^^ BitVec.ofInt 64 b).toNat : Int) = IntKind.i64.wrap ((BitVec.ofInt 64 b ^^^ BitVec.ofInt 64 a).toNat : Int)
  rw [BitVec.xor_comm]
theorem zag_xor {n : Nat} (hn : n < 2 ^ 64) : bits .xor .i64 (wrap64 ((n : Int) / 2)) (wrap64 (-wrap64 (bits .and .u64 (n : Int) 1))) = zag n := by
  rw [Lib.u64_and1 _ (by omega) (by omega), IntWalk.wrap64_in ((n : Int) / 2) (by omega), IntWalk.wrap64_in ((n : Int) % 2) (by omega), IntWalk.wrap64_in _ (by omega)]
  by_cases h : n % 2 = 0
  · rw [zag_even h, show -((n : Int) % 2) = 0 from by omega]
    show IntKind.i64.wrap ((BitVec.ofInt 64 ((n : Int) / 2) ^^^ BitVec.ofInt 64 0).toNat : Int) = _
    rw [show BitVec.ofInt 64 0 = 0#64 from rfl, BitVec.xor_zero, show (n : Int) / 2 = ((n / 2 : Nat) : Int) from by omega, BitVec.ofInt_natCast, BitVec.toNat_ofNat, Nat.mod_eq_of_lt (by omega), IntWalk.i64_in _ (by omega)]
  · rw [zag_odd h, show -((n : Int) % 2) = -1 from by omega, i64_xor_comm, show (n : Int) / 2 = ((n / 2 : Nat) : Int) from by omega, Lib.i64_not _ (by omega)]

set_option maxRecDepth 100000 in
theorem of_any (n : Nat) (w : World) (hn : n < 2 ^ 64) :
    Calls Try.prog 24 #[.int .u64 n] w fun e w' => e = .returned (.int .i64 (zag n)) ∧ w = w' := by
  have HZ := Lib.hid (zag_xor hn)
  clear hn
  go_enter Try.func24, Try.ntmps24
  go_wp2
  go_ret
  exact ⟨ret_int HZ.out, rfl⟩

/-- What is taken is less than 2^64. -/
theorem decF_lt (l : List UInt8) : ∀ (k N : Nat) {n : Nat} {r : List UInt8}, k ≤ 9 → N < 128 ^ k → decF k N l = some (n, r) → n < 2 ^ 64 := by
  induction l with
  | nil => intro k N n r _ _ h; simp [decF] at h
  | cons c l ih =>
    intro k N n r hk hN h
    rw [decF] at h
    split at h
    · cases h
    · split at h
      · injection h with h; injection h with h1 h2
        subst h1
        exact add_lt (by omega) hN
      · have := c.toNat_lt
        exact ih (k + 1) _ (by omega) (add_lt_next (by omega) hN) h
theorem dec_lt {l : List UInt8} {n : Nat} {r : List UInt8} (h : dec l = some (n, r)) : n < 2 ^ 64 := decF_lt l 0 0 (by omega) (by omega) h

set_option maxRecDepth 100000 in
theorem told_any (A : Option Addr) (c B : Nat) (l : List UInt8) (w : World) (h : RB w B A l) (hc : l.length ≤ c) (hA : A = none → c = 0) (hl : l.length ≤ 140737488355328) :
    Calls Try.prog 23 #[.slice A l.length c, .func (.func 24) #[] #[]] w (TIntPost w B (dec l)) := by
  have hT := take_any A c B l w h hc hA hl
  rcases hd : dec l with _ | ⟨n, r⟩
  · rw [hd] at hT
    have HT := Lib.hid hT
    clear hT hd h hA hl hc
    go_enter Try.func23, Try.ntmps23
    go_wp2_with fail
    refine HT.out.mono ?_
    rintro e w' ⟨rfl, j, rfl⟩
    go_wp2
    go_ret3
    exact ⟨rfl, j, rfl⟩
  · rw [hd] at hT
    have HT := Lib.hid hT
    have HL := Lib.hid (dec_lt hd)
    clear hT hd h hA hl hc
    go_enter Try.func23, Try.ntmps23
    go_wp2_with fail
    refine HT.out.mono ?_
    rintro e w' ⟨A', c', j, rfl, hr, hrc, hA', rfl⟩
    have HR := Lib.hid hr
    have HA' := Lib.hid hA'
    clear hr hA'
    go_wp2_with (go_at_call 24; refine (of_any _ _ HL.out).mono ?_; rintro e w' ⟨rfl, rfl⟩)
    go_ret3
    exact ⟨A', c', j, rfl, HR.out, hrc, HA'.out, rfl⟩

set_option maxRecDepth 100000 in
theorem takeInt_any (A : Option Addr) (c B : Nat) (l : List UInt8) (w : World) (h : RB w B A l) (hc : l.length ≤ c) (hA : A = none → c = 0) (hl : l.length ≤ 140737488355328) :
    Calls Try.prog 12 #[.slice A l.length c] w (TIntPost w B (dec l)) := by
  have hT := told_any A c B l w h hc hA hl
  rcases hd : dec l with _ | ⟨n, r⟩
  · rw [hd] at hT
    have HT := Lib.hid hT
    clear hT hd h hA hl hc
    go_enter Try.func12, Try.ntmps12
    go_wp2_with fail
    refine HT.out.mono ?_
    rintro e w' ⟨rfl, j, rfl⟩
    go_wp2
    go_ret3
    exact ⟨rfl, j, rfl⟩
  · rw [hd] at hT
    have HT := Lib.hid hT
    clear hT hd h hA hl hc
    go_enter Try.func12, Try.ntmps12
    go_wp2_with fail
    refine HT.out.mono ?_
    rintro e w' ⟨A', c', j, rfl, hr, hrc, hA', rfl⟩
    have HR := Lib.hid hr
    have HA' := Lib.hid hA'
    clear hr hA'
    go_wp2
    go_ret3
    exact ⟨A', c', j, rfl, HR.out, hrc, HA'.out, rfl⟩

set_option maxRecDepth 100000 in
theorem rtakeInt_any (A : Option Addr) (c B : Nat) (l : List UInt8) (w : World) (h : RB w B A l) (hc : l.length ≤ c) (hA : A = none → c = 0) (hl : l.length ≤ 140737488355328) :
    Calls Try.prog 13 #[.slice A l.length c] w (TIntPost w B (dec l)) := by
  have hT := rtake_any A c B l w h hc hA hl
  rcases hd : dec l with _ | ⟨n, r⟩
  · rw [hd] at hT
    have HT := Lib.hid hT
    clear hT hd h hA hl hc
    go_enter Try.func13, Try.ntmps13
    go_wp2_with fail
    refine HT.out.mono ?_
    rintro e w' ⟨rfl, j, rfl⟩
    go_wp2
    go_ret3
    exact ⟨rfl, j, rfl⟩
  · rw [hd] at hT
    have HT := Lib.hid hT
    have HL := Lib.hid (dec_lt hd)
    clear hT hd h hA hl hc
    by_cases hev : n % 2 = 0
    all_goals
      go_enter Try.func13, Try.ntmps13
      go_wp2_with fail
      refine HT.out.mono ?_
      rintro e w' ⟨A', c', j, rfl, hr, hrc, hA', rfl⟩
      have HR := Lib.hid hr
      have HA' := Lib.hid hA'
      clear hr hA'
      go_wp2
      go_ret3
      exact tIntGives_mk (by first | exact zag_q0 HL.out hev | exact zag_q1 HL.out hev) HR.out hrc HA'.out
end Go.Proofs.Ytbpmccikkijbmaa
