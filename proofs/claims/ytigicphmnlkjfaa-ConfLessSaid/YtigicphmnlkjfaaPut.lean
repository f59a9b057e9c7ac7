/- The contracts of slices.Clip and of pack.Put: what is put is the bytes with 'enc n' behind, in memory of the call's own. -/
import Derived.Test.YtigicphmnlkjfaaProg
import Derived.Test.YtigicphmnlkjfaaSL
import Derived.Test.YtigicphmnlkjfaaPlain
import Derived.Outline
namespace Go.Proofs.Ytigicphmnlkjfaa
open Go.RowKit
set_option linter.unusedVariables false


/-- The value is the call's own row (or a full one) and reads as the bytes. -/
def Gives (w w' : World) (v : Value) (l : List UInt8) : Prop :=
  ∃ A c, v = .slice A l.length c ∧ Ap w' 5 w.heap.size A l.length c l ∧ Below w.heap.size w w'

theorem clip_any (A : Option Addr) (n c : Nat) (w : World) (hc : n ≤ c) (hA : A = none → n = 0) (hn : n ≤ 140737488355328) :
    Calls Try.prog 67 #[.slice A n c] w fun e w' => e = .returned (.slice A n n) ∧ w = w' := by
  go_enter Try.func67, Try.ntmps67
  rcases A with _ | ad
  · have := hA rfl
    subst this
    go_wp2
    go_ret
    exact ⟨rfl, rfl⟩
  · clear hA
    go_wp2
    go_ret
    exact ⟨rfl, rfl⟩

theorem or_128 (m : Nat) : bits .or .u8 ((m : Int) % 256) 128 = ((UInt8.ofNat (m % 128 + 128)).toNat : Int) := by
  have h : ∀ x : Fin 256, bits .or .u8 (x.val : Int) 128 = ((UInt8.ofNat (x.val % 128 + 128)).toNat : Int) := by decide +kernel
  have := h ⟨m % 256, by omega⟩
  simp only at this
  rw [show ((m : Int) % 256) = ((m % 256 : Nat) : Int) from by omega, this, show m % 256 % 128 = m % 128 from by omega]

set_option maxRecDepth 100000 in
theorem put_any (A : Option Addr) (c : Nat) (l : List UInt8) (n : Nat) (w : World) (h : RB w w.heap.size A l) (hc : l.length ≤ c) (hA : A = none → l.length = 0)
    (hl : l.length ≤ 140737488355000) (hn : n < 2 ^ 64) :
    Calls Try.prog 64 #[.slice A l.length c, .int .u64 n] w fun e w' => ∃ v, e = .returned v ∧ Gives w w' v (l ++ enc n) := by
  go_enter Try.func64, Try.ntmps64
  go_wp2_with fail
  refine (clip_any _ _ _ _ hc hA (by omega)).mono ?_
  rintro e w' ⟨rfl, rfl⟩
  go_wp2
  have hl10 := enc_len10 hn
  have HN := Lib.hid hn
  clear hn
  go_loopw [1, 5] (fun i v wr => ∃ (m : Nat) (acc : List UInt8) (A' : Option Addr) (c' : Nat), i = .int .u64 m ∧ Hid (m < 2 ^ 64) ∧ v = .slice A' acc.length c' ∧
      Ap wr 5 w.heap.size A' acc.length c' acc ∧ Below w.heap.size w wr ∧ Hid (acc ++ enc m = l ++ enc n)) (fun i _ _ => (intOf i).toNat)
  case atStart => exact ⟨n, l, A, l.length, rfl, HN.out, rfl, Ap.full h hA, Below.refl _ _, rfl⟩
  case round =>
    obtain ⟨m, acc, A', c', rfl, hm, rfl, hap, hbel, HE⟩ := hrel
    have hlen : acc.length ≤ l.length + 10 := by
      have := congrArg List.length HE.out
      simp only [List.length_append] at this
      omega
    have hsz := hbel.size
    clear h hc hA
    have HL := Lib.hid hl
    clear hl
    by_cases hlt : m < 128
    · have hx := Lib.hid (RB.one wr 5 (UInt8.ofNat m) (m : Int) (by simp; omega))
      go_wp2_with (at_builtin; refine wpList_append_ap _ rfl (.tmp 18) (.tmp 21) _ rfl bytesT (hap.alloc _) rfl hx.out rfl rfl (by have := HL.out; omega) (by simp; omega) ?_; intro A1 c1 w1 hd)
      go_ret
      have e1 : acc ++ [UInt8.ofNat m] = l ++ enc n := by rw [← HE.out, enc_lt hlt]
      refine ⟨_, rfl, A1, c1, ?_, ?_, (hbel.alloc hsz _).trans hd.below⟩
      · rw [← e1]; simp
      · have := hd.ap
        rw [← e1]
        simpa using this
    · have hx := Lib.hid (RB.one wr 5 (UInt8.ofNat (m % 128 + 128)) (bits .or .u8 ((m : Int) % 256) 128) (or_128 m))
      go_wp2_with (at_builtin; refine wpList_append_ap _ rfl (.tmp 12) (.tmp 16) _ rfl bytesT (hap.alloc _) rfl hx.out rfl rfl (by have := HL.out; omega) (by simp; omega) ?_; intro A1 c1 w1 hd)
      have e1 : acc ++ [UInt8.ofNat (m % 128 + 128)] ++ enc (m / 128) = l ++ enc n := by rw [← HE.out, enc_ge (n := m) (by omega)]; simp
      go_roundw
      case rel =>
        refine ⟨m / 128, acc ++ [UInt8.ofNat (m % 128 + 128)], A1, c1, ?_, ?_, ?_, ?_, (hbel.alloc hsz _).trans hd.below, e1⟩
        · go_num
        · have := hm.out; show m / 128 < 2 ^ 64; omega
        · simp
        · have := hd.ap; simpa using this
      case measure => simp [intOf]; omega
end Go.Proofs.Ytigicphmnlkjfaa
