/- The contract of ratchetref13.Put. -/
import Derived.Test.YtigicphmnlkjfaaPut
namespace Go.Proofs.Ytigicphmnlkjfaa
open Go.RowKit
set_option linter.unusedVariables false

theorem byte_128 (m : Nat) : (m : Int) % 128 + 128 = ((UInt8.ofNat (m % 128 + 128)).toNat : Int) := by
  simp; omega
theorem wrap_u64_div {m : Nat} (h : m < 2 ^ 64) : IntKind.u64.wrap ((m : Int) / 128) = (m : Int) / 128 := IntWalk.u64_in _ (by omega)

set_option maxRecDepth 100000 in
theorem rput_any (A : Option Addr) (c : Nat) (l : List UInt8) (n : Nat) (w : World) (h : RB w w.heap.size A l)
    (hl : l.length ≤ 140737488355000) (hn : n < 2 ^ 64) :
    Calls Try.prog 65 #[.slice A l.length c, .int .u64 n] w fun e w' => ∃ v, e = .returned v ∧ Gives w w' v (l ++ enc n) := by
  have hl10 := enc_len10 hn
  have HN := Lib.hid hn
  clear hn
  have h0 := Lib.hid (h.alloc (Nat.le_refl _) (.cells #[] 5))
  clear h
  go_enter Try.func65, Try.ntmps65
  go_wp2_with (at_builtin; refine wpList_append_ap _ rfl (.tmp 6) (.tmp 7) _ rfl bytesT (Ap.empty (base := w.heap.size) (some ⟨w.heap.size, 0, none⟩)) rfl h0.out rfl rfl (by omega) (by simp) ?_; intro A0 c0 w0 hd0; simp only [Nat.zero_add, List.nil_append] at hd0)
  have hap0 := hd0.ap
  have hbel0 := ((Below.refl w.heap.size w).alloc (Nat.le_refl _) (.cells #[] 5)).trans hd0.below
  clear hd0 h0
  go_loopw [1, 5] (fun i v wr => ∃ (m : Nat) (acc : List UInt8) (A' : Option Addr) (c' : Nat), i = .int .u64 m ∧ Hid (m < 2 ^ 64) ∧ v = .slice A' acc.length c' ∧
      Ap wr 5 w.heap.size A' acc.length c' acc ∧ Below w.heap.size w wr ∧ Hid (acc ++ enc m = l ++ enc n)) (fun i _ _ => (intOf i).toNat)
  case atStart => exact ⟨n, l, A0, c0, rfl, HN.out, rfl, hap0, hbel0, rfl⟩
  case round =>
    obtain ⟨m, acc, A', c', rfl, hm, rfl, hap, hbel, HE⟩ := hrel
    have hlen : acc.length ≤ l.length + 10 := by
      have := congrArg List.length HE.out
      simp only [List.length_append] at this
      omega
    have hsz := hbel.size
    have HL := Lib.hid hl
    clear hl hap0 hbel0
    by_cases hlt : m < 128
    · have hx := Lib.hid (RB.one wr 5 (UInt8.ofNat m) (m : Int) (by simp; omega))
      go_wp2_with (at_builtin; refine wpList_append_ap _ rfl (.tmp 20) (.tmp 23) _ rfl bytesT (hap.alloc _) rfl hx.out rfl rfl (by have := HL.out; omega) (by simp; omega) ?_; intro A1 c1 w1 hd)
      go_ret
      have e1 : acc ++ [UInt8.ofNat m] = l ++ enc n := by rw [← HE.out, enc_lt hlt]
      refine ⟨_, rfl, A1, c1, ?_, ?_, (hbel.alloc hsz _).trans hd.below⟩
      · rw [← e1]; simp
      · have := hd.ap
        rw [← e1]
        simpa using this
    · have hx := Lib.hid (RB.one wr 5 (UInt8.ofNat (m % 128 + 128)) ((m : Int) % 128 + 128) (byte_128 m))
      have hw := wrap_u64_div hm.out
      go_wp2_with (at_builtin; refine wpList_append_ap _ rfl (.tmp 11) (.tmp 16) _ rfl bytesT (hap.alloc _) rfl hx.out rfl rfl (by have := HL.out; omega) (by simp; omega) ?_; intro A1 c1 w1 hd)
      have e1 : acc ++ [UInt8.ofNat (m % 128 + 128)] ++ enc (m / 128) = l ++ enc n := by rw [← HE.out, enc_ge (n := m) (by omega)]; simp
      go_roundw
      case rel =>
        refine ⟨m / 128, acc ++ [UInt8.ofNat (m % 128 + 128)], A1, c1, ?_, ?_, ?_, ?_, (hbel.alloc hsz _).trans hd.below, e1⟩
        · go_num
        · have := hm.out; show m / 128 < 2 ^ 64; omega
        · simp
        · have := hd.ap; simpa using this
      case measure => simp [intOf]; omega
end Go.Proofs.Ytigicphmnlkjfaa
