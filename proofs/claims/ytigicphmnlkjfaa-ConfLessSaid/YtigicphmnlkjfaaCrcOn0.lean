/- The contract of crc.On. -/
import Derived.Test.YtigicphmnlkjfaaTable
namespace Go.Proofs.Ytigicphmnlkjfaa
open Go.RowKit
set_option linter.unusedVariables false

theorem inv_xor {s : Nat} (h : s < 2 ^ 32) : bits .xor .u32 IntKind.u32.max (s : Int) = ((inv s : Nat) : Int) := by
  rw [show IntKind.u32.max = ((4294967295 : Nat) : Int) from by decide, u32_xor_nat _ _ (by omega) (by omega), Nat.xor_comm]
  rfl
theorem take_snoc (l : List UInt8) (k : Nat) (h : k < l.length) : l.take (k + 1) = l.take k ++ [l[k]] := List.take_succ_eq_append_getElem h
theorem run_snoc (s : Nat) (l : List UInt8) (k : Nat) (h : k < l.length) : run s (l.take (k + 1)) = stp (run s (l.take k)) l[k] := by
  rw [take_snoc l k h, run_append]; rfl
theorem tab_idx {s : Nat} (c : UInt8) : bits .xor .u8 ((s : Int) % 256) (c.toNat : Int) = (((s % 256) ^^^ c.toNat : Nat) : Int) := by
  rw [show ((s : Int) % 256) = ((s % 256 : Nat) : Int) from by omega]
  exact u8_xor_nat _ _ (by omega) c.toNat_lt
theorem tab_idx_lt (s : Nat) (c : UInt8) : (s % 256) ^^^ c.toNat < 256 := Nat.xor_lt_two_pow (n := 8) (by omega) c.toNat_lt

set_option maxRecDepth 100000 in
theorem on_any (s : Nat) (A : Option Addr) (c B : Nat) (l : List UInt8) (w : World) (h : RB w w.heap.size A l) (hl : l.length ≤ 9223372036854775807) (hs : s < 2 ^ 32) :
    Calls Try.prog 58 #[.int .u32 s, .slice A l.length c] w fun e w' => e = .returned (.int .u32 (crcOn s l : Nat)) ∧ Below w.heap.size w w' := by
  have hz := zero_tab
  have HS := Lib.hid hs
  clear hs
  go_enter Try.func58, Try.ntmps58
  go_wp2_with fail
  refine (table_any _).mono ?_
  rintro e w1 ⟨rfl, b1⟩
  have h1 := h.below b1
  have B1 := Lib.hid (Blk.new w1 88 (tabTo 0))
  have b2 := b1.alloc b1.size (.cells (tabTo 0) 88)
  have b3 := below_setRow (g := w1.heap.size) b2 b1.size (tabTo 256)
  have h3 := h.below b3
  have B3 := Lib.hid (show Blk ((w1.alloc (.cells (tabTo 0) 88)).setRow w1.heap.size (tabTo 256)) w1.heap.size 88 (tabTo 256) from setRow_heap _ _ _ _ _ _ B1.out)
  clear h h1 b1 b2
  go_wp2_with (refine wpList_store_row rfl 88 (.tmp 5) (.tmp 8) rfl w1.heap.size (tabTo 256) rfl rfl 88 (tabTo 0) B1.out (by rw [tabTo_size]; kernel_rfl) (by rw [tabTo_size, tabTo_size]) (tabTo_one _) ?_)
  generalize (w1.alloc (.cells (tabTo 0) 88)).setRow w1.heap.size (tabTo 256) = W at *
  clear B1 hz
  go_loop [0, 13] (fun v i => ∃ k S : Nat, k ≤ l.length ∧ i = .int .i64 k ∧ v = .int .u32 S ∧ Hid (S = run (inv s) (l.take k))) (fun _ i => l.length - (intOf i).toNat)
  case atStart => exact ⟨0, inv s, Nat.zero_le _, rfl, by rw [inv_xor HS.out], by simp [Hid, run]⟩
  case round =>
    obtain ⟨k, S, hk, rfl, rfl, HE⟩ := hrel
    have hS : Hid (S < 2 ^ 32) := by rw [HE.out]; exact run_lt _ (inv_lt HS.out)
    by_cases hlt : k < l.length
    · obtain ⟨ad, hAd, _, e1⟩ := h3.at_ hlt
      subst hAd
      unfold vb at e1
      have hb := byte_lt l[k]
      obtain ⟨i, hi⟩ : ∃ i, i = (S % 256) ^^^ l[k].toNat := ⟨_, rfl⟩
      obtain ⟨T, hT⟩ : ∃ T, T = btk 8 i := ⟨_, rfl⟩
      obtain ⟨S', hS'⟩ : ∃ S', S' = stp S l[k] := ⟨_, rfl⟩
      have i256 : i < 256 := by rw [hi]; exact tab_idx_lt _ _
      have e2 := B3.out.cell i
      rw [tabTo_get i256, if_pos i256, ← hT] at e2
      have hidx := tab_idx (s := S) l[k]
      rw [← hi] at hidx
      have hx : bits .xor .u32 ((S : Int) / 256) (T : Int) = (S' : Int) := by
        have := hS.out
        rw [show ((S : Int) / 256) = ((S / 256 : Nat) : Int) from by omega, u32_xor_nat _ _ (by omega) (by rw [hT]; exact btk_lt 8 (by omega)), hS', stp_table, hT, hi]
      have HN : Hid (S' = run (inv s) (l.take (k + 1))) := by show _ = _; rw [hS', run_snoc _ _ _ hlt, ← HE.out]
      clear h3 hi hT hS'
      go_wp2
      go_round
      case rel => exact ⟨k + 1, S', by omega, by go_num, rfl, HN⟩
      case measure => simp [intOf]; omega
    · go_wp2
      go_ret
      have e : l.take k = l := List.take_of_length_le (by omega)
      exact ⟨ret_int (by rw [inv_xor hS.out, HE.out, e]; rfl), b3⟩
end Go.Proofs.Ytigicphmnlkjfaa
