/- The contract of crc.Table. -/
import Derived.Test.YtigicphmnlkjfaaProg
import Derived.Test.YtigicphmnlkjfaaSL
import Derived.Test.YtigicphmnlkjfaaCrcPlain
import Derived.Laws.Rows
import Derived.Laws.Tables
import Derived.Laws.CopyOwn
import Derived.Laws.BitsAllLaws
import Derived.Outline
namespace Go.Proofs.Ytigicphmnlkjfaa
open Go.RowKit
set_option linter.unusedVariables false

/-- The table's cells, filled as far as k. -/
def tabTo (k : Nat) : Array Value := ((List.range 256).map fun c => Value.int .u32 ((if c < k then btk 8 c else 0 : Nat) : Int)).toArray
theorem tabTo_size (k : Nat) : (tabTo k).size = 256 := by simp [tabTo]
theorem tabTo_get {k c : Nat} (h : c < 256) : (tabTo k)[c]? = some (.int .u32 ((if c < k then btk 8 c else 0 : Nat) : Int)) := by
  simp [tabTo, h]
theorem tabTo_set {k : Nat} (h : k < 256) : (tabTo k).setIfInBounds k (.int .u32 ((btk 8 k : Nat) : Int)) = tabTo (k + 1) := by
  apply Array.ext_getElem?
  intro i
  rw [Array.getElem?_setIfInBounds]
  by_cases hi : i < 256
  · rw [tabTo_get hi, tabTo_get hi, tabTo_size]
    by_cases e : k = i
    · subst e
      rw [if_pos rfl, if_pos hi, if_pos (by omega)]
    · rw [if_neg e]
      have h3 : i < k + 1 ↔ i < k := by omega
      simp only [h3]
  · rw [Array.getElem?_eq_none (by rw [tabTo_size]; omega), Array.getElem?_eq_none (by rw [tabTo_size]; omega), if_neg (by omega)]
theorem zero_tab (w : World) : (zeroValue 88).run Try.prog w = .ok (.agg (tabTo 0)) w := by kernel_rfl
theorem tabTo_one (k : Nat) : (tabTo k).all (·.oneCell') = true := by
  rw [Array.all_eq_true]
  intro i h
  simp [tabTo, Value.oneCell']

theorem step_u32 (n : Nat) (h : n < 2 ^ 32) :
    bits .xor .u32 ((n : Int) / 2) (bits .and .u32 3988292384 (-bits .and .u32 (n : Int) 1 % 4294967296)) = ((bit1 n : Nat) : Int) := by
  have h1 : bits .and .u32 (n : Int) 1 = ((n % 2 : Nat) : Int) := by
    rw [show (1 : Int) = ((1 : Nat) : Int) from rfl, u32_and_nat _ _ (by omega) (by omega), Nat.and_one_is_mod]
  rw [h1]
  unfold bit1
  rcases Nat.mod_two_eq_zero_or_one n with h2 | h2
  · rw [h2, if_neg (by omega)]
    have e : bits .and .u32 3988292384 (-((0 : Nat) : Int) % 4294967296) = ((0 : Nat) : Int) := by decide
    rw [e, show (n : Int) / 2 = ((n / 2 : Nat) : Int) from by omega, u32_xor_nat _ _ (by omega) (by omega), Nat.xor_zero]
  · rw [h2, if_pos rfl]
    have e : bits .and .u32 3988292384 (-((1 : Nat) : Int) % 4294967296) = ((3988292384 : Nat) : Int) := by decide
    rw [e, show (n : Int) / 2 = ((n / 2 : Nat) : Int) from by omega, u32_xor_nat _ _ (by omega) (by omega)]

theorem btk_succ (j : Nat) (n : Nat) : btk (j + 1) n = bit1 (btk j n) := by
  rw [btk_add]; rfl

set_option maxRecDepth 100000 in
theorem table_any (w : World) : Calls Try.prog 66 #[] w fun e w' => e = .returned (.agg (tabTo 256)) ∧ Below w.heap.size w w' := by
  have hz := zero_tab
  have b1 := Blk.new w 88 (tabTo 0)
  have b2 := Blk.new (w.alloc (.cells (tabTo 0) 88)) 88 (tabTo 0)
  replace b1 := b1.alloc (.cells (tabTo 0) 88)
  have bel : Below w.heap.size w ((w.alloc (.cells (tabTo 0) 88)).alloc (.cells (tabTo 0) 88)) := ((Below.refl _ _).alloc (Nat.le_refl _) _).alloc (by simp) _
  rw [show (w.alloc (.cells (tabTo 0) 88)).heap.size = w.heap.size + 1 from by simp] at b2
  have B1 := Lib.hid b1
  have B2 := Lib.hid b2
  clear b1 b2
  go_enter Try.func66, Try.ntmps66
  go_wp2
  clear hz
  generalize (w.alloc (.cells (tabTo 0) 88)).alloc (.cells (tabTo 0) 88) = W at *
  go_loopw [4] (fun i wr => ∃ k : Nat, k ≤ 256 ∧ i = .int .i64 k ∧ Hid (Blk wr w.heap.size 88 (tabTo 0)) ∧ Hid (Blk wr (w.heap.size + 1) 88 (tabTo k)) ∧ Below w.heap.size w wr) (fun i _ => 256 - (intOf i).toNat)
  case atStart => exact ⟨0, Nat.zero_le _, rfl, B1, B2, bel⟩
  case round =>
    clear B1 B2 bel
    obtain ⟨k, hk, rfl, B1, B2, bel⟩ := hrel
    by_cases hlt : k < 256
    · go_wp2
      go_loop [3, 9] (fun v j => ∃ i : Nat, i ≤ 8 ∧ j = .int .i64 i ∧ v = .int .u32 (btk i k : Nat)) (fun _ j => 8 - (intOf j).toNat)
      case atStart => exact ⟨0, Nat.zero_le _, rfl, rfl⟩
      case round =>
        obtain ⟨i, hi, rfl, rfl⟩ := hrel
        by_cases hj : i < 8
        · obtain ⟨n, hn⟩ : ∃ n, n = btk i k := ⟨_, rfl⟩
          obtain ⟨m, hm⟩ : ∃ m, m = btk (i + 1) k := ⟨_, rfl⟩
          have hst := step_u32 n (by rw [hn]; exact btk_lt i (by omega))
          rw [show bit1 n = m from by rw [hm, hn, btk_succ]] at hst
          have HM := Lib.hid hm
          rw [← hn]
          clear hm hn
          go_wp2
          go_round
          case rel => exact ⟨i + 1, by omega, by go_num, by rw [← HM.out]⟩
          case measure => simp [intOf]; omega
        · obtain rfl : i = 8 := by omega
          obtain ⟨m, hm⟩ : ∃ m, m = btk 8 k := ⟨_, rfl⟩
          have c2 := B2.out.cell k
          rw [tabTo_get hlt] at c2
          have f2 := B2.out.frozen k
          have B1' := Lib.hid (B1.out.far (p := ⟨w.heap.size + 1, k, none⟩) (by simp) (.int .u32 (m : Int)))
          have B2' := B2.out.set_ k (.int .u32 (m : Int))
          rw [hm, tabTo_set hlt, ← hm] at B2'
          have B2'' := Lib.hid B2'
          have bel' := bel.setCell (p := ⟨w.heap.size + 1, k, none⟩) (by simp) (.int .u32 (m : Int))
          clear B2' B1 B2 bel
          rw [← hm]
          clear hm
          go_wp2
          go_roundw
          case rel => exact ⟨k + 1, by omega, by go_num, B1', B2'', bel'⟩
          case measure => simp [intOf]; omega
    · obtain rfl : k = 256 := by omega
      go_wp2_with (first
        | (refine wpList_load_row rfl 88 (.tmp 1) rfl (w.heap.size + 1) rfl 88 (tabTo 256) (0, 0) _ B2.out Try.underlying88 rfl (by rw [tabTo_size]; kernel_rfl) ?_)
        | (refine wpList_store_row rfl 88 (.tmp 0) (.tmp 23) rfl w.heap.size (tabTo 256) rfl rfl 88 (tabTo 0) B1.out (by rw [tabTo_size]; kernel_rfl) (by rw [tabTo_size, tabTo_size]) (tabTo_one _) ?_))
      refine bodyPost_ret (v := .agg (tabTo 256)) (results_cell_row rfl _ _ w.heap.size 88 (tabTo 256) (0, 0) _ rfl (setRow_heap _ _ _ _ _ _ B1.out) Try.underlying88 rfl (by rw [tabTo_size]; kernel_rfl)) rfl ⟨rfl, below_setRow bel (Nat.le_refl _) _⟩
end Go.Proofs.Ytigicphmnlkjfaa
