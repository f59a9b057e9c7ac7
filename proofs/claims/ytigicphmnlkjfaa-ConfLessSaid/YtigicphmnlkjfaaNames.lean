/- The contracts of conf.IsName, the reference's IsName, utf8.RuneCountInString on ASCII. -/
import Derived.Test.YtigicphmnlkjfaaLeaf
import Derived.Laws.RangeAny
import Derived.Laws.RangeString
namespace Go.Proofs.Ytigicphmnlkjfaa
open Go.RowKit
set_option linter.unusedVariables false

theorem ret_v {b v : Bool} (h : b = v) : Ending.returned (.bool v) = .returned (.bool b) := by rw [h]
/-- May this byte be at this place of a name? -/
def okc (i : Nat) (c : UInt8) : Prop := (97 ≤ c.toNat ∧ c.toNat ≤ 122) ∨ (i ≠ 0 ∧ ((48 ≤ c.toNat ∧ c.toNat ≤ 57) ∨ c.toNat = 95))
instance (i : Nat) (c : UInt8) : Decidable (okc i c) := by unfold okc; infer_instance
/-- Is it a name? -/
def NameP (s : ByteArray) : Prop := (1 ≤ s.size ∧ s.size ≤ 20) ∧ ∀ i, (h : i < s.size) → okc i s[i]
instance (s : ByteArray) : Decidable (NameP s) := by unfold NameP; infer_instance
theorem okc_lt {i : Nat} {c : UInt8} (h : okc i c) : c.toNat < 128 := by unfold okc at h; omega
theorem Bl.iter (w : World) (s : ByteArray) (p : Nat) : Bl w (w.iter s p) := Bl.alloc w _

set_option maxRecDepth 100000 in
theorem runes_to (s : ByteArray) (w : World) (hs : s.size ≤ 9223372036854775807) (ha : ∀ i, (h : i < s.size) → (s[i]).toNat < 128) :
    Calls Try.prog 37 #[.string s] w fun e w' => e = .returned (.int .i64 (s.size : Nat)) ∧ Bl w w' := by
  have HA := Lib.hid ha
  clear ha
  go_enter Try.func37, Try.ntmps37
  go_wp2
  go_loopw [2] (fun n w' => ∃ k : Nat, k ≤ s.size ∧ w' = w.iter s k ∧ n = .int .i64 k) (fun _ w' => s.size - w'.iterPos w.heap.size)
  case atStart => exact ⟨0, Nat.zero_le _, rfl, rfl⟩
  case round =>
    obtain ⟨k, hk, rfl, rfl⟩ := hrel
    by_cases hp : k < s.size
    · have hnx := fun ty => run_next_ascii (P := Try.prog) w s k ty hp (HA.out k hp)
      go_wp2
      go_roundw
      case rel => exact ⟨k + 1, by omega, rfl, by go_num⟩
      case measure => simp; omega
    · have hnx := fun ty => run_next_end (P := Try.prog) w s k ty hp
      obtain rfl : k = s.size := by omega
      go_wp2
      go_ret
      exact ⟨rfl, Bl.iter _ _ _⟩

theorem rune_wf {n : Nat} (h : n < 128) : wrap32 (n : Int) = n := by unfold wrap32; omega

set_option maxRecDepth 100000 in
set_option maxHeartbeats 1000000 in
theorem isName_to (s : ByteArray) (b : Bool) (hb : b = decide (NameP s)) (w : World) (hs : s.size ≤ 9223372036854775807) :
    Calls Try.prog 14 #[.string s] w fun e w' => e = .returned (.bool b) ∧ Bl w w' := by
  have HB : Hid (b = decide ((1 ≤ s.size ∧ s.size ≤ 20) ∧ ∀ i, (h : i < s.size) → okc i s[i])) := Lib.hid hb
  clear hb
  go_enter Try.func14, Try.ntmps14
  go_wp2
  go_loopw [3] (fun _ w' => ∃ k : Nat, k ≤ s.size ∧ w' = w.iter s k ∧ Hid (∀ i, (h : i < s.size) → i < k → okc i s[i])) (fun _ w' => s.size - w'.iterPos w.heap.size)
  case atStart => exact ⟨0, Nat.zero_le _, rfl, fun i h h0 => absurd h0 (by omega)⟩
  case round =>
    obtain ⟨k, hk, rfl, HS⟩ := hrel
    by_cases hp : k < s.size
    · by_cases hok : okc k s[k]
      · have h128 := okc_lt hok
        have hnx := fun ty => run_next_ascii (P := Try.prog) w s k ty hp h128
        have HS2 : Hid (∀ i, (h : i < s.size) → i < k + 1 → okc i s[i]) := fun i h h0 => by
          by_cases e : i < k
          · exact HS.out i h e
          · obtain rfl : i = k := by omega
            exact hok
        unfold okc at hok
        generalize hc : (s[k]).toNat = c at hok h128 hnx
        clear HS hc
        by_cases hL : 97 ≤ c ∧ c ≤ 122
        · have i1 : (97 : Int) ≤ (c : Int) := by omega
          have i2 : (c : Int) ≤ 122 := by omega
          have i3 : ¬ (c : Int) ≤ 57 := by omega
          have i4 : ((c : Int) == 95) = false := by simp; omega
          clear hL hok
          go_wp2
          all_goals (go_roundw; (case rel => exact ⟨k + 1, by omega, rfl, HS2⟩); (case measure => simp; omega))
        · have hk0 : ((k : Int) == 0) = false := by simp; omega
          have hb2 : (48 ≤ c ∧ c ≤ 57) ∨ c = 95 := by omega
          clear hok
          by_cases h95 : c = 95
          · subst h95
            go_wp2
            go_roundw
            case rel => exact ⟨k + 1, by omega, rfl, HS2⟩
            case measure => simp; omega
          · have i1 : ¬ (97 : Int) ≤ (c : Int) := by omega
            have i2 : (48 : Int) ≤ (c : Int) := by omega
            have i3 : (c : Int) ≤ 57 := by omega
            clear hb2 hL h95
            go_wp2
            all_goals (go_roundw; (case rel => exact ⟨k + 1, by omega, rfl, HS2⟩); (case measure => simp; omega))
      · have HF : Hid (b = false) := by
          show _ = _
          rw [HB.out, decide_eq_false_iff_not]
          exact fun h => hok (h.2 k hp)
        have hnx := fun ty => run_next_any (P := Try.prog) w s k ty hp
        have hR : ¬ (97 ≤ (Utf8.decode s k).1 ∧ (Utf8.decode s k).1 ≤ 122) ∧ (k = 0 ∨ ¬ ((48 ≤ (Utf8.decode s k).1 ∧ (Utf8.decode s k).1 ≤ 57) ∨ (Utf8.decode s k).1 = 95)) := by
          by_cases h128 : (s[k]).toNat < 128
          · rw [decode_ascii s k hp h128]
            unfold okc at hok
            simp only
            omega
          · have := (decode_high s k hp (by omega)).1
            omega
        generalize (Utf8.decode s k).1 = R at hR hnx
        generalize (Utf8.decode s k).2 = d at hnx
        clear HS hok
        by_cases hk0 : k = 0
        · subst hk0
          by_cases h95 : (R : Int) = 95
          · rw [h95] at hnx
            go_wp2
            all_goals (go_ret; exact ⟨ret_v HF.out, Bl.iter _ _ _⟩)
          have i4 : ((R : Int) == 95) = false := by simpa using h95
          go_wp2
          all_goals first | (exfalso; omega) | (exfalso; simp only [Bool.not_eq_true', Bool.not_eq_false', decide_eq_true_eq, decide_eq_false_iff_not] at *; omega) | (go_ret; exact ⟨ret_v HF.out, Bl.iter _ _ _⟩)
        have hk1 : ((k : Int) == 0) = false := by simp; omega
        have h95 : ¬ (R : Int) = 95 := by omega
        have i4 : ((R : Int) == 95) = false := by simpa using h95
        go_wp2
        all_goals first | (exfalso; omega) | (exfalso; simp only [Bool.not_eq_true', Bool.not_eq_false', decide_eq_true_eq, decide_eq_false_iff_not] at *; omega) | (go_ret; exact ⟨ret_v HF.out, Bl.iter _ _ _⟩)
    · have hnx := fun ty => run_next_end (P := Try.prog) w s k ty hp
      obtain rfl : k = s.size := by omega
      by_cases h0 : s.size = 0
      · have HF : Hid (b = false) := by
          show _ = _
          rw [HB.out, decide_eq_false_iff_not]
          exact fun h => by have := h.1; omega
        have hs0 : s = ByteArray.empty := by
          cases s with | mk d => have : d = #[] := by simpa using Array.eq_empty_of_size_eq_zero h0
                                 subst this; rfl
        have he : s.toList.isEmpty = true := by rw [hs0]; decide +kernel
        clear HS h0 hs0
        go_wp2
        go_ret
        exact ⟨ret_v HF.out, Bl.iter _ _ _⟩
      · have he : s.toList.isEmpty = false := by
          cases hs' : s.toList with
          | nil =>
            exfalso
            have := congrArg List.length hs'
            rw [Lib.toList_data] at this
            simp at this
            exact h0 (by rw [this]; rfl)
          | cons _ _ => rfl
        have HR := Lib.hid (fun w => runes_to s w hs fun i h => okc_lt (HS.out i h (by omega)))
        have HF : Hid (b = decide (s.size ≤ 20)) := by
          show _ = _
          rw [HB.out]
          exact decide_eq_decide.2 ⟨fun h => h.1.2, fun h => ⟨⟨by omega, h⟩, fun i hi => HS.out i hi hi⟩⟩
        clear HS
        go_wp2_with fail
        refine (HR.out _).mono ?_
        rintro e w1 ⟨rfl, b1⟩
        have B1 := Lib.hid ((Bl.iter w s s.size).trans b1)
        clear b1
        go_wp2
        all_goals (go_ret; first | exact ⟨ret_t HF.out (by omega), B1.out⟩ | exact ⟨ret_f HF.out (by omega), B1.out⟩ | exact ⟨ret_d HF.out (by omega), B1.out⟩)

set_option maxRecDepth 100000 in
set_option maxHeartbeats 1000000 in
theorem risName_to (s : ByteArray) (b : Bool) (hb : b = decide (NameP s)) (w : World) (hs : s.size ≤ 9223372036854775807) :
    Calls Try.prog 15 #[.string s] w fun e w' => e = .returned (.bool b) ∧ w' = w := by
  have HB : Hid (b = decide ((1 ≤ s.size ∧ s.size ≤ 20) ∧ ∀ i, (h : i < s.size) → okc i s[i])) := Lib.hid hb
  clear hb
  go_enter Try.func15, Try.ntmps15
  go_wp2
  go_loop [3] (fun v => ∃ k : Nat, k ≤ s.size ∧ v = .int .i64 k ∧ Hid (∀ i, (h : i < s.size) → i < k → okc i s[i])) (fun v => s.size - (intOf v).toNat)
  case atStart => exact ⟨0, Nat.zero_le _, rfl, fun i h h0 => absurd h0 (by omega)⟩
  case round =>
    obtain ⟨k, hk, rfl, HS⟩ := hrel
    by_cases hp : k < s.size
    · have hlt : (k : Int) < (s.size : Int) := by omega
      by_cases hok : okc k s[k]
      · have HS2 : Hid (∀ i, (h : i < s.size) → i < k + 1 → okc i s[i]) := fun i h h0 => by
          by_cases e : i < k
          · exact HS.out i h e
          · obtain rfl : i = k := by omega
            exact hok
        unfold okc at hok
        clear HS
        by_cases hL : 97 ≤ (s[k]).toNat ∧ (s[k]).toNat ≤ 122
        · have i1 : (97 : Int) ≤ ((s[k]).toNat : Int) := by omega
          have i2 : ((s[k]).toNat : Int) ≤ 122 := by omega
          clear hL hok
          go_wp2
          all_goals (go_round; (case rel => exact ⟨k + 1, by omega, by go_num, HS2⟩); (case measure => simp [intOf]; omega))
        · have hk0 : ((k : Int) == 0) = false := by simp; omega
          have hb2 : (48 ≤ (s[k]).toNat ∧ (s[k]).toNat ≤ 57) ∨ (s[k]).toNat = 95 := by omega
          clear hok
          by_cases h95 : ((s[k]).toNat : Int) = 95
          · clear hb2 hL
            go_wp2
            all_goals (go_round; (case rel => exact ⟨k + 1, by omega, by go_num, HS2⟩); (case measure => simp [intOf]; omega))
          · have i1 : ¬ (97 : Int) ≤ ((s[k]).toNat : Int) := by omega
            have i2 : (48 : Int) ≤ ((s[k]).toNat : Int) := by omega
            have i3 : ((s[k]).toNat : Int) ≤ 57 := by omega
            have i4 : (((s[k]).toNat : Int) == 95) = false := by simpa using h95
            clear hb2 hL h95
            go_wp2
            all_goals (go_round; (case rel => exact ⟨k + 1, by omega, by go_num, HS2⟩); (case measure => simp [intOf]; omega))
      · have HF : Hid (b = false) := by
          show _ = _
          rw [HB.out, decide_eq_false_iff_not]
          exact fun h => hok (h.2 k hp)
        unfold okc at hok
        clear HS
        by_cases hk0 : k = 0
        · subst hk0
          by_cases h95 : ((s[0]).toNat : Int) = 95
          · clear hok
            go_wp2
            all_goals (go_ret; exact ⟨ret_v HF.out, rfl⟩)
          have i4 : (((s[0]).toNat : Int) == 95) = false := by simpa using h95
          go_wp2
          all_goals first | (exfalso; omega) | (exfalso; simp only [Bool.not_eq_true', Bool.not_eq_false', decide_eq_true_eq, decide_eq_false_iff_not] at *; omega) | (go_ret; exact ⟨ret_v HF.out, rfl⟩)
        have hk1 : ((k : Int) == 0) = false := by simp; omega
        have h95 : ¬ ((s[k]).toNat : Int) = 95 := by omega
        have i4 : (((s[k]).toNat : Int) == 95) = false := by simpa using h95
        have h3 : ((s[k]).toNat : Int) < 48 ∨ (57 < ((s[k]).toNat : Int) ∧ ((s[k]).toNat : Int) < 97) ∨ 122 < ((s[k]).toNat : Int) := by omega
        clear hok h95
        rcases h3 with h3 | ⟨h3, h4⟩ | h3
        · have j1 : ¬ 97 ≤ ((s[k]).toNat : Int) := by omega
          go_wp2
          all_goals (go_ret; exact ⟨ret_v HF.out, rfl⟩)
        · have j1 : ¬ 97 ≤ ((s[k]).toNat : Int) := by omega
          have j2 : ¬ ((s[k]).toNat : Int) < 48 := by omega
          go_wp2
          all_goals (go_ret; exact ⟨ret_v HF.out, rfl⟩)
        · have j1 : 97 ≤ ((s[k]).toNat : Int) := by omega
          have j2 : ¬ ((s[k]).toNat : Int) ≤ 122 := by omega
          have j3 : ¬ ((s[k]).toNat : Int) < 48 := by omega
          have j4 : 57 < ((s[k]).toNat : Int) := by omega
          go_wp2
          all_goals (go_ret; exact ⟨ret_v HF.out, rfl⟩)
    · have HF : Hid (b = decide (1 ≤ s.size ∧ s.size ≤ 20)) := by
        show _ = _
        rw [HB.out]
        exact decide_eq_decide.2 ⟨fun h => h.1, fun h => ⟨h, fun i hi => HS.out i hi (by omega)⟩⟩
      clear HS
      go_wp2
      all_goals (go_ret; first | exact ⟨ret_t HF.out (by omega), rfl⟩ | exact ⟨ret_f HF.out (by omega), rfl⟩ | exact ⟨ret_d HF.out (by omega), rfl⟩)
end Go.Proofs.Ytigicphmnlkjfaa
