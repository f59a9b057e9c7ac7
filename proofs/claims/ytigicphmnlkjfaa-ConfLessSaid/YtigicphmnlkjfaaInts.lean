/- The contract of ratchetref21.ints. -/
import Derived.Test.YtigicphmnlkjfaaLaid21
namespace Go.Proofs.Ytigicphmnlkjfaa
open Go.RowKit
set_option linter.unusedVariables false

def encNs (l : List Int) : List UInt8 := l.flatMap fun n => enc (zig n)
theorem encNs_take (l : List Int) (k : Nat) (h : k < l.length) : encNs (l.take (k + 1)) = encNs (l.take k) ++ enc (zig l[k]) := by
  unfold encNs
  rw [List.take_succ_eq_append_getElem h, List.flatMap_append]
  simp
set_option maxRecDepth 100000 in
theorem encNs_len {l : List Int} (h : ∀ x ∈ l, I64 x) : ∀ k, (encNs (l.take k)).length ≤ k * 10
  | 0 => by simp [encNs]
  | k + 1 => by
    have ih := encNs_len h k
    by_cases hk : k < l.length
    · rw [encNs_take l k hk, List.length_append]
      have := zig_small (h _ (List.getElem_mem hk))
      omega
    · rw [List.take_of_length_le (by omega)] at ih ⊢
      omega

set_option maxRecDepth 100000 in
set_option maxHeartbeats 2000000 in
theorem ints_any {w : World} {A : Option Addr} {c : Nat} {l : List UInt8} (h : SL w A c l) (hl : l.length ≤ 1000000000) {D : Option Addr} (d : Nat) (ns : List Int) (hD : RV w D (ns.map fun n => Value.int .i64 n)) (hok : ∀ x ∈ ns, I64 x) (hn : ns.length ≤ 1000)
    (x : List UInt8) (hx : x = l ++ encNs ns) :
    Calls Try.prog 39 #[.slice A l.length c, .slice D ns.length d] w (GivesB w x) := by
  have HX := Lib.hid hx
  have HD := Lib.hid hD
  have HOK := Lib.hid hok
  have h0 := Lib.hid (h.rb.alloc (Nat.le_refl _) (.cells #[] 5))
  clear hx hD hok h
  go_enter Try.func39, Try.ntmps39
  go_wp2_with (at_builtin; refine wpList_append_ap _ rfl (.tmp 7) (.tmp 8) _ rfl bytesT (Ap.empty (base := w.heap.size) (some ⟨w.heap.size, 0, none⟩)) rfl h0.out rfl rfl (by omega) (by simp) ?_; intro A0 c0 w0 hd0; simp only [Nat.zero_add, List.nil_append] at hd0)
  have HS : Hid (SL w0 A0 c0 (l ++ encNs (ns.take 0))) := Lib.hid (by simpa [encNs] using SL.of_ap hd0.ap)
  have hl0 : (l ++ encNs (ns.take 0)).length = l.length := by simp [encNs]
  have HB := Lib.hid (((Below.refl w.heap.size w).alloc (Nat.le_refl _) (.cells #[] 5)).trans hd0.below)
  clear hd0 h0
  go_loopw [5, 6] (fun b i wr => ∃ (k : Nat) (A' : Option Addr) (c' : Nat), k ≤ ns.length ∧ i = .int .i64 k ∧ b = .slice A' (l ++ encNs (ns.take k)).length c' ∧ Hid (SL wr A' c' (l ++ encNs (ns.take k))) ∧ Hid (Bl w wr)) (fun _ i _ => ns.length - (intOf i).toNat)
  case atStart => exact ⟨0, A0, c0, Nat.zero_le _, rfl, by rw [hl0], HS, HB⟩
  case round =>
    clear HS hl0 HB
    obtain ⟨k, A', c', hk, rfl, rfl, HS, HB⟩ := hrel
    by_cases hlt : k < ns.length
    · obtain ⟨ad, rfl, hc⟩ := (HD.out.step HB.out).at_ (k := k) (by simpa using hlt)
      rw [List.getElem_map] at hc
      have hxok := HOK.out _ (List.getElem_mem hlt)
      have hle := encNs_len HOK.out k
      obtain ⟨y, hy⟩ : ∃ y, y = l ++ encNs (ns.take k) := ⟨_, rfl⟩
      have hyl : y.length ≤ 1000000000 + 10000 := by rw [hy, List.length_append]; omega
      obtain ⟨y', hy'⟩ : ∃ y', y' = l ++ encNs (ns.take (k + 1)) := ⟨_, rfl⟩
      have HYY : Hid (y' = y ++ enc (zig ns[k])) := Lib.hid (by rw [hy', hy, encNs_take ns k hlt, List.append_assoc])
      have hb : ∀ {wz : World} {A2 : Option Addr} {c2 : Nat}, SL wz A2 c2 y' → Hid (SL wz A2 c2 (l ++ encNs (ns.take (k + 1)))) := fun h => Lib.hid (by rw [← hy']; exact h)
      have HBB := @hb
      have HLEN : Hid (∀ (c2 : Nat) (A2 : Option Addr), Value.slice A2 y'.length c2 = .slice A2 (l ++ encNs (ns.take (k + 1))).length c2) := Lib.hid fun c2 A2 => by rw [hy']
      rw [← hy] at HS ⊢
      have HP := Lib.hid (rputInt_sl HS.out ns[k] y' HYY.out (by omega) hxok)
      clear hy hy' hle hb HYY
      go_wp2_with fail
      refine HP.out.mono ?_
      rintro e w2 ⟨A2, c2, rfl, hs2, _, b2⟩
      have HS2 := HBB hs2
      have HB2 := Lib.hid (HB.out.trans b2)
      clear hs2 b2 HP HS HB
      go_wp2
      go_roundw
      case rel => exact ⟨k + 1, A2, c2, by omega, by go_num, HLEN.out c2 A2, HS2, HB2⟩
      case measure => simp [intOf]; omega
    · have e : ns.take k = ns := List.take_of_length_le (by omega)
      rw [e] at HS ⊢
      have HO : Hid (GivesB w x (.returned (.slice A' (l ++ encNs ns).length c')) wr) := Lib.hid ⟨A', c', by rw [HX.out], by rw [HX.out]; exact HS.out, HB.out⟩
      clear HS HD HX HB
      go_wp2
      go_ret
      exact HO.out
end Go.Proofs.Ytigicphmnlkjfaa
