/- The contracts of the reference's Step, On, Of, Put, Cut (layer 12). -/
import Derived.Test.YtcbfcbkpbaefaaaCrc
import Derived.Test.YtcbfcbkpbaefaaaSame
namespace Go.Proofs.Ytcbfcbkpbaefaaa
open Go.RowKit
set_option linter.unusedVariables false

set_option maxRecDepth 100000 in
theorem rstep_any (s : Nat) (c : UInt8) (w : World) (hs : s < 2 ^ 32) :
    Calls Try.prog 12 #[.int .u32 s, .int .u8 c.toNat] w fun e w' => e = .returned (.int .u32 (stp s c : Nat)) ∧ w = w' := by
  have HS := Lib.hid hs
  have hb := byte_lt c
  clear hs
  go_enter Try.func12, Try.ntmps12
  go_wp2
  go_loop [5, 6] (fun v j => ∃ i n : Nat, i ≤ 8 ∧ j = .int .i64 i ∧ v = .int .u32 n ∧ Hid (n = btk i (s ^^^ c.toNat))) (fun _ j => 8 - (intOf j).toNat)
  case atStart => exact ⟨0, s ^^^ c.toNat, Nat.zero_le _, rfl, by rw [u32_xor_nat _ _ (by have := HS.out; omega) (by omega)], rfl⟩
  case round =>
    obtain ⟨i, n, hi, rfl, rfl, HE⟩ := hrel
    by_cases hj : i < 8
    · have hn : n < 4294967296 := by rw [HE.out]; exact btk_lt i (Nat.xor_lt_two_pow HS.out (by omega))
      obtain ⟨m, hm⟩ : ∃ m, m = bit1 n := ⟨_, rfl⟩
      have HM : Hid (m = btk (i + 1) (s ^^^ c.toNat)) := by show _ = _; rw [btk_succ, ← HE.out, hm]
      rcases Nat.mod_two_eq_zero_or_one n with h2 | h2
      · have hm2 : Hid (n / 2 = m) := by show _ = _; rw [hm]; unfold bit1; rw [if_neg (by omega)]
        have h2' : ((n : Int) % 2 == 1) = false := by simp; omega
        clear h2 hm
        go_wp2
        go_round
        case rel => exact ⟨i + 1, n / 2, by omega, by go_num, by go_num, by show n / 2 = _; rw [hm2.out]; exact HM.out⟩
        case measure => simp [intOf]; omega
      · have hx : bits .xor .u32 ((n : Int) / 2) 3988292384 = (m : Int) := by
          rw [hm]; unfold bit1
          rw [if_pos h2, show ((n : Int) / 2) = ((n / 2 : Nat) : Int) from by omega, show (3988292384 : Int) = ((3988292384 : Nat) : Int) from rfl, u32_xor_nat _ _ (by omega) (by omega)]
        have h2' : ((n : Int) % 2 == 1) = true := by simp; omega
        clear h2 hm
        go_wp2
        go_round
        case rel => exact ⟨i + 1, m, by omega, by go_num, rfl, HM⟩
        case measure => simp [intOf]; omega
    · obtain rfl : i = 8 := by omega
      go_wp2
      go_ret
      exact ⟨ret_int (by rw [HE.out]; rfl), rfl⟩

theorem inv_sub {s : Nat} (h : s < 2 ^ 32) : 4294967295 - (s : Int) = ((inv s : Nat) : Int) := by
  have e : inv s = 4294967295 - s := by
    unfold inv
    apply Nat.eq_of_testBit_eq
    intro i
    rw [Nat.testBit_xor, show (4294967295 : Nat) - s = 2 ^ 32 - (s + 1) from by omega, Nat.testBit_two_pow_sub_succ h, show (4294967295 : Nat) = 2 ^ 32 - 1 from by omega, Nat.testBit_two_pow_sub_one]
    by_cases hi : i < 32
    · simp [hi]
    · have : s.testBit i = false := Nat.testBit_lt_two_pow (Nat.lt_of_lt_of_le h (Nat.pow_le_pow_right (by omega) (by omega)))
      simp [hi, this]
  rw [e]; omega

set_option maxRecDepth 100000 in
theorem ron_any (s : Nat) (A : Option Addr) (c B : Nat) (l : List UInt8) (w : World) (h : RB w B A l) (hl : l.length ≤ 9223372036854775807) (hs : s < 2 ^ 32) :
    Calls Try.prog 14 #[.int .u32 s, .slice A l.length c] w fun e w' => e = .returned (.int .u32 (crcOn s l : Nat)) ∧ w = w' := by
  have HS := Lib.hid hs
  have hs2 : s ≤ 4294967295 := by omega
  clear hs
  go_enter Try.func14, Try.ntmps14
  go_wp2
  go_loop [5, 6] (fun v i => ∃ k S : Nat, k ≤ l.length ∧ i = .int .i64 k ∧ v = .int .u32 S ∧ Hid (S = run (inv s) (l.take k))) (fun _ i => l.length - (intOf i).toNat)
  case atStart => exact ⟨0, inv s, Nat.zero_le _, rfl, by rw [← inv_sub HS.out], by simp [Hid, run]⟩
  case round =>
    obtain ⟨k, S, hk, rfl, rfl, HE⟩ := hrel
    have hS : Hid (S < 2 ^ 32) := by rw [HE.out]; exact run_lt _ (inv_lt HS.out)
    by_cases hlt : k < l.length
    · obtain ⟨ad, hAd, _, e1⟩ := h.at_ hlt
      subst hAd
      unfold vb at e1
      have hb := byte_lt l[k]
      obtain ⟨S', hS'⟩ : ∃ S', S' = stp S l[k] := ⟨_, rfl⟩
      have HN : Hid (S' = run (inv s) (l.take (k + 1))) := by show _ = _; rw [hS', run_snoc _ _ _ hlt, ← HE.out]
      have hst := rstep_any S l[k] w hS.out
      rw [← hS'] at hst
      have HST := Lib.hid hst
      clear h hS' hst
      go_wp2_with fail
      refine HST.out.mono ?_
      rintro e w' ⟨rfl, rfl⟩
      go_wp2
      go_round
      case rel => exact ⟨k + 1, S', by omega, by go_num, rfl, HN⟩
      case measure => simp [intOf]; omega
    · have hS2 : S ≤ 4294967295 := by have := hS.out; omega
      go_wp2
      go_ret
      have e : l.take k = l := List.take_of_length_le (by omega)
      exact ⟨ret_int (by rw [inv_sub hS.out, HE.out, e]; rfl), rfl⟩

theorem rof_sl {w : World} {A : Option Addr} {c : Nat} {l : List UInt8} (h : SL w A c l) (n : Nat) (hn : n = crcOf l) (hl : l.length ≤ 9223372036854775807) :
    Calls Try.prog 16 #[.slice A l.length c] w fun e w' => e = .returned (.int .u32 n) ∧ w = w' := by
  have ho := ron_any 0 A c w.heap.size l w h.rb hl (by omega)
  rw [show crcOn 0 l = n from hn.symm] at ho
  have HO := Lib.hid ho
  clear ho hn
  go_enter Try.func16, Try.ntmps16
  go_wp2_with fail
  refine HO.out.mono ?_
  rintro e w1 ⟨rfl, rfl⟩
  go_wp2
  go_ret
  exact ⟨rfl, rfl⟩

set_option maxRecDepth 100000 in
theorem rcrcPut_sl {w : World} {A : Option Addr} {c : Nat} {l : List UInt8} (h : SL w A c l) (x : List UInt8) (hx : x = crcPut l) (hl : l.length ≤ 140737488355324) :
    Calls Try.prog 19 #[.slice A l.length c] w (GivesSL w x) := by
  obtain ⟨n, hn⟩ : ∃ n, n = crcOf l := ⟨_, rfl⟩
  have hn2 : n ≤ 4294967295 := by have := crcOf_lt l; omega
  have HN := Lib.hid hn
  have HX := Lib.hid (show l ++ le4 n = x by rw [hx, hn]; rfl)
  clear hn hx
  go_enter Try.func19, Try.ntmps19
  have HV : Hid (#[Value.int .u8 ((n : Int) % 256), .int .u8 ((n : Int) / 256 % 256), .int .u8 ((n : Int) / 65536 % 256), .int .u8 ((n : Int) / 16777216)] = ((le4 n).map vb).toArray) := by
    show _ = _
    rw [← le4_vals, show (n : Int) / 16777216 % 256 = (n : Int) / 16777216 from by omega]
  go_wp2_with fail
  refine (rof_sl h n HN.out (by omega)).mono ?_
  rintro e w1 ⟨rfl, rfl⟩
  have hsb := (h.step (Bl.alloc w (.cells #[] 5))).rb
  go_wp2_with (first
    | (at_builtin; refine wpList_append_ap _ rfl (.tmp 7) (.tmp 8) _ rfl bytesT (Ap.empty (base := w.heap.size) (some ⟨w.heap.size, 0, none⟩)) rfl hsb rfl rfl (by omega) (by simp) ?_; intro A3 c3 w3 hd3; simp only [Nat.zero_add, List.nil_append] at hd3; have b23 : Bl w w3 := Below.trans (Bl.alloc w _) hd3.below; have hm3 := RB.made_ w3 5 (le4 n) _ (0, 0) HV.out; have ap3 := hd3.ap.alloc (.cells #[.int .u8 ((n : Int) % 256), .int .u8 ((n : Int) / 256 % 256), .int .u8 ((n : Int) / 65536 % 256), .int .u8 ((n : Int) / 16777216)] 5))
    | (at_builtin; refine wpList_append_ap _ rfl (.tmp 10) (.tmp 25) _ rfl bytesT ap3 rfl hm3 rfl rfl (by omega) (by simpa using Nat.le_succ_of_le b23.size) ?_; intro A4 c4 w4 hd)
    | fail)
  go_ret
  have hl4 : l.length + 4 = x.length := by rw [← HX.out]; simp [le4_len]
  have b4 : Bl w w4 := Below.trans (Below.trans b23 ((Bl.alloc w3 _).mono b23.size)) hd.below
  exact givesSL_mk hl4 (SL.of_apd hd HX.out) (by have := hd.ap; rw [HX.out] at this; exact this) b4

theorem take_eq_of {x l : List UInt8} {k : Nat} (h : x.length = l.length) (hk : l.length ≤ k) (e : x.take k = l.take k) : x = l := by
  rwa [List.take_of_length_le (by omega), List.take_of_length_le hk] at e

set_option maxRecDepth 100000 in
theorem rcrcCut_some {w : World} {A : Option Addr} {c : Nat} {l p q : List UInt8} {kk : Int} (hq1 : Hid (crcPut p = l → q = p ∧ kk = 0)) (hq2 : Hid (¬ crcPut p = l → q = [] ∧ kk = 8)) (h : SL w A c l) (hp : p = l.take (l.length - 4)) (h4 : ¬ l.length < 4) (hl : l.length ≤ 140737488355328) :
    Calls Try.prog 11 #[.slice A l.length c] w (CutSL w q kk) := by
  have sp : SL w A c p := by
    subst hp
    exact ⟨h.rb.take _, by rw [List.length_take]; have := h.cap; omega, h.none_⟩
  have HN := Lib.hid (show l.length - 4 = p.length by rw [hp, List.length_take]; omega)
  have hpl : p.length ≤ 140737488355324 := by have := HN.out; omega
  have hcap := h.cap
  obtain ⟨x, hx⟩ : ∃ x, x = crcPut p := ⟨_, rfl⟩
  have hxl : Hid (x.length = l.length) := by show _ = _; rw [hx, crcPut_len]; have := HN.out; omega
  have hxl2 : x.length ≤ 140737488355328 := by have := hxl.out; omega
  have HT : Hid (x.take (l.length - 4) = l.take (l.length - 4)) := by
    show _ = _
    rw [hx, HN.out]
    unfold crcPut
    rw [List.take_left, hp, List.length_take]
    congr 1; omega
  rw [← hx] at hq1 hq2
  have HX := Lib.hid hx
  clear hp hx
  have m0 : (0 : Int) ≤ (l.length : Int) - 4 := by omega
  go_enter Try.func11, Try.ntmps11
  go_wp2_with fail
  rw [HN.out]
  refine (rcrcPut_sl sp x HX.out hpl).mono ?_
  rintro e w1 ⟨A1, c1, rfl, s1, _, b⟩
  replace h := h.step b; replace sp := sp.step b
  have hlx := hxl.out
  go_wp2
  go_loopw [5] (fun i wr => ∃ k n : Nat, l.length - 4 ≤ k ∧ k ≤ l.length ∧ i = .int .i64 k ∧ wr = w1.drewN n ∧ Hid (x.take k = l.take k)) (fun i _ => l.length - (intOf i).toNat)
  case atStart => exact ⟨l.length - 4, 0, Nat.le_refl _, by omega, by go_num, rfl, HT⟩
  case round =>
    obtain ⟨k, n, hk4, hk, rfl, rfl, HE⟩ := hrel
    by_cases hlt : k < l.length
    · have hltx : k < x.length := by omega
      obtain ⟨ad1, rfl, _, e1⟩ := s1.rb.at_ hltx
      obtain ⟨ad2, rfl, _, e2⟩ := h.rb.at_ hlt
      unfold vb at e1 e2
      have hb1 := byte_lt x[k]
      have hb2 := byte_lt l[k]
      have i1 : (0 : Int) ≤ (k : Int) := by omega
      have i2 : (k : Int) < (l.length : Int) := by omega
      have i3 : (k : Int) < (x.length : Int) := by omega
      by_cases hc : x[k] = l[k]
      · have HC := Lib.hid hc
        have hc' : ((x[k].toNat : Int) != (l[k].toNat : Int)) = false := by rw [hc]; simp
        clear hc hlx
        go_wp2
        go_quiet (fail)
        go_wp2
        go_roundw
        case rel => exact ⟨k + 1, _, by omega, by omega, by go_num, rfl, by
          show x.take (k + 1) = l.take (k + 1)
          rw [List.take_succ_eq_append_getElem hltx, List.take_succ_eq_append_getElem hlt, HE.out, HC.out]⟩
        case measure => simp [intOf]; omega
      · have hc' : ((x[k].toNat : Int) != (l[k].toNat : Int)) = true := by
          simp only [bne_iff_ne, ne_eq]
          intro h
          exact hc (UInt8.toNat_inj.1 (by omega))
        have hne : Hid (¬ x = l) := fun e => by subst e; exact hc rfl
        clear hc hlx
        go_wp2
        go_quiet (fail)
        go_wp2
        go_ret2
        rw [(hq2.out hne.out).1, (hq2.out hne.out).2]
        exact cutSL_mk rfl (SL.nil_ _) (b.trans ((Bl.drewN _ _).trans (Bl.drewN _ _)))
    · have he : Hid (x = l) := take_eq_of hxl.out (by omega) HE.out
      have hsb := (sp.step ((Bl.drewN w1 n).trans (Bl.alloc _ (.cells #[] 5)))).rb
      clear HE
      go_wp2_with (at_builtin; refine wpList_append_ap _ rfl (.tmp 33) (.tmp 38) _ rfl bytesT (Ap.empty (base := w1.heap.size) (some ⟨w1.heap.size, 0, none⟩)) rfl hsb rfl HN.out (by omega) (by simp) ?_; intro A3 c3 w3 hd3; simp only [Nat.zero_add, List.nil_append] at hd3)
      go_ret2
      rw [(hq1.out he.out).1, (hq1.out he.out).2]
      exact cutSL_mk HN.out (SL.of_apd hd3 rfl) (b.trans (Below.trans ((Bl.drewN w1 n).trans (Bl.alloc _ _)) hd3.below))

theorem rcrcCut_none {w : World} {A : Option Addr} {c : Nat} {l : List UInt8} (h4 : l.length < 4) (hl : l.length ≤ 140737488355328) :
    Calls Try.prog 11 #[.slice A l.length c] w (CutSL w [] 3) := by
  go_enter Try.func11, Try.ntmps11
  go_wp2
  go_ret2
  exact cutSL_mk rfl (SL.nil_ _) (Bl.refl _)

theorem rcrcCut_sl {w : World} {A : Option Addr} {c : Nat} {l : List UInt8} (h : SL w A c l) (hl : l.length ≤ 140737488355328) :
    Calls Try.prog 11 #[.slice A l.length c] w (CutSL w (dCut l).1 (dCut l).2) := by
  unfold dCut
  by_cases h4 : l.length < 4
  · simp only [if_pos h4]; exact rcrcCut_none h4 hl
  · simp only [if_neg h4]
    refine rcrcCut_some (p := l.take (l.length - 4)) (fun he => ?_) (fun he => ?_) h rfl h4 hl
    · simp only [if_pos he]; exact ⟨trivial, trivial⟩
    · simp only [if_neg he]; exact ⟨trivial, trivial⟩

end Go.Proofs.Ytcbfcbkpbaefaaa
