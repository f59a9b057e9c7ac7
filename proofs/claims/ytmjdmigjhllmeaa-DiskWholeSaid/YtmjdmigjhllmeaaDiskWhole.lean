/- DiskWhole's walk. -/
import Derived.Test.YtmjdmigjhllmeaaDiskLaw
import Derived.Test.YtmjdmigjhllmeaaDiskOwn
namespace Go.Proofs.Ytmjdmigjhllmeaa
open Go.RowKit
set_option linter.unusedVariables false

/-- Behind n writes that wait, sector 0 would be 'want' behind a crash. -/
structure Whole (ks : List Bool) (n : Nat) (want : List UInt8) (D : DS) : Prop where
  tidy : Tidy D
  up : D.down = false
  wn : D.waits.length = n
  la : (layK D.there D.waits ks)[0]? = some want
  wl : want.length ≤ 64
theorem whole_start {first : List UInt8} (hf : first.length ≤ 64) (ks : List Bool) : eWrite DS.fresh 0 first = 0 ∧ eSync (dWrite DS.fresh 0 first) = 0 ∧ Whole ks 0 first (dSync (dWrite DS.fresh 0 first)) := by
  have h : eWrite DS.fresh 0 first = 0 := eWrite_zero.2 ⟨rfl, by omega, by omega, hf⟩
  have hd : dWrite DS.fresh 0 first = ⟨DS.fresh.there, DS.fresh.seen.set 0 first, [(0, first)], false⟩ := by
    unfold dWrite; rw [if_pos h]; rfl
  have ht := tidy_sync (tidy_write tidy_fresh 0 first)
  rw [hd] at ht ⊢
  exact ⟨h, rfl, ht, rfl, rfl, rfl, hf⟩
theorem whole_large {ks : List Bool} {n : Nat} {want x : List UInt8} {D : DS} (h : Whole ks n want D) (hx : 64 < x.length) : eWrite D 0 x = 6 ∧ dWrite D 0 x = D := by
  have he : eWrite D 0 x = 6 := by unfold eWrite; rw [if_neg (by simp [h.up]), if_neg (by omega), if_pos hx]
  refine ⟨he, ?_⟩
  unfold dWrite; rw [he, if_neg (by omega)]
theorem whole_write {ks : List Bool} {n : Nat} {want x : List UInt8} {D : DS} (h : Whole ks n want D) (hx : x.length ≤ 64) : eWrite D 0 x = 0 ∧ Whole ks (n + 1) (if ks.getD n false then x else want) (dWrite D 0 x) := by
  have he : eWrite D 0 x = 0 := eWrite_zero.2 ⟨h.up, by omega, by omega, hx⟩
  have hd : dWrite D 0 x = { D with seen := D.seen.set 0 x, waits := D.waits ++ [(0, x)] } := by unfold dWrite; rw [if_pos he]; rfl
  have ht := tidy_write h.tidy 0 x
  rw [hd] at ht ⊢
  refine ⟨he, ht, h.up, by simp [h.wn], ?_, ?_⟩
  · have hl := layK_succ (D.waits ++ [(0, x)]) ks D.there n (by simp [h.wn])
    rw [List.take_of_length_le (by simp [h.wn]), List.take_left' h.wn] at hl
    show (layK D.there (D.waits ++ [(0, x)]) ks)[0]? = _
    rw [hl]
    have hn : (D.waits ++ [(0, x)])[n]'(by simp [h.wn]) = (0, x) := by
      rw [List.getElem_append_right (by have := h.wn; omega)]; simp [h.wn]
    rw [hn]
    have hla := h.la
    cases ks.getD n false
    · exact hla
    · show ((layK D.there D.waits ks).set 0 x)[0]? = some x
      rw [List.getElem?_set, if_pos rfl, if_pos (List.getElem?_eq_some_iff.1 hla).1]
  · split
    · exact hx
    · exact h.wl
theorem whole_end {ks : List Bool} {n : Nat} {want : List UInt8} {D : DS} (h : Whole ks n want D) : bRead (dUp (dCrash D ks)) 0 = want ∧ eWrong (dUp (dCrash D ks)) 0 = 0 ∧ (dUp (dCrash D ks)).waits.length = 0 := by
  have he : eWrong (dUp (dCrash D ks)) 0 = 0 := eWrong_zero.2 ⟨rfl, by omega, by omega⟩
  have hd : dCrash D ks = ⟨layK D.there D.waits ks, layK D.there D.waits ks, [], true⟩ := by unfold dCrash; rw [if_neg (by simp [h.up])]
  refine ⟨?_, he, ?_⟩
  · unfold bRead
    rw [if_pos he, hd]
    show ((layK D.there D.waits ks)).getD 0 [] = want
    rw [List.getD_eq_getElem?_getD, h.la]; rfl
  · rw [hd]; rfl

set_option maxRecDepth 100000 in
set_option maxHeartbeats 2000000 in
theorem diskWhole_main (F : Option Addr) (c : Nat) (first : List UInt8) (A : Option Addr) (c1 : Nat) (l : List (List UInt8)) (K : Option Addr) (d : Nat) (ks : List Bool) (w : World)
    (h : SL w F c first) (hr : Rows2 w A l) (hk : KL w K d ks) (hf : first.length ≤ 64) (hl : l.length ≤ 40) (hks : ks.length ≤ 100) :
    Calls Try.prog 5 #[.slice F first.length c, .slice A l.length c1, .slice K ks.length d] w fun e w' => e = .returned (.bool true) ∧ Bl w w' := by
  obtain ⟨g1, g2, g3⟩ := whole_start hf ks
  have G1 := Lib.hid g1; have G2 := Lib.hid g2; have G3 := Lib.hid g3
  have HF := Lib.hid h; have HR := Lib.hid hr; have HK := Lib.hid hk
  clear g1 g2 g3 h hr hk
  go_enter Try.func5, Try.ntmps5
  go_wp2_with fail
  refine (dNew_to (fun _ => True) _).mono ?_
  rintro e w1 ⟨rfl, dd, nw⟩
  have D := Lib.hid dd; have N := Lib.hid nw; clear dd nw
  go_wp2_with fail
  refine (dWrite_to D.out 0 _ _ _ first rfl (HF.out.step N.out.bl) (by decide) (fun _ _ => trivial) 0 _ G1.out rfl).mono ?_
  rintro e w2 ⟨rfl, dd, f⟩
  replace N := Lib.hid (N.out.fr f); replace D := Lib.hid dd; clear dd f
  go_wp2_with fail
  refine (dSync_to D.out 0 _ G2.out rfl).mono ?_
  rintro e w3 ⟨rfl, dd, f⟩
  replace N := Lib.hid (N.out.fr f); replace D := Lib.hid dd; clear dd f
  go_wp2
  go_loopw [8, 9, 10] (fun v n i wr => ∃ (k m : Nat) (Aw : Option Addr) (cw : Nat) (want : List UInt8), k ≤ l.length ∧ m ≤ k ∧ i = .int .i64 k ∧ n = .int .i64 m ∧ v = .slice Aw want.length cw ∧ Hid (∃ D', IsDisk w.heap.size (fun _ => True) wr D' ∧ Whole ks m want D') ∧ Hid (SL w Aw cw want) ∧ Hid (New w wr)) (fun _ _ i _ => l.length - (intOf i).toNat)
  case atStart => exact ⟨0, 0, F, c, first, Nat.zero_le _, Nat.le_refl _, rfl, rfl, rfl, ⟨_, D.out, G3.out⟩, HF, N⟩
  case round =>
    clear D N
    obtain ⟨k, m, Aw, cw, want, hkl, hmk, rfl, rfl, rfl, HD, HS, N⟩ := hrel
    by_cases hlt : k < l.length
    · obtain ⟨ad, B, bd, rfl, hc, hsb, hbm⟩ := HR.out.at_ hlt
      have hcell := Bl.some' N.out.bl hc
      obtain ⟨x, hx⟩ : ∃ x, x = l[k] := ⟨_, rfl⟩
      rw [← hx] at hcell hsb hbm hc
      have HX := Lib.hid hsb
      have HC := Lib.hid hc
      have hk0 : (0 : Int) ≤ (k : Int) := by omega
      have hk1 : (k : Int) < (l.length : Int) := by omega
      clear hc hx hsb
      obtain ⟨D', a1, a2⟩ := HD.out
      have D := Lib.hid a1
      have hwl : D'.waits.length ≤ 100000 := by have := a2.wn; omega
      by_cases h1 : x.length ≤ 64
      · obtain ⟨e1, e2⟩ := whole_write a2 h1
        have E1 := Lib.hid e1; have E2 := Lib.hid e2
        clear e1 e2 a1 a2 HD
        by_cases h2 : m < ks.length
        · obtain ⟨ad2, rfl, hc2⟩ := HK.out.rv.at_ (k := m) (by simpa using h2)
          rw [List.getElem_map] at hc2
          have HG : Hid (ks.getD m false = ks[m]) := by show _ = _; rw [List.getD_eq_getElem?_getD, List.getElem?_eq_getElem h2]; rfl
          have hm0 : (0 : Int) ≤ (m : Int) := by omega
          have hm1 : (m : Int) < (ks.length : Int) := by omega
          by_cases h3 : ks[m] = true
          · rw [h3] at hc2
            have HC2 := Lib.hid hc2
            have HE : Hid (Whole ks (m + 1) x (dWrite D' 0 x)) := by have := E2.out; rw [HG.out, h3] at this; exact this
            clear h3 hc2 E2 HG
            go_wp2_with fail
            refine (dWrite_to D.out 0 _ _ _ x rfl (HX.out.step N.out.bl) hwl (fun _ _ => trivial) 0 _ E1.out rfl).mono ?_
            rintro e w4 ⟨rfl, dd, f⟩
            have N4 := Lib.hid (N.out.fr f); have D4 := Lib.hid dd; clear dd f hcell
            have c1 := Bl.some' N4.out.bl HC.out
            have c2 := Bl.some' N4.out.bl HC2.out
            clear N D
            go_wp2
            go_roundw
            case rel => exact ⟨k + 1, m + 1, B, bd, x, by omega, by omega, by go_num, by go_num, rfl, ⟨_, D4.out, HE.out⟩, HX, N4⟩
            case measure => simp [intOf]; omega
          · rw [show ks[m] = false from by simpa using h3] at hc2
            have HC2 := Lib.hid hc2
            have HE : Hid (Whole ks (m + 1) want (dWrite D' 0 x)) := by have := E2.out; rw [HG.out, show ks[m] = false from by simpa using h3] at this; exact this
            clear h3 hc2 E2 HG
            go_wp2_with fail
            refine (dWrite_to D.out 0 _ _ _ x rfl (HX.out.step N.out.bl) hwl (fun _ _ => trivial) 0 _ E1.out rfl).mono ?_
            rintro e w4 ⟨rfl, dd, f⟩
            have N4 := Lib.hid (N.out.fr f); have D4 := Lib.hid dd; clear dd f hcell
            have c2 := Bl.some' N4.out.bl HC2.out
            clear N D
            go_wp2
            go_roundw
            case rel => exact ⟨k + 1, m + 1, Aw, cw, want, by omega, by omega, by go_num, by go_num, rfl, ⟨_, D4.out, HE.out⟩, HS, N4⟩
            case measure => simp [intOf]; omega
        · have HE : Hid (Whole ks (m + 1) want (dWrite D' 0 x)) := by
            have := E2.out
            rw [show ks.getD m false = false from by rw [List.getD_eq_getElem?_getD, List.getElem?_eq_none (by omega)]; rfl] at this
            exact this
          clear E2
          go_wp2_with fail
          refine (dWrite_to D.out 0 _ _ _ x rfl (HX.out.step N.out.bl) hwl (fun _ _ => trivial) 0 _ E1.out rfl).mono ?_
          rintro e w4 ⟨rfl, dd, f⟩
          have N4 := Lib.hid (N.out.fr f); have D4 := Lib.hid dd; clear dd f hcell
          clear N D
          go_wp2
          go_roundw
          case rel => exact ⟨k + 1, m + 1, Aw, cw, want, by omega, by omega, by go_num, by go_num, rfl, ⟨_, D4.out, HE.out⟩, HS, N4⟩
          case measure => simp [intOf]; omega
      · obtain ⟨e1, e2⟩ := whole_large a2 (by omega : 64 < x.length)
        have E1 := Lib.hid e1; have E2 := Lib.hid e2; have A2 := Lib.hid a2
        clear e1 e2 a1 a2 HD
        go_wp2_with fail
        refine (dWrite_to D.out 0 _ _ _ x rfl (HX.out.step N.out.bl) hwl (fun _ _ => trivial) 6 _ E1.out E2.out).mono ?_
        rintro e w4 ⟨rfl, dd, f⟩
        have N4 := Lib.hid (N.out.fr f); have D4 := Lib.hid dd; clear dd f hcell
        clear N D
        go_wp2
        go_roundw
        case rel => exact ⟨k + 1, m, Aw, cw, want, by omega, by omega, by go_num, rfl, rfl, ⟨_, D4.out, A2.out⟩, HS, N4⟩
        case measure => simp [intOf]; omega
    · obtain ⟨D', a1, a2⟩ := HD.out
      obtain ⟨e1, e2, e3⟩ := whole_end a2
      have D := Lib.hid a1; have T := Lib.hid a2.tidy; have E1 := Lib.hid e1; have E2 := Lib.hid e2; have E3 := Lib.hid e3; have WN := Lib.hid a2.wn
      have hwl : D'.waits.length ≤ 100000 := by have := a2.wn; omega
      have hwant := a2.wl
      clear HD a1 a2 e1 e2 e3
      go_wp2_with fail
      refine (dWaits_to D.out m WN.out).mono ?_
      rintro e w4 ⟨rfl, rfl⟩
      go_wp2_with fail
      refine (dCrash_to D.out _ _ _ ks rfl (HK.out.rv.news N.out.safe N.out.bl) HK.out.max hwl _ rfl).mono ?_
      rintro e w4 ⟨rfl, dd, f⟩
      replace N := Lib.hid (N.out.fr f); replace D := Lib.hid dd; clear dd f
      go_wp2_with fail
      refine (dUp_to D.out _ rfl).mono ?_
      rintro e w5 ⟨rfl, dd, f⟩
      replace N := Lib.hid (N.out.fr f); replace D := Lib.hid dd; clear dd f
      go_wp2_with fail
      refine (dRead_to D.out 0 (tidy_up (tidy_crash T.out ks)).short want 0 E1.out E2.out).mono ?_
      rintro e w6 ⟨A6, c6, rfl, s6, b6, n6, _⟩
      replace N := Lib.hid (N.out.bl_ D.out.plt b6)
      replace D := Lib.hid (D.out.bl b6)
      clear b6 n6
      go_wp2_with fail
      refine (alive24 _).mono ?_
      rintro e w7 ⟨rfl, b7⟩
      have S7 := s6.step b7
      have N7 := Lib.hid (N.out.bl_ D.out.plt b7)
      have D7 := Lib.hid (D.out.bl b7)
      clear b7 s6 N D
      go_wp2_with fail
      refine (same_sl S7 (HS.out.step N7.out.bl) (by omega)).mono ?_
      rintro e w8 ⟨rfl, b8⟩
      have N8 := Lib.hid (N7.out.bl_ D7.out.plt b8)
      have D8 := Lib.hid (D7.out.bl b8)
      clear b8 S7 N7 D7
      go_wp2_with fail
      refine (dWaits_to D8.out 0 E3.out).mono ?_
      rintro e w9 ⟨rfl, rfl⟩
      go_wp2
      go_ret
      exact ⟨rfl, N8.out.bl⟩

set_option maxRecDepth 100000 in
theorem diskWhole_walk (F : Option Addr) (c : Nat) (first : List UInt8) (A : Option Addr) (c1 : Nat) (l : List (List UInt8)) (K : Option Addr) (d : Nat) (ks : List Bool) (w : World)
    (h : SL w F c first) (hr : Rows2 w A l) (hk : KL w K d ks) (hf : first.length ≤ 9223372036854775807) (hl : l.length ≤ 9223372036854775807) :
    Calls Try.prog 5 #[.slice F first.length c, .slice A l.length c1, .slice K ks.length d] w fun e w' => e = .returned (.bool true) ∧ Bl w w' := by
  have hkm := hk.max
  by_cases h1 : 64 < first.length
  · clear h hr hk
    go_enter Try.func5, Try.ntmps5
    go_wp2_with fail
    refine (alive24 _).mono ?_
    rintro e w1 ⟨rfl, b1⟩
    have bb := b1; clear b1
    go_wp2
    go_ret
    exact ⟨rfl, bb⟩
  · by_cases h2 : 40 < l.length
    · clear h hr hk
      go_enter Try.func5, Try.ntmps5
      go_wp2_with fail
      refine (alive24 _).mono ?_
      rintro e w1 ⟨rfl, b1⟩
      have bb := b1; clear b1
      go_wp2
      go_ret
      exact ⟨rfl, bb⟩
    · by_cases h3 : 100 < ks.length
      · clear h hr hk
        go_enter Try.func5, Try.ntmps5
        go_wp2_with fail
        refine (alive24 _).mono ?_
        rintro e w1 ⟨rfl, b1⟩
        have bb := b1; clear b1
        go_wp2
        go_ret
        exact ⟨rfl, bb⟩
      · exact diskWhole_main F c first A c1 l K d ks w h hr hk (by omega) (by omega) (by omega)
end Go.Proofs.Ytmjdmigjhllmeaa
