/- DiskDown's walk. -/
import Derived.Test.YtmjdmigjhllmeaaDiskLaw
import Derived.Test.YtmjdmigjhllmeaaDiskOwn
namespace Go.Proofs.Ytmjdmigjhllmeaa
open Go.RowKit
set_option linter.unusedVariables false

set_option maxRecDepth 100000 in
set_option maxHeartbeats 2000000 in
theorem diskDown_main (A : Option Addr) (c : Nat) (l : List ActP) (B : Option Addr) (d : Nat) (b : List UInt8) (K0 K1 : Option Addr) (d0 d1 : Nat) (ks0 ks1 : List Bool) (w : World)
    (h : Acts w A l) (hb : SL w B d b) (hk0 : KL w K0 d0 ks0) (hk1 : KL w K1 d1 ks1) (hll : l.length ≤ 9223372036854775807) (hf : fewB l 40 = true) (hbl : b.length ≤ 64) (z : List UInt8) (t : Bool) (ht : Hid (t = ks0.getD 0 false)) (hz : Hid (z = if t then b else [])) (hcase : (t = true ∧ 0 < ks0.length) ∨ (t = false ∧ 0 < ks0.length) ∨ (t = false ∧ ks0.length = 0)) :
    Calls Try.prog 7 #[.slice A l.length c, .slice B b.length d, .agg #[.slice K0 ks0.length d0, .slice K1 ks1.length d1]] w fun e w' => e = .returned (.bool true) ∧ Bl w w' := by
  have bb := Bl.alloc w (.cells #[.slice K0 ks0.length d0, .slice K1 ks1.length d1] 53)
  have bk := Blk.new w 53 #[.slice K0 ks0.length d0, .slice K1 ks1.length d1]
  obtain ⟨W0, hW0⟩ : ∃ W, W = w.alloc (.cells #[.slice K0 ks0.length d0, .slice K1 ks1.length d1] 53) := ⟨_, rfl⟩
  rw [← hW0] at bb bk
  have hfw := few_any A c l 40 W0 (h.step bb) hll
  rw [hf] at hfw
  obtain ⟨g1, g2⟩ := down_put hbl
  have g3 := down_crash (b := b) ks0
  have g4 := down_lay b ks0
  obtain ⟨D1, hD1⟩ : ∃ D1 : DS, D1 = ⟨DS.fresh.there, DS.fresh.seen.set 1 b, [(1, b)], false⟩ := ⟨_, rfl⟩
  obtain ⟨D2, hD2⟩ : ∃ D2 : DS, D2 = ⟨layK DS.fresh.there [(1, b)] ks0, layK DS.fresh.there [(1, b)] ks0, [], true⟩ := ⟨_, rfl⟩
  have g5 : D1.waits.length ≤ 100000 := by rw [hD1]; simp
  have g6 : D2.down = true := by rw [hD2]
  have g7 : D2.waits.length ≤ 100000 := by rw [hD2]; simp
  have g10 : (dUp D2).waits.length = 0 := by rw [hD2]; rfl
  have gt2 : Tidy D2 := by
    have := tidy_crash (tidy_write tidy_fresh 1 b) ks0
    rw [g2, g3, ← hD2] at this
    exact this
  have g8 : dCrash D2 ks1 = D2 := by unfold dCrash; rw [if_pos g6]
  have g9 : eWrong (dUp D2) 1 = 0 := eWrong_zero.2 ⟨rfl, by omega, by omega⟩
  rw [← hD1] at g2 g3
  rw [← hD2] at g3 g4
  rw [← ht.out, ← hz.out] at g4
  have HFW := Lib.hid hfw; have G1 := Lib.hid g1; have G2 := Lib.hid g2; have G3 := Lib.hid g3; have G4 := Lib.hid g4; have G5 := Lib.hid g5; have G6 := Lib.hid g6; have G7 := Lib.hid g7; have G8 := Lib.hid g8; have G9 := Lib.hid g9; have G10 := Lib.hid g10; have GT2 := Lib.hid gt2
  have HW0 := Lib.hid hW0.symm
  have HA := Lib.hid (h.step bb); have HB := Lib.hid (hb.step bb); have HK0 := Lib.hid (hk0.step bb); have HK1 := Lib.hid (hk1.step bb); have HBB := Lib.hid bb; have BK := Lib.hid bk
  have HSZ := Lib.hid (show W0.heap.size = w.heap.size + 1 by rw [hW0]; simp)
  have HD2 := Lib.hid hD2
  clear hfw g1 g2 g3 g4 g5 g6 g7 g8 g9 g10 gt2 hW0 hD1 hD2 h hb hk0 hk1 bb bk hf
  go_enter Try.func7, Try.ntmps7
  go_wp2_with fail
  rw [HW0.out]
  refine HFW.out.mono ?_
  rintro e w' ⟨rfl, rfl⟩
  go_wp2_with fail
  refine (dNew_to (fun _ => True) _).mono ?_
  rintro e w1 ⟨rfl, dd, nw⟩
  have D := Lib.hid dd; have N := Lib.hid nw; clear dd nw
  go_wp2_with fail
  refine (dWrite_to D.out 1 _ _ _ b rfl (HB.out.step N.out.bl) (by decide) (fun _ _ => trivial) 0 D1 G1.out G2.out).mono ?_
  rintro e w2 ⟨rfl, dd, f⟩
  replace N := Lib.hid (N.out.fr f); replace D := Lib.hid dd; clear dd f
  have e0 := (BK.out.below N.out.bl BK.out.lt).cell 0
  simp only [List.getElem?_toArray, List.getElem?_cons_zero] at e0
  go_wp2_with fail
  refine (dCrash_to D.out _ _ _ ks0 rfl (HK0.out.rv.news N.out.safe N.out.bl) HK0.out.max G5.out D2 G3.out).mono ?_
  rintro e w3 ⟨rfl, dd, f⟩
  replace N := Lib.hid (N.out.fr f); replace D := Lib.hid dd; clear dd f e0
  go_wp2
  go_loopw [8] (fun i wr => ∃ k : Nat, k ≤ l.length ∧ i = .int .i64 k ∧ Hid (IsDisk W0.heap.size (fun _ => True) wr D2) ∧ Hid (New W0 wr)) (fun i _ => l.length - (intOf i).toNat)
  case atStart => exact ⟨0, Nat.zero_le _, rfl, D, N⟩
  case round =>
    clear D N
    obtain ⟨k, hk, rfl, D, N⟩ := hrel
    by_cases hlt : k < l.length
    · obtain ⟨g, o, B', bc, K', kc, rfl, c0, c1, c2, c3, sb, sk, hkm, hbm⟩ := HA.out.news N.out hlt
      by_cases h1 : 0 ≤ l[k].kind
      · by_cases h2 : l[k].kind ≤ 2
        · obtain ⟨a1, a2, a3⟩ := down_d G6.out h1 h2
          have HC := Lib.hid (act_any (X := fun _ => True) (d := kc) D.out l[k] sb sk hkm G7.out GT2.out.short (fun _ _ => trivial) [] 10 D2 a3 a2 a1)
          clear a1 a2 a3 sb sk
          have hfl := told_field
          go_wp2_with fail
          refine HC.out.mono ?_
          rintro e w4 ⟨A4, c4, rfl, _, dd, f⟩
          have D4 := Lib.hid dd; have N4 := Lib.hid (N.out.fr f)
          clear dd f D N HC
          go_wp2
          go_roundw
          case rel => exact ⟨k + 1, by omega, by go_num, D4, N4⟩
          case measure => simp [intOf]; omega
        · clear sb sk
          go_wp2
          go_roundw
          case rel => exact ⟨k + 1, by omega, by go_num, D, N⟩
          case measure => simp [intOf]; omega
      · clear sb sk
        go_wp2
        go_roundw
        case rel => exact ⟨k + 1, by omega, by go_num, D, N⟩
        case measure => simp [intOf]; omega
    · have e1 := (BK.out.below N.out.bl BK.out.lt).cell 1
      simp only [List.getElem?_toArray, List.getElem?_cons_zero, List.getElem?_cons_succ] at e1
      go_wp2_with fail
      refine (dCrash_to D.out _ _ _ ks1 rfl (HK1.out.rv.news N.out.safe N.out.bl) HK1.out.max G7.out D2 G8.out).mono ?_
      rintro e w4 ⟨rfl, dd, f⟩
      replace N := Lib.hid (N.out.fr f); replace D := Lib.hid dd; clear dd f e1
      go_wp2_with fail
      refine (dUp_to D.out (dUp D2) rfl).mono ?_
      rintro e w5 ⟨rfl, dd, f⟩
      replace N := Lib.hid (N.out.fr f); replace D := Lib.hid dd; clear dd f
      go_wp2_with fail
      refine (dRead_to D.out 1 (tidy_up GT2.out).short z 0 G4.out G9.out).mono ?_
      rintro e w6 ⟨A6, c6, rfl, s6, b6, n6, _⟩
      have S6 := Lib.hid (D.out.sls b6 s6 n6)
      replace N := Lib.hid (N.out.fr (Fr.of_bl b6 D.out.plt)); replace D := Lib.hid (D.out.bl b6); clear s6 b6 n6
      have BB := Lib.hid (HBB.out.trans N.out.bl)
      have e0 := (BK.out.below N.out.bl BK.out.lt).cell 0
      simp only [List.getElem?_toArray, List.getElem?_cons_zero] at e0
      rcases hcase with ⟨ht1, hlen⟩ | ⟨ht1, hlen⟩ | ⟨ht1, hlen⟩
      · subst ht1
        obtain rfl : z = b := by rw [hz.out]; simp
        obtain ⟨ad, rfl, hc0⟩ := (HK0.out.rv.step N.out.bl).at_ (k := 0) (by simpa using hlen)
        obtain ⟨g, o, sp⟩ := ad
        obtain rfl : sp = none := by have := World.cell?_spot hc0; simpa [Addr.add] using this
        rw [Addr.add_mid, Nat.add_zero, List.getElem_map] at hc0
        have hv : ks0[0] = true := by
          have := ht.out
          rw [List.getD_eq_getElem?_getD, List.getElem?_eq_getElem hlen] at this
          exact this.symm
        rw [hv] at hc0
        have hl0 : (0 : Int) < (ks0.length : Int) := by omega
        have hl1 : (0 : Nat) < ks0.length := hlen
        clear hv
        go_wp2_with fail
        refine (alive24 _).mono ?_
        rintro e w7 ⟨rfl, b7⟩
        have S7 := Lib.hid (S6.out.sl.step b7); have D7 := Lib.hid (D.out.bl b7); have N7 := Lib.hid (N.out.bl_ D.out.plt b7)
        clear b7 S6 D N e0 hc0
        go_wp2_with fail
        refine (same_sl S7.out (HB.out.step N7.out.bl) (by omega)).mono ?_
        rintro e w8 ⟨rfl, b8⟩
        have D8 := Lib.hid (D7.out.bl b8); have N8 := Lib.hid (N7.out.bl_ D7.out.plt b8)
        clear b8 S7 D7 N7
        go_wp2_with fail
        refine (dWaits_to D8.out 0 G10.out).mono ?_
        rintro e w9 ⟨rfl, rfl⟩
        go_wp2
        go_ret
        exact ⟨rfl, HBB.out.trans N8.out.bl⟩
      · subst ht1
        obtain rfl : z = [] := by rw [hz.out]; simp
        obtain ⟨ad, rfl, hc0⟩ := (HK0.out.rv.step N.out.bl).at_ (k := 0) (by simpa using hlen)
        obtain ⟨g, o, sp⟩ := ad
        obtain rfl : sp = none := by have := World.cell?_spot hc0; simpa [Addr.add] using this
        rw [Addr.add_mid, Nat.add_zero, List.getElem_map] at hc0
        have hv : ks0[0] = false := by
          have := ht.out
          rw [List.getD_eq_getElem?_getD, List.getElem?_eq_getElem hlen] at this
          exact this.symm
        rw [hv] at hc0
        have hl0 : (0 : Int) < (ks0.length : Int) := by omega
        have hl1 : (0 : Nat) < ks0.length := hlen
        clear hv
        go_wp2_with fail
        refine (alive24 _).mono ?_
        rintro e w7 ⟨rfl, b7⟩
        have D7 := Lib.hid (D.out.bl b7); have N7 := Lib.hid (N.out.bl_ D.out.plt b7)
        clear b7 S6 D N e0 hc0
        go_wp2_with fail
        refine (dWaits_to D7.out 0 G10.out).mono ?_
        rintro e w9 ⟨rfl, rfl⟩
        go_wp2
        go_ret
        exact ⟨rfl, HBB.out.trans N7.out.bl⟩
      · subst ht1
        obtain rfl : z = [] := by rw [hz.out]; simp
        have HL := Lib.hid hlen
        have hl0 : ¬ (0 : Int) < (ks0.length : Int) := by omega
        have hl1 : decide (0 < ks0.length) = false := by simp; exact List.eq_nil_of_length_eq_zero hlen
        have hl2 : decide ((0 : Int) < (ks0.length : Int)) = false := by simp; exact List.eq_nil_of_length_eq_zero hlen
        clear hlen
        go_wp2_with fail
        refine (alive24 _).mono ?_
        rintro e w7 ⟨rfl, b7⟩
        have D7 := Lib.hid (D.out.bl b7); have N7 := Lib.hid (N.out.bl_ D.out.plt b7)
        clear b7 S6 D N e0
        go_wp2_with fail
        refine (dWaits_to D7.out 0 G10.out).mono ?_
        rintro e w9 ⟨rfl, rfl⟩
        go_wp2
        go_ret
        exact ⟨rfl, HBB.out.trans N7.out.bl⟩

set_option maxRecDepth 100000 in
theorem diskDown_walk (A : Option Addr) (c : Nat) (l : List ActP) (B : Option Addr) (d : Nat) (b : List UInt8) (K0 K1 : Option Addr) (d0 d1 : Nat) (ks0 ks1 : List Bool) (w : World)
    (h : Acts w A l) (hb : SL w B d b) (hk0 : KL w K0 d0 ks0) (hk1 : KL w K1 d1 ks1) (hll : l.length ≤ 9223372036854775807) (hbl : b.length ≤ 9223372036854775807) :
    Calls Try.prog 7 #[.slice A l.length c, .slice B b.length d, .agg #[.slice K0 ks0.length d0, .slice K1 ks1.length d1]] w fun e w' => e = .returned (.bool true) ∧ Bl w w' := by
  by_cases hmain : fewB l 40 = true ∧ b.length ≤ 64
  · refine diskDown_main A c l B d b K0 K1 d0 d1 ks0 ks1 w h hb hk0 hk1 hll hmain.1 hmain.2 _ (ks0.getD 0 false) rfl rfl ?_
    cases ks0 with
    | nil => exact .inr (.inr ⟨rfl, rfl⟩)
    | cons k ks => cases k
                   · exact .inr (.inl ⟨rfl, by simp⟩)
                   · exact .inl ⟨rfl, by simp⟩
  · have bb := Bl.alloc w (.cells #[.slice K0 ks0.length d0, .slice K1 ks1.length d1] 53)
    have hfw := few_any A c l 40 _ (h.step bb) hll
    by_cases hf : fewB l 40 = true
    · have hbl' : ¬ b.length ≤ 64 := fun e => hmain ⟨hf, e⟩
      rw [hf] at hfw
      have HFW := Lib.hid hfw
      clear hfw hmain hf h hb hk0 hk1
      go_enter Try.func7, Try.ntmps7
      go_wp2_with fail
      refine HFW.out.mono ?_
      rintro e w' ⟨rfl, rfl⟩
      go_wp2_with fail
      refine (alive24 _).mono ?_
      rintro e w1 ⟨rfl, b1⟩
      replace bb := bb.trans b1; clear b1
      go_wp2
      go_ret
      exact ⟨rfl, bb⟩
    · rw [show fewB l 40 = false from by simpa using hf] at hfw
      have HFW := Lib.hid hfw
      clear hfw hmain hf h hb hk0 hk1
      go_enter Try.func7, Try.ntmps7
      go_wp2_with fail
      refine HFW.out.mono ?_
      rintro e w' ⟨rfl, rfl⟩
      go_wp2_with fail
      refine (alive24 _).mono ?_
      rintro e w1 ⟨rfl, b1⟩
      replace bb := bb.trans b1; clear b1
      go_wp2
      go_ret
      exact ⟨rfl, bb⟩
end Go.Proofs.Ytmjdmigjhllmeaa
