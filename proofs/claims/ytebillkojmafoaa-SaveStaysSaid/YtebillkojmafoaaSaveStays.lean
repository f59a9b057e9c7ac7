/- SaveStays' walk. -/
import Derived.Test.YtebillkojmafoaaTryWords
import Derived.BigQuiet
import Derived.Deep.QuietTactic
import Derived.Deep.RegionHeld3
import Derived.StillTailTactics
namespace Go.Proofs.Ytebillkojmafoaa
open Go.RowKit
set_option linter.unusedVariables false

set_option maxRecDepth 100000 in
set_option maxHeartbeats 2000000 in
theorem saveStays_walk (B0 : Option Addr) (c0 : Nat) (b : List UInt8) (A : Option Addr) (c : Nat) (l : List TryP) (w : World) (hb : SL w B0 c0 b) (hbm : b.length ≤ 9223372036854775807) (hr : Tries w A l) (hl : l.length ≤ 9223372036854775807) :
    Calls Try.prog 6 #[.slice B0 b.length c0, .slice A l.length c] w fun e w' => e = .returned (.bool true) ∧ Bl w w' := by
  have HR := Lib.hid hr; have HB := Lib.hid hb
  clear hr hb
  by_cases g0 : 1984 < b.length
  · have g0' : (1984 : Int) < (b.length : Int) := by omega
    go_enter Try.func6, Try.ntmps6
    go_wp2_with fail
    refine (alive25 _).mono ?_
    rintro e w1 ⟨rfl, bl⟩
    have bb := bl; clear bl
    go_wp2
    go_ret
    exact ⟨rfl, bb⟩
  have g0' : ¬ (1984 : Int) < (b.length : Int) := by omega
  by_cases g1 : 20 < l.length
  · have g1' : (20 : Int) < (l.length : Int) := by omega
    go_enter Try.func6, Try.ntmps6
    go_wp2_with fail
    refine (alive25 _).mono ?_
    rintro e w1 ⟨rfl, bl⟩
    have bb := bl; clear bl
    go_wp2
    go_ret
    exact ⟨rfl, bb⟩
  have g1' : ¬ (20 : Int) < (l.length : Int) := by omega
  go_enter Try.func6, Try.ntmps6
  go_wp2_with fail
  refine (dNew_to (fun _ => True) _).mono ?_
  rintro e w1 ⟨rfl, dd, nw⟩
  have D := Lib.hid dd; have N := Lib.hid nw; clear dd nw
  go_wp2_with fail
  refine (sv_whole D.out (fun _ _ => trivial) good_fresh (by decide) B0 c0 _ b rfl (N.out.sls HB.out) (by omega) _ (.inl (by decide)) _ rfl).mono ?_
  rintro e w3 ⟨rfl, ⟨D3, a3, dd, g⟩, f⟩
  replace N := Lib.hid (N.out.fr f); replace D := Lib.hid dd; have G := Lib.hid g; clear dd f g
  go_wp2_with fail
  refine (ld_good D.out G.out (by decide)).mono ?_
  rintro e w4 ⟨A4, c4, rfl, s4, b4, _⟩
  replace N := Lib.hid (N.out.bl_ D.out.plt b4); replace D := Lib.hid (D.out.bl b4); clear b4
  go_wp2_with fail
  refine (same_sl s4 (HB.out.step N.out.bl) (by omega)).mono ?_
  rintro e w5 ⟨rfl, b5⟩
  replace N := Lib.hid (N.out.bl_ D.out.plt b5); replace D := Lib.hid (D.out.bl b5); clear b5 s4
  go_wp2
  go_loopw [10] (fun i wr => ∃ (k : Nat), k ≤ l.length ∧ i = .int .i64 k ∧ Hid (∃ D', IsDisk w.heap.size (fun _ => True) wr D' ∧ Good D' 1 a3 b) ∧ Hid (New w wr)) (fun i _ => l.length - (intOf i).toNat)
  case atStart => exact ⟨0, Nat.zero_le _, rfl, ⟨_, D.out, G.out⟩, N⟩
  case round =>
    clear D N G
    obtain ⟨k, hkl, rfl, HD, N⟩ := hrel
    by_cases hlt : k < l.length
    · obtain ⟨g, o, B, bd, K, kd, rfl, hc1, hc2, hc3, hsb, hkk, hbm'⟩ := HR.out.at_ hlt
      obtain ⟨t, hx⟩ : ∃ t, t = l[k] := ⟨_, rfl⟩
      rw [← hx] at hc1 hc2 hc3 hsb hkk hbm'
      obtain ⟨x, st, ks⟩ := t
      simp only at hc1 hc2 hc3 hsb hkk hbm'
      have e1 := Bl.some' N.out.bl hc1; have e2 := Bl.some' N.out.bl hc2; have e3 := Bl.some' N.out.bl hc3
      have HX := Lib.hid hsb; have HK := Lib.hid hkk
      have HC1 := Lib.hid hc1; have HC2 := Lib.hid hc2; have HC3 := Lib.hid hc3
      have hk0 : (0 : Int) ≤ (k : Int) := by omega
      have hk1 : (k : Int) < (l.length : Int) := by omega
      clear hc1 hc2 hc3 hx hsb hkk
      obtain ⟨D', dd, gg⟩ := HD.out
      have D := Lib.hid dd; have G := Lib.hid gg
      clear dd gg HD
      by_cases h1 : 1984 < x.length
      · have h1' : (1984 : Int) < (x.length : Int) := by omega
        go_wp2_with fail
        refine (alive25 _).mono ?_
        rintro e w4 ⟨rfl, b4⟩
        replace N := Lib.hid (N.out.bl_ D.out.plt b4); clear b4 D G
        go_wp2
        go_ret
        exact ⟨rfl, N.out.bl⟩
      have h1' : ¬ (1984 : Int) < (x.length : Int) := by omega
      by_cases h2 : 100 < ks.length
      · have h2' : (100 : Int) < (ks.length : Int) := by omega
        go_wp2_with fail
        refine (alive25 _).mono ?_
        rintro e w4 ⟨rfl, b4⟩
        replace N := Lib.hid (N.out.bl_ D.out.plt b4); clear b4 D G
        go_wp2
        go_ret
        exact ⟨rfl, N.out.bl⟩
      have h2' : ¬ (100 : Int) < (ks.length : Int) := by omega
      obtain ⟨q, hq⟩ : ∃ q : Int, (((x.length + 63) / 64 + 3 : Nat) : Int) = q := ⟨_, rfl⟩
      obtain ⟨j, hj⟩ : ∃ j : Nat, max (min st (q - 2)) 0 = (j : Int) := ⟨(max (min st (q - 2)) 0).toNat, by omega⟩
      have hj2 : j ≤ many x + 1 := by unfold many; omega
      have HQ := Lib.hid hq; have HJ := Lib.hid hj; have HP := Lib.hid hj2
      have hq0 : -9223372036854775808 ≤ q - 2 ∧ q - 2 ≤ 9223372036854775807 := by omega
      have HWQ := Lib.hid (And.intro (IntWalk.wrap64_in _ hq0) (IntWalk.i64_in _ hq0))
      clear hq hj hj2 hq0
      have HACT : ∀ w' : World, Calls Try.prog 13 #[.slice B x.length bd] w' fun e w'' => e = .returned (.int .i64 q) ∧ w'' = w' := fun w' => (acts_any B bd x.length (by omega) w').mono fun e w'' ⟨h1, h2⟩ => ⟨by rw [h1, HQ.out], h2.symm⟩
      have tri : (st < 0 ∧ st ≤ q - 2 ∧ 0 ≤ q - 2) ∨ (0 ≤ st ∧ st ≤ q - 2 ∧ 0 ≤ q - 2) ∨ (0 ≤ st ∧ q - 2 < st ∧ 0 ≤ q - 2) := by have := HQ.out; omega
      rcases tri with ⟨m1, m2, m3⟩ | ⟨m1, m2, m3⟩ | ⟨m1, m2, m3⟩
      all_goals
        obtain ⟨hwq, hwq2⟩ := HWQ.out
        go_wp2
        go_still_tail 20, (by kernel_rfl)
        still_call (HACT _)
        repeat still_step
        refine wpStill_nil ?_
        clear HACT hwq hwq2
        change wpList _ _ _ _ _ wr.drew
        have nd := Lib.hid (N.out.bl_ D.out.plt (Bl.drew wr))
        have dd := Lib.hid (D.out.bl (Bl.drew wr))
        obtain ⟨W, hW⟩ : ∃ W, W = wr.drew := ⟨_, rfl⟩
        rw [← hW] at nd dd ⊢
        clear hW N D e1 e2 e3
        go_wp2_with fail
        refine (sv_part dd.out (fun _ _ => trivial) G.out (by omega) B bd _ x rfl (nd.out.sls HX.out) (by omega) _ j (by have := HP.out; omega) (by have := HJ.out; omega)).mono ?_
        rintro e w6 ⟨rfl, d6, f⟩
        replace nd := Lib.hid (nd.out.fr f); replace dd := Lib.hid d6; clear d6 f m1 m2 m3
        have e3 := Bl.some' nd.out.bl HC3.out
        go_wp2_with fail
        refine (cr_to dd.out (run_waits G.out (by omega) (by omega) (by have := HP.out; omega)).1 K kd _ ks rfl (HK.out.news nd.out) HK.out.max).mono ?_
        rintro e w7 ⟨rfl, d7, f⟩
        replace nd := Lib.hid (nd.out.fr f); replace dd := Lib.hid d7; clear d7 f e3
        go_wp2_with fail
        refine (up_to ks dd.out).mono ?_
        rintro e w8 ⟨rfl, d8, f⟩
        replace nd := Lib.hid (nd.out.fr f); replace dd := Lib.hid d8; clear d8 f
        have G8 := Lib.hid (back_parts (b' := x) G.out (by omega) HP.out ks)
        go_wp2_with fail
        refine (ld_good dd.out G8.out (by omega)).mono ?_
        rintro e w9 ⟨A9, c9, rfl, s9, b9, _⟩
        replace nd := Lib.hid (nd.out.bl_ dd.out.plt b9); replace dd := Lib.hid (dd.out.bl b9); clear b9
        go_wp2_with fail
        refine (same_sl s9 (HB.out.step nd.out.bl) (by omega)).mono ?_
        rintro e w10 ⟨rfl, b10⟩
        have N6 := Lib.hid (nd.out.bl_ dd.out.plt b10); have D6 := Lib.hid (dd.out.bl b10); clear b10 s9 nd dd
        go_wp2
        go_roundw
        case rel => exact ⟨k + 1, by omega, by go_num, ⟨_, D6.out, G8.out⟩, N6⟩
        case measure => simp [intOf]; omega
    · obtain ⟨D', dd, gg⟩ := HD.out
      have PL := Lib.hid dd.plt
      clear dd gg HD
      go_wp2_with fail
      refine (alive25 _).mono ?_
      rintro e w4 ⟨rfl, b4⟩
      have N4 := Lib.hid (N.out.bl_ PL.out b4); clear b4 N
      go_wp2
      go_ret
      exact ⟨rfl, N4.out.bl⟩
end Go.Proofs.Ytebillkojmafoaa
