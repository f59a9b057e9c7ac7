/- SaveMany's walk. -/
import Derived.Test.YtebillkojmafoaaSaveLong
import Derived.Test.YtebillkojmafoaaActWords
namespace Go.Proofs.Ytebillkojmafoaa
open Go.RowKit
set_option linter.unusedVariables false

set_option maxRecDepth 100000 in
set_option maxHeartbeats 2000000 in
theorem saveMany_walk (A : Option Addr) (c : Nat) (l : List (List UInt8)) (w : World) (hr : Rows2 w A l) (hl : l.length ≤ 9223372036854775807) :
    Calls Try.prog 4 #[.slice A l.length c] w fun e w' => e = .returned (.bool true) ∧ Bl w w' := by
  have HR := Lib.hid hr
  clear hr
  by_cases g1 : 20 < l.length
  · have g1' : (20 : Int) < (l.length : Int) := by omega
    go_enter Try.func4, Try.ntmps4
    go_wp2_with fail
    refine (alive25 _).mono ?_
    rintro e w1 ⟨rfl, bl⟩
    have bb := bl; clear bl
    go_wp2
    go_ret
    exact ⟨rfl, bb⟩
  have g1' : ¬ (20 : Int) < (l.length : Int) := by omega
  go_enter Try.func4, Try.ntmps4
  go_wp2_with fail
  refine (dNew_to (fun _ => True) _).mono ?_
  rintro e w1 ⟨rfl, dd, nw⟩
  have D := Lib.hid dd; have N := Lib.hid nw; clear dd nw
  go_wp2
  go_loopw [4] (fun i wr => ∃ (k : Nat), k ≤ l.length ∧ i = .int .i64 k ∧ Hid (∃ D' a b, IsDisk w.heap.size (fun _ => True) wr D' ∧ Good D' k a b) ∧ Hid (New w wr)) (fun i _ => l.length - (intOf i).toNat)
  case atStart => exact ⟨0, Nat.zero_le _, rfl, ⟨_, _, _, D.out, good_fresh⟩, N⟩
  case round =>
    clear D N
    obtain ⟨k, hkl, rfl, HD, N⟩ := hrel
    by_cases hlt : k < l.length
    · obtain ⟨ad, B, bd, rfl, hc, hsb, hbm⟩ := HR.out.at_ hlt
      have hcell := Bl.some' N.out.bl hc
      obtain ⟨x, hx⟩ : ∃ x, x = l[k] := ⟨_, rfl⟩
      rw [← hx] at hcell hsb hbm hc
      have HX := Lib.hid hsb
      have HC := Lib.hid hc
      have hk0 : (0 : Int) ≤ (k : Int) := by omega
      have hk1 : (k : Int) < (l.length : Int) := by omega
      clear hc hx hsb
      obtain ⟨D', a, b, dd, g⟩ := HD.out
      have D := Lib.hid dd; have G := Lib.hid g
      clear dd g HD
      by_cases h1 : 1984 < x.length
      · have h1' : (1984 : Int) < (x.length : Int) := by omega
        go_wp2_with fail
        refine (alive25 _).mono ?_
        rintro e w4 ⟨rfl, b4⟩
        replace N := Lib.hid (N.out.bl_ D.out.plt b4); clear b4 D G
        go_wp2
        go_ret
        exact ⟨rfl, N.out.bl⟩
      · have h1' : ¬ (1984 : Int) < (x.length : Int) := by omega
        go_wp2_with fail
        refine (sv_whole D.out (fun _ _ => trivial) G.out (by omega) B bd _ x rfl (N.out.sls HX.out) (by omega) _ (.inl (by decide)) _ rfl).mono ?_
        rintro e w4 ⟨rfl, ⟨D4, a4, dd, g⟩, f⟩
        replace N := Lib.hid (N.out.fr f); replace D := Lib.hid dd; replace G := Lib.hid g; clear dd f g hcell
        go_wp2_with fail
        refine (ld_good D.out G.out (by omega)).mono ?_
        rintro e w5 ⟨A5, c5, rfl, s5, b5, _⟩
        replace N := Lib.hid (N.out.bl_ D.out.plt b5); replace D := Lib.hid (D.out.bl b5); clear b5
        have hcell := Bl.some' N.out.bl HC.out
        go_wp2_with fail
        refine (same_sl s5 (HX.out.step N.out.bl) (by omega)).mono ?_
        rintro e w6 ⟨rfl, b6⟩
        have N6 := Lib.hid (N.out.bl_ D.out.plt b6); have D6 := Lib.hid (D.out.bl b6); clear b6 hcell s5 N D
        go_wp2_with fail
        refine (dWaits_to D6.out 0 (by rw [G.out.calm.waits]; rfl)).mono ?_
        rintro e w7 ⟨rfl, rfl⟩
        go_wp2
        go_roundw
        case rel => exact ⟨k + 1, by omega, by go_num, ⟨_, _, _, D6.out, G.out⟩, N6⟩
        case measure => simp [intOf]; omega
    · obtain ⟨D', a, b, dd, g⟩ := HD.out
      have PL := Lib.hid dd.plt
      clear dd g HD
      go_wp2_with fail
      refine (alive25 _).mono ?_
      rintro e w4 ⟨rfl, b4⟩
      have N4 := Lib.hid (N.out.bl_ PL.out b4); clear b4 N
      go_wp2
      go_ret
      exact ⟨rfl, N4.out.bl⟩
end Go.Proofs.Ytebillkojmafoaa
