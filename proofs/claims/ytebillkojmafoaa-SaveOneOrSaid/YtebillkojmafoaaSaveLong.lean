/- SaveLong's walk. -/
import Derived.Test.YtebillkojmafoaaAlive25
import Derived.Test.YtebillkojmafoaaSame
namespace Go.Proofs.Ytebillkojmafoaa
open Go.RowKit
set_option linter.unusedVariables false

theorem crash_le {D : DS} {n a : Nat} {b : List UInt8} (h : Good D n a b) (ks : List Bool) : ∀ x ∈ (dCrash D ks).seen, x.length ≤ 64 := (back_good h ks).calm.le
theorem New.bl_ {w w1 w2 : World} (h : New w w1) (hp : w.heap.size < w1.heap.size) (hb : Bl w1 w2) : New w w2 := h.fr (Fr.of_bl hb hp)
theorem New.slt {w w1 : World} (h : New w w1) {A : Option Addr} {c : Nat} {l : List UInt8} (hs : SL w A c l) : SL w1 A c l := hs.step h.bl

set_option maxRecDepth 100000 in
set_option maxHeartbeats 2000000 in
theorem saveLong_walk (A B : Option Addr) (c d : Nat) (b k : List UInt8) (w : World) (h1 : SL w A c b) (h2 : SL w B d k) (hb : b.length ≤ maxLen) (hk : k.length ≤ maxLen) :
    Calls Try.prog 3 #[.slice A b.length c, .slice B k.length d] w fun e w' => e = .returned (.bool true) ∧ Bl w w' := by
  unfold maxLen at hb hk
  have HA := Lib.hid h1; have HB := Lib.hid h2
  clear h1 h2
  by_cases g1 : 3000 < b.length
  · have g1' : (3000 : Int) < (b.length : Int) := by omega
    go_enter Try.func3, Try.ntmps3
    go_wp2_with fail
    refine (alive25 _).mono ?_
    rintro e w1 ⟨rfl, bl⟩
    have bb := bl; clear bl
    go_wp2
    go_ret
    exact ⟨rfl, bb⟩
  have g1' : ¬ (3000 : Int) < (b.length : Int) := by omega
  by_cases g2 : 100 < k.length
  · have g2' : (100 : Int) < (k.length : Int) := by omega
    go_enter Try.func3, Try.ntmps3
    go_wp2_with fail
    refine (alive25 _).mono ?_
    rintro e w1 ⟨rfl, bl⟩
    have bb := bl; clear bl
    go_wp2
    go_ret
    exact ⟨rfl, bb⟩
  have g2' : ¬ (100 : Int) < (k.length : Int) := by omega
  by_cases g3 : 1984 < b.length
  · have g3' : (1984 : Int) < (b.length : Int) := by omega
    go_enter Try.func3, Try.ntmps3
    go_wp2_with fail
    refine (dNew_to (fun _ => True) _).mono ?_
    rintro e w1 ⟨rfl, dd, nw⟩
    have D := Lib.hid dd; have N := Lib.hid nw; clear dd nw
    go_wp2_with fail
    refine (sv_whole D.out (fun _ _ => trivial) good_fresh (by decide) B d _ k rfl (N.out.sls HB.out) (by omega) _ (.inl (by decide)) _ rfl).mono ?_
    rintro e w3 ⟨rfl, ⟨D3, a3, dd, g⟩, f⟩
    replace N := Lib.hid (N.out.fr f); replace D := Lib.hid dd; have G := Lib.hid g; clear dd f g
    go_wp2_with fail
    refine (save_large D.out (short_of_le G.out.calm.le) G.out.wrong A _ c g3 _).mono ?_
    rintro e w4 ⟨rfl, b4⟩
    replace N := Lib.hid (N.out.bl_ D.out.plt b4); replace D := Lib.hid (D.out.bl b4); clear b4
    go_wp2_with fail
    refine (ld_good D.out G.out (by decide)).mono ?_
    rintro e w5 ⟨A5, c5, rfl, s5, b5, o5⟩
    have S5 := Lib.hid (D.out.own_sl b5 s5 o5)
    replace N := Lib.hid (N.out.bl_ D.out.plt b5); replace D := Lib.hid (D.out.bl b5); clear b5 s5 o5
    go_wp2_with fail
    refine (cr_to D.out (by rw [G.out.calm.waits]; exact Nat.zero_le _) none 0 0 [] rfl (RVs.nil_ _ _ _) (by decide)).mono ?_
    rintro e w6 ⟨rfl, dd, f⟩
    replace N := Lib.hid (N.out.fr f); replace S5 := Lib.hid (S5.out.fr f); replace D := Lib.hid dd; clear dd f
    go_wp2_with fail
    refine (save_err D.out (short_of_le (crash_le G.out [])) 10 (wrong_down (crash_down [])) (by decide) B _ d _).mono ?_
    rintro e w7 ⟨rfl, b7⟩
    replace N := Lib.hid (N.out.bl_ D.out.plt b7); replace S5 := Lib.hid (S5.out.sl.step b7); clear b7 D G
    go_wp2_with fail
    refine (alive25 _).mono ?_
    rintro e w8 ⟨rfl, b8⟩
    replace S5 := Lib.hid (S5.out.step b8); have BL := Lib.hid (Bl.trans N.out.bl b8); clear b8 N
    go_wp2_with fail
    refine (same_sl S5.out (HB.out.step BL.out) (by omega)).mono ?_
    rintro e w9 ⟨rfl, b9⟩
    have BL9 := Lib.hid (Bl.trans BL.out b9); clear b9
    go_wp2
    go_ret
    exact ⟨rfl, BL9.out⟩
  · have g3' : ¬ (1984 : Int) < (b.length : Int) := by omega
    obtain ⟨q, hq⟩ : ∃ q : Int, ((many b + 3 : Nat) : Int) = q := ⟨_, rfl⟩
    have hq2 : (((b.length + 63) / 64 + 3 : Nat) : Int) = q := hq
    have hq3 : ((b.length : Int) + 63) / 64 + 3 = q := by omega
    have HQ := Lib.hid hq; have HQ2 := Lib.hid hq2; have HQ3 := Lib.hid hq3
    clear hq hq2 hq3
    go_enter Try.func3, Try.ntmps3
    go_wp2_with fail
    refine (dNew_to (fun _ => True) _).mono ?_
    rintro e w1 ⟨rfl, dd, nw⟩
    have D := Lib.hid dd; have N := Lib.hid nw; clear dd nw
    go_wp2_with fail
    refine (sv_whole D.out (fun _ _ => trivial) good_fresh (by decide) B d _ k rfl (N.out.sls HB.out) (by omega) _ (.inl (by decide)) _ rfl).mono ?_
    rintro e w3 ⟨rfl, ⟨D3, a3, dd, g⟩, f⟩
    replace N := Lib.hid (N.out.fr f); replace D := Lib.hid dd; have G := Lib.hid g; clear dd f g
    go_wp2_with fail
    refine (sv_whole D.out (fun _ _ => trivial) G.out (by decide) A c _ b rfl (N.out.sls HA.out) (by omega) _ (.inl (by decide)) q HQ.out).mono ?_
    rintro e w4 ⟨rfl, ⟨D4, a4, dd, g⟩, f⟩
    replace N := Lib.hid (N.out.fr f); replace D := Lib.hid dd; replace G := Lib.hid g; clear dd f g
    go_wp2_with fail
    refine (ld_good D.out G.out (by decide)).mono ?_
    rintro e w5 ⟨A5, c5, rfl, s5, b5, o5⟩
    have S5 := Lib.hid (D.out.own_sl b5 s5 o5)
    replace N := Lib.hid (N.out.bl_ D.out.plt b5); replace D := Lib.hid (D.out.bl b5); clear b5 s5 o5
    go_wp2_with fail
    refine (cr_to D.out (by rw [G.out.calm.waits]; exact Nat.zero_le _) none 0 0 [] rfl (RVs.nil_ _ _ _) (by decide)).mono ?_
    rintro e w6 ⟨rfl, dd, f⟩
    replace N := Lib.hid (N.out.fr f); replace S5 := Lib.hid (S5.out.fr f); replace D := Lib.hid dd; clear dd f
    go_wp2_with fail
    refine (save_err D.out (short_of_le (crash_le G.out [])) 10 (wrong_down (crash_down [])) (by decide) B _ d _).mono ?_
    rintro e w7 ⟨rfl, b7⟩
    replace N := Lib.hid (N.out.bl_ D.out.plt b7); replace S5 := Lib.hid (S5.out.sl.step b7); clear b7 D G
    go_wp2_with fail
    refine (alive25 _).mono ?_
    rintro e w8 ⟨rfl, b8⟩
    replace S5 := Lib.hid (S5.out.step b8); have BL := Lib.hid (Bl.trans N.out.bl b8); clear b8 N
    go_wp2_with fail
    refine (acts_any _ _ _ (by omega) _).mono ?_
    rintro e w8' ⟨rfl, rfl⟩
    rw [HQ2.out]
    have hq3 := HQ3.out
    go_wp2_with fail
    refine (same_sl S5.out (HA.out.step BL.out) (by omega)).mono ?_
    rintro e w9 ⟨rfl, b9⟩
    have BL9 := Lib.hid (Bl.trans BL.out b9); clear b9
    go_wp2
    go_ret
    exact ⟨rfl, BL9.out⟩
end Go.Proofs.Ytebillkojmafoaa
