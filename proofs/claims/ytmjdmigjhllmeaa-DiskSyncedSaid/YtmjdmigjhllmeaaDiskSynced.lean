/- DiskSynced's walk. -/
import Derived.Test.YtmjdmigjhllmeaaDiskLaw
import Derived.Test.YtmjdmigjhllmeaaDiskOwn
namespace Go.Proofs.Ytmjdmigjhllmeaa
open Go.RowKit
set_option linter.unusedVariables false

set_option maxRecDepth 100000 in
set_option maxHeartbeats 2000000 in
theorem diskSynced_main (A : Option Addr) (c : Nat) (l : List ActP) (at_ : Nat) (B : Option Addr) (d : Nat) (b : List UInt8) (w : World)
    (h : Acts w A l) (hb : SL w B d b) (hll : l.length ≤ 9223372036854775807) (hf : fewB l 40 = true) (hat : at_ < 64) (hbl : b.length ≤ 64) :
    Calls Try.prog 4 #[.slice A l.length c, .int .i64 (at_ : Int), .slice B b.length d] w fun e w' => e = .returned (.bool true) ∧ Bl w w' := by
  have hfw := few_any A c l 40 w h hll
  rw [hf] at hfw
  have hl40 : l.length ≤ 40 := (fewB_iff.1 hf).2
  obtain ⟨g1, g2, g3, g4, g5⟩ := synced_start hat hbl
  have HFW := Lib.hid hfw; have G1 := Lib.hid g1; have G2 := Lib.hid g2; have G3 := Lib.hid g3; have G4 := Lib.hid g4; have G5 := Lib.hid g5
  have HA := Lib.hid h; have HB := Lib.hid hb
  have i1 : (0 : Int) ≤ (at_ : Int) := by omega
  have i2 : (at_ : Int) ≤ 63 := by omega
  clear hfw g1 g2 g3 g4 g5 h hb hf
  go_enter Try.func4, Try.ntmps4
  go_wp2_with fail
  refine HFW.out.mono ?_
  rintro e w' ⟨rfl, rfl⟩
  go_wp2_with fail
  refine (dNew_to (fun _ => True) _).mono ?_
  rintro e w1 ⟨rfl, dd, nw⟩
  have D := Lib.hid dd; have N := Lib.hid nw; clear dd nw
  go_wp2_with fail
  refine (dWrite_to D.out at_ _ _ _ b rfl (HB.out.step N.out.bl) (by decide) (fun _ _ => trivial) 0 _ G1.out rfl).mono ?_
  rintro e w2 ⟨rfl, dd, f⟩
  replace N := Lib.hid (N.out.fr f); replace D := Lib.hid dd; clear dd f
  go_wp2_with fail
  refine (dSync_to D.out 0 _ G2.out rfl).mono ?_
  rintro e w3 ⟨rfl, dd, f⟩
  replace N := Lib.hid (N.out.fr f); replace D := Lib.hid dd; clear dd f
  go_wp2
  go_loopw [8] (fun i wr => ∃ k : Nat, k ≤ l.length ∧ i = .int .i64 k ∧ Hid (∃ D', IsDisk w.heap.size (fun _ => True) wr D' ∧ Synced at_ b D' ∧ D'.waits.length ≤ k) ∧ Hid (New w wr)) (fun i _ => l.length - (intOf i).toNat)
  case atStart => exact ⟨0, Nat.zero_le _, rfl, ⟨_, D.out, G3.out, Nat.le_of_eq G5.out⟩, N⟩
  case round =>
    clear D N
    obtain ⟨k, hk, rfl, HD, N⟩ := hrel
    by_cases hlt : k < l.length
    · obtain ⟨g, o, B', bc, K', kc, rfl, c0, c1, c2, c3, sb, sk, hkm, hbm⟩ := HA.out.news N.out hlt
      by_cases h1 : l[k].kind = 0 ∧ l[k].at_ = (at_ : Int)
      · have m0 : (l[k].kind != 0) = false := by simp [h1.1]
        have m1 : (l[k].at_ != (at_ : Int)) = false := by simp [h1.2]
        have HD2 : Hid (∃ D', IsDisk w.heap.size (fun _ => True) wr D' ∧ Synced at_ b D' ∧ D'.waits.length ≤ k + 1) := by
          obtain ⟨D', a1, a2, a3⟩ := HD.out
          exact ⟨D', a1, a2, by omega⟩
        clear sb sk h1 HD
        go_wp2
        go_roundw
        case rel => exact ⟨k + 1, by omega, by go_num, HD2, N⟩
        case measure => simp [intOf]; omega
      · obtain ⟨D', a1, a2, a3⟩ := HD.out
        have HC := Lib.hid (act_any (X := fun _ => True) (d := kc) a1 l[k] sb sk hkm (by omega) a2.tidy.short (fun _ _ => trivial) _ _ _ rfl rfl rfl)
        have HS := Lib.hid (synced_act a2 l[k] h1)
        have HWl := Lib.hid (Nat.le_trans (waits_act D' l[k]) (Nat.succ_le_succ a3))
        by_cases h0 : l[k].kind = 0
        · have m0 : (l[k].kind != 0) = false := by simp [h0]
          have m1 : (l[k].at_ != (at_ : Int)) = true := by
            simp only [bne_iff_ne, ne_eq]; exact fun e => h1 ⟨h0, e⟩
          clear sb sk h1 h0 HD a1 a2 a3
          go_wp2_with fail
          refine HC.out.mono ?_
          rintro e w4 ⟨A4, c4, rfl, _, dd, f⟩
          have N4 := Lib.hid (N.out.fr f)
          have HD2 : Hid (∃ D', IsDisk w.heap.size (fun _ => True) w4 D' ∧ Synced at_ b D' ∧ D'.waits.length ≤ k + 1) := ⟨_, dd, HS.out, HWl.out⟩
          clear dd f N HC HS HWl
          go_wp2
          go_roundw
          case rel => exact ⟨k + 1, by omega, by go_num, HD2, N4⟩
          case measure => simp [intOf]; omega
        · have m0 : (l[k].kind != 0) = true := by simp [h0]
          clear sb sk h1 h0 HD a1 a2 a3
          go_wp2_with fail
          refine HC.out.mono ?_
          rintro e w4 ⟨A4, c4, rfl, _, dd, f⟩
          have N4 := Lib.hid (N.out.fr f)
          have HD2 : Hid (∃ D', IsDisk w.heap.size (fun _ => True) w4 D' ∧ Synced at_ b D' ∧ D'.waits.length ≤ k + 1) := ⟨_, dd, HS.out, HWl.out⟩
          clear dd f N HC HS HWl
          go_wp2
          go_roundw
          case rel => exact ⟨k + 1, by omega, by go_num, HD2, N4⟩
          case measure => simp [intOf]; omega
    · obtain ⟨D', a1, a2, a3⟩ := HD.out
      obtain ⟨e1, e2⟩ := synced_end a2 hat
      have D := Lib.hid a1; have T := Lib.hid a2.tidy; have E1 := Lib.hid e1; have E2 := Lib.hid e2
      clear HD a1 a2 a3 e1 e2
      go_wp2_with fail
      refine (dUp_to D.out (dUp D') rfl).mono ?_
      rintro e w5 ⟨rfl, dd, f⟩
      replace N := Lib.hid (N.out.fr f); replace D := Lib.hid dd; clear dd f
      go_wp2_with fail
      refine (dRead_to D.out at_ (tidy_up T.out).short b 0 E1.out E2.out).mono ?_
      rintro e w6 ⟨A6, c6, rfl, s6, b6, n6, _⟩
      replace N := Lib.hid (N.out.bl_ D.out.plt b6)
      clear b6 n6 D
      go_wp2_with fail
      refine (alive24 _).mono ?_
      rintro e w7 ⟨rfl, b7⟩
      have S7 := s6.step b7
      have BB := Lib.hid (N.out.bl.trans b7)
      clear b7 s6 N
      go_wp2_with fail
      refine (same_sl (HB.out.step BB.out) S7 (by omega)).mono ?_
      rintro e w8 ⟨rfl, b8⟩
      have B8 := Lib.hid (BB.out.trans b8)
      clear b8 S7
      go_wp2
      go_ret
      exact ⟨rfl, B8.out⟩

set_option maxRecDepth 100000 in
theorem diskSynced_walk (A : Option Addr) (c : Nat) (l : List ActP) (at_ : Int) (B : Option Addr) (d : Nat) (b : List UInt8) (w : World)
    (h : Acts w A l) (hb : SL w B d b) (hll : l.length ≤ 9223372036854775807) (hbl : b.length ≤ 9223372036854775807) :
    Calls Try.prog 4 #[.slice A l.length c, .int .i64 at_, .slice B b.length d] w fun e w' => e = .returned (.bool true) ∧ Bl w w' := by
  have hfw := few_any A c l 40 w h hll
  by_cases hf : fewB l 40 = true
  · by_cases h1 : at_ < 0
    · rw [hf] at hfw
      have HFW := Lib.hid hfw
      clear hfw hf h hb
      go_enter Try.func4, Try.ntmps4
      go_wp2_with fail
      refine HFW.out.mono ?_
      rintro e w' ⟨rfl, rfl⟩
      go_wp2_with fail
      refine (alive24 _).mono ?_
      rintro e w1 ⟨rfl, b1⟩
      have bb := b1; clear b1
      go_wp2
      go_ret
      exact ⟨rfl, bb⟩
    · by_cases h2 : 63 < at_
      · rw [hf] at hfw
        have HFW := Lib.hid hfw
        clear hfw hf h hb
        go_enter Try.func4, Try.ntmps4
        go_wp2_with fail
        refine HFW.out.mono ?_
        rintro e w' ⟨rfl, rfl⟩
        go_wp2_with fail
        refine (alive24 _).mono ?_
        rintro e w1 ⟨rfl, b1⟩
        have bb := b1; clear b1
        go_wp2
        go_ret
        exact ⟨rfl, bb⟩
      · by_cases h3 : 64 < b.length
        · rw [hf] at hfw
          have HFW := Lib.hid hfw
          clear hfw hf h hb
          go_enter Try.func4, Try.ntmps4
          go_wp2_with fail
          refine HFW.out.mono ?_
          rintro e w' ⟨rfl, rfl⟩
          go_wp2_with fail
          refine (alive24 _).mono ?_
          rintro e w1 ⟨rfl, b1⟩
          have bb := b1; clear b1
          go_wp2
          go_ret
          exact ⟨rfl, bb⟩
        · obtain ⟨k, rfl⟩ := Int.eq_ofNat_of_zero_le (show 0 ≤ at_ by omega)
          exact diskSynced_main A c l k B d b w h hb hll hf (by omega) (by omega)
  · rw [show fewB l 40 = false from by simpa using hf] at hfw
    have HFW := Lib.hid hfw
    clear hfw hf h hb
    go_enter Try.func4, Try.ntmps4
    go_wp2_with fail
    refine HFW.out.mono ?_
    rintro e w' ⟨rfl, rfl⟩
    go_wp2_with fail
    refine (alive24 _).mono ?_
    rintro e w1 ⟨rfl, b1⟩
    have bb := b1; clear b1
    go_wp2
    go_ret
    exact ⟨rfl, bb⟩
end Go.Proofs.Ytmjdmigjhllmeaa
