/- CrcTells' walk. -/
import Derived.Test.YtcbfcbkpbaefaaaAlive12
import Derived.Deep.RegionHeld3
import Derived.Deep.DrawnRows
namespace Go.Proofs.Ytcbfcbkpbaefaaa
open Go.RowKit
set_option linter.unusedVariables false
attribute [local go_sem ↓] Go.wp_at_zero Go.wp_at_succ

theorem rstep_sl {s : Nat} {c : UInt8} {w : World} (n : Nat) (hn : n = stp s c) (hs : s < 2 ^ 32) :
    Calls Try.prog 12 #[.int .u32 s, .int .u8 c.toNat] w fun e w' => e = .returned (.int .u32 n) ∧ Bl w w' := by
  subst hn
  exact (rstep_any s c w hs).mono fun e w' ⟨h, hw⟩ => ⟨h, hw ▸ Bl.refl _⟩
theorem on_sl' {w : World} {A : Option Addr} {c : Nat} {l : List UInt8} (h : SL w A c l) (s n : Nat) (hn : n = crcOn s l) (hl : l.length ≤ 9223372036854775807) (hs : s < 2 ^ 32) :
    Calls Try.prog 13 #[.int .u32 s, .slice A l.length c] w fun e w' => e = .returned (.int .u32 n) ∧ Bl w w' := by
  subst hn
  exact on_sl h s hl hs
theorem ron_sl {w : World} {A : Option Addr} {c : Nat} {l : List UInt8} (h : SL w A c l) (s n : Nat) (hn : n = crcOn s l) (hl : l.length ≤ 9223372036854775807) (hs : s < 2 ^ 32) :
    Calls Try.prog 14 #[.int .u32 s, .slice A l.length c] w fun e w' => e = .returned (.int .u32 n) ∧ Bl w w' := by
  subst hn
  exact (ron_any s A c _ l w h.rb hl hs).mono fun e w' ⟨h, hw⟩ => ⟨h, hw ▸ Bl.refl _⟩
theorem rof_sl' {w : World} {A : Option Addr} {c : Nat} {l : List UInt8} (h : SL w A c l) (n : Nat) (hn : n = crcOf l) (hl : l.length ≤ 9223372036854775807) :
    Calls Try.prog 16 #[.slice A l.length c] w fun e w' => e = .returned (.int .u32 n) ∧ Bl w w' :=
  (rof_sl h n hn hl).mono fun e w' ⟨h, hw⟩ => ⟨h, hw ▸ Bl.refl _⟩
theorem dCut_len (l : List UInt8) : (dCut l).1.length ≤ l.length := by
  unfold dCut
  split
  · simp
  · split
    · simp only [List.length_take]; omega
    · simp

set_option maxRecDepth 100000 in
set_option maxHeartbeats 4000000 in
theorem crcTells_walk (s : Nat) (ch : UInt8) (A : Option Addr) (c : Nat) (l : List UInt8) (w : World) (h : SL w A c l) (hl : l.length ≤ maxLen) (hs : s < 2 ^ 32) :
    Calls Try.prog 3 #[.int .u32 s, .int .u8 ch.toNat, .slice A l.length c] w fun e w' => e = .returned (.bool true) ∧ Bl w w' := by
  unfold maxLen at hl
  have i1 := (byte_lt ch).1
  have i2 : (ch.toNat : Int) < 256 := by have := byte_lt ch; omega
  by_cases hlen : 2000 < l.length
  · clear h
    go_enter Try.func3, Try.ntmps3
    go_wp2_with fail
    refine (alive12 _).mono ?_
    rintro e w1 ⟨rfl, b⟩
    have bb := b; clear b
    go_wp2
    go_ret
    exact ⟨rfl, bb⟩
  · have HS := Lib.hid hs
    obtain ⟨p, k, hpk⟩ : ∃ p k, dCut l = (p, k) := ⟨_, _, rfl⟩
    have hpl : p.length ≤ 2000 := by have := dCut_len l; rw [hpk] at this; simp only at this; omega
    have h1 := fun (w : World) (h : SL w A c l) => crcCut_sl h (by omega)
    have h2 := fun (w : World) (h : SL w A c l) => rcrcCut_sl h (by omega)
    rw [hpk] at h1 h2
    have H1 := Lib.hid h1
    have H2 := Lib.hid h2
    obtain ⟨T, hT⟩ : ∃ T, T = stp 0 ch := ⟨_, rfl⟩
    obtain ⟨N, hN⟩ : ∃ N, N = crcOn s l := ⟨_, rfl⟩
    obtain ⟨M, hM⟩ : ∃ M, M = crcOf l := ⟨_, rfl⟩
    obtain ⟨x, hx⟩ : ∃ x, x = crcPut l := ⟨_, rfl⟩
    have hxl : x.length ≤ 2004 := by rw [hx, crcPut_len]; omega
    have HT := Lib.hid hT; have HN := Lib.hid hN; have HM := Lib.hid hM; have HX := Lib.hid hx
    clear h1 h2 hpk hT hN hM hx hs
    go_enter Try.func3, Try.ntmps3
    go_wp2_with fail
    refine (table_sl _).mono ?_
    rintro e w1 ⟨rfl, b⟩
    have bb := b.trans (tab_bl w1)
    replace h := (h.step b).step (tab_bl w1)
    have tl := tab_laid w1
    have hz := zero_tab w1
    have B1 := Lib.hid (Blk.new w1 25 (tabTo 0))
    clear b
    obtain ⟨W, hW⟩ : ∃ W, W = (w1.alloc (.cells (tabTo 0) 25)).setRow w1.heap.size (tabTo 256) := ⟨_, rfl⟩
    rw [← hW] at bb h tl
    have HW := Lib.hid hW
    clear hW
    go_wp2_with (refine wpList_store_row rfl 25 (.tmp 7) (.tmp 16) rfl w1.heap.size (tabTo 256) rfl rfl 25 (tabTo 0) B1.out (by rw [tabTo_size]; kernel_rfl) (by rw [tabTo_size, tabTo_size]) (tabTo_one _) ?_; rw [← HW.out]; clear B1 hz)
    have ec := tl.cell ch.toNat
    rw [tabTo_get (by omega), if_pos (by omega), show btk 8 ch.toNat = T from by rw [HT.out]; simp [stp]] at ec
    have hg : w1.heap.size < W.heap.size := tl.lt
    clear tl HW
    obtain ⟨g, hgg⟩ : ∃ g, g = w1.heap.size := ⟨_, rfl⟩
    rw [← hgg] at ec hg ⊢
    clear hgg
    refine (H1.out _ h).mono ?_
    rintro e w2 ⟨A2, c2, rfl, s2, b⟩
    replace h := h.step b; replace bb := bb.trans b; replace ec := (Bl.cell b (p := ⟨g, ch.toNat, none⟩) hg).trans ec; replace hg := Nat.lt_of_lt_of_le hg b.size; clear b
    go_wp2_with fail
    refine (H2.out _ h).mono ?_
    rintro e w3 ⟨A3, c3, rfl, s3, b⟩
    replace h := h.step b; replace s2 := s2.step b; replace bb := bb.trans b; replace ec := (Bl.cell b (p := ⟨g, ch.toNat, none⟩) hg).trans ec; replace hg := Nat.lt_of_lt_of_le hg b.size; clear b H1 H2
    go_wp2
    go_region_held3 (fun w' => w'.cell? ⟨g, ch.toNat, none⟩ = some (.int .u32 (T : Int))) (exact ec)
      (first
      | (go_at_call 8; refine (alive12 _).mono ?_; rintro e w100 ⟨rfl, b⟩; replace b := (Bl.drewN w3 1).trans b; replace h := h.step b; replace s2 := s2.step b; replace s3 := s3.step b; replace ec := (Bl.cell b (p := ⟨g, ch.toNat, none⟩) hg).trans ec; replace hg := Nat.lt_of_lt_of_le hg b.size; replace bb := bb.trans b; clear b)
      | (go_at_call 12; refine (rstep_sl T HT.out (by omega)).mono ?_; rintro e w101 ⟨rfl, b⟩; replace h := h.step b; replace s2 := s2.step b; replace s3 := s3.step b; replace ec := (Bl.cell b (p := ⟨g, ch.toNat, none⟩) hg).trans ec; replace hg := Nat.lt_of_lt_of_le hg b.size; replace bb := bb.trans b; clear b)
      | (go_at_call 13; refine (on_sl' h s N HN.out (by omega) HS.out).mono ?_; rintro e w102 ⟨rfl, b⟩; replace h := h.step b; replace s2 := s2.step b; replace s3 := s3.step b; replace ec := (Bl.cell b (p := ⟨g, ch.toNat, none⟩) hg).trans ec; replace hg := Nat.lt_of_lt_of_le hg b.size; replace bb := bb.trans b; clear b)
      | (go_at_call 14; refine (ron_sl h s N HN.out (by omega) HS.out).mono ?_; rintro e w103 ⟨rfl, b⟩; replace h := h.step b; replace s2 := s2.step b; replace s3 := s3.step b; replace ec := (Bl.cell b (p := ⟨g, ch.toNat, none⟩) hg).trans ec; replace hg := Nat.lt_of_lt_of_le hg b.size; replace bb := bb.trans b; clear b)
      | (go_at_call 15; refine (of_sl h M HM.out (by omega)).mono ?_; rintro e w104 ⟨rfl, b⟩; replace h := h.step b; replace s2 := s2.step b; replace s3 := s3.step b; replace ec := (Bl.cell b (p := ⟨g, ch.toNat, none⟩) hg).trans ec; replace hg := Nat.lt_of_lt_of_le hg b.size; replace bb := bb.trans b; clear b)
      | (go_at_call 16; refine (rof_sl' h M HM.out (by omega)).mono ?_; rintro e w105 ⟨rfl, b⟩; replace h := h.step b; replace s2 := s2.step b; replace s3 := s3.step b; replace ec := (Bl.cell b (p := ⟨g, ch.toNat, none⟩) hg).trans ec; replace hg := Nat.lt_of_lt_of_le hg b.size; replace bb := bb.trans b; clear b)
      | (go_at_call 18; refine (crcPut_sl h x HX.out (by omega)).mono ?_; rintro e w106 ⟨A4, c4, rfl, s4, _, b⟩; replace h := h.step b; replace s2 := s2.step b; replace s3 := s3.step b; replace ec := (Bl.cell b (p := ⟨g, ch.toNat, none⟩) hg).trans ec; replace hg := Nat.lt_of_lt_of_le hg b.size; replace bb := bb.trans b; clear b)
      | (go_at_call 19; refine (rcrcPut_sl h x HX.out (by omega)).mono ?_; rintro e w107 ⟨A5, c5, rfl, s5, _, b⟩; replace h := h.step b; replace s2 := s2.step b; replace s3 := s3.step b; replace s4 := s4.step b; replace ec := (Bl.cell b (p := ⟨g, ch.toNat, none⟩) hg).trans ec; replace hg := Nat.lt_of_lt_of_le hg b.size; replace bb := bb.trans b; clear b)
      | (go_at_call 17; refine (same_sl s4 s5 (by omega)).mono ?_; rintro e w108 ⟨rfl, b⟩; clear s4 s5; replace h := h.step b; replace s2 := s2.step b; replace s3 := s3.step b; replace ec := (Bl.cell b (p := ⟨g, ch.toNat, none⟩) hg).trans ec; replace hg := Nat.lt_of_lt_of_le hg b.size; replace bb := bb.trans b; clear b)
      | (go_at_call 17; refine (same_sl s2 s3 (by omega)).mono ?_; rintro e w109 ⟨rfl, b⟩; clear s2 s3; replace h := h.step b; replace ec := (Bl.cell b (p := ⟨g, ch.toNat, none⟩) hg).trans ec; replace hg := Nat.lt_of_lt_of_le hg b.size; replace bb := bb.trans b; clear b))
    go_wp2
    go_ret
    exact ⟨rfl, bb⟩
end Go.Proofs.Ytcbfcbkpbaefaaa
