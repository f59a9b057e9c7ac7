/- DiskOwn's walk. -/
import Derived.Test.YtmjdmigjhllmeaaAlive24
import Derived.Test.YtmjdmigjhllmeaaSame
namespace Go.Proofs.Ytmjdmigjhllmeaa
open Go.RowKit
set_option linter.unusedVariables false

theorem New.bl_ {w w1 w2 : World} (h : New w w1) (hp : w.heap.size < w1.heap.size) (hb : Bl w1 w2) : New w w2 := h.fr (Fr.of_bl hb hp)
theorem New.setCell {w w1 : World} (h : New w w1) {g : Nat} (hg : w.heap.size < g) (i : Nat) (u : Value) : New w (w1.setCell ⟨g, i, none⟩ u) := by
  refine ⟨Below.setCell h.bl (by exact Nat.le_of_lt hg) u, fun b hb => ?_⟩
  have hs := h.safe b hb
  refine ⟨by simpa [World.setCell] using hs.1, hs.2.1, ?_⟩
  rw [rowOf_of_block (Below.heap_setCell w1 ⟨g, i, none⟩ u w.heap.size (by exact Nat.ne_of_lt hg))]
  exact hs.2.2
/-- A row of one's own: its block, and that it may be written. -/
theorem own_row {w : World} {base n c : Nat} {A : Option Addr} {l : List UInt8} (h : w.ownsRow base 5 1 (.slice A n c) n (l.map vb)) (hn : 0 < n) :
    ∃ g, A = some ⟨g, 0, none⟩ ∧ base ≤ g ∧ g < w.heap.size ∧ ∀ w' : World, w'.heap[g]? = w.heap[g]? → ∀ k, (hk : k < l.length) → w'.cell? ⟨g, k, none⟩ = some (vb l[k]) ∧ w'.frozen? ⟨g, k, none⟩ = false := by
  have hc := fun g hg => h.cells (g := g) hg
  rcases h.2 with ⟨_, h0⟩ | ⟨g, cap, cur, hv, hb, hg, _⟩
  · omega
  · injection hv with hA _ _
    subst hA
    refine ⟨g, rfl, hb, (Array.getElem?_eq_some_iff.1 hg).1, fun w' hw k hk => ⟨?_, ?_⟩⟩
    · have := hc g rfl k (vb l[k]) (by simp [hk])
      rw [Addr.add_mid, Nat.zero_add] at this
      exact (World.cell?_of_block (a := ⟨g, k, none⟩) hw).trans this
    · have : w.frozen? ⟨g, k, none⟩ = false := frozen_of_row w g k cur _ hg
      exact (World.frozen?_of_block (a := ⟨g, k, none⟩) hw).trans this

theorem own_e {l : List UInt8} (hl : l.length ≤ 64) : eWrite DS.fresh 5 l = 0 := eWrite_zero.2 ⟨rfl, by omega, by omega, hl⟩
theorem own_d {l : List UInt8} (hl : l.length ≤ 64) : dWrite DS.fresh 5 l = ⟨DS.fresh.there, DS.fresh.seen.set 5 l, [(5, l)], false⟩ := by unfold dWrite; rw [if_pos (own_e hl)]; rfl
theorem own_r {l : List UInt8} (hl : l.length ≤ 64) : bRead (dWrite DS.fresh 5 l) 5 = l ∧ eWrong (dWrite DS.fresh 5 l) 5 = 0 := by rw [own_d hl]; exact ⟨rfl, rfl⟩
theorem own_s {l : List UInt8} (hl : l.length ≤ 64) : eSync (dWrite DS.fresh 5 l) = 0 ∧ bRead (dSync (dWrite DS.fresh 5 l)) 5 = l ∧ eWrong (dSync (dWrite DS.fresh 5 l)) 5 = 0 := by rw [own_d hl]; exact ⟨rfl, rfl, rfl⟩

set_option maxRecDepth 100000 in
set_option maxHeartbeats 2000000 in
theorem diskOwn_main (A : Option Addr) (c : Nat) (l : List UInt8) (k : Nat) (ch : UInt8) (w : World) (h : SL w A c l) (hk : k < l.length) (hl : l.length ≤ 64) :
    Calls Try.prog 6 #[.slice A l.length c, .int .i64 (k : Int), .int .u8 ch.toNat] w fun e w' => e = .returned (.bool true) ∧ Bl w w' := by
  have HL := Lib.hid h
  have i1 : (0 : Int) ≤ (k : Int) := by omega
  have i2 : (k : Int) < (l.length : Int) := by omega
  have i3 := byte_lt ch
  obtain ⟨D1, hD1⟩ : ∃ D1, D1 = dWrite DS.fresh 5 l := ⟨_, rfl⟩
  have hE := Lib.hid (own_e hl)
  have hR := Lib.hid (own_r hl)
  have hS := Lib.hid (own_s hl)
  have hSh := Lib.hid (short_write short_fresh 5 l)
  rw [← hD1] at hR hS hSh
  have HD1 := Lib.hid hD1.symm
  clear h hD1
  go_enter Try.func6, Try.ntmps6
  go_wp2_with fail
  refine (dNew_to (fun _ => False) _).mono ?_
  rintro e w1 ⟨rfl, d, nw⟩
  have D := Lib.hid d; have N := Lib.hid nw; clear d nw
  have hsb := ((HL.out.step N.out.bl).step (Bl.alloc w1 (.cells #[] 5))).rb
  go_wp2_with (at_builtin; refine wpList_append_ap2 _ rfl (.tmp 34) (.tmp 35) _ rfl bytesT (Ap.empty (base := w1.heap.size) (some ⟨w1.heap.size, 0, none⟩)) rfl hsb rfl rfl (by omega) (by simp) ?_; intro A3 c3 w3 hd3 ho3; simp only [Nat.zero_add, List.nil_append] at hd3 ho3)
  have b13 : Bl w1 w3 := Below.trans (Bl.alloc w1 _) hd3.below
  obtain ⟨g, rfl, hg1, hg2, hrow⟩ := own_row (ho3 (by omega)) (by omega)
  have s3 : SL w3 (some ⟨g, 0, none⟩) c3 l := SL.of_apd hd3 rfl
  have hgs := D.out.safe_new b13 hg1 hg2
  have hpg : w.heap.size < g := Nat.lt_of_lt_of_le D.out.plt hg1
  have HG := Lib.hid hgs; have HP := Lib.hid hpg; have HR := Lib.hid hrow; have HG2 := Lib.hid hg2
  replace N := Lib.hid (N.out.bl_ D.out.plt b13)
  have D3 := Lib.hid ((D.out.bl b13).weak (Y := fun b => b ≠ g) (fun _ _ h => h.elim))
  clear hsb hd3 ho3 b13 hgs hpg hrow hg1 hg2 D
  refine (dWrite_to D3.out 5 _ _ _ l rfl s3 (by decide) (fun b hb e => by have := HG2.out; omega) 0 D1 hE.out HD1.out).mono ?_
  rintro e w4 ⟨rfl, d, f⟩
  have hgs := f.safe _ HG.out
  obtain ⟨q1, q2⟩ := HR.out w4 (f.block _ HG.out) k hk
  unfold vb at q1
  have D5 := Lib.hid (d.far (fun h => h rfl) hgs.2.1 hgs.2.2 k (.int .u8 (ch.toNat : Int)))
  have N5 := Lib.hid ((N.out.fr f).setCell HP.out k (.int .u8 (ch.toNat : Int)))
  clear d f D3 N s3 HR HG HP HG2 hgs
  go_wp2_with fail
  obtain ⟨W5, hW5⟩ : ∃ W, W = w4.setCell ⟨g, k, none⟩ (.int .u8 (ch.toNat : Int)) := ⟨_, rfl⟩
  rw [← hW5] at D5 N5 ⊢
  clear hW5 q1 q2
  refine (dRead_to D5.out 5 hSh.out _ _ hR.out.1 hR.out.2).mono ?_
  rintro e w6 ⟨A6, c6, rfl, s6, b6, n6, o6⟩
  obtain ⟨g2, rfl, hg1, hg2, hrow⟩ := own_row (o6 (by omega)) (by omega)
  have HP := Lib.hid (show w.heap.size < g2 from Nat.lt_of_lt_of_le D5.out.plt hg1)
  have D6 := Lib.hid ((D5.out.weak (Y := fun b => b ≠ g2) (fun b hb _ => by omega)).bl b6)
  have HG := Lib.hid (D5.out.safe_new b6 hg1 hg2)
  have HR := Lib.hid hrow
  have N6 := Lib.hid (N5.out.bl_ D5.out.plt b6)
  clear hrow hg1 hg2 n6 o6 b6 D5 N5
  go_wp2_with fail
  refine (same_sl s6 (HL.out.step N6.out.bl) (by omega)).mono ?_
  rintro e w7 ⟨rfl, b7⟩
  have HG2 := Lib.hid ((Fr.of_bl b7 D6.out.plt).safe _ HG.out)
  obtain ⟨q1, q2⟩ := HR.out w7 (b7.block _ HG.out.1) k hk
  unfold vb at q1
  have D7 := Lib.hid ((D6.out.bl b7).far (fun h => h rfl) HG2.out.2.1 HG2.out.2.2 k (.int .u8 (ch.toNat : Int)))
  have N7 := Lib.hid ((N6.out.bl_ D6.out.plt b7).setCell HP.out k (.int .u8 (ch.toNat : Int)))
  clear b7 D6 N6 s6 HR HG HP HG2
  go_wp2_with fail
  obtain ⟨W7, hW7⟩ : ∃ W, W = w7.setCell ⟨g2, k, none⟩ (.int .u8 (ch.toNat : Int)) := ⟨_, rfl⟩
  rw [← hW7] at D7 N7 ⊢
  clear hW7 q1 q2
  refine (dRead_to D7.out 5 hSh.out _ _ hR.out.1 hR.out.2).mono ?_
  rintro e w8 ⟨A8, c8, rfl, s8, b8, n8, o8⟩
  have S8 := Lib.hid (D7.out.sls b8 s8 n8)
  have D8 := Lib.hid (D7.out.bl b8)
  have N8 := Lib.hid (N7.out.bl_ D7.out.plt b8)
  clear n8 o8 b8 s8 D7 N7
  go_wp2_with fail
  refine (dSync_to D8.out 0 _ hS.out.1 rfl).mono ?_
  rintro e w9 ⟨rfl, d, f⟩
  have D9 := Lib.hid d; have N9 := Lib.hid (N8.out.fr f); have S9 := Lib.hid (S8.out.fr f)
  clear d f D8 N8 S8
  go_wp2_with fail
  refine (dRead_to D9.out 5 (short_sync hSh.out) _ _ hS.out.2.1 hS.out.2.2).mono ?_
  rintro e w10 ⟨A10, c10, rfl, s10, b10, n10, o10⟩
  have S10 := Lib.hid (S9.out.sl.step b10)
  have N10 := Lib.hid (N9.out.bl_ D9.out.plt b10)
  clear n10 o10 b10 D9 N9 S9
  go_wp2_with fail
  refine (alive24 _).mono ?_
  rintro e w11 ⟨rfl, b11⟩
  have B11 := Lib.hid (N10.out.bl.trans b11)
  replace s10 := s10.step b11
  have S11 := Lib.hid (S10.out.step b11)
  clear b11 N10 S10
  go_wp2_with fail
  refine (same_sl S11.out (HL.out.step B11.out) (by omega)).mono ?_
  rintro e w12 ⟨rfl, b12⟩
  replace s10 := s10.step b12
  have B12 := Lib.hid (B11.out.trans b12)
  clear b12 B11 S11
  go_wp2_with fail
  refine (same_sl s10 (HL.out.step B12.out) (by omega)).mono ?_
  rintro e w13 ⟨rfl, b13⟩
  have B13 := Lib.hid (B12.out.trans b13)
  clear b13
  go_wp2
  go_ret
  exact ⟨rfl, B13.out⟩

set_option maxRecDepth 100000 in
theorem diskOwn_walk (A : Option Addr) (c : Nat) (l : List UInt8) (at_ : Int) (ch : UInt8) (w : World) (h : SL w A c l) (hl : l.length ≤ maxLen) :
    Calls Try.prog 6 #[.slice A l.length c, .int .i64 at_, .int .u8 ch.toNat] w fun e w' => e = .returned (.bool true) ∧ Bl w w' := by
  unfold maxLen at hl
  by_cases h1 : 64 < l.length
  · clear h
    go_enter Try.func6, Try.ntmps6
    go_wp2_with fail
    refine (alive24 _).mono ?_
    rintro e w1 ⟨rfl, b⟩
    have bb := b; clear b
    go_wp2
    go_ret
    exact ⟨rfl, bb⟩
  · by_cases h2 : at_ < 0
    · clear h
      go_enter Try.func6, Try.ntmps6
      go_wp2_with fail
      refine (alive24 _).mono ?_
      rintro e w1 ⟨rfl, b⟩
      have bb := b; clear b
      go_wp2
      go_ret
      exact ⟨rfl, bb⟩
    · by_cases h3 : (l.length : Int) ≤ at_
      · clear h
        go_enter Try.func6, Try.ntmps6
        go_wp2_with fail
        refine (alive24 _).mono ?_
        rintro e w1 ⟨rfl, b⟩
        have bb := b; clear b
        go_wp2
        go_ret
        exact ⟨rfl, bb⟩
      · obtain ⟨k, rfl⟩ := Int.eq_ofNat_of_zero_le (show 0 ≤ at_ by omega)
        exact diskOwn_main A c l k ch w h (by omega) (by omega)
end Go.Proofs.Ytmjdmigjhllmeaa
