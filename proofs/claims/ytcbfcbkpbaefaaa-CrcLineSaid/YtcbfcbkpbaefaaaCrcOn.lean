/- CrcOn's walk. -/
import Derived.Test.YtcbfcbkpbaefaaaCrcTells
namespace Go.Proofs.Ytcbfcbkpbaefaaa
open Go.RowKit
set_option linter.unusedVariables false

theorem RB.one_ (w : World) (e : TypeId) (c : UInt8) : RB (w.alloc (.cells #[.int .u8 c.toNat] e)) (w.alloc (.cells #[.int .u8 c.toNat] e)).heap.size (some ⟨w.heap.size, 0, none⟩) [c] :=
  (RB.one w e c c.toNat rfl).more (by simp)
theorem xor_inv {n : Nat} (h : n < 2 ^ 32) : bits .xor .u32 (n : Int) 4294967295 = ((inv n : Nat) : Int) := by
  rw [show (4294967295 : Int) = ((4294967295 : Nat) : Int) from rfl, u32_xor_nat _ _ (by omega) (by omega)]; rfl

set_option maxRecDepth 100000 in
set_option maxHeartbeats 2000000 in
theorem crcOn_walk (A D : Option Addr) (c d : Nat) (l k : List UInt8) (ch : UInt8) (w : World) (h : SL w A c l) (hk : SL w D d k) (hl : l.length ≤ 140737488351232) (hkl : k.length ≤ 140737488351232) :
    Calls Try.prog 4 #[.slice A l.length c, .slice D k.length d, .int .u8 ch.toNat] w fun e w' => e = .returned (.bool true) ∧ Bl w w' := by
  have i1 := (byte_lt ch).1
  have i2 : (ch.toNat : Int) < 256 := by have := byte_lt ch; omega
  by_cases hlen : 2000 < l.length + k.length
  · clear h hk
    go_enter Try.func4, Try.ntmps4
    go_wp2_with fail
    refine (alive12 _).mono ?_
    rintro e w1 ⟨rfl, b⟩
    have bb := b; clear b
    go_wp2
    go_ret
    exact ⟨rfl, bb⟩
  · obtain ⟨x, hx⟩ : ∃ x, x = crcPut l := ⟨_, rfl⟩
    obtain ⟨y, hy⟩ : ∃ y, y = l ++ k := ⟨_, rfl⟩
    obtain ⟨M, hM⟩ : ∃ M, M = crcOf l := ⟨_, rfl⟩
    obtain ⟨O, hO⟩ : ∃ O, O = crcOf y := ⟨_, rfl⟩
    obtain ⟨V, hV⟩ : ∃ V, V = inv M := ⟨_, rfl⟩
    obtain ⟨i, hi⟩ : ∃ i, i = (V % 256) ^^^ ch.toNat := ⟨_, rfl⟩
    obtain ⟨T, hT⟩ : ∃ T, T = btk 8 i := ⟨_, rfl⟩
    obtain ⟨Z, hZ⟩ : ∃ Z, Z = stp V ch := ⟨_, rfl⟩
    obtain ⟨U, hU⟩ : ∃ U, U = inv Z := ⟨_, rfl⟩
    have hxl : x.length ≤ 2004 := by rw [hx, crcPut_len]; omega
    have hM32 : M < 2 ^ 32 := by rw [hM]; exact crcOf_lt l
    have hV32 : V < 2 ^ 32 := by rw [hV]; exact inv_lt hM32
    have hZ32 : Z < 2 ^ 32 := by rw [hZ]; exact stp_lt hV32 ch
    have i256 : i < 256 := by rw [hi]; exact tab_idx_lt _ _
    have hidx := tab_idx (s := V) ch
    rw [← hi] at hidx
    have hxr : bits .xor .u32 ((V : Int) / 256) (T : Int) = (Z : Int) := by
      rw [show ((V : Int) / 256) = ((V / 256 : Nat) : Int) from by omega, u32_xor_nat _ _ (by omega) (by rw [hT]; exact btk_lt 8 (by omega)), hZ, stp_table, hT, hi]
    have hxm := xor_inv hM32
    rw [← hV] at hxm
    have hxz := xor_inv hZ32
    rw [← hU] at hxz
    have HU : Hid (U = crcOn M [ch]) := by show _ = _; rw [hU, hZ, hV]; rfl
    have HO2 : Hid (O = crcOn M k) := by show _ = _; rw [hO, hM, hy]; exact (crcOn_append l k 0).symm
    have hC := fun (w : World) (A : Option Addr) (c : Nat) (h : SL w A c x) => crcCut_sl h (by omega)
    rw [hx, dCut_put, ← hx] at hC
    have HC := Lib.hid hC
    have HX := Lib.hid hx; have HY := Lib.hid hy.symm; have HM := Lib.hid hM; have HO := Lib.hid hO; have HT := Lib.hid hT
    have HM32 := Lib.hid hM32
    have HYN := Lib.hid (show l.length + k.length = y.length by rw [hy, List.length_append])
    clear hx hy hM hO hV hi hT hZ hU hM32 hV32 hZ32 hC
    go_enter Try.func4, Try.ntmps4
    have hsb := (h.step (Bl.alloc w (.cells #[] 5))).rb
    go_wp2_with (first
      | (at_builtin; refine wpList_append_ap _ rfl (.tmp 21) (.tmp 22) _ rfl bytesT (Ap.empty (base := w.heap.size) (some ⟨w.heap.size, 0, none⟩)) rfl hsb rfl rfl (by omega) (by simp) ?_; intro A3 c3 w3 hd3; simp only [Nat.zero_add, List.nil_append] at hd3; have b23 : Bl w w3 := Below.trans (Bl.alloc w _) hd3.below; have hsm := (hk.step b23).rb)
      | (at_builtin; refine wpList_append_ap _ rfl (.tmp 23) (.tmp 24) _ rfl bytesT hd3.ap rfl hsm rfl rfl (by omega) b23.size ?_; intro A4 c4 w4 hd4)
      | fail)
    rw [HYN.out]
    have sy : SL w4 A4 c4 y := SL.of_apd hd4 HY.out
    have bb : Bl w w4 := Below.trans b23 hd4.below
    replace h := h.step bb; replace hk := hk.step bb; clear b23 hsb hsm hd3 hd4
    refine (crcPut_sl h x HX.out (by omega)).mono ?_
    rintro e w5 ⟨A5, c5, rfl, sx, _, b⟩
    replace h := h.step b; replace hk := hk.step b; replace sy := sy.step b; replace bb := bb.trans b; clear b
    go_wp2_with fail
    refine (HC.out _ _ _ sx).mono ?_
    rintro e w6 ⟨A6, c6, rfl, sl, b⟩
    replace h := h.step b; replace hk := hk.step b; replace sy := sy.step b; replace bb := bb.trans b; clear b sx HC
    go_wp2_with fail
    refine (of_sl h M HM.out (by omega)).mono ?_
    rintro e w7 ⟨rfl, b⟩
    replace h := h.step b; replace hk := hk.step b; replace sy := sy.step b; replace sl := sl.step b; replace bb := bb.trans b; clear b
    go_wp2_with fail
    refine (table_sl _).mono ?_
    rintro e w8 ⟨rfl, b⟩
    replace b := b.trans (tab_bl w8)
    replace h := h.step b; replace hk := hk.step b; replace sy := sy.step b; replace sl := sl.step b; replace bb := bb.trans b; clear b
    have tl := tab_laid w8
    have hz := zero_tab w8
    have B1 := Lib.hid (Blk.new w8 25 (tabTo 0))
    obtain ⟨W, hW⟩ : ∃ W, W = (w8.alloc (.cells (tabTo 0) 25)).setRow w8.heap.size (tabTo 256) := ⟨_, rfl⟩
    rw [← hW] at bb h hk sy sl tl
    have HW := Lib.hid hW
    clear hW
    have ec := tl.cell i
    rw [tabTo_get i256, if_pos i256, ← HT.out] at ec
    clear tl
    go_wp2_with (refine wpList_store_row rfl 25 (.tmp 11) (.tmp 35) rfl w8.heap.size (tabTo 256) rfl rfl 25 (tabTo 0) B1.out (by rw [tabTo_size]; kernel_rfl) (by rw [tabTo_size, tabTo_size]) (tabTo_one _) ?_; rw [← HW.out]; clear B1 hz HW)
    refine (of_sl h M HM.out (by omega)).mono ?_
    rintro e w9 ⟨rfl, b⟩
    replace h := h.step b; replace hk := hk.step b; replace sy := sy.step b; replace sl := sl.step b; replace bb := bb.trans b; clear b ec hidx hxr
    go_wp2_with fail
    have b := Bl.alloc w9 (.cells #[.int .u8 ch.toNat] 5)
    refine (on_sl' (l := [ch]) ⟨RB.one_ w9 5 ch, by simp, (fun h => by cases h)⟩ M U HU.out (by simp) HM32.out).mono ?_
    rintro e w10 ⟨rfl, b2⟩
    replace b := b.trans b2
    replace h := h.step b; replace hk := hk.step b; replace sy := sy.step b; replace sl := sl.step b; replace bb := bb.trans b; clear b b2
    go_wp2_with fail
    refine (alive12 _).mono ?_
    rintro e w11 ⟨rfl, b⟩
    replace h := h.step b; replace hk := hk.step b; replace sy := sy.step b; replace sl := sl.step b; replace bb := bb.trans b; clear b
    go_wp2_with fail
    refine (of_sl h M HM.out (by omega)).mono ?_
    rintro e w12 ⟨rfl, b⟩
    replace h := h.step b; replace hk := hk.step b; replace sy := sy.step b; replace sl := sl.step b; replace bb := bb.trans b; clear b
    go_wp2_with fail
    refine (on_sl' hk M O HO2.out (by omega) HM32.out).mono ?_
    rintro e w13 ⟨rfl, b⟩
    clear hk
    replace h := h.step b; replace sy := sy.step b; replace sl := sl.step b; replace bb := bb.trans b; clear b
    go_wp2_with fail
    refine (of_sl sy O HO.out (by have := HYN.out; omega)).mono ?_
    rintro e w14 ⟨rfl, b⟩
    clear sy
    replace h := h.step b; replace sl := sl.step b; replace bb := bb.trans b; clear b
    go_wp2_with fail
    refine (same_sl sl h (by omega)).mono ?_
    rintro e w15 ⟨rfl, b⟩
    clear sl h
    replace bb := bb.trans b; clear b
    go_wp2
    go_ret
    exact ⟨rfl, bb⟩
end Go.Proofs.Ytcbfcbkpbaefaaa
