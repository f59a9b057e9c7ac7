/- CrcBurst's walk. -/
import Derived.Test.YtcbfcbkpbaefaaaAlive12
import Derived.Test.YtcbfcbkpbaefaaaBurstPlain
import Derived.RegionTactic
namespace Go.Proofs.Ytcbfcbkpbaefaaa
open Go.RowKit
set_option linter.unusedVariables false

theorem ownsRow_mono {w : World} {base b' : Nat} {e : TypeId} {size n : Nat} {v : Value} {xs : List Value} (h : w.ownsRow base e size v n xs) (hb : b' ≤ base) : w.ownsRow b' e size v n xs :=
  ⟨h.1, h.2.imp id fun ⟨g, cap, cur, h1, h2, h3⟩ => ⟨g, cap, cur, h1, Nat.le_trans hb h2, h3⟩⟩

/-- The bytes in block g from its head on, which may be written. -/
def RowAt (w : World) (g : Nat) (x : List UInt8) : Prop := ∃ cs, Blk w g 5 cs ∧ ∀ j, (h : j < x.length) → cs[j]? = some (vb x[j])
theorem RowAt.sl {w : World} {g c : Nat} {x : List UInt8} (h : RowAt w g x) (hc : x.length ≤ c) : SL w (some ⟨g, 0, none⟩) c x := by
  obtain ⟨cs, hb, hx⟩ := h
  refine ⟨fun _ => ⟨_, rfl, hb.lt, fun j hj => ?_⟩, hc, fun h => by cases h⟩
  have e0 : (⟨g, 0, none⟩ : Addr).add j = ⟨g, j, none⟩ := by
    unfold Addr.add
    split
    · subst_vars; rfl
    · simp
  rw [e0, hb.cell]
  exact hx j hj
theorem RowAt.at_ {w : World} {g : Nat} {x : List UInt8} (h : RowAt w g x) {k : Nat} (hk : k < x.length) : w.cell? ⟨g, k, none⟩ = some (vb x[k]) ∧ w.frozen? ⟨g, k, none⟩ = false := by
  obtain ⟨cs, hb, hx⟩ := h
  exact ⟨by rw [hb.cell]; exact hx k hk, hb.frozen k⟩
theorem RowAt.set_ {w : World} {g : Nat} {x : List UInt8} (h : RowAt w g x) {k : Nat} (hk : k < x.length) (c : UInt8) : RowAt (w.setCell ⟨g, k, none⟩ (vb c)) g (x.set k c) := by
  obtain ⟨cs, hb, hx⟩ := h
  refine ⟨_, hb.set_ k (vb c), fun j hj => ?_⟩
  rw [List.length_set] at hj
  have hs : j < cs.size := (Array.getElem?_eq_some_iff.1 (hx j hj)).1
  rw [Array.getElem?_setIfInBounds, List.getElem_set]
  by_cases e : k = j
  · subst e
    rw [if_pos rfl, if_pos hs, if_pos rfl]
  · rw [if_neg e, if_neg e]; exact hx j hj
theorem RowAt.drew {w : World} {g : Nat} {x : List UInt8} (h : RowAt w g x) : RowAt w.drew g x := h
theorem RowAt.of_own {w : World} {base n c : Nat} {A : Option Addr} {x : List UInt8} (h : w.ownsRow base 5 1 (.slice A n c) n (x.map vb)) (hn : 0 < n) : ∃ g, A = some ⟨g, 0, none⟩ ∧ base ≤ g ∧ RowAt w g x := by
  rcases h.2 with ⟨_, h0⟩ | ⟨g, cap, cur, hv, hb, hg, h1, _, h3, h4⟩
  · omega
  · injection hv with hA _ _
    refine ⟨g, hA, hb, cur, hg, fun j hj => ?_⟩
    have := congrArg (·[j]?) h4
    simp only [List.getElem?_take, List.getElem?_map, List.getElem?_eq_getElem hj, Option.map_some] at this
    split at this
    · simpa using this
    · cases this

/-- What Put gives: a row of one's own. -/
def GivesRow (w : World) (x : List UInt8) (e : Ending) (w' : World) : Prop :=
  ∃ g c, e = .returned (.slice (some ⟨g, 0, none⟩) x.length c) ∧ w.heap.size ≤ g ∧ x.length ≤ c ∧ RowAt w' g x ∧ Bl w w'

set_option maxRecDepth 100000 in
theorem crcPut_row {w : World} {A : Option Addr} {c : Nat} {l : List UInt8} (h : SL w A c l) (x : List UInt8) (hx : x = crcPut l) (hl : l.length ≤ 140737488355324) :
    Calls Try.prog 18 #[.slice A l.length c] w (GivesRow w x) := by
  obtain ⟨n, hn⟩ : ∃ n, n = crcOf l := ⟨_, rfl⟩
  have HN := Lib.hid hn
  have HX := Lib.hid (show l ++ le4 n = x by rw [hx, hn]; rfl)
  clear hn hx
  go_enter Try.func18, Try.ntmps18
  go_wp2_with fail
  refine (of_sl h n HN.out (by omega)).mono ?_
  rintro e w1 ⟨rfl, b⟩
  replace h := h.step b
  go_wp2_with fail
  refine (clone_any _ _ _ _ h (by omega)).mono ?_
  rintro e w2 ⟨A2, c2, rfl, s2, ap, b2⟩
  have hm := RB.made_ w2 5 (le4 n) _ (0, 0) (le4_vals n)
  replace ap := ap.alloc (.cells #[.int .u8 ((n : Int) % 256), .int .u8 ((n : Int) / 256 % 256), .int .u8 ((n : Int) / 65536 % 256), .int .u8 ((n : Int) / 16777216 % 256)] 5)
  go_wp2_with (at_builtin; refine wpList_append_ap2 _ rfl (.tmp 7) (.tmp 19) _ rfl bytesT ap rfl hm rfl rfl (by omega) (by simpa using Nat.le_succ_of_le b2.size) ?_; intro A4 c4 w4 hd ho)
  go_ret
  have hl4 : l.length + 4 = x.length := by rw [← HX.out]; simp [le4_len]
  have b4 : Bl w w4 := b.trans (Below.trans (Below.trans b2 ((Bl.alloc w2 _).mono b2.size)) hd.below)
  have ho' := ho (by omega)
  rw [HX.out] at ho'
  obtain ⟨g, rfl, hg, hr⟩ := RowAt.of_own ho' (by omega)
  have hcap := hd.ap.cap
  show GivesRow w x (.returned (.slice (some ⟨g, 0, none⟩) (l.length + 4) c4)) w4
  rw [hl4] at hcap ⊢
  exact ⟨g, c4, rfl, Nat.le_trans b.size hg, hcap, hr, b4⟩

set_option maxRecDepth 100000 in
set_option maxHeartbeats 1000000 in
theorem crcBurst_main (A : Option Addr) (c : Nat) (l : List UInt8) (k b0 b1 : Nat) (w : World) (h : SL w A c l) (hl : l.length ≤ 2000) (hk : k + 5 ≤ l.length + 4) (h0 : 0 < b0) (hb0 : b0 < 2 ^ 32) (hb1 : b1 < 2 ^ 32) (x : List UInt8) (hx : Hid (x = crcPut l)) (hxl : Hid (x.length = l.length + 4)) :
    Calls Try.prog 5 #[.slice A l.length c, .int .i64 (k : Int), .agg #[.int .u32 (b0 : Int), .int .u32 (b1 : Int)]] w fun e w' => e = .returned (.bool true) ∧ Bl w w' := by
  have bb := Bl.alloc w (.cells #[.int .u32 (b0 : Int), .int .u32 (b1 : Int)] 38)
  have bk := Blk.new w 38 #[.int .u32 (b0 : Int), .int .u32 (b1 : Int)]
  replace h := h.step bb
  have HK := Lib.hid bk
  clear bk
  obtain ⟨P, hP⟩ : ∃ P, P = b0 * 2 ^ (b1 % 8) := ⟨_, rfl⟩
  have hs7 : 2 ^ (b1 % 8) ≤ 2 ^ 7 := Nat.pow_le_pow_right (by omega) (by omega)
  have hPm : P ≤ b0 * 2 ^ 7 := by rw [hP]; exact Nat.mul_le_mul_left _ hs7
  have hsh : IntKind.u64.wrap ((b0 : Int) * 2 ^ (b1 % 8)) = (P : Int) := by
    rw [show ((b0 : Int) * 2 ^ (b1 % 8)) = ((P : Nat) : Int) from by rw [hP]; push_cast; rfl]
    have : (P : Int) < 18446744073709551616 := by omega
    unfold IntKind.wrap
    simp [IntKind.signed, IntKind.bits]
    omega
  have HP := Lib.hid hP
  clear hP hs7 hPm
  have i0 : ((b0 : Int) == 0) = false := by simp; omega
  have i1 : (0 : Int) ≤ (k : Int) := by omega
  have i2 : (k : Int) ≤ (l.length : Int) - 1 := by omega
  go_enter Try.func5, Try.ntmps5
  go_wp2_with fail
  refine (crcPut_row h x hx.out (by omega)).mono ?_
  rintro e w1 ⟨g, c1, rfl, hg, hc1, hr, b1'⟩
  rw [hxl.out]
  have e0 := (HK.out.below b1' HK.out.lt).cell 0
  have e1 := (HK.out.below b1' HK.out.lt).cell 1
  simp only [List.getElem?_toArray, List.getElem?_cons_zero, List.getElem?_cons_succ] at e0 e1
  have HR := Lib.hid hr
  have hgw : w.heap.size + 1 ≤ g := by simpa using hg
  have HB := Lib.hid (bb.trans b1')
  clear hr b1' h HK hg
  go_wp2
  have HSH := Lib.hid hsh
  clear e0 e1 hsh
  go_loopw [8, 9] (fun n i wr => ∃ j : Nat, j ≤ 5 ∧ i = .int .i64 j ∧ n = .int .u64 ((P / 256 ^ j : Nat) : Int) ∧ Hid (RowAt wr g (bTo x k P j)) ∧ Hid (Bl w wr)) (fun _ i _ => 5 - (intOf i).toNat)
  case atStart => exact ⟨0, by omega, rfl, by rw [HSH.out]; simp, HR, HB⟩
  case round =>
    clear HR HB
    obtain ⟨j, hj, rfl, rfl, HR, HB⟩ := hrel
    by_cases hlt : j < 5
    · obtain ⟨y, hy⟩ : ∃ y, y = bTo x k P j := ⟨_, rfl⟩
      obtain ⟨Q, hQ⟩ : ∃ Q, Q = P / 256 ^ j := ⟨_, rfl⟩
      have hyl : y.length = l.length + 4 := by rw [hy, bTo_len, hxl.out]
      have hkj : k + j < y.length := by omega
      rw [← hy] at HR
      obtain ⟨q1, q2⟩ := HR.out.at_ hkj
      obtain ⟨z, hz⟩ : ∃ z, z = y[k + j] ^^^ UInt8.ofNat Q := ⟨_, rfl⟩
      have hzx : bits .xor .u8 ((y[k + j]).toNat : Int) ((Q : Int) % 256) = (z.toNat : Int) := by
        rw [show ((Q : Int) % 256) = ((Q % 256 : Nat) : Int) from by omega, u8_xor_nat _ _ (y[k + j]).toNat_lt (by omega), hz]
        simp
      have hset := HR.out.set_ hkj z
      have HN : Hid (y.set (k + j) z = bTo x k P (j + 1)) := by
        show _ = _
        simp only [bTo]
        rw [← hy, ← hQ, hz, List.getD_eq_getElem?_getD, List.getElem?_eq_getElem hkj]
        rfl
      rw [HN.out] at hset
      have HS := Lib.hid hset
      have HB2 : Hid (Bl w (wr.setCell ⟨g, k + j, none⟩ (vb z))) := Below.setCell HB.out (by show w.heap.size ≤ g; omega) _
      have HQ := Lib.hid hQ
      have hqb := byte_lt y[k + j]
      unfold vb at q1 HS HB2
      rw [← hQ]
      clear hset hz hy hQ HR HB HN
      have ik : (k : Int) + (j : Int) < (l.length : Int) + 4 := by omega
      have ik0 : (0 : Int) ≤ (k : Int) + (j : Int) := by omega
      go_wp2
      go_roundw
      case rel => exact ⟨j + 1, by omega, by go_num, congrArg (Value.int .u64) (by rw [Nat.pow_succ, ← Nat.div_div_eq_div_mul, ← HQ.out]; omega), HS, HB2⟩
      case measure => simp [intOf]; omega
    · obtain rfl : j = 5 := by omega
      obtain ⟨y, hy⟩ : ∃ y, y = bTo x k P 5 := ⟨_, rfl⟩
      have hyl : y.length = l.length + 4 := by rw [hy, bTo_len, hxl.out]
      have hz : y = List.zipWith (· ^^^ ·) (crcPut l) (burst k (l.length + 4) (b0 * 2 ^ (b1 % 8))) := by
        rw [hy, bTo_five (by rw [hxl.out]; omega), hxl.out, hx.out, HP.out]
      have hd : dCut y = ([], 8) := by
        unfold dCut
        rw [if_neg (by omega), if_neg ?_]
        have := burst_found (l := l) (k := y.take (y.length - 4)) hb0 (by omega) (show b1 % 8 < 8 by omega) hk
        rw [← hz] at this
        exact this
      rw [← hy] at HR
      have sy := HR.out.sl (c := c1) (by rw [hyl, ← hxl.out]; exact hc1)
      have hC := crcCut_sl sy (by omega)
      rw [hd] at hC
      have HC := Lib.hid hC
      have HYL := Lib.hid hyl.symm
      clear hC hd hz hy hyl sy HR
      go_wp2_with fail
      rw [HYL.out]
      refine HC.out.mono ?_
      rintro e w2 ⟨A2, c2, rfl, s2, b2⟩
      have bb := HB.out.trans b2
      clear b2 s2 HC
      go_wp2_with fail
      refine (alive12 _).mono ?_
      rintro e w3 ⟨rfl, b3⟩
      replace bb := bb.trans b3
      clear b3
      go_wp2
      go_ret
      exact ⟨rfl, bb⟩

set_option maxRecDepth 100000 in
theorem crcBurst_walk (A : Option Addr) (c : Nat) (l : List UInt8) (at_ : Int) (b0 b1 : Nat) (w : World) (h : SL w A c l) (hl : l.length ≤ 140737488351232) (hb0 : b0 < 2 ^ 32) (hb1 : b1 < 2 ^ 32) :
    Calls Try.prog 5 #[.slice A l.length c, .int .i64 at_, .agg #[.int .u32 (b0 : Int), .int .u32 (b1 : Int)]] w fun e w' => e = .returned (.bool true) ∧ Bl w w' := by
  obtain ⟨x, hx⟩ : ∃ x, x = crcPut l := ⟨_, rfl⟩
  have hxl : x.length = l.length + 4 := by rw [hx, crcPut_len]
  by_cases hmain : l.length ≤ 2000 ∧ 0 ≤ at_ ∧ at_ + 5 ≤ (l.length : Int) + 4 ∧ 0 < b0
  · obtain ⟨h1, h2, h3, h4⟩ := hmain
    obtain ⟨k, rfl⟩ := Int.eq_ofNat_of_zero_le h2
    exact crcBurst_main A c l k b0 b1 w h h1 (by omega) h4 hb0 hb1 x hx hxl
  · have bb := Bl.alloc w (.cells #[.int .u32 (b0 : Int), .int .u32 (b1 : Int)] 38)
    have bk := Blk.new w 38 #[.int .u32 (b0 : Int), .int .u32 (b1 : Int)]
    replace h := h.step bb
    have HK := Lib.hid bk
    have HX := Lib.hid hx
    have HXL := Lib.hid hxl
    have HM := Lib.hid hmain
    clear bk hx hxl hmain
    by_cases h1 : 2000 < l.length
    · go_enter Try.func5, Try.ntmps5
      go_wp2_with fail
      refine (crcPut_sl h x HX.out (by omega)).mono ?_
      rintro e w1 ⟨A1, c1, rfl, s1, _, b1'⟩
      rw [HXL.out]
      replace bb := bb.trans b1'
      have e0 := (HK.out.below b1' HK.out.lt).cell 0
      simp only [List.getElem?_toArray, List.getElem?_cons_zero] at e0
      clear b1' h s1
      go_wp2_with fail
      refine (alive12 _).mono ?_
      rintro e w3 ⟨rfl, b3⟩
      replace bb := bb.trans b3
      clear b3
      go_wp2
      go_ret
      exact ⟨rfl, bb⟩
    · by_cases h2 : at_ < 0
      · go_enter Try.func5, Try.ntmps5
        go_wp2_with fail
        refine (crcPut_sl h x HX.out (by omega)).mono ?_
        rintro e w1 ⟨A1, c1, rfl, s1, _, b1'⟩
        rw [HXL.out]
        replace bb := bb.trans b1'
        have e0 := (HK.out.below b1' HK.out.lt).cell 0
        simp only [List.getElem?_toArray, List.getElem?_cons_zero] at e0
        clear b1' h s1
        go_wp2_with fail
        refine (alive12 _).mono ?_
        rintro e w3 ⟨rfl, b3⟩
        replace bb := bb.trans b3
        clear b3
        go_wp2
        go_ret
        exact ⟨rfl, bb⟩
      · by_cases h3 : (l.length : Int) + 4 - 5 < at_
        · go_enter Try.func5, Try.ntmps5
          go_wp2_with fail
          refine (crcPut_sl h x HX.out (by omega)).mono ?_
          rintro e w1 ⟨A1, c1, rfl, s1, _, b1'⟩
          rw [HXL.out]
          replace bb := bb.trans b1'
          have e0 := (HK.out.below b1' HK.out.lt).cell 0
          simp only [List.getElem?_toArray, List.getElem?_cons_zero] at e0
          clear b1' h s1
          go_wp2_with fail
          refine (alive12 _).mono ?_
          rintro e w3 ⟨rfl, b3⟩
          replace bb := bb.trans b3
          clear b3
          go_wp2
          go_ret
          exact ⟨rfl, bb⟩
        · obtain rfl : b0 = 0 := by have := HM.out; omega
          go_enter Try.func5, Try.ntmps5
          go_wp2_with fail
          refine (crcPut_sl h x HX.out (by omega)).mono ?_
          rintro e w1 ⟨A1, c1, rfl, s1, _, b1'⟩
          rw [HXL.out]
          replace bb := bb.trans b1'
          have e0 := (HK.out.below b1' HK.out.lt).cell 0
          simp only [List.getElem?_toArray, List.getElem?_cons_zero] at e0
          clear b1' h s1
          go_wp2_with fail
          refine (alive12 _).mono ?_
          rintro e w3 ⟨rfl, b3⟩
          replace bb := bb.trans b3
          clear b3
          go_wp2
          go_ret
          exact ⟨rfl, bb⟩
end Go.Proofs.Ytcbfcbkpbaefaaa
