/- CrcLine's walk. -/
import Derived.Test.YtcbfcbkpbaefaaaCrcOn
import Derived.Test.YtcbfcbkpbaefaaaMake
import Derived.BigRegion
import Derived.StillTailTactics
import Derived.Deep.RegionHeld3
import Derived.Deep.DrawnRows
namespace Go.Proofs.Ytcbfcbkpbaefaaa
open Go.RowKit
set_option linter.unusedVariables false
attribute [local go_sem ↓] Go.wp_at_zero Go.wp_at_succ

/-- The row after k rounds. -/
def lineTo (l m : List UInt8) (k : Nat) : List UInt8 := (List.zipWith (· ^^^ ·) l m).take k ++ List.replicate (l.length - k) 0
theorem lineTo_len {l m : List UInt8} {k : Nat} (h : l.length = m.length) (hk : k ≤ l.length) : (lineTo l m k).length = l.length := by
  simp [lineTo, h]; omega
theorem lineTo_set {l m : List UInt8} {k : Nat} (h : l.length = m.length) (hk : k < l.length) (hk2 : k < m.length) : (lineTo l m k).set k (l[k] ^^^ m[k]) = lineTo l m (k + 1) := by
  have hz : (List.zipWith (· ^^^ ·) l m).length = l.length := by simp [h]
  apply List.ext_getElem?
  intro i
  unfold lineTo
  rw [List.getElem?_set]
  by_cases hi : k = i
  · subst hi
    rw [if_pos rfl, if_pos (by simp [h]; omega), List.getElem?_append_left (by simp; omega), List.getElem?_take, if_pos (by omega)]
    rw [List.getElem?_eq_getElem (by rw [hz]; exact hk)]
    simp
  · rw [if_neg hi]
    rcases Nat.lt_trichotomy i k with hlt | heq | hgt
    · rw [List.getElem?_append_left (by simp; omega), List.getElem?_append_left (by simp; omega), List.getElem?_take, List.getElem?_take, if_pos hlt, if_pos (by omega)]
    · omega
    · rw [List.getElem?_append_right (by simp; omega), List.getElem?_append_right (by simp; omega)]
      simp only [List.length_take, hz, List.getElem?_replicate]
      rw [show min k l.length = k from by omega, show min (k + 1) l.length = k + 1 from by omega]
      have : i - k < l.length - k ↔ i - (k + 1) < l.length - (k + 1) := by omega
      simp only [this]
theorem vals_set (x : List UInt8) (k : Nat) (c : UInt8) : (x.map vb).toArray.setIfInBounds k (vb c) = ((x.set k c).map vb).toArray := by
  simp
theorem byte_xor_int (a b : UInt8) : bits .xor .u8 (a.toNat : Int) (b.toNat : Int) = ((a ^^^ b).toNat : Int) := by
  rw [u8_xor_nat _ _ a.toNat_lt b.toNat_lt]; simp

theorem Bl.some {w w' : World} (b : Bl w w') {p : Addr} {v : Value} (h : w.cell? p = some v) : w'.cell? p = some v := by
  refine (Bl.cell b ?_).trans h
  rcases Nat.lt_or_ge p.block w.heap.size with h' | h'
  · exact h'
  · simp [World.cell?, Array.getElem?_eq_none h'] at h

theorem keep6 {w w' : World} (b : Bl w w') {p1 p2 p3 p4 p5 p6 : Addr} {v1 v2 v3 v4 v5 v6 : Value} (h : w.cell? p1 = some v1 ∧ w.cell? p2 = some v2 ∧ w.cell? p3 = some v3 ∧ w.cell? p4 = some v4 ∧ w.cell? p5 = some v5 ∧ w.cell? p6 = some v6) :
    w'.cell? p1 = some v1 ∧ w'.cell? p2 = some v2 ∧ w'.cell? p3 = some v3 ∧ w'.cell? p4 = some v4 ∧ w'.cell? p5 = some v5 ∧ w'.cell? p6 = some v6 :=
  ⟨Bl.some b h.1, Bl.some b h.2.1, Bl.some b h.2.2.1, Bl.some b h.2.2.2.1, Bl.some b h.2.2.2.2.1, Bl.some b h.2.2.2.2.2⟩
theorem made_sl (w : World) (n : Nat) : SL (w.alloc (.cells (zb n) 5)) (some ⟨w.heap.size, 0, none⟩) n (List.replicate n 0) :=
  ⟨RB.made_ w 5 (List.replicate n 0) (zb n) (0, 0) rfl, by simp, (fun h => by cases h)⟩
theorem of_sl' {w : World} {A : Option Addr} {c : Nat} {l : List UInt8} (h : SL w A c l) (k : Nat) (hk : k = l.length) (n : Nat) (hn : n = crcOf l) (hl : l.length ≤ 9223372036854775807) :
    Calls Try.prog 15 #[.slice A k c] w fun e w' => e = .returned (.int .u32 n) ∧ Bl w w' := by
  subst hk; exact of_sl h n hn hl

set_option maxRecDepth 100000 in
set_option maxHeartbeats 4000000 in
theorem crcLine_main (A D : Option Addr) (c d : Nat) (l m : List UInt8) (c0 c1 : UInt8) (w : World) (h : SL w A c l) (hm : SL w D d m) (hlen : ¬ 2000 < l.length) (heq : ((l.length : Int) != (m.length : Int)) = false) (HE : Hid (l.length = m.length)) (x : List UInt8) (hx : Hid (x = List.zipWith (· ^^^ ·) l m))
    (Mx Ml Mm M0 : Nat) (HMx : Hid (Mx = crcOf x)) (HMl : Hid (Ml = crcOf l)) (HMm : Hid (Mm = crcOf m)) (HM0 : Hid (M0 = crcOf (List.replicate l.length 0)))
    (X1 : Int) (hX1 : bits .xor .u32 (Mx : Int) (Ml : Int) = X1) (hX2 : bits .xor .u32 X1 (Mm : Int) = (M0 : Int))
    (T0 T1 T2 : Nat) (HT0 : Hid (T0 = btk 8 c0.toNat)) (HT1 : Hid (T1 = btk 8 c1.toNat)) (HT2 : Hid (T2 = btk 8 (c0 ^^^ c1).toNat)) (HTX : Hid (bits .xor .u32 (T0 : Int) (T1 : Int) = (T2 : Int))) :
    Calls Try.prog 6 #[.slice A l.length c, .slice D m.length d, .agg #[.int .u8 c0.toNat, .int .u8 c1.toNat]] w fun e w' => e = .returned (.bool true) ∧ Bl w w' := by
  have bb := Bl.alloc w (.cells #[.int .u8 c0.toNat, .int .u8 c1.toNat] 41)
  have bk := Blk.new w 41 #[.int .u8 c0.toNat, .int .u8 c1.toNat]
  replace h := h.step bb; replace hm := hm.step bb
  have hmk := make_bytes l.length (by omega)
  go_enter Try.func6, Try.ntmps6
  go_wp2
  clear hmk
  have b0 := bb.trans (Bl.alloc _ (.cells (zb l.length) 5))
  have B1 := Blk.new (w.alloc (.cells #[.int .u8 c0.toNat, .int .u8 c1.toNat] 41)) 5 (zb l.length)
  rw [show (w.alloc (.cells #[.int .u8 c0.toNat, .int .u8 c1.toNat] 41)).heap.size = w.heap.size + 1 from by simp] at B1
  have B1' := Lib.hid B1
  replace bk := Lib.hid (bk.alloc (.cells (zb l.length) 5))
  have hr1 := h.rb.alloc (Nat.le_refl _) (.cells (zb l.length) 5)
  have hr2 := hm.rb.alloc (Nat.le_refl _) (.cells (zb l.length) 5)
  rw [show (w.alloc (.cells #[.int .u8 c0.toNat, .int .u8 c1.toNat] 41)).heap.size = w.heap.size + 1 from by simp] at hr1 hr2
  replace h := h.step (Bl.alloc _ (.cells (zb l.length) 5)); replace hm := hm.step (Bl.alloc _ (.cells (zb l.length) 5))
  clear B1
  generalize (w.alloc (.cells #[.int .u8 c0.toNat, .int .u8 c1.toNat] 41)).alloc (.cells (zb l.length) 5) = W at *
  go_loopw [8] (fun i wr => ∃ k : Nat, k ≤ l.length ∧ i = .int .i64 k ∧ Hid (Blk wr (w.heap.size + 1) 5 ((lineTo l m k).map vb).toArray) ∧ Below (w.heap.size + 1) W wr) (fun i _ => l.length - (intOf i).toNat)
  case atStart => exact ⟨0, Nat.zero_le _, rfl, by rw [show ((lineTo l m 0).map vb).toArray = zb l.length from by simp [lineTo, zb]]; exact B1', Below.refl _ _⟩
  case round =>
    obtain ⟨k, hk, rfl, HB, hbel⟩ := hrel
    by_cases hlt : k < l.length
    · have hlt2 : k < m.length := by have := HE.out; omega
      obtain ⟨ad1, rfl, hd1, e1⟩ := (hr1.below hbel).at_ hlt
      obtain ⟨ad2, rfl, hd2, e2⟩ := (hr2.below hbel).at_ hlt2
      unfold vb at e1 e2
      have i1 : (0 : Int) ≤ (k : Int) := by omega
      have i2 : (k : Int) < (l.length : Int) := by omega
      have i3 : (k : Int) < (m.length : Int) := by omega
      have hx := byte_lt l[k]
      have f2 := HB.out.frozen k
      have e3 := HB.out.cell k
      rw [show ((lineTo l m k).map vb).toArray[k]? = some (vb ((lineTo l m k)[k]'(by rw [lineTo_len HE.out hk]; exact hlt))) from by simp [lineTo_len HE.out hk, hlt]] at e3
      unfold vb at e3
      have HB' := HB
      clear heq HB hr1 hr2 h hm
      obtain ⟨y, hy⟩ : ∃ y, y = l[k] ^^^ m[k] := ⟨_, rfl⟩
      have hxx := byte_xor_int l[k] m[k]
      rw [← hy] at hxx
      have HB2 := HB'.out.set_ k (vb y)
      rw [vals_set, hy, lineTo_set HE.out hlt hlt2, ← hy] at HB2
      have HB3 := Lib.hid HB2
      have hbel2 := hbel.setCell (p := ⟨w.heap.size + 1, k, none⟩) (Nat.le_refl _) (vb y)
      unfold vb at HB3 hbel2
      clear HB2 HB' hbel hy
      go_wp2
      go_region
      go_wp2
      go_roundw
      case rel => exact ⟨k + 1, by omega, by go_num, HB3, hbel2.drew⟩
      case measure => simp [intOf]; omega
    · obtain rfl : k = l.length := by omega
      have hX : lineTo l m l.length = x := by
        rw [hx.out]; unfold lineTo
        rw [List.take_of_length_le (by simp [HE.out]), Nat.sub_self]
        simp
      have hxl : x.length = l.length := by rw [← hX]; exact lineTo_len HE.out (Nat.le_refl _)
      have HBx := HB.out
      rw [hX] at HBx
      have sx : SL wr (some ⟨w.heap.size + 1, 0, none⟩) l.length x := ⟨fun _ => ⟨_, rfl, HBx.lt, fun j hj => by
        have e0 : (⟨w.heap.size + 1, 0, none⟩ : Addr).add j = ⟨w.heap.size + 1, j, none⟩ := by
          unfold Addr.add
          split
          · subst_vars; rfl
          · simp
        rw [e0, HBx.cell j]
        simp [hj]⟩, by omega, (fun h => by cases h)⟩
      have HXL := Lib.hid hxl.symm
      have sl : SL wr A c l := ⟨(hr1.below hbel).more (by have := hbel.size; have := HBx.lt; omega), h.cap, h.none_⟩
      have sm : SL wr D d m := ⟨(hr2.below hbel).more (by have := hbel.size; have := HBx.lt; omega), hm.cap, hm.none_⟩
      have bw : Bl w wr := Below.trans b0 (hbel.mono (by omega))
      have bkr := (bk.out).below hbel (by omega)
      clear hr1 hr2 hbel HB HBx hX hxl h hm b0 bk B1'
      go_wp2_with fail
      refine (table_sl _).mono ?_
      rintro e w1 ⟨rfl, b⟩
      have hz := zero_tab w1
      have B1 := Lib.hid (Blk.new w1 25 (tabTo 0))
      have tl := tab_laid w1
      replace b := b.trans (tab_bl w1)
      replace sx := sx.step b; replace sl := sl.step b; replace sm := sm.step b; replace bw := bw.trans b
      have d0 : (_ : World).cell? ⟨w.heap.size, 0, none⟩ = some (.int .u8 (c0.toNat : Int)) := Bl.some b ((bkr.cell 0).trans rfl)
      have d1 : (_ : World).cell? ⟨w.heap.size, 1, none⟩ = some (.int .u8 (c1.toNat : Int)) := Bl.some b ((bkr.cell 1).trans rfl)
      obtain ⟨W1, hW⟩ : ∃ W, W = (w1.alloc (.cells (tabTo 0) 25)).setRow w1.heap.size (tabTo 256) := ⟨_, rfl⟩
      rw [← hW] at bw sx sl sm tl d0 d1
      have HW := Lib.hid hW
      clear hW b bkr
      go_wp2_with (refine wpList_store_row rfl 25 (.tmp 9) (.tmp 42) rfl w1.heap.size (tabTo 256) rfl rfl 25 (tabTo 0) B1.out (by rw [tabTo_size]; kernel_rfl) (by rw [tabTo_size, tabTo_size]) (tabTo_one _) ?_; rw [← HW.out]; clear B1 hz HW)
      have ec : W1.cell? ⟨w.heap.size, 0, none⟩ = some (.int .u8 (c0.toNat : Int)) ∧ W1.cell? ⟨w.heap.size, 1, none⟩ = some (.int .u8 (c1.toNat : Int)) ∧ W1.cell? ⟨w1.heap.size, (c0 ^^^ c1).toNat, none⟩ = some (.int .u32 (T2 : Int)) ∧ W1.cell? ⟨w1.heap.size, c0.toNat, none⟩ = some (.int .u32 (T0 : Int)) ∧ W1.cell? ⟨w1.heap.size, c1.toNat, none⟩ = some (.int .u32 (T1 : Int)) ∧ W1.cell? ⟨w1.heap.size, 0, none⟩ = some (.int .u32 0) := by
        have l0 := c0.toNat_lt; have l1 := c1.toNat_lt; have l2 := (c0 ^^^ c1).toNat_lt
        refine ⟨d0, d1, (tl.cell _).trans ?_, (tl.cell _).trans ?_, (tl.cell _).trans ?_, (tl.cell _).trans ?_⟩
        · rw [tabTo_get (by omega), if_pos (by omega), ← HT2.out]
        · rw [tabTo_get (by omega), if_pos (by omega), ← HT0.out]
        · rw [tabTo_get (by omega), if_pos (by omega), ← HT1.out]
        · rw [tabTo_get (by omega), if_pos (by omega)]; rfl
      have hTX := HTX.out
      have hbx := byte_xor_int c0 c1
      obtain ⟨cx, hcx⟩ : ∃ cx, cx = c0 ^^^ c1 := ⟨_, rfl⟩
      rw [← hcx] at ec hbx
      have j0 := byte_lt c0; have j1 := byte_lt c1; have j2 := byte_lt cx
      have k0 := j0.1; have k1 := j1.1; have k2 := j2.1
      have m0 : (c0.toNat : Int) < 256 := by omega
      have m1 : (c1.toNat : Int) < 256 := by omega
      have m2 : (cx.toNat : Int) < 256 := by omega
      have hmk := make_bytes l.length (by omega)
      obtain ⟨g, hgg⟩ : ∃ g, g = w1.heap.size := ⟨_, rfl⟩
      rw [← hgg] at ec ⊢
      clear hcx d0 d1 tl hgg HTX j0 j1 j2
      have EC : Hid (∀ w', Bl W1 w' → w'.cell? ⟨w.heap.size, 0, none⟩ = some (.int .u8 (c0.toNat : Int)) ∧ w'.cell? ⟨w.heap.size, 1, none⟩ = some (.int .u8 (c1.toNat : Int)) ∧ w'.cell? ⟨g, cx.toNat, none⟩ = some (.int .u32 (T2 : Int)) ∧ w'.cell? ⟨g, c0.toNat, none⟩ = some (.int .u32 (T0 : Int)) ∧ w'.cell? ⟨g, c1.toNat, none⟩ = some (.int .u32 (T1 : Int)) ∧ w'.cell? ⟨g, 0, none⟩ = some (.int .u32 0)) := fun _ b => keep6 b ec
      have SX : Hid (∀ w', Bl W1 w' → SL w' (some ⟨w.heap.size + 1, 0, none⟩) l.length x) := fun _ b => sx.step b
      have SLL : Hid (∀ w', Bl W1 w' → SL w' A c l) := fun _ b => sl.step b
      have SM : Hid (∀ w', Bl W1 w' → SL w' D d m) := fun _ b => sm.step b
      have bc := Bl.refl W1
      clear ec sx sl sm
      go_region_held3 (fun w' => w'.cell? ⟨w.heap.size, 0, none⟩ = some (.int .u8 (c0.toNat : Int)) ∧ w'.cell? ⟨w.heap.size, 1, none⟩ = some (.int .u8 (c1.toNat : Int)) ∧ w'.cell? ⟨g, cx.toNat, none⟩ = some (.int .u32 (T2 : Int)) ∧ w'.cell? ⟨g, c0.toNat, none⟩ = some (.int .u32 (T0 : Int)) ∧ w'.cell? ⟨g, c1.toNat, none⟩ = some (.int .u32 (T1 : Int)) ∧ w'.cell? ⟨g, 0, none⟩ = some (.int .u32 0)) (with_reducible (first | exact EC.out _ bc | exact EC.out _ (Bl.trans bc (Bl.alloc _ _)) | exact EC.out _ (Bl.trans bc (Bl.drewN _ 1))))
        (first
        | (go_at_call 8; (first | (with_reducible refine (alive12 _).mono ?_)); rintro e w2 ⟨rfl, b⟩; (first | (replace sz := sz.step b) | (have sz := (made_sl _ l.length).step b) | skip); (first | (replace bc := Bl.trans bc b) | (replace bc := Bl.trans (Bl.trans bc (Bl.alloc _ _)) b) | (replace bc := Bl.trans (Bl.trans bc (Bl.drewN _ 1)) b)); clear b)
        | (go_at_call 15; (first | (with_reducible refine (of_sl' (SX.out _ bc) l.length HXL.out Mx HMx.out (by have := HXL.out; omega)).mono ?_) | (with_reducible refine (of_sl' (SX.out _ (Bl.trans bc (Bl.alloc _ _))) l.length HXL.out Mx HMx.out (by have := HXL.out; omega)).mono ?_)); rintro e w3 ⟨rfl, b⟩; (first | (replace sz := sz.step b) | (have sz := (made_sl _ l.length).step b) | skip); (first | (replace bc := Bl.trans bc b) | (replace bc := Bl.trans (Bl.trans bc (Bl.alloc _ _)) b) | (replace bc := Bl.trans (Bl.trans bc (Bl.drewN _ 1)) b)); clear b SX)
        | (go_at_call 15; (first | (with_reducible refine (of_sl (SLL.out _ bc) Ml HMl.out (by omega)).mono ?_) | (with_reducible refine (of_sl (SLL.out _ (Bl.trans bc (Bl.alloc _ _))) Ml HMl.out (by omega)).mono ?_)); rintro e w4 ⟨rfl, b⟩; (first | (replace sz := sz.step b) | (have sz := (made_sl _ l.length).step b) | skip); (first | (replace bc := Bl.trans bc b) | (replace bc := Bl.trans (Bl.trans bc (Bl.alloc _ _)) b) | (replace bc := Bl.trans (Bl.trans bc (Bl.drewN _ 1)) b)); clear b SLL)
        | (go_at_call 15; (first | (with_reducible refine (of_sl (SM.out _ bc) Mm HMm.out (by have := HE.out; omega)).mono ?_) | (with_reducible refine (of_sl (SM.out _ (Bl.trans bc (Bl.alloc _ _))) Mm HMm.out (by have := HE.out; omega)).mono ?_)); rintro e w5 ⟨rfl, b⟩; (first | (replace sz := sz.step b) | (have sz := (made_sl _ l.length).step b) | skip); (first | (replace bc := Bl.trans bc b) | (replace bc := Bl.trans (Bl.trans bc (Bl.alloc _ _)) b) | (replace bc := Bl.trans (Bl.trans bc (Bl.drewN _ 1)) b)); clear b SM)
        | (go_at_call 15; (first | (with_reducible refine (of_sl' sz l.length (by simp) M0 HM0.out (by simp; omega)).mono ?_) | (with_reducible refine (of_sl' (made_sl _ l.length) l.length (by simp) M0 HM0.out (by simp; omega)).mono ?_)); rintro e w6 ⟨rfl, b⟩; (first | (replace sz := sz.step b) | (have sz := (made_sl _ l.length).step b) | skip); (first | (replace bc := Bl.trans bc b) | (replace bc := Bl.trans (Bl.trans bc (Bl.alloc _ _)) b) | (replace bc := Bl.trans (Bl.trans bc (Bl.drewN _ 1)) b)); clear b))
      all_goals
        go_wp2
        go_ret
        exact ⟨rfl, bw.trans bc⟩

theorem table_line (a b : UInt8) : btk 8 (a ^^^ b).toNat = btk 8 a.toNat ^^^ btk 8 b.toNat := by rw [byte_xor, btk_xor]

set_option maxRecDepth 100000 in
theorem crcLine_walk (A D : Option Addr) (c d : Nat) (l m : List UInt8) (c0 c1 : UInt8) (w : World) (h : SL w A c l) (hm : SL w D d m) (hl : l.length ≤ maxLen) (hml : m.length ≤ maxLen) :
    Calls Try.prog 6 #[.slice A l.length c, .slice D m.length d, .agg #[.int .u8 c0.toNat, .int .u8 c1.toNat]] w fun e w' => e = .returned (.bool true) ∧ Bl w w' := by
  unfold maxLen at hl hml
  by_cases hlen : 2000 < l.length
  · clear h hm
    go_enter Try.func6, Try.ntmps6
    go_wp2_with fail
    refine (alive12 _).mono ?_
    rintro e w1 ⟨rfl, b⟩
    have bb := (Bl.alloc w _).trans b; clear b
    go_wp2
    go_ret
    exact ⟨rfl, bb⟩
  by_cases he : l.length = m.length
  · have hx : (List.zipWith (· ^^^ ·) l m).length = l.length := zip_len l m he
    have h1 := crc_line l m he
    have l1 := crcOf_lt (List.zipWith (· ^^^ ·) l m)
    have l2 := crcOf_lt l
    have l3 := crcOf_lt m
    have l4 := btk_lt 8 (n := c0.toNat) (by have := c0.toNat_lt; omega)
    have l5 := btk_lt 8 (n := c1.toNat) (by have := c1.toNat_lt; omega)
    refine crcLine_main A D c d l m c0 c1 w h hm hlen (by rw [he]; simp) he _ rfl _ _ _ _ rfl rfl rfl rfl ((crcOf (List.zipWith (· ^^^ ·) l m) ^^^ crcOf l : Nat) : Int) ?_ ?_ _ _ _ rfl rfl rfl ?_
    · exact u32_xor_nat _ _ l1 l2
    · rw [u32_xor_nat _ _ (Nat.xor_lt_two_pow l1 l2) l3, h1]
    · show _ = _
      rw [u32_xor_nat _ _ l4 l5, table_line]
  · have heq : ((l.length : Int) != (m.length : Int)) = true := by simp; omega
    clear h hm
    go_enter Try.func6, Try.ntmps6
    go_wp2_with fail
    refine (alive12 _).mono ?_
    rintro e w1 ⟨rfl, b⟩
    have bb := (Bl.alloc w _).trans b; clear b
    go_wp2
    go_ret
    exact ⟨rfl, bb⟩
end Go.Proofs.Ytcbfcbkpbaefaaa
