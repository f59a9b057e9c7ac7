/- The contract of ratchetref24.laid. -/
import Derived.Test.YtmjdmigjhllmeaaDiskLaw
import Derived.RegionTactic
import Derived.BigRegion
import Derived.Outline
namespace Go.Proofs.Ytmjdmigjhllmeaa
open Go.RowKit
set_option linter.unusedVariables false

/-- A slice of writes, in blocks that disk p's acts do not turn. -/
def Puts (p : Nat) (X : Nat → Prop) (w : World) (A : Option Addr) (ws : List (Nat × List UInt8)) : Prop := 0 < ws.length → ∃ g o, A = some ⟨g, o, none⟩ ∧ Safe p w g ∧ X g ∧ ∀ i, (h : i < ws.length) → ∃ v,
  w.cell? ⟨g, o + i * 2, none⟩ = some (.int .i64 (ws[i].1 : Int)) ∧ w.cell? ⟨g, o + i * 2 + 1, none⟩ = some v ∧ Sv p X w v ws[i].2
section
variable {X : Nat → Prop}
theorem Puts.fr {p : Nat} {w w' : World} {A : Option Addr} {ws : List (Nat × List UInt8)} (h : Puts p X w A ws) (hf : Fr p w w') : Puts p X w' A ws := fun hn => by
  obtain ⟨g, o, e, hs, hx, hc⟩ := h hn
  refine ⟨g, o, e, hf.safe _ hs, hx, fun i hi => ?_⟩
  obtain ⟨v, c0, c1, hv⟩ := hc i hi
  exact ⟨v, (hf.cell (a := ⟨g, _, none⟩) hs).trans c0, (hf.cell (a := ⟨g, _, none⟩) hs).trans c1, hv.fr hf⟩
theorem Puts.nil_ (p : Nat) (w : World) (A : Option Addr) : Puts p X w A [] := fun h => absurd h (by simp)
theorem Puts.at_ {p : Nat} {w : World} {A : Option Addr} {ws : List (Nat × List UInt8)} (h : Puts p X w A ws) {i : Nat} (hi : i < ws.length) : ∃ g o v, A = some ⟨g, o, none⟩ ∧
  w.cell? ⟨g, o + i * 2, none⟩ = some (.int .i64 (ws[i].1 : Int)) ∧ w.cell? ⟨g, o + i * 2 + 1, none⟩ = some v ∧ Sv p X w v ws[i].2 ∧ Safe p w g := by
  obtain ⟨g, o, e, hs, _, hc⟩ := h (by omega)
  obtain ⟨v, c0, c1, hv⟩ := hc i hi
  exact ⟨g, o, v, e, c0, c1, hv, hs⟩
end

theorem zero_row (w : World) : (zeroValue 28).run Try.prog w = .ok (.agg (List.replicate 64 (Value.slice none 0 0)).toArray) w := by kernel_rfl

theorem Sv.far {p : Nat} {X : Nat → Prop} {w1 : World} {v : Value} {l : List UInt8} (h : Sv p X w1 v l) {g : Nat} (hg : ¬ X g) (hs : Safe p w1 g) (i : Nat) (u : Value) : Sv p X (w1.setCell ⟨g, i, none⟩ u) v l := by
  obtain ⟨A, c, e, h1, hx⟩ := h
  exact ⟨A, c, e, h1.far hs (fun a ha hn e' => hg (by rw [← e']; exact hx a ha hn)) i u, hx⟩
theorem Sv.low {p : Nat} {X : Nat → Prop} {w1 : World} {v : Value} {l : List UInt8} (h : Sv p X w1 v l) : Sv p (fun b => b < w1.heap.size ∧ X b) w1 v l := by
  obtain ⟨A, c, e, h1, hx⟩ := h
  exact ⟨A, c, e, h1, fun a ha hn => ⟨(h1.safe a ha hn).1, hx a ha hn⟩⟩
theorem Sv.weak {p : Nat} {X Y : Nat → Prop} {w1 : World} {v : Value} {l : List UInt8} (h : Sv p X w1 v l) (hy : ∀ b, X b → Y b) : Sv p Y w1 v l := by
  obtain ⟨A, c, e, h1, hx⟩ := h
  exact ⟨A, c, e, h1, fun a ha hn => hy _ (hx a ha hn)⟩

theorem Blk.setAll {w : World} {g : Nat} {t : TypeId} {cs : Array Value} {us : List Value} (h : Blk w g t cs) (hs : cs.size = us.length) : Blk (w.setCells g 0 us) g t us.toArray := by
  obtain ⟨cs', hb, hs', hc⟩ := Blk.setCells us 0 w cs h
  have : cs' = us.toArray := by
    apply Array.ext_getElem?
    intro i
    by_cases hi : i < cs.size
    · rw [hc i hi, if_pos (by omega), List.getElem?_toArray]; rfl
    · rw [Array.getElem?_eq_none (by omega), Array.getElem?_eq_none (by simp; omega)]
  rw [← this]; exact hb
theorem Below.setCells' {B : Nat} {a : World} {g : Nat} (hg : B ≤ g) : ∀ (us : List Value) (o : Nat) (w : World), Below B a w → Below B a (w.setCells g o us)
  | [], _, _, h => h
  | u :: r, o, w, h => Below.setCells' hg r (o + 1) _ (h.setCell (p := ⟨g, o, none⟩) hg u)
theorem Safe.setCells' {p : Nat} {b g : Nat} : ∀ (us : List Value) (o : Nat) (w : World), Safe p w b → Safe p w g → Safe p (w.setCells g o us) b
  | [], _, _, h, _ => h
  | u :: r, o, w, h, hg => Safe.setCells' r (o + 1) _ (h.setCell hg o u) (hg.setCell hg o u)
theorem Sv.fars {p : Nat} {X : Nat → Prop} {v : Value} {l : List UInt8} {g : Nat} (hg : ¬ X g) : ∀ (us : List Value) (o : Nat) (w : World), Sv p X w v l → Safe p w g → Sv p X (w.setCells g o us) v l
  | [], _, _, h, _ => h
  | u :: r, o, w, h, hs => Sv.fars hg r (o + 1) _ (h.far hg hs o u) (hs.setCell hs o u)

/-- The flags of laid. -/
def laidK (all : Bool) (n : Nat) (ks : List Bool) : List Bool := if all then List.replicate n true else ks

theorem row_set {w : World} {g : Nat} {t : TypeId} {vs : List Value} (h : Blk w g t vs.toArray) (k : Nat) (u : Value) : Blk (w.setCell ⟨g, k, none⟩ u) g t (vs.set k u).toArray := by
  have := h.set_ k u
  simpa using this

/-- What laid gives. -/
def GivesRow64 (p : Nat) (X : Nat → Prop) (w : World) (l : List (List UInt8)) (e : Ending) (w' : World) : Prop :=
  ∃ vs : List Value, e = .returned (.agg vs.toArray) ∧ vs.length = 64 ∧ Each (Sv p X w') vs l ∧ Bl w w'

set_option maxRecDepth 100000 in
set_option maxHeartbeats 2000000 in
theorem laid_any (p : Nat) (w : World) {X0 : Nat → Prop} {D0 : DS} (hd : IsDisk p X0 w D0) (vs : List Value) (l : List (List UInt8)) (hv : vs.length = 64) (A : Option Addr) (c : Nat) (ws : List (Nat × List UInt8)) {X1 : Nat → Prop} (ha : Puts p X1 w A ws) (he : Each (Sv p X1 w) vs l) (hw1 : ∀ x ∈ ws, x.1 < 64) (hwl : ws.length ≤ 100000)
    (K : Option Addr) (d : Nat) (ks : List Bool) (hk : RVs p w K (ks.map Value.bool)) (hkl : ks.length ≤ 9223372036854775807) (all : Bool) :
    Calls Try.prog 20 #[.agg vs.toArray, .slice A ws.length c, .slice K ks.length d, .bool all] w (GivesRow64 p X1 w (layK l ws (laidK all ws.length ks))) := by
  have hz := zero_row
  obtain ⟨zs, hzs⟩ : ∃ zs, zs = (List.replicate 64 (Value.slice none 0 0)) := ⟨_, rfl⟩
  rw [← hzs] at hz
  have b1 := Bl.alloc w (.cells vs.toArray 28)
  have b2 := b1.trans (Bl.alloc _ (.cells zs.toArray 28))
  have k1 := (Blk.new w 28 vs.toArray).alloc (.cells zs.toArray 28)
  have k2 := Blk.new (w.alloc (.cells vs.toArray 28)) 28 zs.toArray
  rw [show (w.alloc (.cells vs.toArray 28)).heap.size = w.heap.size + 1 from by simp] at k2
  have hzl : zs.length = 64 := by rw [hzs]; simp
  have hp := hd.plt
  have HD := Lib.hid hd
  have f1 := Fr.of_bl b2 hp
  have HE := Lib.hid (he.mono fun _ _ x => x.low.fr f1); have HA := Lib.hid ha; have HK := Lib.hid hk
  have HF1 := Lib.hid f1
  have B2 := Lib.hid b2; have K1 := Lib.hid k1; have K2 := Lib.hid k2
  have HV := Lib.hid hv; have HZL := Lib.hid hzl; have HP := Lib.hid hp
  clear he ha hk b1 b2 k1 k2 hzs hv hzl hp f1 hd
  go_enter Try.func20, Try.ntmps20
  go_wp2
  clear hz
  generalize (w.alloc (.cells vs.toArray 28)).alloc (.cells zs.toArray 28) = W at *
  go_loopw [9] (fun i wr => ∃ k : Nat, k ≤ ws.length ∧ i = .int .i64 k ∧ Hid (∃ us : List Value, us.length = 64 ∧ Blk wr w.heap.size 28 us.toArray ∧ Each (Sv p (fun b => b < w.heap.size ∧ X1 b) wr) us (layK l (ws.take k) (laidK all ws.length ks))) ∧ Hid (Blk wr (w.heap.size + 1) 28 zs.toArray ∧ Bl w wr)) (fun i _ => ws.length - (intOf i).toNat)
  case atStart => exact ⟨0, Nat.zero_le _, rfl, ⟨vs, HV.out, K1.out, by simpa [layK] using HE.out⟩, K2.out, B2.out⟩
  case round =>
    clear HE K1 K2 B2 HF1
    obtain ⟨k, hk, rfl, HU, HB⟩ := hrel
    by_cases hlt : k < ws.length
    · have hpb := Fr.of_bl HB.out.2 HP.out
      obtain ⟨g, o, v, rfl, hc0, hc1, hsv, hsg⟩ := (HA.out.fr hpb).at_ hlt
      have HKr := Lib.hid (HK.out.fr hpb)
      have hgne : g ≠ w.heap.size := by
        obtain ⟨g', o', _, e', _, _, _, hs'⟩ := HA.out.at_ hlt
        cases e'
        have := hs'.1
        omega
      have hw64 := hw1 ws[k] (List.getElem_mem _)
      obtain ⟨us, hul, hub, heu⟩ := HU.out
      have hcell : ∃ u0, wr.cell? ⟨w.heap.size, ws[k].1, none⟩ = some u0 := by
        rw [hub.cell]
        exact ⟨_, by rw [List.getElem?_toArray]; exact List.getElem?_eq_getElem (by omega)⟩
      obtain ⟨u0, hcell⟩ := hcell
      have hfz := hub.frozen ws[k].1
      have hgs : Safe p wr w.heap.size := HD.out.safe_new HB.out.2 (Nat.le_refl _) (by have := HB.out.1.lt; omega)
      have hsv : Sv p (fun b => b < w.heap.size ∧ X1 b) wr v ws[k].2 := by
        obtain ⟨g', o', v', e', _, hc', hv', _⟩ := HA.out.at_ hlt
        cases e'
        have := (HB.out.2.some' hc').symm.trans hc1
        injection this with this
        subst this
        exact hv'.low.fr hpb
      have HS := Lib.hid (layK_succ ws (laidK all ws.length ks) l k hlt)
      clear hpb hsg
      cases all with
      | true =>
        have HFl : Hid ((laidK true ws.length ks).getD k false = true) := by
          show _ = _
          unfold laidK
          simp [List.getD_eq_getElem?_getD, hlt]
        have HN : Hid (∃ us : List Value, us.length = 64 ∧ Blk ((wr.setCell ⟨w.heap.size, ws[k].1, none⟩ v).drew) w.heap.size 28 us.toArray ∧ Each (Sv p (fun b => b < w.heap.size ∧ X1 b) ((wr.setCell ⟨w.heap.size, ws[k].1, none⟩ v).drew)) us (layK l (ws.take (k + 1)) (laidK true ws.length ks))) := by
          refine ⟨us.set ws[k].1 v, by rw [List.length_set]; exact hul, row_set hub _ _, ?_⟩
          rw [HS.out, HFl.out, if_pos rfl]
          exact (heu.set_ _ hsv).mono fun _ _ x => (x.far (fun h => by have := h.1; omega) hgs _ _).fr (Fr.of_bl (Bl.drew _) (by have := HD.out.plt; have := HB.out.2.size; simp [World.setCell]; omega))
        have HB2 : Hid (Blk ((wr.setCell ⟨w.heap.size, ws[k].1, none⟩ v).drew) (w.heap.size + 1) 28 zs.toArray ∧ Bl w ((wr.setCell ⟨w.heap.size, ws[k].1, none⟩ v).drew)) :=
          ⟨HB.out.1.far (p := ⟨w.heap.size, ws[k].1, none⟩) (by simp) v, Below.drew (Below.setCell HB.out.2 (Nat.le_refl _) v)⟩
        obtain ⟨Bv, cv, rfl, hsls, _⟩ := hsv
        obtain ⟨at_, hat⟩ : ∃ at_, at_ = ws[k].1 := ⟨_, rfl⟩
        rw [← hat] at hc0 hcell hfz hw64 HN HB2
        have i1 : (0 : Int) ≤ (at_ : Int) := by omega
        have i2 : (at_ : Int) < 64 := by omega
        clear heu hub hgs HS HFl HU HB hsls hat
        go_wp2
        go_region
        go_wp2
        go_roundw
        case rel => exact ⟨k + 1, by omega, by go_num, HN, HB2⟩
        case measure => simp [intOf]; omega
      | false =>
        by_cases h1 : k < ks.length
        · obtain ⟨ad, rfl, hkc⟩ := HKr.out.at_ (k := k) (by simpa using h1)
          rw [List.getElem_map] at hkc
          have i3 : (k : Int) < (ks.length : Int) := by omega
          have hg1 : (laidK false ws.length ks).getD k false = ks[k] := by
            unfold laidK
            simp [List.getD_eq_getElem?_getD, h1]
          clear HKr
          by_cases h2 : ks[k] = true
          · rw [h2] at hkc hg1
            have HFl := Lib.hid hg1
            clear h2 hg1
            have HN : Hid (∃ us : List Value, us.length = 64 ∧ Blk ((wr.setCell ⟨w.heap.size, ws[k].1, none⟩ v).drew) w.heap.size 28 us.toArray ∧ Each (Sv p (fun b => b < w.heap.size ∧ X1 b) ((wr.setCell ⟨w.heap.size, ws[k].1, none⟩ v).drew)) us (layK l (ws.take (k + 1)) (laidK false ws.length ks))) := by
              refine ⟨us.set ws[k].1 v, by rw [List.length_set]; exact hul, row_set hub _ _, ?_⟩
              rw [HS.out, HFl.out, if_pos rfl]
              exact (heu.set_ _ hsv).mono fun _ _ x => (x.far (fun h => by have := h.1; omega) hgs _ _).fr (Fr.of_bl (Bl.drew _) (by have := HD.out.plt; have := HB.out.2.size; simp [World.setCell]; omega))
            have HB2 : Hid (Blk ((wr.setCell ⟨w.heap.size, ws[k].1, none⟩ v).drew) (w.heap.size + 1) 28 zs.toArray ∧ Bl w ((wr.setCell ⟨w.heap.size, ws[k].1, none⟩ v).drew)) :=
              ⟨HB.out.1.far (p := ⟨w.heap.size, ws[k].1, none⟩) (by simp) v, Below.drew (Below.setCell HB.out.2 (Nat.le_refl _) v)⟩
            obtain ⟨Bv, cv, rfl, hsls, _⟩ := hsv
            obtain ⟨at_, hat⟩ : ∃ at_, at_ = ws[k].1 := ⟨_, rfl⟩
            rw [← hat] at hc0 hcell hfz hw64 HN HB2
            have i1 : (0 : Int) ≤ (at_ : Int) := by omega
            have i2 : (at_ : Int) < 64 := by omega
            clear heu hub hgs HS HFl HU HB hsls hat
            go_wp2
            go_region
            go_wp2
            go_roundw
            case rel => exact ⟨k + 1, by omega, by go_num, HN, HB2⟩
            case measure => simp [intOf]; omega
          · rw [show ks[k] = false from by simpa using h2] at hkc hg1
            have HFl := Lib.hid hg1
            clear h2 hg1
            have HN : Hid (∃ us : List Value, us.length = 64 ∧ Blk wr w.heap.size 28 us.toArray ∧ Each (Sv p (fun b => b < w.heap.size ∧ X1 b) wr) us (layK l (ws.take (k + 1)) (laidK false ws.length ks))) := by
              refine ⟨us, hul, hub, ?_⟩
              rw [HS.out, HFl.out, if_neg (by simp)]
              exact heu
            clear heu hub hgs HS HFl HU hsv
            go_wp2
            go_roundw
            case rel => exact ⟨k + 1, by omega, by go_num, HN, HB⟩
            case measure => simp [intOf]; omega
        · have HFl : Hid ((laidK false ws.length ks).getD k false = false) := by
            show _ = _
            unfold laidK
            simp [List.getD_eq_getElem?_getD, List.getElem?_eq_none (show ks.length ≤ k by omega)]
          clear HKr
          have HN : Hid (∃ us : List Value, us.length = 64 ∧ Blk wr w.heap.size 28 us.toArray ∧ Each (Sv p (fun b => b < w.heap.size ∧ X1 b) wr) us (layK l (ws.take (k + 1)) (laidK false ws.length ks))) := by
            refine ⟨us, hul, hub, ?_⟩
            rw [HS.out, HFl.out, if_neg (by simp)]
            exact heu
          clear heu hub hgs HS HFl HU hsv
          go_wp2
          go_roundw
          case rel => exact ⟨k + 1, by omega, by go_num, HN, HB⟩
          case measure => simp [intOf]; omega
    · obtain ⟨us, hul, hub, heu⟩ := HU.out
      rw [List.take_of_length_le (by omega)] at heu
      have hout : GivesRow64 p X1 w (layK l ws (laidK all ws.length ks)) (.returned (.agg us.toArray)) (wr.setCells (w.heap.size + 1) 0 us) :=
        ⟨us, rfl, hul, heu.mono fun _ _ x => (Sv.fars (fun h => by have := h.1; omega) us 0 wr x (HD.out.safe_new HB.out.2 (Nat.le_succ _) HB.out.1.lt)).weak fun _ h => h.2, Below.setCells' (Nat.le_succ _) us 0 wr HB.out.2⟩
      have HR := Lib.hid (HB.out.1.setAll (us := us) (by simp [hul, HZL.out]))
      have HO := Lib.hid hout
      have hr := Lib.hid (show wr.rangeAt w.heap.size 0 us from fun j v hv => by rw [hub.cell, Nat.zero_add, List.getElem?_toArray]; exact hv)
      have ht := Lib.hid (HB.out.1.there (o := 0) (n := us.toArray.size) (by simp [hul, HZL.out]))
      have ho := Lib.hid (all_oneCell_toArray heu.one)
      have hl := Lib.hid hul
      clear hub heu hout HU hul
      go_wp2_with (first
        | (refine wpList_load_mid rfl 28 (.tmp 4) (by rfl) w.heap.size 0 (by rfl) us _ hr.out Try.underlying28 row_isRow (by rw [size_row, hl.out]) ?_)
        | (refine wpList_store_mid rfl 28 (.tmp 8) (.tmp 40) (by rfl) (w.heap.size + 1) 0 us.toArray (by rfl) (by rfl) ht.out (by rw [size_row, List.size_toArray, hl.out]) ho.out ?_))
      exact bodyPost_ret (v := .agg us.toArray) (results_cell_row rfl _ _ (w.heap.size + 1) 28 us.toArray (0, 0) _ (by rfl) HR.out Try.underlying28 rfl (by rw [size_row, List.size_toArray, hl.out])) rfl HO.out
end Go.Proofs.Ytmjdmigjhllmeaa
