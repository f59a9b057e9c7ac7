/- DiskActs' walk. -/
import Derived.Test.YtmjdmigjhllmeaaDoAny
import Derived.Test.YtmjdmigjhllmeaaDiskOwn
import Derived.BigQuiet
import Derived.Deep.QuietTactic
import Derived.Deep.RegionHeld3
import Derived.Deep.DrawnRows
namespace Go.Proofs.Ytmjdmigjhllmeaa
open Go.RowKit
set_option linter.unusedVariables false
attribute [local go_sem ↓] Go.wp_at_zero Go.wp_at_succ

theorem IsDisk.fars {p : Nat} {X : Nat → Prop} {D : DS} {g : Nat} (hg : ¬ X g) : ∀ (us : List Value) (o : Nat) (w : World), IsDisk p X w D → Safe p w g → IsDisk p X (w.setCells g o us) D
  | [], _, _, h, _ => h
  | u :: r, o, w, h, hs => IsDisk.fars hg r (o + 1) _ (h.far hg hs.2.1 hs.2.2 o u) (hs.setCell hs o u)
theorem New.setCells' {w : World} {g : Nat} (hg : w.heap.size < g) : ∀ (us : List Value) (o : Nat) (w1 : World), New w w1 → New w (w1.setCells g o us)
  | [], _, _, h => h
  | u :: r, o, w1, h => New.setCells' hg r (o + 1) _ (h.setCell hg o u)
theorem SLs.fars {p : Nat} {A : Option Addr} {c : Nat} {l : List UInt8} {g : Nat} (hne : ∀ a, A = some a → 0 < l.length → a.block ≠ g) : ∀ (us : List Value) (o : Nat) (w1 : World), SLs p w1 A c l → Safe p w1 g → SLs p (w1.setCells g o us) A c l
  | [], _, _, h, _ => h
  | u :: r, o, w1, h, hs => SLs.fars hne r (o + 1) _ (h.far hs hne o u) (hs.setCell hs o u)
theorem new_at (w : World) (t : TypeId) (cs : Array Value) (g : Nat) (hg : g = w.heap.size) : Blk (w.alloc (.cells cs t)) g t cs := by subst hg; exact Blk.new w t cs

/-- The disk at block w.heap.size, and the document's disk in block g. -/
structure Both (w : World) (g : Nat) (wr : World) (D : DS) (rs : List Value) (A : Option Addr) (c : Nat) : Prop where
  disk : IsDisk w.heap.size (fun b => b ≠ g) wr D
  new : New w wr
  rd : RD w.heap.size (fun b => b ≠ g) wr D rs A c
  blk : Blk wr g 31 (rdc rs (.slice A D.waits.length c) D.down).toArray
  safe : Safe w.heap.size wr g
  gt : w.heap.size < g
theorem Both.bl {w : World} {g : Nat} {wr wr' : World} {D : DS} {rs : List Value} {A : Option Addr} {c : Nat} (h : Both w g wr D rs A c) (hb : Bl wr wr') : Both w g wr' D rs A c :=
  ⟨h.disk.bl hb, h.new.bl_ h.disk.plt hb, h.rd.fr (Fr.of_bl hb h.disk.plt), h.blk.below hb h.safe.1, (Fr.of_bl hb h.disk.plt).safe _ h.safe, h.gt⟩

theorem acts_start {w w1 : World} (hd : IsDisk w.heap.size (fun _ => True) w1 DS.fresh) (hn : New w w1) (zs : List Value) (hzs : zs = rdc (List.replicate 64 (Value.slice none 0 0)) (.slice none 0 0) false) :
    (w1.alloc (.cells zs.toArray 31)).there w1.heap.size 0 zs.toArray.size ∧ Both w w1.heap.size ((w1.alloc (.cells zs.toArray 31)).setCells w1.heap.size 0 zs) DS.fresh (List.replicate 64 (Value.slice none 0 0)) none 0 := by
  have n0 := Blk.new w1 31 zs.toArray
  have ba := Bl.alloc w1 (.cells zs.toArray 31)
  have b2 : Bl w1 ((w1.alloc (.cells zs.toArray 31)).setCells w1.heap.size 0 zs) := Below.setCells' (Nat.le_refl _) zs 0 _ ba
  have f2 := Fr.of_bl b2 hd.plt
  have hsz : w1.heap.size < ((w1.alloc (.cells zs.toArray 31)).setCells w1.heap.size 0 zs).heap.size := by
    have := (n0.setAll (us := zs) (by simp)).lt
    exact this
  refine ⟨n0.there (by simp), ⟨(hd.weak (fun b hb _ => by omega)).bl b2, hn.bl_ hd.plt b2, ⟨by simp, Each.replicate_ 64 (Sv.nil_ _ _), Puts.nil_ _ _ _, Nat.le_refl _⟩, ?_, hd.safe_new b2 (Nat.le_refl _) hsz, hd.plt⟩⟩
  have := n0.setAll (us := zs) (by simp)
  rw [hzs] at this ⊢
  exact this

/-- What the drawn region leaves. -/
structure MidF (p g : Nat) (V Wf : World) (D' : DS) (b : List UInt8) (k : Int) (rs : List Value) (A : Option Addr) (c : Nat) (B : Option Addr) (d g7 g8 : Nat) (cs : List Value) : Prop where
  bl : Bl V Wf
  b7 : Blk Wf g7 31 cs.toArray
  b8 : Blk Wf g8 37 #[.slice B b.length d, .int .i64 k]
  rd : RD p (fun b => b ≠ g) Wf D' rs A c
  sl : SLs p Wf B d b
  slx : ∀ a, B = some a → 0 < b.length → a.block ≠ g
  hcs : cs = rdc rs (.slice A D'.waits.length c) D'.down
  n7 : V.heap.size ≤ g7
  n8 : V.heap.size ≤ g8
def Mid12 (a : Act) (p g : Nat) (V : World) (D' : DS) (b : List UInt8) (k : Int) (v49 v50 v51 v52 v53 : Value) (e : Exit) (a' : Act) (w' : World) : Prop :=
  e = .normal ∧ ∃ (rs : List Value) (A : Option Addr) (c : Nat) (B : Option Addr) (d g7 g8 : Nat) (cs : List Value),
    a' = (((((((((((a.put (some 49) v49).put (some 50) v50).put (some 51) v51).put (some 52) v52).put (some 53) v53).put (some 54) (.tuple #[.agg cs.toArray, .agg #[.slice B b.length d, .int .i64 k]])).put (some 48) (.tuple #[.agg cs.toArray, .agg #[.slice B b.length d, .int .i64 k]])).put (some 55) (.agg cs.toArray)).put (some 56) (.agg #[.slice B b.length d, .int .i64 k])).put (some 7) (.pointer (some ⟨g7, 0, none⟩))).put (some 8) (.pointer (some ⟨g8, 0, none⟩))) ∧
    MidF p g V w' D' b k rs A c B d g7 g8 cs
theorem region_mid {P : Program} {c : Code} {Q : Exit → Act → World → Prop} {a : Act} {w : World} (M : Act → Exit → Act → World → Prop) (h1 : c.wp P (M a) a w) (h2 : ∀ e a' w', M a e a' w' → Q e a' w') : c.wp P Q a w := Code.wp_mono h2 h1

theorem acts_pre {p g : Nat} {V w1 w5 Wp : World} {D D' : DS} {b : List UInt8} {k : Int} {rs : List Value} {A B : Option Addr} {c d g7 g8 : Nat} {zs cs : List Value} (hD : IsDisk p (fun b => b ≠ g) V D) (b1 : Bl V w1) (b5 : Bl w1 w5) (bp : Bl w5 Wp)
    (hr5 : RD p (XD (fun b => b ≠ g ∧ b < V.heap.size) w1) w5 D' rs A c) (hB5 : SLs p w5 B d b) (hBx5 : ∀ a, B = some a → 0 < b.length → XD (fun b => b ≠ g ∧ b < V.heap.size) w1 a.block) (hcs : cs = rdc rs (.slice A D'.waits.length c) D'.down)
    (hg : g < V.heap.size) (f7 : Blk Wp g7 31 zs.toArray) (hzl : zs.length = 66) (f8 : Blk Wp g8 37 #[.slice none 0 0, .int .i64 0])
    (h7 : V.heap.size ≤ g7) (h7' : g7 < w1.heap.size ∨ w5.heap.size ≤ g7) (h8 : V.heap.size ≤ g8) (h8' : g8 < w1.heap.size ∨ w5.heap.size ≤ g8) (h78 : g7 ≠ g8) :
    Wp.there g7 0 cs.toArray.size ∧ cs.length = 66 ∧ (cs.toArray.all (·.oneCell') = true) ∧ Bl V (Wp.setCells g7 0 cs) ∧ Blk (Wp.setCells g7 0 cs) g8 37 #[.slice none 0 0, .int .i64 0] ∧
      MidF p g V (((Wp.setCells g7 0 cs).setCell ⟨g8, 0, none⟩ (.slice B b.length d)).setCell ⟨g8, 1, none⟩ (.int .i64 k)) D' b k rs A c B d g7 g8 cs := by
  have hl : cs.length = 66 := by rw [hcs, rdc_len hr5.lr]
  have ho := rdc_one (n := D'.waits.length) hr5 D'.down
  rw [← hcs] at ho
  have bV5 := b1.trans b5
  have bVp := bV5.trans bp
  have hp5 : p < w5.heap.size := (hD.bl bV5).plt
  have hs1 := b1.size; have hs5 := b5.size
  -- its blocks
  have hr := (hr5.weak (Y := fun b => b ≠ g ∧ b ≠ g7 ∧ b ≠ g8) (fun b hb hx => by
    rcases hx with ⟨hx1, hx2, hx3⟩ | hx
    · exact ⟨hx2, by omega, by omega⟩
    · exact ⟨by omega, by omega, by omega⟩)).fr (Fr.of_bl bp hp5)
  have hBlt : ∀ a, B = some a → 0 < b.length → a.block ≠ g ∧ a.block ≠ g7 ∧ a.block ≠ g8 := by
    intro a ha hn
    have hlt := (hB5.safe a ha hn).1
    rcases hBx5 a ha hn with ⟨hx1, hx2, hx3⟩ | hx
    · exact ⟨hx2, by omega, by omega⟩
    · exact ⟨by omega, by omega, by omega⟩
  have s7 := hD.safe_new bVp h7 f7.lt
  have s8 := hD.safe_new bVp h8 f8.lt
  have e1 : Bl V (Wp.setCells g7 0 cs) := Below.setCells' h7 cs 0 Wp bVp
  have t8 : Blk (Wp.setCells g7 0 cs) g8 37 #[.slice none 0 0, .int .i64 0] := (World.heap_setCells_other Wp g7 0 cs f8.lt (Ne.symm h78)).trans f8
  have S8 := Safe.setCells' cs 0 Wp s8 s7
  have r1 := RD.fars (fun h => h.2.1 rfl) cs 0 Wp hr s7
  have r2 := (r1.far (g := g8) (fun h => h.2.2 rfl) S8 0 (.slice B b.length d)).far (fun h => h.2.2 rfl) (S8.setCell S8 0 _) 1 (.int .i64 k)
  have l0 := hB5.fr (Fr.of_bl bp hp5)
  have l1 := SLs.fars (fun a ha hn => (hBlt a ha hn).2.1) cs 0 Wp l0 s7
  have l2 := (l1.far S8 (fun a ha hn => (hBlt a ha hn).2.2) 0 (.slice B b.length d)).far (S8.setCell S8 0 _) (fun a ha hn => (hBlt a ha hn).2.2) 1 (.int .i64 k)
  refine ⟨f7.there (by simp [hl, hzl]), hl, ho, e1, t8, ⟨Below.setCell (Below.setCell e1 (by exact h8) _) (by exact h8) _, ?_, told_blk t8 _ _, r2.weak (fun b _ h => h.1), l2, fun a ha hn => (hBlt a ha hn).1, hcs, h7, h8⟩⟩
  exact ((f7.setAll (us := cs) (by simp [hl, hzl])).far (p := ⟨g8, 0, none⟩) h78 _).far (p := ⟨g8, 1, none⟩) h78 _
theorem rdc_len' {cs rs : List Value} {wv : Value} {dn : Bool} (h : cs = rdc rs wv dn) (hr : rs.length = 64) : cs.length = 66 := by rw [h, rdc_len hr]

/-- The document's disk, stored. -/
theorem acts_next {w V Wf : World} {g : Nat} {D D' : DS} {b : List UInt8} {k : Int} {rs0 rs : List Value} {A0 A B : Option Addr} {c0 c d g7 g8 : Nat} {cs : List Value} (hd : IsDisk w.heap.size (fun b => b ≠ g) V D') (hn : New w V) (hg : Safe w.heap.size V g) (hgt : w.heap.size < g)
    (hb : Blk V g 31 (rdc rs0 (.slice A0 D.waits.length c0) D.down).toArray) (hr0 : rs0.length = 64) (m : MidF w.heap.size g V Wf D' b k rs A c B d g7 g8 cs) :
    Wf.rangeAt g7 0 cs ∧ Wf.there g 0 cs.toArray.size ∧ cs.length = 66 ∧ (cs.toArray.all (·.oneCell') = true) ∧ Both w g (Wf.setCells g 0 cs) D' rs A c ∧ Blk (Wf.setCells g 0 cs) g8 37 #[.slice B b.length d, .int .i64 k] ∧ SLs w.heap.size (Wf.setCells g 0 cs) B d b ∧
      (∀ g6 cs6 t6, Blk V g6 t6 cs6 → g6 ≠ g → Blk (Wf.setCells g 0 cs) g6 t6 cs6) ∧ (∀ A6 c6 l6, SLs w.heap.size V A6 c6 l6 → (∀ a, A6 = some a → 0 < l6.length → a.block ≠ g) → SLs w.heap.size (Wf.setCells g 0 cs) A6 c6 l6) := by
  have hl : cs.length = 66 := rdc_len' m.hcs m.rd.lr
  have ho := rdc_one (n := D'.waits.length) m.rd D'.down
  rw [← m.hcs] at ho
  have hp := hd.plt
  have hf := Fr.of_bl m.bl hp
  have hs := hf.safe _ hg
  have hbf := hb.below m.bl hg.1
  have h8 := m.n8
  have hg1 := hg.1
  refine ⟨m.b7.rangeL, hbf.there (by simp [hl, rdc_len hr0]), hl, ho, ⟨IsDisk.fars (fun h => h rfl) cs 0 Wf (hd.bl m.bl) hs, New.setCells' hgt cs 0 Wf (hn.bl_ hp m.bl), RD.fars (fun h => h rfl) cs 0 Wf m.rd hs, ?_, Safe.setCells' cs 0 Wf hs hs, hgt⟩, ?_, SLs.fars m.slx cs 0 Wf m.sl hs, ?_, ?_⟩
  · have := hbf.setAll (us := cs) (by simp [hl, rdc_len hr0])
    rw [m.hcs] at this ⊢
    exact this
  · exact (World.heap_setCells_other Wf g 0 cs m.b8.lt (by omega)).trans m.b8
  · intro g6 cs6 t6 h6 hne
    exact (World.heap_setCells_other Wf g 0 cs (h6.below m.bl h6.lt).lt hne).trans (h6.below m.bl h6.lt)
  · intro A6 c6 l6 h6 hne
    exact SLs.fars hne cs 0 Wf (h6.fr hf) hs
theorem actB_le {D : DS} (h : Tidy D) (x : ActP) : (actB D x).length ≤ 64 := by
  unfold actB; split
  · unfold bRead; split
    · rw [List.getD_eq_getElem?_getD]
      cases he : D.seen[x.at_.toNat]? with
      | none => simp
      | some y => exact h.bs y (List.mem_of_getElem? he)
    · simp
  · simp

theorem acts_up {w wr w2 : World} {g : Nat} {D : DS} {rs : List Value} {A : Option Addr} {c : Nat} (h : Both w g wr D rs A c) (d2 : IsDisk w.heap.size (fun b => b ≠ g) w2 (dUp D)) (f2 : Fr w.heap.size wr w2) :
    ∃ W, W = w2.setCell ⟨g, 65, none⟩ (.bool false) ∧ Both w g W (dUp D) rs A c := by
  have hs := f2.safe _ h.safe
  have r := (h.rd.fr f2).far (g := g) (fun h => h rfl) hs 65 (.bool false)
  refine ⟨_, rfl, d2.far (fun h => h rfl) hs.2.1 hs.2.2 65 _, (h.new.fr f2).setCell h.gt 65 _, ⟨r.lr, r.et, r.pw, r.cap⟩, ?_, hs.setCell hs 65 _, h.gt⟩
  have := row_set (h.blk.fr f2 h.safe) 65 (.bool false)
  rw [rdc_set_down h.rd.lr] at this
  exact this
theorem twin_up {D : DS} (h : Twin D) : Twin (dUp D) := ⟨tidy_up h.tidy, h.lay⟩
theorem acts_told {w4 : World} {zs cs : List Value} (hz : zs.length = 66) (hc : cs.length = 66) (u v : Value) :
    ((w4.alloc (.cells zs.toArray 31)).alloc (.cells #[.slice none 0 0, .int .i64 0] 37)).there w4.heap.size 0 cs.toArray.size ∧
    ∃ Wb W, Wb = ((w4.alloc (.cells zs.toArray 31)).alloc (.cells #[.slice none 0 0, .int .i64 0] 37)).setCells w4.heap.size 0 cs ∧ W = (Wb.setCell ⟨w4.heap.size + 1, 0, none⟩ u).setCell ⟨w4.heap.size + 1, 1, none⟩ v ∧
      Blk Wb (w4.heap.size + 1) 37 #[.slice none 0 0, .int .i64 0] ∧ Blk W (w4.heap.size + 1) 37 #[u, v] ∧ Bl w4 W := by
  have b2 := (Bl.alloc w4 (.cells zs.toArray 31)).trans (Bl.alloc _ (.cells #[.slice none 0 0, .int .i64 0] 37))
  have n0 := (Blk.new w4 31 zs.toArray).alloc (.cells #[.slice none 0 0, .int .i64 0] 37)
  have n1 := new_at (w4.alloc (.cells zs.toArray 31)) 37 #[.slice none 0 0, .int .i64 0] (w4.heap.size + 1) (by simp)
  have b3 := Below.setCells' (g := w4.heap.size) (Nat.le_refl _) cs 0 _ b2
  have t1 : Blk (((w4.alloc (.cells zs.toArray 31)).alloc (.cells #[.slice none 0 0, .int .i64 0] 37)).setCells w4.heap.size 0 cs) (w4.heap.size + 1) 37 #[.slice none 0 0, .int .i64 0] := (World.heap_setCells_other _ _ 0 cs n1.lt (by omega)).trans n1
  exact ⟨n0.there (by simp [hz, hc]), _, _, rfl, rfl, t1, told_blk t1 _ _, Below.setCell (Below.setCell b3 (by exact Nat.le_succ _) _) (by exact Nat.le_succ _) _⟩

set_option maxRecDepth 100000 in
set_option maxHeartbeats 4000000 in
theorem diskActs_main (A : Option Addr) (c : Nat) (l : List ActP) (w : World) (h : Acts w A l) (hll : l.length ≤ 9223372036854775807) (hf : fewB l 40 = true) :
    Calls Try.prog 3 #[.slice A l.length c] w fun e w' => e = .returned (.bool true) ∧ Bl w w' := by
  have hfw := few_any A c l 40 w h hll
  rw [hf] at hfw
  have hl40 := (fewB_iff.1 hf).2
  obtain ⟨zs, hzs⟩ : ∃ zs, zs = rdc (List.replicate 64 (Value.slice none 0 0)) (.slice none 0 0) false := ⟨_, rfl⟩
  have hz := zero_rdc
  rw [← hzs] at hz
  have hzl : zs.length = 66 := by rw [hzs, rdc_len (by simp)]
  have hzo : (zs.toArray.all (·.oneCell') = true) := by
    rw [hzs]; kernel_rfl
  have HFW := Lib.hid hfw; have HA := Lib.hid h; have HZS := Lib.hid hzs; have HZL := Lib.hid hzl; have HZO := Lib.hid hzo
  have HTF := Lib.hid twin_fresh
  clear hfw h hf hzs hzl hzo
  go_enter Try.func3, Try.ntmps3
  go_wp2_with fail
  refine HFW.out.mono ?_
  rintro e w' ⟨rfl, rfl⟩
  go_wp2_with fail
  refine (dNew_to (fun _ => True) _).mono ?_
  rintro e w1 ⟨rfl, dd, nw⟩
  obtain ⟨ht, hstart⟩ := acts_start dd nw zs HZS.out
  have HT := Lib.hid ht; have HST := Lib.hid hstart
  clear ht hstart dd nw
  go_wp2_with (refine wpList_store_mid rfl 31 (.tmp 4) (.tmp 21) (by rfl) w1.heap.size 0 zs.toArray (by rfl) (by rfl) HT.out (by rw [size_rdc, List.size_toArray, HZL.out]) HZO.out ?_)
  obtain ⟨W2, hW2⟩ : ∃ W, W = (w1.alloc (.cells zs.toArray 31)).setCells w1.heap.size 0 zs := ⟨_, rfl⟩
  rw [← hW2] at HST
  rw [show (w1.alloc (.cells zs.toArray 31)).setCells w1.heap.size 0 zs.toArray.toList = W2 from hW2.symm]
  obtain ⟨g, hg⟩ : ∃ g, g = w1.heap.size := ⟨_, rfl⟩
  rw [← hg] at HST ⊢
  clear hW2 HT
  go_wp2
  go_loopw [5] (fun i wr => ∃ j : Nat, j ≤ l.length ∧ i = .int .i64 j ∧ Hid (∃ D rs A c, Both w g wr D rs A c ∧ Twin D ∧ D.waits.length ≤ j)) (fun i _ => l.length - (intOf i).toNat)
  case atStart => exact ⟨0, Nat.zero_le _, rfl, ⟨_, _, _, _, HST.out, HTF.out, Nat.le_refl _⟩⟩
  case round =>
    clear HST hg
    obtain ⟨i, hi, rfl, H⟩ := hrel
    by_cases hlt : i < l.length
    · obtain ⟨D, rs0, A0, c0', hB, hTW, hwk⟩ := H.out
      obtain ⟨ga, oa, Ba, ba, Ka, ka, rfl, c0, c1, c2, c3, sb, sk, hkm, hbm⟩ := HA.out.news hB.new hlt
      by_cases hx0 : 0 ≤ l[i].kind
      · by_cases hx4 : l[i].kind ≤ 4
        · obtain ⟨b, hb⟩ : ∃ b, actB D l[i] = b := ⟨_, rfl⟩
          obtain ⟨k, hk⟩ : ∃ k, actE D l[i] = k := ⟨_, rfl⟩
          obtain ⟨D', hD'⟩ : ∃ D', actD D l[i] = D' := ⟨_, rfl⟩
          have hwl : D.waits.length ≤ 100000 := by omega
          have HC := Lib.hid (act_any (X := fun b => b ≠ g) (d := ka) (c := ba) hB.disk l[i] sb sk hkm hwl hTW.tidy.short (fun b hb e => by have := hB.safe.1; omega) b k D' hb hk hD')
          have hbl : b.length ≤ 64 := by rw [← hb]; exact actB_le hTW.tidy _
          have hkk : (k != k) = false := by simp
          have HB1 := Lib.hid hb; have HB2 := Lib.hid hk; have HB3 := Lib.hid hD'; have HTW := Lib.hid hTW; have HBO := Lib.hid hB; have HWK := Lib.hid hwk
          clear sb sk hb hk hD' hTW hB H
          go_wp2_with fail
          refine HC.out.mono ?_
          rintro e w4 ⟨A4, c4, rfl, s4, d4, f4, n4⟩
          have HS4 := Lib.hid s4; have HD4 := Lib.hid d4; have HF4 := Lib.hid f4; have HN4 := Lib.hid n4
          clear s4 d4 f4 n4 c0 c1 c2 c3 HC
          go_wp2_with fail
          obtain ⟨V, hV⟩ : ∃ V, V = w4.alloc (.cells #[.slice A4 b.length c4, .int .i64 k] 37) := ⟨_, rfl⟩
          rw [← hV]
          have hBO := HBO.out
          have b4 : Bl w4 V := by rw [hV]; exact Bl.alloc _ _
          have h6 : Blk V w4.heap.size 37 #[.slice A4 b.length c4, .int .i64 k] := by rw [hV]; exact Blk.new _ _ _
          have hdV := HD4.out.bl b4
          have hnV := (hBO.new.fr HF4.out).bl_ HD4.out.plt b4
          have hrV := (hBO.rd.fr HF4.out).fr (Fr.of_bl b4 HD4.out.plt)
          have hsV := (Fr.of_bl b4 HD4.out.plt).safe _ (HF4.out.safe _ hBO.safe)
          have hbV := (hBO.blk.fr HF4.out hBO.safe).below b4 (HF4.out.safe _ hBO.safe).1
          obtain ⟨cs0, hcs0⟩ : ∃ cs0, cs0 = rdc rs0 (.slice A0 D.waits.length c0') D.down := ⟨_, rfl⟩
          obtain ⟨ga', oa', Ba', ba', Ka', ka', he', c0, c1, c2, c3, sb, sk, _, _⟩ := HA.out.news hnV hlt
          cases he'
          have hg6 : w4.heap.size ≠ g := by have := (HF4.out.safe _ hBO.safe).1; omega
          have hgV : g < V.heap.size := hsV.1
          have HDV := Lib.hid hdV; have HNV := Lib.hid hnV; have HRV := Lib.hid hrV; have HSV := Lib.hid hsV; have HBV := Lib.hid hbV; have HPV := Lib.hid hdV.plt
          have HSB := Lib.hid sb; have HSK := Lib.hid sk; have H6 := Lib.hid h6; have HG6 := Lib.hid hg6; have HGT := Lib.hid hBO.gt; have HR0 := Lib.hid hBO.rd.lr
          have HS4V := Lib.hid (HS4.out.fr (Fr.of_bl b4 HD4.out.plt))
          have HN4' := Lib.hid (show ∀ a, A4 = some a → 0 < b.length → a.block ≠ g from fun a ha hn e => by have := HN4.out a ha; have := hBO.safe.1; omega)
          have HCS0 := Lib.hid hcs0
          have hc0 : cs0.length = 66 := by rw [hcs0, rdc_len hBO.rd.lr]
          have hu := Try.underlying31
          have hi' : (Try.prog.info? 31).map (·.size) = some cs0.length := by rw [size_rdc, hc0]
          have r0 : V.rangeAt g 0 cs0 := by rw [hcs0]; exact hbV.rangeL
          clear hcs0 hV hBO b4 h6 hdV hnV hrV hsV hbV sb sk hg6 HS4 HD4 HF4 HN4
          refine region_mid (fun a => Mid12 a w.heap.size g V D' b k (.agg cs0.toArray) (.slice (some ⟨ga, oa, none⟩) l.length c) (.int .i64 (i : Int)) (.pointer (some ⟨ga, oa + i * 4, none⟩)) (.agg #[.int .i64 l[i].kind, .int .i64 l[i].at_, .slice Ba' l[i].b.length ba', .slice Ka' l[i].keep.length ka'])) ?_ ?_
          · have b0 : Bl V V.drew := Bl.drewN V 1
            have hS0 : (fun w' : World => w'.rangeAt g 0 cs0 ∧ w'.cell? ⟨ga, oa + i * 4, none⟩ = some (.int .i64 l[i].kind) ∧ w'.cell? ⟨ga, oa + i * 4 + 1, none⟩ = some (.int .i64 l[i].at_) ∧ w'.cell? ⟨ga, oa + i * 4 + 2, none⟩ = some (.slice Ba' l[i].b.length ba') ∧ w'.cell? ⟨ga, oa + i * 4 + 3, none⟩ = some (.slice Ka' l[i].keep.length ka')) V.drew := ⟨r0, c0, c1, c2, c3⟩
            have hKB : ∀ w' : World, Bl V w' → (fun w' : World => w'.rangeAt g 0 cs0 ∧ w'.cell? ⟨ga, oa + i * 4, none⟩ = some (.int .i64 l[i].kind) ∧ w'.cell? ⟨ga, oa + i * 4 + 1, none⟩ = some (.int .i64 l[i].at_) ∧ w'.cell? ⟨ga, oa + i * 4 + 2, none⟩ = some (.slice Ba' l[i].b.length ba') ∧ w'.cell? ⟨ga, oa + i * 4 + 3, none⟩ = some (.slice Ka' l[i].keep.length ka')) w' := fun w' hb => ⟨fun j v hv => Bl.some' hb (r0 j v hv), Bl.some' hb c0, Bl.some' hb c1, Bl.some' hb c2, Bl.some' hb c3⟩
            have HKB := Lib.hid hKB
            have j1 : (0 : Int) ≤ (i : Int) := by omega
            have j2 : (i : Int) < (l.length : Int) := by omega
            have bC := b0
            clear hKB r0 b0 c0 c1 c2 c3 hkk
            refine wp_region_noPanic ?_
            refine wp_region_held_drew (S := (fun w' : World => w'.rangeAt g 0 cs0 ∧ w'.cell? ⟨ga, oa + i * 4, none⟩ = some (.int .i64 l[i].kind) ∧ w'.cell? ⟨ga, oa + i * 4 + 1, none⟩ = some (.int .i64 l[i].at_) ∧ w'.cell? ⟨ga, oa + i * 4 + 2, none⟩ = some (.slice Ba' l[i].b.length ba') ∧ w'.cell? ⟨ga, oa + i * 4 + 3, none⟩ = some (.slice Ka' l[i].keep.length ka'))) (by kernel_rfl) hS0 (fun hHeld => ?_)
            clear hS0
            refine wpAnyH_take (i := 0) (oi := { dst := some 49, op := Op.load 31 (Operand.tmp 4), type := 31, pos := "law.go:63", after := #[], guard := none }) (v := .agg cs0.toArray) rfl (by kernel_rfl) (by kernel_rfl) (by kernel_rfl) (fun _ _ _ h => h) (yieldsIf_load_mid (by rfl) 31 (.tmp 4) rfl g 0 rfl cs0 _ (fun w' h => h.1) hu rfl hi') hHeld ?_
            simp only [Act.put, List.setIfInBounds_toArray, List.set_cons_zero, List.set_cons_succ]
            refine wpAnyH_take (i := 1) (oi := { dst := some 50, op := Op.move (Operand.tmp 0), type := 22, pos := "law.go:63", after := #[], guard := none }) (v := ?_) rfl (by kernel_rfl) (by kernel_rfl) (by kernel_rfl) (fun _ _ _ h => h) (Or.inl ⟨by rfl, ?_⟩) hHeld ?_
            rotate_left
            · intro w' hSw
              obtain ⟨_, s1, s2, s3, s4⟩ := hSw
              go_simp
              with_reducible rfl
            try simp only [Act.put, List.setIfInBounds_toArray, List.set_cons_zero, List.set_cons_succ]
            refine wpAnyH_take (i := 2) (oi := { dst := some 51, op := Op.move (Operand.tmp 5), type := 3, pos := "law.go:63", after := #[], guard := none }) (v := ?_) rfl (by kernel_rfl) (by kernel_rfl) (by kernel_rfl) (fun _ _ _ h => h) (Or.inl ⟨by rfl, ?_⟩) hHeld ?_
            rotate_left
            · intro w' hSw
              obtain ⟨_, s1, s2, s3, s4⟩ := hSw
              go_simp
              with_reducible rfl
            try simp only [Act.put, List.setIfInBounds_toArray, List.set_cons_zero, List.set_cons_succ]
            refine wpAnyH_take (i := 3) (oi := { dst := some 52, op := Op.indexAddr 22 (Operand.tmp 50) (Operand.tmp 51), type := 0, pos := "law.go:63", after := #[{ on := 1, ground := Ground.data }, { on := 2, ground := Ground.data }], guard := none }) (v := ?_) rfl (by kernel_rfl) (by kernel_rfl) (by kernel_rfl) (fun _ _ _ h => h) (Or.inl ⟨by rfl, ?_⟩) hHeld ?_
            rotate_left
            · intro w' hSw
              obtain ⟨_, s1, s2, s3, s4⟩ := hSw
              go_simp
              with_reducible rfl
            try simp only [Act.put, List.setIfInBounds_toArray, List.set_cons_zero, List.set_cons_succ]
            refine wpAnyH_take (i := 4) (oi := { dst := some 53, op := Op.load 34 (Operand.tmp 52), type := 34, pos := "law.go:63", after := #[{ on := 3, ground := Ground.data }], guard := none }) (v := ?_) rfl (by kernel_rfl) (by kernel_rfl) (by kernel_rfl) (fun _ _ _ h => h) (Or.inl ⟨by rfl, ?_⟩) hHeld ?_
            rotate_left
            · intro w' hSw
              obtain ⟨_, s1, s2, s3, s4⟩ := hSw
              go_simp
              with_reducible rfl
            try simp only [Act.put, List.setIfInBounds_toArray, List.set_cons_zero, List.set_cons_succ]
            refine wpAnyH_ready (rs := [5, 9, 10]) (by kernel_rfl) (by simp) ?_
            refine AllReadyH.cons (o := { dst := some 54, op := Op.call { callee := Callee.value (Operand.func 12), args := #[Operand.tmp 49, Operand.tmp 53], argTypes := #[31, 34] }, type := 39, pos := "law.go:63", after := #[{ on := 0, ground := Ground.data }, { on := 4, ground := Ground.data }], guard := none }) rfl (fun K hK => ?_) ?_
            · skip
              go_simp
              have hc := (do_any (d := ka') (HDV.out.bl bC) ((HRV.out.weak (Y := fun b => b ≠ g ∧ b < V.heap.size) (fun b hb hn => ⟨hn, hb⟩)).fr (Fr.of_bl bC HPV.out)) HTW.out hwl l[i] hx0 hx4 (HSB.out.step bC) (HSK.out.fr (Fr.of_bl bC HPV.out)) hkm _ _ rfl rfl b k D' HB1.out HB2.out HB3.out)
              rw [← HCS0.out] at hc
              refine hc.mono ?_
              clear hc
              rintro e w5 ⟨rs5, A5, c5, B5, d5, rfl, hr5, hB5, hBx5, b5⟩
              obtain ⟨cs5, hcs5⟩ : ∃ cs5, cs5 = rdc rs5 (.slice A5 D'.waits.length c5) D'.down := ⟨_, rfl⟩
              rw [← hcs5]
              have HR5 := Lib.hid hr5; have HB5 := Lib.hid hB5; have HBX5 := Lib.hid hBx5; have HCS5 := Lib.hid hcs5; have HBC1 := Lib.hid bC; have HBC5 := Lib.hid b5
              have bW := Bl.refl w5
              replace bC := bC.trans b5
              clear hr5 hB5 hBx5 hcs5 b5
              try go_wp2_with fail
              refine hK.out _ _ (HKB.out _ bC) (fun hHeld => ?_)
              clear hK K
              try simp only [Act.put, List.setIfInBounds_toArray, List.set_cons_zero, List.set_cons_succ]
              refine wpAnyH_take (i := 6) (oi := { dst := some 48, op := Op.move (Operand.tmp 54), type := 39, pos := "law.go:63", after := #[{ on := 5, ground := Ground.data }], guard := none }) (v := ?_) rfl (by kernel_rfl) (by kernel_rfl) (by kernel_rfl) (fun _ _ _ h => h) (Or.inl ⟨by rfl, ?_⟩) hHeld ?_
              rotate_left
              · intro w' hSw
                go_simp
                with_reducible rfl
              try simp only [Act.put, List.setIfInBounds_toArray, List.set_cons_zero, List.set_cons_succ]
              refine wpAnyH_take (i := 7) (oi := { dst := some 55, op := Op.extract (Operand.tmp 48) 0, type := 31, pos := "law.go:63", after := #[{ on := 6, ground := Ground.data }], guard := none }) (v := ?_) rfl (by kernel_rfl) (by kernel_rfl) (by kernel_rfl) (fun _ _ _ h => h) (Or.inl ⟨by rfl, ?_⟩) hHeld ?_
              rotate_left
              · intro w' hSw
                go_simp
                with_reducible rfl
              try simp only [Act.put, List.setIfInBounds_toArray, List.set_cons_zero, List.set_cons_succ]
              refine wpAnyH_take (i := 8) (oi := { dst := some 56, op := Op.extract (Operand.tmp 48) 1, type := 37, pos := "law.go:63", after := #[{ on := 6, ground := Ground.data }, { on := 11, ground := Ground.gcOnly Departure.lateStores }], guard := none }) (v := ?_) rfl (by kernel_rfl) (by kernel_rfl) (by kernel_rfl) (fun _ _ _ h => h) (Or.inl ⟨by rfl, ?_⟩) hHeld ?_
              rotate_left
              · intro w' hSw
                go_simp
                with_reducible rfl
              try simp only [Act.put, List.setIfInBounds_toArray, List.set_cons_zero, List.set_cons_succ]
              refine wpAnyH_ready (rs := [9, 10]) (by kernel_rfl) (by simp) ?_
              refine AllReadyH.cons (o := { dst := some 7, op := Op.alloc 31, type := 0, pos := "law.go:63", after := #[], guard := none }) rfl (fun K hK => ?_) ?_
              · skip
                go_simp
                have f7 := new_at w5 31 zs.toArray w5.heap.size (by simp)
                replace bW := bW.trans (Bl.alloc _ (.cells zs.toArray 31))
                replace bC := bC.trans (Bl.alloc _ (.cells zs.toArray 31))
                refine hK.out _ _ (HKB.out _ bC) (fun hHeld => ?_)
                clear hK K
                try simp only [Act.put, List.setIfInBounds_toArray, List.set_cons_zero, List.set_cons_succ]
                refine wpAnyH_ready (rs := [10]) (by kernel_rfl) (by simp) ?_
                refine AllReadyH.cons (o := { dst := some 8, op := Op.alloc 37, type := 0, pos := "law.go:63", after := #[], guard := none }) rfl (fun K hK => ?_) ?_
                · skip
                  go_simp
                  have f8 := new_at (w5.alloc (.cells zs.toArray 31)) 37 #[.slice none 0 0, .int .i64 0] (w5.heap.size + 1) (by simp)
                  replace f7 := f7.alloc (.cells #[.slice none 0 0, .int .i64 0] 37)
                  replace bW := bW.trans (Bl.alloc _ (.cells #[.slice none 0 0, .int .i64 0] 37))
                  replace bC := bC.trans (Bl.alloc _ (.cells #[.slice none 0 0, .int .i64 0] 37))
                  refine hK.out _ _ (HKB.out _ bC) (fun hHeld => ?_)
                  clear hK K
                  try simp only [Act.put, List.setIfInBounds_toArray, List.set_cons_zero, List.set_cons_succ]
                  have hq5 := HBC1.out.size; have hq6 := HBC5.out.size
                  simp at hq5 hq6
                  have hp := acts_pre (k := k) HDV.out HBC1.out HBC5.out bW HR5.out HB5.out HBX5.out HCS5.out hgV f7 HZL.out f8 (by first | omega | (simp; done) | (simp; omega)) (.inr (by first | omega | (simp; done) | (simp; omega))) (by first | omega | (simp; done) | (simp; omega)) (.inr (by first | omega | (simp; done) | (simp; omega))) (by first | omega | (simp; done) | (simp; omega))
                  obtain ⟨ht, hcl, ho, hbl, t8, hmid⟩ := hp
                  have x0 := t8.cell 0; have x1 := t8.cell 1; have z0 := t8.frozen 0; have z1 := t8.frozen 1
                  simp only [List.getElem?_toArray, List.getElem?_cons_zero, List.getElem?_cons_succ] at x0 x1
                  have HMID := Lib.hid hmid
                  clear f7 f8 t8 hmid hq5 hq6
                  refine wpAnyH_ready (rs := [11]) (by kernel_rfl) (by simp) ?_
                  refine AllReadyH.cons (o := { dst := none, op := Op.store 31 (Operand.tmp 7) (Operand.tmp 55), type := 0, pos := "law.go:63", after := #[{ on := 9, ground := Ground.data }, { on := 7, ground := Ground.data }, { on := 5, ground := Ground.chain }, { on := 0, ground := Ground.phase }, { on := 1, ground := Ground.phase }, { on := 2, ground := Ground.phase }, { on := 3, ground := Ground.phase }, { on := 4, ground := Ground.phase }, { on := 5, ground := Ground.phase }, { on := 6, ground := Ground.phase }, { on := 7, ground := Ground.phase }, { on := 8, ground := Ground.textOnly Departure.lateStores }, { on := 9, ground := Ground.phase }, { on := 10, ground := Ground.phase }], guard := none }) rfl (fun K hK => ?_) AllReadyH.nil
                  rw [if_pos (by rfl)]
                  refine wp_store_mid 31 (.tmp 7) (.tmp 55) rfl w5.heap.size 0 cs5.toArray rfl rfl ht (by rw [size_rdc, List.size_toArray, hcl]) ho ?_
                  refine hK.out _ _ (HKB.out _ hbl) (fun hHeld => ?_)
                  clear hK K
                  try simp only [Act.put, List.setIfInBounds_toArray, List.set_cons_zero, List.set_cons_succ, List.toList_toArray]
                  refine wpAnyH_ready (rs := [12]) (by kernel_rfl) (by simp) ?_
                  refine AllReadyH.cons (o := { dst := none, op := Op.store 37 (Operand.tmp 8) (Operand.tmp 56), type := 0, pos := "law.go:63", after := #[{ on := 10, ground := Ground.data }, { on := 8, ground := Ground.data }, { on := 11, ground := Ground.chain }, { on := 0, ground := Ground.phase }, { on := 1, ground := Ground.phase }, { on := 2, ground := Ground.phase }, { on := 3, ground := Ground.phase }, { on := 4, ground := Ground.phase }, { on := 5, ground := Ground.phase }, { on := 6, ground := Ground.phase }, { on := 7, ground := Ground.phase }, { on := 8, ground := Ground.phase }, { on := 9, ground := Ground.phase }, { on := 10, ground := Ground.phase }, { on := 11, ground := Ground.phase }], guard := none }) rfl (fun K hK => ?_) AllReadyH.nil
                  go_simp
                  refine hK.out _ _ (HKB.out _ HMID.out.bl) (fun hHeld => ?_)
                  clear hK K
                  try simp only [Act.put, List.setIfInBounds_toArray, List.set_cons_zero, List.set_cons_succ]
                  refine wpAnyH_done (by kernel_rfl) ?_ _
                  exact ⟨rfl, rs5, A5, c5, B5, d5, w5.heap.size, (w5.heap.size + 1), cs5, by simp only [Act.put, List.setIfInBounds_toArray, List.set_cons_zero, List.set_cons_succ], HMID.out⟩
                exact AllReadyH.nil
              refine AllReadyH.cons (o := { dst := some 8, op := Op.alloc 37, type := 0, pos := "law.go:63", after := #[], guard := none }) rfl (fun K hK => ?_) ?_
              · skip
                go_simp
                have f8 := new_at w5 37 #[.slice none 0 0, .int .i64 0] w5.heap.size (by simp)
                replace bW := bW.trans (Bl.alloc _ (.cells #[.slice none 0 0, .int .i64 0] 37))
                replace bC := bC.trans (Bl.alloc _ (.cells #[.slice none 0 0, .int .i64 0] 37))
                refine hK.out _ _ (HKB.out _ bC) (fun hHeld => ?_)
                clear hK K
                try simp only [Act.put, List.setIfInBounds_toArray, List.set_cons_zero, List.set_cons_succ]
                refine wpAnyH_ready (rs := [9]) (by kernel_rfl) (by simp) ?_
                refine AllReadyH.cons (o := { dst := some 7, op := Op.alloc 31, type := 0, pos := "law.go:63", after := #[], guard := none }) rfl (fun K hK => ?_) ?_
                · skip
                  go_simp
                  have f7 := new_at (w5.alloc (.cells #[.slice none 0 0, .int .i64 0] 37)) 31 zs.toArray (w5.heap.size + 1) (by simp)
                  replace f8 := f8.alloc (.cells zs.toArray 31)
                  replace bW := bW.trans (Bl.alloc _ (.cells zs.toArray 31))
                  replace bC := bC.trans (Bl.alloc _ (.cells zs.toArray 31))
                  refine hK.out _ _ (HKB.out _ bC) (fun hHeld => ?_)
                  clear hK K
                  try simp only [Act.put, List.setIfInBounds_toArray, List.set_cons_zero, List.set_cons_succ]
                  have hq5 := HBC1.out.size; have hq6 := HBC5.out.size
                  simp at hq5 hq6
                  have hp := acts_pre (k := k) HDV.out HBC1.out HBC5.out bW HR5.out HB5.out HBX5.out HCS5.out hgV f7 HZL.out f8 (by first | omega | (simp; done) | (simp; omega)) (.inr (by first | omega | (simp; done) | (simp; omega))) (by first | omega | (simp; done) | (simp; omega)) (.inr (by first | omega | (simp; done) | (simp; omega))) (by first | omega | (simp; done) | (simp; omega))
                  obtain ⟨ht, hcl, ho, hbl, t8, hmid⟩ := hp
                  have x0 := t8.cell 0; have x1 := t8.cell 1; have z0 := t8.frozen 0; have z1 := t8.frozen 1
                  simp only [List.getElem?_toArray, List.getElem?_cons_zero, List.getElem?_cons_succ] at x0 x1
                  have HMID := Lib.hid hmid
                  clear f7 f8 t8 hmid hq5 hq6
                  refine wpAnyH_ready (rs := [11]) (by kernel_rfl) (by simp) ?_
                  refine AllReadyH.cons (o := { dst := none, op := Op.store 31 (Operand.tmp 7) (Operand.tmp 55), type := 0, pos := "law.go:63", after := #[{ on := 9, ground := Ground.data }, { on := 7, ground := Ground.data }, { on := 5, ground := Ground.chain }, { on := 0, ground := Ground.phase }, { on := 1, ground := Ground.phase }, { on := 2, ground := Ground.phase }, { on := 3, ground := Ground.phase }, { on := 4, ground := Ground.phase }, { on := 5, ground := Ground.phase }, { on := 6, ground := Ground.phase }, { on := 7, ground := Ground.phase }, { on := 8, ground := Ground.textOnly Departure.lateStores }, { on := 9, ground := Ground.phase }, { on := 10, ground := Ground.phase }], guard := none }) rfl (fun K hK => ?_) AllReadyH.nil
                  rw [if_pos (by rfl)]
                  refine wp_store_mid 31 (.tmp 7) (.tmp 55) rfl (w5.heap.size + 1) 0 cs5.toArray rfl rfl ht (by rw [size_rdc, List.size_toArray, hcl]) ho ?_
                  refine hK.out _ _ (HKB.out _ hbl) (fun hHeld => ?_)
                  clear hK K
                  try simp only [Act.put, List.setIfInBounds_toArray, List.set_cons_zero, List.set_cons_succ, List.toList_toArray]
                  refine wpAnyH_ready (rs := [12]) (by kernel_rfl) (by simp) ?_
                  refine AllReadyH.cons (o := { dst := none, op := Op.store 37 (Operand.tmp 8) (Operand.tmp 56), type := 0, pos := "law.go:63", after := #[{ on := 10, ground := Ground.data }, { on := 8, ground := Ground.data }, { on := 11, ground := Ground.chain }, { on := 0, ground := Ground.phase }, { on := 1, ground := Ground.phase }, { on := 2, ground := Ground.phase }, { on := 3, ground := Ground.phase }, { on := 4, ground := Ground.phase }, { on := 5, ground := Ground.phase }, { on := 6, ground := Ground.phase }, { on := 7, ground := Ground.phase }, { on := 8, ground := Ground.phase }, { on := 9, ground := Ground.phase }, { on := 10, ground := Ground.phase }, { on := 11, ground := Ground.phase }], guard := none }) rfl (fun K hK => ?_) AllReadyH.nil
                  go_simp
                  refine hK.out _ _ (HKB.out _ HMID.out.bl) (fun hHeld => ?_)
                  clear hK K
                  try simp only [Act.put, List.setIfInBounds_toArray, List.set_cons_zero, List.set_cons_succ]
                  refine wpAnyH_done (by kernel_rfl) ?_ _
                  exact ⟨rfl, rs5, A5, c5, B5, d5, (w5.heap.size + 1), w5.heap.size, cs5, by simp only [Act.put, List.setIfInBounds_toArray, List.set_cons_zero, List.set_cons_succ], HMID.out⟩
                exact AllReadyH.nil
              exact AllReadyH.nil
            refine AllReadyH.cons (o := { dst := some 7, op := Op.alloc 31, type := 0, pos := "law.go:63", after := #[], guard := none }) rfl (fun K hK => ?_) ?_
            · skip
              go_simp
              have f7 := new_at V.drew 31 zs.toArray V.heap.size (by simp)
              replace bC := bC.trans (Bl.alloc _ (.cells zs.toArray 31))
              refine hK.out _ _ (HKB.out _ bC) (fun hHeld => ?_)
              clear hK K
              try simp only [Act.put, List.setIfInBounds_toArray, List.set_cons_zero, List.set_cons_succ]
              refine wpAnyH_ready (rs := [5, 10]) (by kernel_rfl) (by simp) ?_
              refine AllReadyH.cons (o := { dst := some 54, op := Op.call { callee := Callee.value (Operand.func 12), args := #[Operand.tmp 49, Operand.tmp 53], argTypes := #[31, 34] }, type := 39, pos := "law.go:63", after := #[{ on := 0, ground := Ground.data }, { on := 4, ground := Ground.data }], guard := none }) rfl (fun K hK => ?_) ?_
              · skip
                go_simp
                have hc := (do_any (d := ka') (HDV.out.bl bC) ((HRV.out.weak (Y := fun b => b ≠ g ∧ b < V.heap.size) (fun b hb hn => ⟨hn, hb⟩)).fr (Fr.of_bl bC HPV.out)) HTW.out hwl l[i] hx0 hx4 (HSB.out.step bC) (HSK.out.fr (Fr.of_bl bC HPV.out)) hkm _ _ rfl rfl b k D' HB1.out HB2.out HB3.out)
                rw [← HCS0.out] at hc
                refine hc.mono ?_
                clear hc
                rintro e w5 ⟨rs5, A5, c5, B5, d5, rfl, hr5, hB5, hBx5, b5⟩
                obtain ⟨cs5, hcs5⟩ : ∃ cs5, cs5 = rdc rs5 (.slice A5 D'.waits.length c5) D'.down := ⟨_, rfl⟩
                rw [← hcs5]
                have HR5 := Lib.hid hr5; have HB5 := Lib.hid hB5; have HBX5 := Lib.hid hBx5; have HCS5 := Lib.hid hcs5; have HBC1 := Lib.hid bC; have HBC5 := Lib.hid b5
                have bW := Bl.refl w5
                replace bC := bC.trans b5
                replace f7 := f7.below b5 f7.lt
                clear hr5 hB5 hBx5 hcs5 b5
                try go_wp2_with fail
                refine hK.out _ _ (HKB.out _ bC) (fun hHeld => ?_)
                clear hK K
                try simp only [Act.put, List.setIfInBounds_toArray, List.set_cons_zero, List.set_cons_succ]
                refine wpAnyH_take (i := 6) (oi := { dst := some 48, op := Op.move (Operand.tmp 54), type := 39, pos := "law.go:63", after := #[{ on := 5, ground := Ground.data }], guard := none }) (v := ?_) rfl (by kernel_rfl) (by kernel_rfl) (by kernel_rfl) (fun _ _ _ h => h) (Or.inl ⟨by rfl, ?_⟩) hHeld ?_
                rotate_left
                · intro w' hSw
                  go_simp
                  with_reducible rfl
                try simp only [Act.put, List.setIfInBounds_toArray, List.set_cons_zero, List.set_cons_succ]
                refine wpAnyH_take (i := 7) (oi := { dst := some 55, op := Op.extract (Operand.tmp 48) 0, type := 31, pos := "law.go:63", after := #[{ on := 6, ground := Ground.data }], guard := none }) (v := ?_) rfl (by kernel_rfl) (by kernel_rfl) (by kernel_rfl) (fun _ _ _ h => h) (Or.inl ⟨by rfl, ?_⟩) hHeld ?_
                rotate_left
                · intro w' hSw
                  go_simp
                  with_reducible rfl
                try simp only [Act.put, List.setIfInBounds_toArray, List.set_cons_zero, List.set_cons_succ]
                refine wpAnyH_take (i := 8) (oi := { dst := some 56, op := Op.extract (Operand.tmp 48) 1, type := 37, pos := "law.go:63", after := #[{ on := 6, ground := Ground.data }, { on := 11, ground := Ground.gcOnly Departure.lateStores }], guard := none }) (v := ?_) rfl (by kernel_rfl) (by kernel_rfl) (by kernel_rfl) (fun _ _ _ h => h) (Or.inl ⟨by rfl, ?_⟩) hHeld ?_
                rotate_left
                · intro w' hSw
                  go_simp
                  with_reducible rfl
                try simp only [Act.put, List.setIfInBounds_toArray, List.set_cons_zero, List.set_cons_succ]
                refine wpAnyH_ready (rs := [10]) (by kernel_rfl) (by simp) ?_
                refine AllReadyH.cons (o := { dst := some 8, op := Op.alloc 37, type := 0, pos := "law.go:63", after := #[], guard := none }) rfl (fun K hK => ?_) ?_
                · skip
                  go_simp
                  have f8 := new_at w5 37 #[.slice none 0 0, .int .i64 0] w5.heap.size (by simp)
                  replace f7 := f7.alloc (.cells #[.slice none 0 0, .int .i64 0] 37)
                  replace bW := bW.trans (Bl.alloc _ (.cells #[.slice none 0 0, .int .i64 0] 37))
                  replace bC := bC.trans (Bl.alloc _ (.cells #[.slice none 0 0, .int .i64 0] 37))
                  refine hK.out _ _ (HKB.out _ bC) (fun hHeld => ?_)
                  clear hK K
                  try simp only [Act.put, List.setIfInBounds_toArray, List.set_cons_zero, List.set_cons_succ]
                  have hq5 := HBC1.out.size; have hq6 := HBC5.out.size
                  simp at hq5 hq6
                  have hp := acts_pre (k := k) HDV.out HBC1.out HBC5.out bW HR5.out HB5.out HBX5.out HCS5.out hgV f7 HZL.out f8 (by first | omega | (simp; done) | (simp; omega)) (.inl (by first | omega | (simp; done) | (simp; omega))) (by first | omega | (simp; done) | (simp; omega)) (.inr (by first | omega | (simp; done) | (simp; omega))) (by first | omega | (simp; done) | (simp; omega))
                  obtain ⟨ht, hcl, ho, hbl, t8, hmid⟩ := hp
                  have x0 := t8.cell 0; have x1 := t8.cell 1; have z0 := t8.frozen 0; have z1 := t8.frozen 1
                  simp only [List.getElem?_toArray, List.getElem?_cons_zero, List.getElem?_cons_succ] at x0 x1
                  have HMID := Lib.hid hmid
                  clear f7 f8 t8 hmid hq5 hq6
                  refine wpAnyH_ready (rs := [11]) (by kernel_rfl) (by simp) ?_
                  refine AllReadyH.cons (o := { dst := none, op := Op.store 31 (Operand.tmp 7) (Operand.tmp 55), type := 0, pos := "law.go:63", after := #[{ on := 9, ground := Ground.data }, { on := 7, ground := Ground.data }, { on := 5, ground := Ground.chain }, { on := 0, ground := Ground.phase }, { on := 1, ground := Ground.phase }, { on := 2, ground := Ground.phase }, { on := 3, ground := Ground.phase }, { on := 4, ground := Ground.phase }, { on := 5, ground := Ground.phase }, { on := 6, ground := Ground.phase }, { on := 7, ground := Ground.phase }, { on := 8, ground := Ground.textOnly Departure.lateStores }, { on := 9, ground := Ground.phase }, { on := 10, ground := Ground.phase }], guard := none }) rfl (fun K hK => ?_) AllReadyH.nil
                  rw [if_pos (by rfl)]
                  refine wp_store_mid 31 (.tmp 7) (.tmp 55) rfl V.heap.size 0 cs5.toArray rfl rfl ht (by rw [size_rdc, List.size_toArray, hcl]) ho ?_
                  refine hK.out _ _ (HKB.out _ hbl) (fun hHeld => ?_)
                  clear hK K
                  try simp only [Act.put, List.setIfInBounds_toArray, List.set_cons_zero, List.set_cons_succ, List.toList_toArray]
                  refine wpAnyH_ready (rs := [12]) (by kernel_rfl) (by simp) ?_
                  refine AllReadyH.cons (o := { dst := none, op := Op.store 37 (Operand.tmp 8) (Operand.tmp 56), type := 0, pos := "law.go:63", after := #[{ on := 10, ground := Ground.data }, { on := 8, ground := Ground.data }, { on := 11, ground := Ground.chain }, { on := 0, ground := Ground.phase }, { on := 1, ground := Ground.phase }, { on := 2, ground := Ground.phase }, { on := 3, ground := Ground.phase }, { on := 4, ground := Ground.phase }, { on := 5, ground := Ground.phase }, { on := 6, ground := Ground.phase }, { on := 7, ground := Ground.phase }, { on := 8, ground := Ground.phase }, { on := 9, ground := Ground.phase }, { on := 10, ground := Ground.phase }, { on := 11, ground := Ground.phase }], guard := none }) rfl (fun K hK => ?_) AllReadyH.nil
                  go_simp
                  refine hK.out _ _ (HKB.out _ HMID.out.bl) (fun hHeld => ?_)
                  clear hK K
                  try simp only [Act.put, List.setIfInBounds_toArray, List.set_cons_zero, List.set_cons_succ]
                  refine wpAnyH_done (by kernel_rfl) ?_ _
                  exact ⟨rfl, rs5, A5, c5, B5, d5, V.heap.size, w5.heap.size, cs5, by simp only [Act.put, List.setIfInBounds_toArray, List.set_cons_zero, List.set_cons_succ], HMID.out⟩
                exact AllReadyH.nil
              refine AllReadyH.cons (o := { dst := some 8, op := Op.alloc 37, type := 0, pos := "law.go:63", after := #[], guard := none }) rfl (fun K hK => ?_) ?_
              · skip
                go_simp
                have f8 := new_at (V.drew.alloc (.cells zs.toArray 31)) 37 #[.slice none 0 0, .int .i64 0] (V.heap.size + 1) (by simp)
                replace f7 := f7.alloc (.cells #[.slice none 0 0, .int .i64 0] 37)
                replace bC := bC.trans (Bl.alloc _ (.cells #[.slice none 0 0, .int .i64 0] 37))
                refine hK.out _ _ (HKB.out _ bC) (fun hHeld => ?_)
                clear hK K
                try simp only [Act.put, List.setIfInBounds_toArray, List.set_cons_zero, List.set_cons_succ]
                refine wpAnyH_ready (rs := [5]) (by kernel_rfl) (by simp) ?_
                refine AllReadyH.cons (o := { dst := some 54, op := Op.call { callee := Callee.value (Operand.func 12), args := #[Operand.tmp 49, Operand.tmp 53], argTypes := #[31, 34] }, type := 39, pos := "law.go:63", after := #[{ on := 0, ground := Ground.data }, { on := 4, ground := Ground.data }], guard := none }) rfl (fun K hK => ?_) ?_
                · skip
                  go_simp
                  have hc := (do_any (d := ka') (HDV.out.bl bC) ((HRV.out.weak (Y := fun b => b ≠ g ∧ b < V.heap.size) (fun b hb hn => ⟨hn, hb⟩)).fr (Fr.of_bl bC HPV.out)) HTW.out hwl l[i] hx0 hx4 (HSB.out.step bC) (HSK.out.fr (Fr.of_bl bC HPV.out)) hkm _ _ rfl rfl b k D' HB1.out HB2.out HB3.out)
                  rw [← HCS0.out] at hc
                  refine hc.mono ?_
                  clear hc
                  rintro e w5 ⟨rs5, A5, c5, B5, d5, rfl, hr5, hB5, hBx5, b5⟩
                  obtain ⟨cs5, hcs5⟩ : ∃ cs5, cs5 = rdc rs5 (.slice A5 D'.waits.length c5) D'.down := ⟨_, rfl⟩
                  rw [← hcs5]
                  have HR5 := Lib.hid hr5; have HB5 := Lib.hid hB5; have HBX5 := Lib.hid hBx5; have HCS5 := Lib.hid hcs5; have HBC1 := Lib.hid bC; have HBC5 := Lib.hid b5
                  have bW := Bl.refl w5
                  replace bC := bC.trans b5
                  replace f7 := f7.below b5 f7.lt
                  replace f8 := f8.below b5 f8.lt
                  clear hr5 hB5 hBx5 hcs5 b5
                  try go_wp2_with fail
                  refine hK.out _ _ (HKB.out _ bC) (fun hHeld => ?_)
                  clear hK K
                  try simp only [Act.put, List.setIfInBounds_toArray, List.set_cons_zero, List.set_cons_succ]
                  refine wpAnyH_take (i := 6) (oi := { dst := some 48, op := Op.move (Operand.tmp 54), type := 39, pos := "law.go:63", after := #[{ on := 5, ground := Ground.data }], guard := none }) (v := ?_) rfl (by kernel_rfl) (by kernel_rfl) (by kernel_rfl) (fun _ _ _ h => h) (Or.inl ⟨by rfl, ?_⟩) hHeld ?_
                  rotate_left
                  · intro w' hSw
                    go_simp
                    with_reducible rfl
                  try simp only [Act.put, List.setIfInBounds_toArray, List.set_cons_zero, List.set_cons_succ]
                  refine wpAnyH_take (i := 7) (oi := { dst := some 55, op := Op.extract (Operand.tmp 48) 0, type := 31, pos := "law.go:63", after := #[{ on := 6, ground := Ground.data }], guard := none }) (v := ?_) rfl (by kernel_rfl) (by kernel_rfl) (by kernel_rfl) (fun _ _ _ h => h) (Or.inl ⟨by rfl, ?_⟩) hHeld ?_
                  rotate_left
                  · intro w' hSw
                    go_simp
                    with_reducible rfl
                  try simp only [Act.put, List.setIfInBounds_toArray, List.set_cons_zero, List.set_cons_succ]
                  refine wpAnyH_take (i := 8) (oi := { dst := some 56, op := Op.extract (Operand.tmp 48) 1, type := 37, pos := "law.go:63", after := #[{ on := 6, ground := Ground.data }, { on := 11, ground := Ground.gcOnly Departure.lateStores }], guard := none }) (v := ?_) rfl (by kernel_rfl) (by kernel_rfl) (by kernel_rfl) (fun _ _ _ h => h) (Or.inl ⟨by rfl, ?_⟩) hHeld ?_
                  rotate_left
                  · intro w' hSw
                    go_simp
                    with_reducible rfl
                  try simp only [Act.put, List.setIfInBounds_toArray, List.set_cons_zero, List.set_cons_succ]
                  have hq5 := HBC1.out.size; have hq6 := HBC5.out.size
                  simp at hq5 hq6
                  have hp := acts_pre (k := k) HDV.out HBC1.out HBC5.out bW HR5.out HB5.out HBX5.out HCS5.out hgV f7 HZL.out f8 (by first | omega | (simp; done) | (simp; omega)) (.inl (by first | omega | (simp; done) | (simp; omega))) (by first | omega | (simp; done) | (simp; omega)) (.inl (by first | omega | (simp; done) | (simp; omega))) (by first | omega | (simp; done) | (simp; omega))
                  obtain ⟨ht, hcl, ho, hbl, t8, hmid⟩ := hp
                  have x0 := t8.cell 0; have x1 := t8.cell 1; have z0 := t8.frozen 0; have z1 := t8.frozen 1
                  simp only [List.getElem?_toArray, List.getElem?_cons_zero, List.getElem?_cons_succ] at x0 x1
                  have HMID := Lib.hid hmid
                  clear f7 f8 t8 hmid hq5 hq6
                  refine wpAnyH_ready (rs := [11]) (by kernel_rfl) (by simp) ?_
                  refine AllReadyH.cons (o := { dst := none, op := Op.store 31 (Operand.tmp 7) (Operand.tmp 55), type := 0, pos := "law.go:63", after := #[{ on := 9, ground := Ground.data }, { on := 7, ground := Ground.data }, { on := 5, ground := Ground.chain }, { on := 0, ground := Ground.phase }, { on := 1, ground := Ground.phase }, { on := 2, ground := Ground.phase }, { on := 3, ground := Ground.phase }, { on := 4, ground := Ground.phase }, { on := 5, ground := Ground.phase }, { on := 6, ground := Ground.phase }, { on := 7, ground := Ground.phase }, { on := 8, ground := Ground.textOnly Departure.lateStores }, { on := 9, ground := Ground.phase }, { on := 10, ground := Ground.phase }], guard := none }) rfl (fun K hK => ?_) AllReadyH.nil
                  rw [if_pos (by rfl)]
                  refine wp_store_mid 31 (.tmp 7) (.tmp 55) rfl V.heap.size 0 cs5.toArray rfl rfl ht (by rw [size_rdc, List.size_toArray, hcl]) ho ?_
                  refine hK.out _ _ (HKB.out _ hbl) (fun hHeld => ?_)
                  clear hK K
                  try simp only [Act.put, List.setIfInBounds_toArray, List.set_cons_zero, List.set_cons_succ, List.toList_toArray]
                  refine wpAnyH_ready (rs := [12]) (by kernel_rfl) (by simp) ?_
                  refine AllReadyH.cons (o := { dst := none, op := Op.store 37 (Operand.tmp 8) (Operand.tmp 56), type := 0, pos := "law.go:63", after := #[{ on := 10, ground := Ground.data }, { on := 8, ground := Ground.data }, { on := 11, ground := Ground.chain }, { on := 0, ground := Ground.phase }, { on := 1, ground := Ground.phase }, { on := 2, ground := Ground.phase }, { on := 3, ground := Ground.phase }, { on := 4, ground := Ground.phase }, { on := 5, ground := Ground.phase }, { on := 6, ground := Ground.phase }, { on := 7, ground := Ground.phase }, { on := 8, ground := Ground.phase }, { on := 9, ground := Ground.phase }, { on := 10, ground := Ground.phase }, { on := 11, ground := Ground.phase }], guard := none }) rfl (fun K hK => ?_) AllReadyH.nil
                  go_simp
                  refine hK.out _ _ (HKB.out _ HMID.out.bl) (fun hHeld => ?_)
                  clear hK K
                  try simp only [Act.put, List.setIfInBounds_toArray, List.set_cons_zero, List.set_cons_succ]
                  refine wpAnyH_done (by kernel_rfl) ?_ _
                  exact ⟨rfl, rs5, A5, c5, B5, d5, V.heap.size, (V.heap.size + 1), cs5, by simp only [Act.put, List.setIfInBounds_toArray, List.set_cons_zero, List.set_cons_succ], HMID.out⟩
                exact AllReadyH.nil
              exact AllReadyH.nil
            refine AllReadyH.cons (o := { dst := some 8, op := Op.alloc 37, type := 0, pos := "law.go:63", after := #[], guard := none }) rfl (fun K hK => ?_) ?_
            · skip
              go_simp
              have f8 := new_at V.drew 37 #[.slice none 0 0, .int .i64 0] V.heap.size (by simp)
              replace bC := bC.trans (Bl.alloc _ (.cells #[.slice none 0 0, .int .i64 0] 37))
              refine hK.out _ _ (HKB.out _ bC) (fun hHeld => ?_)
              clear hK K
              try simp only [Act.put, List.setIfInBounds_toArray, List.set_cons_zero, List.set_cons_succ]
              refine wpAnyH_ready (rs := [5, 9]) (by kernel_rfl) (by simp) ?_
              refine AllReadyH.cons (o := { dst := some 54, op := Op.call { callee := Callee.value (Operand.func 12), args := #[Operand.tmp 49, Operand.tmp 53], argTypes := #[31, 34] }, type := 39, pos := "law.go:63", after := #[{ on := 0, ground := Ground.data }, { on := 4, ground := Ground.data }], guard := none }) rfl (fun K hK => ?_) ?_
              · skip
                go_simp
                have hc := (do_any (d := ka') (HDV.out.bl bC) ((HRV.out.weak (Y := fun b => b ≠ g ∧ b < V.heap.size) (fun b hb hn => ⟨hn, hb⟩)).fr (Fr.of_bl bC HPV.out)) HTW.out hwl l[i] hx0 hx4 (HSB.out.step bC) (HSK.out.fr (Fr.of_bl bC HPV.out)) hkm _ _ rfl rfl b k D' HB1.out HB2.out HB3.out)
                rw [← HCS0.out] at hc
                refine hc.mono ?_
                clear hc
                rintro e w5 ⟨rs5, A5, c5, B5, d5, rfl, hr5, hB5, hBx5, b5⟩
                obtain ⟨cs5, hcs5⟩ : ∃ cs5, cs5 = rdc rs5 (.slice A5 D'.waits.length c5) D'.down := ⟨_, rfl⟩
                rw [← hcs5]
                have HR5 := Lib.hid hr5; have HB5 := Lib.hid hB5; have HBX5 := Lib.hid hBx5; have HCS5 := Lib.hid hcs5; have HBC1 := Lib.hid bC; have HBC5 := Lib.hid b5
                have bW := Bl.refl w5
                replace bC := bC.trans b5
                replace f8 := f8.below b5 f8.lt
                clear hr5 hB5 hBx5 hcs5 b5
                try go_wp2_with fail
                refine hK.out _ _ (HKB.out _ bC) (fun hHeld => ?_)
                clear hK K
                try simp only [Act.put, List.setIfInBounds_toArray, List.set_cons_zero, List.set_cons_succ]
                refine wpAnyH_take (i := 6) (oi := { dst := some 48, op := Op.move (Operand.tmp 54), type := 39, pos := "law.go:63", after := #[{ on := 5, ground := Ground.data }], guard := none }) (v := ?_) rfl (by kernel_rfl) (by kernel_rfl) (by kernel_rfl) (fun _ _ _ h => h) (Or.inl ⟨by rfl, ?_⟩) hHeld ?_
                rotate_left
                · intro w' hSw
                  go_simp
                  with_reducible rfl
                try simp only [Act.put, List.setIfInBounds_toArray, List.set_cons_zero, List.set_cons_succ]
                refine wpAnyH_take (i := 7) (oi := { dst := some 55, op := Op.extract (Operand.tmp 48) 0, type := 31, pos := "law.go:63", after := #[{ on := 6, ground := Ground.data }], guard := none }) (v := ?_) rfl (by kernel_rfl) (by kernel_rfl) (by kernel_rfl) (fun _ _ _ h => h) (Or.inl ⟨by rfl, ?_⟩) hHeld ?_
                rotate_left
                · intro w' hSw
                  go_simp
                  with_reducible rfl
                try simp only [Act.put, List.setIfInBounds_toArray, List.set_cons_zero, List.set_cons_succ]
                refine wpAnyH_take (i := 8) (oi := { dst := some 56, op := Op.extract (Operand.tmp 48) 1, type := 37, pos := "law.go:63", after := #[{ on := 6, ground := Ground.data }, { on := 11, ground := Ground.gcOnly Departure.lateStores }], guard := none }) (v := ?_) rfl (by kernel_rfl) (by kernel_rfl) (by kernel_rfl) (fun _ _ _ h => h) (Or.inl ⟨by rfl, ?_⟩) hHeld ?_
                rotate_left
                · intro w' hSw
                  go_simp
                  with_reducible rfl
                try simp only [Act.put, List.setIfInBounds_toArray, List.set_cons_zero, List.set_cons_succ]
                refine wpAnyH_ready (rs := [9]) (by kernel_rfl) (by simp) ?_
                refine AllReadyH.cons (o := { dst := some 7, op := Op.alloc 31, type := 0, pos := "law.go:63", after := #[], guard := none }) rfl (fun K hK => ?_) ?_
                · skip
                  go_simp
                  have f7 := new_at w5 31 zs.toArray w5.heap.size (by simp)
                  replace f8 := f8.alloc (.cells zs.toArray 31)
                  replace bW := bW.trans (Bl.alloc _ (.cells zs.toArray 31))
                  replace bC := bC.trans (Bl.alloc _ (.cells zs.toArray 31))
                  refine hK.out _ _ (HKB.out _ bC) (fun hHeld => ?_)
                  clear hK K
                  try simp only [Act.put, List.setIfInBounds_toArray, List.set_cons_zero, List.set_cons_succ]
                  have hq5 := HBC1.out.size; have hq6 := HBC5.out.size
                  simp at hq5 hq6
                  have hp := acts_pre (k := k) HDV.out HBC1.out HBC5.out bW HR5.out HB5.out HBX5.out HCS5.out hgV f7 HZL.out f8 (by first | omega | (simp; done) | (simp; omega)) (.inr (by first | omega | (simp; done) | (simp; omega))) (by first | omega | (simp; done) | (simp; omega)) (.inl (by first | omega | (simp; done) | (simp; omega))) (by first | omega | (simp; done) | (simp; omega))
                  obtain ⟨ht, hcl, ho, hbl, t8, hmid⟩ := hp
                  have x0 := t8.cell 0; have x1 := t8.cell 1; have z0 := t8.frozen 0; have z1 := t8.frozen 1
                  simp only [List.getElem?_toArray, List.getElem?_cons_zero, List.getElem?_cons_succ] at x0 x1
                  have HMID := Lib.hid hmid
                  clear f7 f8 t8 hmid hq5 hq6
                  refine wpAnyH_ready (rs := [11]) (by kernel_rfl) (by simp) ?_
                  refine AllReadyH.cons (o := { dst := none, op := Op.store 31 (Operand.tmp 7) (Operand.tmp 55), type := 0, pos := "law.go:63", after := #[{ on := 9, ground := Ground.data }, { on := 7, ground := Ground.data }, { on := 5, ground := Ground.chain }, { on := 0, ground := Ground.phase }, { on := 1, ground := Ground.phase }, { on := 2, ground := Ground.phase }, { on := 3, ground := Ground.phase }, { on := 4, ground := Ground.phase }, { on := 5, ground := Ground.phase }, { on := 6, ground := Ground.phase }, { on := 7, ground := Ground.phase }, { on := 8, ground := Ground.textOnly Departure.lateStores }, { on := 9, ground := Ground.phase }, { on := 10, ground := Ground.phase }], guard := none }) rfl (fun K hK => ?_) AllReadyH.nil
                  rw [if_pos (by rfl)]
                  refine wp_store_mid 31 (.tmp 7) (.tmp 55) rfl w5.heap.size 0 cs5.toArray rfl rfl ht (by rw [size_rdc, List.size_toArray, hcl]) ho ?_
                  refine hK.out _ _ (HKB.out _ hbl) (fun hHeld => ?_)
                  clear hK K
                  try simp only [Act.put, List.setIfInBounds_toArray, List.set_cons_zero, List.set_cons_succ, List.toList_toArray]
                  refine wpAnyH_ready (rs := [12]) (by kernel_rfl) (by simp) ?_
                  refine AllReadyH.cons (o := { dst := none, op := Op.store 37 (Operand.tmp 8) (Operand.tmp 56), type := 0, pos := "law.go:63", after := #[{ on := 10, ground := Ground.data }, { on := 8, ground := Ground.data }, { on := 11, ground := Ground.chain }, { on := 0, ground := Ground.phase }, { on := 1, ground := Ground.phase }, { on := 2, ground := Ground.phase }, { on := 3, ground := Ground.phase }, { on := 4, ground := Ground.phase }, { on := 5, ground := Ground.phase }, { on := 6, ground := Ground.phase }, { on := 7, ground := Ground.phase }, { on := 8, ground := Ground.phase }, { on := 9, ground := Ground.phase }, { on := 10, ground := Ground.phase }, { on := 11, ground := Ground.phase }], guard := none }) rfl (fun K hK => ?_) AllReadyH.nil
                  go_simp
                  refine hK.out _ _ (HKB.out _ HMID.out.bl) (fun hHeld => ?_)
                  clear hK K
                  try simp only [Act.put, List.setIfInBounds_toArray, List.set_cons_zero, List.set_cons_succ]
                  refine wpAnyH_done (by kernel_rfl) ?_ _
                  exact ⟨rfl, rs5, A5, c5, B5, d5, w5.heap.size, V.heap.size, cs5, by simp only [Act.put, List.setIfInBounds_toArray, List.set_cons_zero, List.set_cons_succ], HMID.out⟩
                exact AllReadyH.nil
              refine AllReadyH.cons (o := { dst := some 7, op := Op.alloc 31, type := 0, pos := "law.go:63", after := #[], guard := none }) rfl (fun K hK => ?_) ?_
              · skip
                go_simp
                have f7 := new_at (V.drew.alloc (.cells #[.slice none 0 0, .int .i64 0] 37)) 31 zs.toArray (V.heap.size + 1) (by simp)
                replace f8 := f8.alloc (.cells zs.toArray 31)
                replace bC := bC.trans (Bl.alloc _ (.cells zs.toArray 31))
                refine hK.out _ _ (HKB.out _ bC) (fun hHeld => ?_)
                clear hK K
                try simp only [Act.put, List.setIfInBounds_toArray, List.set_cons_zero, List.set_cons_succ]
                refine wpAnyH_ready (rs := [5]) (by kernel_rfl) (by simp) ?_
                refine AllReadyH.cons (o := { dst := some 54, op := Op.call { callee := Callee.value (Operand.func 12), args := #[Operand.tmp 49, Operand.tmp 53], argTypes := #[31, 34] }, type := 39, pos := "law.go:63", after := #[{ on := 0, ground := Ground.data }, { on := 4, ground := Ground.data }], guard := none }) rfl (fun K hK => ?_) ?_
                · skip
                  go_simp
                  have hc := (do_any (d := ka') (HDV.out.bl bC) ((HRV.out.weak (Y := fun b => b ≠ g ∧ b < V.heap.size) (fun b hb hn => ⟨hn, hb⟩)).fr (Fr.of_bl bC HPV.out)) HTW.out hwl l[i] hx0 hx4 (HSB.out.step bC) (HSK.out.fr (Fr.of_bl bC HPV.out)) hkm _ _ rfl rfl b k D' HB1.out HB2.out HB3.out)
                  rw [← HCS0.out] at hc
                  refine hc.mono ?_
                  clear hc
                  rintro e w5 ⟨rs5, A5, c5, B5, d5, rfl, hr5, hB5, hBx5, b5⟩
                  obtain ⟨cs5, hcs5⟩ : ∃ cs5, cs5 = rdc rs5 (.slice A5 D'.waits.length c5) D'.down := ⟨_, rfl⟩
                  rw [← hcs5]
                  have HR5 := Lib.hid hr5; have HB5 := Lib.hid hB5; have HBX5 := Lib.hid hBx5; have HCS5 := Lib.hid hcs5; have HBC1 := Lib.hid bC; have HBC5 := Lib.hid b5
                  have bW := Bl.refl w5
                  replace bC := bC.trans b5
                  replace f7 := f7.below b5 f7.lt
                  replace f8 := f8.below b5 f8.lt
                  clear hr5 hB5 hBx5 hcs5 b5
                  try go_wp2_with fail
                  refine hK.out _ _ (HKB.out _ bC) (fun hHeld => ?_)
                  clear hK K
                  try simp only [Act.put, List.setIfInBounds_toArray, List.set_cons_zero, List.set_cons_succ]
                  refine wpAnyH_take (i := 6) (oi := { dst := some 48, op := Op.move (Operand.tmp 54), type := 39, pos := "law.go:63", after := #[{ on := 5, ground := Ground.data }], guard := none }) (v := ?_) rfl (by kernel_rfl) (by kernel_rfl) (by kernel_rfl) (fun _ _ _ h => h) (Or.inl ⟨by rfl, ?_⟩) hHeld ?_
                  rotate_left
                  · intro w' hSw
                    go_simp
                    with_reducible rfl
                  try simp only [Act.put, List.setIfInBounds_toArray, List.set_cons_zero, List.set_cons_succ]
                  refine wpAnyH_take (i := 7) (oi := { dst := some 55, op := Op.extract (Operand.tmp 48) 0, type := 31, pos := "law.go:63", after := #[{ on := 6, ground := Ground.data }], guard := none }) (v := ?_) rfl (by kernel_rfl) (by kernel_rfl) (by kernel_rfl) (fun _ _ _ h => h) (Or.inl ⟨by rfl, ?_⟩) hHeld ?_
                  rotate_left
                  · intro w' hSw
                    go_simp
                    with_reducible rfl
                  try simp only [Act.put, List.setIfInBounds_toArray, List.set_cons_zero, List.set_cons_succ]
                  refine wpAnyH_take (i := 8) (oi := { dst := some 56, op := Op.extract (Operand.tmp 48) 1, type := 37, pos := "law.go:63", after := #[{ on := 6, ground := Ground.data }, { on := 11, ground := Ground.gcOnly Departure.lateStores }], guard := none }) (v := ?_) rfl (by kernel_rfl) (by kernel_rfl) (by kernel_rfl) (fun _ _ _ h => h) (Or.inl ⟨by rfl, ?_⟩) hHeld ?_
                  rotate_left
                  · intro w' hSw
                    go_simp
                    with_reducible rfl
                  try simp only [Act.put, List.setIfInBounds_toArray, List.set_cons_zero, List.set_cons_succ]
                  have hq5 := HBC1.out.size; have hq6 := HBC5.out.size
                  simp at hq5 hq6
                  have hp := acts_pre (k := k) HDV.out HBC1.out HBC5.out bW HR5.out HB5.out HBX5.out HCS5.out hgV f7 HZL.out f8 (by first | omega | (simp; done) | (simp; omega)) (.inl (by first | omega | (simp; done) | (simp; omega))) (by first | omega | (simp; done) | (simp; omega)) (.inl (by first | omega | (simp; done) | (simp; omega))) (by first | omega | (simp; done) | (simp; omega))
                  obtain ⟨ht, hcl, ho, hbl, t8, hmid⟩ := hp
                  have x0 := t8.cell 0; have x1 := t8.cell 1; have z0 := t8.frozen 0; have z1 := t8.frozen 1
                  simp only [List.getElem?_toArray, List.getElem?_cons_zero, List.getElem?_cons_succ] at x0 x1
                  have HMID := Lib.hid hmid
                  clear f7 f8 t8 hmid hq5 hq6
                  refine wpAnyH_ready (rs := [11]) (by kernel_rfl) (by simp) ?_
                  refine AllReadyH.cons (o := { dst := none, op := Op.store 31 (Operand.tmp 7) (Operand.tmp 55), type := 0, pos := "law.go:63", after := #[{ on := 9, ground := Ground.data }, { on := 7, ground := Ground.data }, { on := 5, ground := Ground.chain }, { on := 0, ground := Ground.phase }, { on := 1, ground := Ground.phase }, { on := 2, ground := Ground.phase }, { on := 3, ground := Ground.phase }, { on := 4, ground := Ground.phase }, { on := 5, ground := Ground.phase }, { on := 6, ground := Ground.phase }, { on := 7, ground := Ground.phase }, { on := 8, ground := Ground.textOnly Departure.lateStores }, { on := 9, ground := Ground.phase }, { on := 10, ground := Ground.phase }], guard := none }) rfl (fun K hK => ?_) AllReadyH.nil
                  rw [if_pos (by rfl)]
                  refine wp_store_mid 31 (.tmp 7) (.tmp 55) rfl (V.heap.size + 1) 0 cs5.toArray rfl rfl ht (by rw [size_rdc, List.size_toArray, hcl]) ho ?_
                  refine hK.out _ _ (HKB.out _ hbl) (fun hHeld => ?_)
                  clear hK K
                  try simp only [Act.put, List.setIfInBounds_toArray, List.set_cons_zero, List.set_cons_succ, List.toList_toArray]
                  refine wpAnyH_ready (rs := [12]) (by kernel_rfl) (by simp) ?_
                  refine AllReadyH.cons (o := { dst := none, op := Op.store 37 (Operand.tmp 8) (Operand.tmp 56), type := 0, pos := "law.go:63", after := #[{ on := 10, ground := Ground.data }, { on := 8, ground := Ground.data }, { on := 11, ground := Ground.chain }, { on := 0, ground := Ground.phase }, { on := 1, ground := Ground.phase }, { on := 2, ground := Ground.phase }, { on := 3, ground := Ground.phase }, { on := 4, ground := Ground.phase }, { on := 5, ground := Ground.phase }, { on := 6, ground := Ground.phase }, { on := 7, ground := Ground.phase }, { on := 8, ground := Ground.phase }, { on := 9, ground := Ground.phase }, { on := 10, ground := Ground.phase }, { on := 11, ground := Ground.phase }], guard := none }) rfl (fun K hK => ?_) AllReadyH.nil
                  go_simp
                  refine hK.out _ _ (HKB.out _ HMID.out.bl) (fun hHeld => ?_)
                  clear hK K
                  try simp only [Act.put, List.setIfInBounds_toArray, List.set_cons_zero, List.set_cons_succ]
                  refine wpAnyH_done (by kernel_rfl) ?_ _
                  exact ⟨rfl, rs5, A5, c5, B5, d5, (V.heap.size + 1), V.heap.size, cs5, by simp only [Act.put, List.setIfInBounds_toArray, List.set_cons_zero, List.set_cons_succ], HMID.out⟩
                exact AllReadyH.nil
              exact AllReadyH.nil
            exact AllReadyH.nil
          · rintro e a' Wf ⟨rfl, rs5, A5, c5, B5, d5, g7, g8, cs5, rfl, m⟩
            obtain ⟨n1, n2, n3, n4, n5, n6, n7, n8, n9⟩ := acts_next HDV.out HNV.out HSV.out HGT.out HBV.out HR0.out m
            have M1 := Lib.hid n1; have M2 := Lib.hid n2; have M3 := Lib.hid n3; have M4 := Lib.hid n4; have M5 := Lib.hid n5; have M7 := Lib.hid n7
            have M8 := Lib.hid (n8 _ _ _ H6.out HG6.out)
            have M9 := Lib.hid (n9 _ _ _ HS4V.out HN4'.out)
            have x0 := M8.out.cell 0; have x1 := M8.out.cell 1
            have y0 := n6.cell 0; have y1 := n6.cell 1
            simp only [List.getElem?_toArray, List.getElem?_cons_zero, List.getElem?_cons_succ] at x0 x1 y0 y1
            have w64 := n5.blk.cell 64
            rw [List.getElem?_toArray, rdc_wv n5.rd.lr] at w64
            clear n1 n2 n3 n4 n5 n6 n7 n8 n9 m c0 c1 c2 c3 r0 hi' hu
            try simp only [Act.put, List.setIfInBounds_toArray, List.set_cons_zero, List.set_cons_succ]
            go_wp2_with (first
              | (refine wpList_load_mid rfl 31 (.tmp 7) (by rfl) g7 0 (by rfl) cs5 _ M1.out Try.underlying31 rdc_isRow (by rw [size_rdc, M3.out]) ?_)
              | (refine wpList_store_mid rfl 31 (.tmp 4) (.tmp 57) (by rfl) g 0 cs5.toArray (by rfl) (by rfl) M2.out (by rw [size_rdc, List.size_toArray, M3.out]) M4.out ?_; rw [List.toList_toArray]))
            simp only [Act.put, List.setIfInBounds_toArray, List.set_cons_zero, List.set_cons_succ]
            have HWT : Hid (∀ a, Calls Try.prog 14 #[.pointer (some ⟨w.heap.size, 0, none⟩)] ((Wf.setCells g 0 cs5).drewN a) fun e w'' => e = .returned (.int .i64 (D'.waits.length : Nat)) ∧ ∃ n, w'' = (Wf.setCells g 0 cs5).drewN n) :=
              fun a => (dWaits_to (M5.out.disk.bl (Bl.drewN _ a)) _ rfl).mono fun e w' ⟨he, hw⟩ => ⟨he, a, hw.symm⟩
            go_quiet (first
              | (go_at_call 13; exact Calls.quiet_of (same_true _ _ _ _ _ _ _ _ (M9.out.sl.step (Bl.drewN _ _)).rb (M7.out.sl.step (Bl.drewN _ _)).rb (by omega)))
              | (go_at_call 14; exact HWT.out _))
            have HX5 := Lib.hid (M5.out.bl (Bl.drewN _ nq))
            go_wp2
            go_roundw
            case rel => exact ⟨i + 1, by omega, by go_num, ⟨_, _, _, _, HX5.out, by rw [← HB3.out]; exact twin_act HTW.out _, by rw [← HB3.out]; have := waits_act D l[i]; have := HWK.out; omega⟩⟩
            case measure => simp [intOf]; omega
        · clear sb sk
          go_wp2
          go_roundw
          case rel => exact ⟨i + 1, by omega, by go_num, ⟨_, _, _, _, hB, hTW, by omega⟩⟩
          case measure => simp [intOf]; omega
      · clear sb sk
        go_wp2
        go_roundw
        case rel => exact ⟨i + 1, by omega, by go_num, ⟨_, _, _, _, hB, hTW, by omega⟩⟩
        case measure => simp [intOf]; omega
    · obtain ⟨D, rs0, A0, c0', hB, hTW, hwk⟩ := H.out
      have HBO := Lib.hid hB; have HTW := Lib.hid (twin_up hTW)
      clear hB hTW H
      go_wp2_with fail
      refine (dUp_to HBO.out.disk (dUp D) rfl).mono ?_
      rintro e w2 ⟨rfl, d2, f2⟩
      obtain ⟨W3, hW3, hB3⟩ := acts_up HBO.out d2 f2
      have q := HBO.out.blk.fr f2 HBO.out.safe
      have c65 := q.cell 65; have z65 := q.frozen 65
      rw [List.getElem?_toArray, rdc_down HBO.out.rd.lr] at c65
      obtain ⟨D2, hD2⟩ : ∃ D2, D2 = dUp D := ⟨_, rfl⟩
      have hwk2 : D2.waits.length ≤ 100000 := by rw [hD2]; show D.waits.length ≤ 100000; omega
      have HWK := Lib.hid hwk2
      rw [← hD2] at hB3 HTW
      have HB3 := Lib.hid hB3; have HW3 := Lib.hid hW3
      clear hB3 hW3 hD2 q d2 f2 HBO hwk hwk2
      go_wp2_with fail
      rw [← HW3.out]
      clear c65 z65 HW3
      go_wp2
      go_loopw [9] (fun i wr => ∃ j : Nat, j ≤ 66 ∧ i = .int .i64 ((j : Int) - 1) ∧ Hid (∃ rs A c, Both w g wr D2 rs A c)) (fun i _ => 66 - (intOf i + 1).toNat)
      case atStart => exact ⟨0, by omega, rfl, ⟨_, _, _, HB3.out⟩⟩
      case round =>
        clear HB3
        obtain ⟨j, hj, rfl, H⟩ := hrel
        by_cases hlt : j ≤ 65
        · obtain ⟨rs, A1, c1, hB⟩ := H.out
          obtain ⟨at_, hat⟩ : ∃ a : Int, a = (j : Int) - 1 := ⟨_, rfl⟩
          obtain ⟨b, hb⟩ : ∃ b, bRead D2 at_ = b := ⟨_, rfl⟩
          obtain ⟨k, hk⟩ : ∃ k, eWrong D2 at_ = k := ⟨_, rfl⟩
          have hle : at_ ≤ 64 := by omega
          have hbl : b.length ≤ 64 := by rw [← hb]; exact actB_le HTW.out.tidy ⟨2, at_, [], []⟩
          have HBO := Lib.hid hB; have HAT := Lib.hid hat; have HB1 := Lib.hid hb; have HB2 := Lib.hid hk
          rw [← hat]
          have hj65 := hlt
          clear hB H hat hb hk hlt
          go_wp2_with fail
          refine (dRead_to HBO.out.disk at_ HTW.out.tidy.short b k HB1.out HB2.out).mono ?_
          rintro e w3 ⟨A3, c3, rfl, s3, b3, n3, _⟩
          have HS3 := Lib.hid s3; have HBO3 := Lib.hid (HBO.out.bl b3)
          obtain ⟨cs, hcs⟩ : ∃ cs, cs = rdc rs (.slice A1 D2.waits.length c1) D2.down := ⟨_, rfl⟩
          have r1 := HBO3.out.blk.rangeL
          rw [← hcs] at r1
          have hl1 : cs.length = 66 := by rw [hcs, rdc_len HBO3.out.rd.lr]
          have hc := do_any (N := fun b => b ≠ g) (d := 0) (bc := 0) (B := none) (K := none) HBO3.out.disk HBO3.out.rd HTW.out HWK.out ⟨2, at_, [], []⟩ (show (0 : Int) ≤ 2 by decide) (show (2 : Int) ≤ 4 by decide) (SL.nil_ _) (RVs.nil_ _ _ _) (by simp) 0 0 rfl rfl b k D2 HB1.out HB2.out rfl
          rw [← hcs] at hc
          have HC := Lib.hid hc; have R1 := Lib.hid r1; have HL1 := Lib.hid hl1
          clear s3 b3 n3 hcs r1 hl1 hc
          go_wp2_with (refine wpList_load_mid rfl 31 (.tmp 4) (by rfl) g 0 (by rfl) cs _ R1.out Try.underlying31 rdc_isRow (by rw [size_rdc, HL1.out]) ?_)
          refine HC.out.mono ?_
          rintro e w4 ⟨rs5, A5, c5, B5, d5, rfl, hr5, hB5, _, b5⟩
          obtain ⟨cs5, hcs5⟩ : ∃ cs5, cs5 = rdc rs5 (.slice A5 D2.waits.length c5) D2.down := ⟨_, rfl⟩
          rw [← hcs5]
          have hl5 : cs5.length = 66 := by rw [hcs5, rdc_len hr5.lr]
          have ho := rdc_one (n := D2.waits.length) hr5 D2.down
          rw [← hcs5] at ho
          obtain ⟨ht, Wb, W, hWb, hW, t1, t2, b6⟩ := acts_told (w4 := w4) HZL.out hl5 (.slice B5 b.length d5) (.int .i64 k)
          have HT := Lib.hid ht; have HO := Lib.hid ho; have HL5 := Lib.hid hl5; have HWb := Lib.hid hWb; have HW := Lib.hid (show W = (Wb.setCell ⟨w4.heap.size + 1, 0, none⟩ (.slice B5 b.length d5)).setCell ⟨w4.heap.size + 1, 1, none⟩ (.int .i64 k) from hW)
          have x0 := t1.cell 0; have x1 := t1.cell 1; have z0 := t1.frozen 0; have z1 := t1.frozen 1
          have y0 := t2.cell 0; have y1 := t2.cell 1
          simp only [List.getElem?_toArray, List.getElem?_cons_zero, List.getElem?_cons_succ] at x0 x1 y0 y1
          have X1 := Lib.hid (And.intro x0 (And.intro x1 (And.intro z0 z1)))
          have Y1 := Lib.hid (And.intro y0 y1)
          have HBO6 := Lib.hid (HBO3.out.bl (b5.trans b6))
          have S3 := Lib.hid (HS3.out.step (b5.trans b6)); have S5 := Lib.hid (hB5.sl.step b6)
          clear hr5 hB5 b5 hcs5 hl5 ho ht hWb hW t1 t2 b6 x0 x1 z0 z1 y0 y1
          have hkk : (k != k) = false := by simp
          go_wp2_with (refine wpList_store_mid rfl 31 (.tmp 12) (.tmp 97) (by rfl) w4.heap.size 0 cs5.toArray (by rfl) (by rfl) HT.out (by rw [size_rdc, List.size_toArray, HL5.out]) HO.out ?_; rw [List.toList_toArray, ← HWb.out]; obtain ⟨x0, x1, z0, z1⟩ := X1.out)
          rw [← HW.out]
          obtain ⟨y0, y1⟩ := Y1.out
          refine (same_sl S3.out S5.out (by omega)).mono ?_
          rintro e w8 ⟨rfl, b8⟩
          have H8 := Lib.hid (HBO6.out.bl b8)
          clear b8 y0 y1
          have hwr : wrap64 (at_ + 1) = at_ + 1 := IntWalk.wrap64_in _ (by have := HAT.out; omega)
          go_wp2
          go_roundw
          case rel => exact ⟨j + 1, by have := HAT.out; omega, by rw [show ((j + 1 : Nat) : Int) - 1 = at_ + 1 from by have := HAT.out; omega]; try go_num, ⟨_, _, _, H8.out⟩⟩
          case measure => have := HAT.out; simp [intOf, hwr]; omega
        · obtain ⟨rs, A1, c1, hB⟩ := H.out
          obtain rfl : j = 66 := by omega
          have HBL := Lib.hid hB.new.bl
          clear hB H
          go_wp2_with fail
          refine (alive24 _).mono ?_
          rintro e w7 ⟨rfl, b7⟩
          have HB7 := Lib.hid (HBL.out.trans b7)
          clear b7
          go_wp2
          go_ret
          exact ⟨rfl, HB7.out⟩

set_option maxRecDepth 100000 in
theorem diskActs_walk (A : Option Addr) (c : Nat) (l : List ActP) (w : World) (h : Acts w A l) (hll : l.length ≤ 9223372036854775807) :
    Calls Try.prog 3 #[.slice A l.length c] w fun e w' => e = .returned (.bool true) ∧ Bl w w' := by
  by_cases hf : fewB l 40 = true
  · exact diskActs_main A c l w h hll hf
  · have hfw := few_any A c l 40 w h hll
    rw [show fewB l 40 = false from by simpa using hf] at hfw
    have HFW := Lib.hid hfw
    clear hfw hf h
    go_enter Try.func3, Try.ntmps3
    go_wp2_with fail
    refine HFW.out.mono ?_
    rintro e w' ⟨rfl, rfl⟩
    go_wp2_with fail
    refine (alive24 _).mono ?_
    rintro e w1 ⟨rfl, b1⟩
    go_wp2
    go_ret
    exact ⟨rfl, b1⟩
end Go.Proofs.Ytmjdmigjhllmeaa
