/- The contract of ratchetref24.Do: Crash and Sync. -/
import Derived.Test.YtmjdmigjhllmeaaDo1
namespace Go.Proofs.Ytmjdmigjhllmeaa
open Go.RowKit
set_option linter.unusedVariables false

section
variable {p : Nat} {X N : Nat → Prop} {w : World} {D0 : DS}
theorem RVs.nil' (p : Nat) (w : World) (A : Option Addr) : RVs p w A (([] : List Bool).map Value.bool) := RVs.nil_ p w A

set_option maxRecDepth 100000 in
set_option maxHeartbeats 2000000 in
theorem do_crash (h : IsDisk p X w D0) {D : DS} {rs : List Value} {A : Option Addr} {c : Nat} (hr : RD p N w D rs A c) (hd : D.down = false) (hw1 : ∀ x ∈ D.waits, x.1 < 64) (hwl : D.waits.length ≤ 100000) (at_ : Int) (B K : Option Addr) (n bl d bc : Nat) (ks : List Bool) (hn : n = ks.length) (hk : RVs p w K (ks.map Value.bool)) (hkl : ks.length ≤ 9223372036854775807):
    Calls Try.prog 12 #[.agg (rdc rs (.slice A D.waits.length c) D.down).toArray, .agg #[.int .i64 3, .int .i64 at_, .slice B bl bc, .slice K n d]] w (GivesDo p N w (⟨layK D.there D.waits ks, layK D.there D.waits ks, [], true⟩) [] 0) := by
  obtain ⟨zs, hzs⟩ : ∃ zs, zs = rdc (List.replicate 64 (Value.slice none 0 0)) (.slice none 0 0) false := ⟨_, rfl⟩
  obtain ⟨cs, hcs⟩ : ∃ cs, cs = rdc rs (.slice A D.waits.length c) D.down := ⟨_, rfl⟩
  have hz := zero_rdc
  rw [← hzs] at hz
  rw [← hcs]
  obtain ⟨W, hW, b1, q1, q2, q3, q4, hsz⟩ := do_head h cs [.int .i64 3, .int .i64 at_, .slice B bl bc, .slice K n d] zs
  have hzl : zs.length = 66 := by rw [hzs, rdc_len (by simp)]
  have hrw := (hr.weak (Y := XD N w) (fun b hb hn => .inl ⟨hb, hn⟩)).fr (Fr.of_bl b1 h.plt)
  have hdk := h.bl b1
  have hlay := laid_any p W hdk rs D.there hrw.lr A c D.waits hrw.pw hrw.et hw1 hwl K d ks (hk.fr (Fr.of_bl b1 h.plt)) hkl false
  have HL := Lib.hid hlay
  have c0 := q2.cell 0; have c3 := q2.cell 3
  simp only [List.getElem?_toArray, List.getElem?_cons_zero, List.getElem?_cons_succ] at c0 c3
  have c64 := q1.cell 64; have c65 := q1.cell 65
  rw [List.getElem?_toArray, hcs, rdc_wv hr.lr] at c64
  rw [List.getElem?_toArray, hcs, rdc_down hr.lr, hd] at c65
  have hrng : W.rangeAt w.heap.size 0 rs := by
    rw [hcs] at q1; exact q1.rangeT hr.lr
  have R1 := Lib.hid hrng
  have HRL := Lib.hid hr.lr
  have HCS := Lib.hid hcs; have HZL := Lib.hid hzl; have HDD := Lib.hid hd
  have HB1 := Lib.hid b1; have HQ1 := Lib.hid q1; have HQ3 := Lib.hid q3; have HQ4 := Lib.hid q4; have HSZ := Lib.hid hsz; have HH := Lib.hid h
  have HW := Lib.hid hW
  subst hn
  rw [hW] at c0 c3 c64 c65
  clear hr hd hcs hzs hW b1 q1 q2 q3 q4 hsz hzl hrw hlay hrng hdk h
  go_enter Try.func12, Try.ntmps12
  go_wp2_with (refine wpList_load_mid rfl 28 (.tmp 19) (by rfl) w.heap.size 0 (by rfl) rs _ (by rw [← HW.out]; exact R1.out) Try.underlying28 row_isRow (by rw [size_row, HRL.out]) ?_)
  rw [← HW.out]
  refine HL.out.mono ?_
  rintro e w3 ⟨us, rfl, hul, heu, b3⟩
  have hplt := HH.out.plt
  have hsz := HSZ.out
  have h3 := HH.out.bl (HB1.out.trans b3)
  have f1 := HQ1.out.below b3 (by omega)
  rw [HCS.out, HDD.out] at f1
  have f3 := HQ3.out.below b3 (by omega)
  have f4 := HQ4.out.below b3 (by omega)
  have hb3 := HB1.out.trans b3
  have hsz3 := b3.size
  have n0 : ¬ XD N w w.heap.size := xd_not (Nat.le_refl _) (by omega)
  have s0 := HH.out.safe_new hb3 (b := w.heap.size) (Nat.le_refl _) (by omega)
  -- the stores
  have g1 := f1.set64 HRL.out hul
  have e20 : w.heap.size + 2 ≠ w.heap.size := by omega
  have e30 : w.heap.size + 3 ≠ w.heap.size := by omega
  have S0 := Safe.setCells' us 0 w3 s0 s0
  have v1 : ∀ v l, Sv p (XD N w) w3 v l → Sv p (XD N w) (w3.setCells w.heap.size 0 us) v l := fun v l x => Sv.fars n0 us 0 w3 x s0
  have g3 : Blk (w3.setCells w.heap.size 0 us) (w.heap.size + 2) 31 zs.toArray := (World.heap_setCells_other w3 w.heap.size 0 us (by omega) e20).trans f3
  have g4 : Blk (w3.setCells w.heap.size 0 us) (w.heap.size + 3) 37 #[.slice none 0 0, .int .i64 0] := (World.heap_setCells_other w3 w.heap.size 0 us (by omega) e30).trans f4
  have gb := Below.setCells' (B := w.heap.size) (Nat.le_refl _) us 0 w3 hb3
  have x64 := g1.cell 64; have z64 := g1.frozen 64
  rw [List.getElem?_toArray, rdc_wv hul] at x64
  have k1 := row_set g1 64 (.slice none 0 0)
  rw [rdc_set_wv hul] at k1
  have k3 := g3.far (p := ⟨w.heap.size, 64, none⟩) e20 (.slice none 0 0)
  have k4 := g4.far (p := ⟨w.heap.size, 64, none⟩) e30 (.slice none 0 0)
  have kb := Below.setCell gb (p := ⟨w.heap.size, 64, none⟩) (Nat.le_refl _) (.slice none 0 0)
  have S1 := S0.setCell S0 64 (.slice none 0 0)
  have v2 : ∀ v l, Sv p (XD N w) w3 v l → Sv p (XD N w) ((w3.setCells w.heap.size 0 us).setCell ⟨w.heap.size, 64, none⟩ (.slice none 0 0)) v l := fun v l x => (v1 v l x).far n0 S0 64 _
  have x65 := k1.cell 65; have z65 := k1.frozen 65
  rw [List.getElem?_toArray, rdc_down hul] at x65
  have j1 := row_set k1 65 (.bool true)
  rw [rdc_set_down hul] at j1
  have j3 := k3.far (p := ⟨w.heap.size, 65, none⟩) e20 (.bool true)
  have j4 := k4.far (p := ⟨w.heap.size, 65, none⟩) e30 (.bool true)
  have jb := Below.setCell kb (p := ⟨w.heap.size, 65, none⟩) (Nat.le_refl _) (.bool true)
  have v3 : ∀ v l, Sv p (XD N w) w3 v l → Sv p (XD N w) (((w3.setCells w.heap.size 0 us).setCell ⟨w.heap.size, 64, none⟩ (.slice none 0 0)).setCell ⟨w.heap.size, 65, none⟩ (.bool true)) v l := fun v l x => (v2 v l x).far n0 S1 65 _
  obtain ⟨Wc, hWc⟩ : ∃ Wc, Wc = ((w3.setCells w.heap.size 0 us).setCell ⟨w.heap.size, 64, none⟩ (.slice none 0 0)).setCell ⟨w.heap.size, 65, none⟩ (.bool true) := ⟨_, rfl⟩
  have vc := v3
  have hcb : Below w.heap.size w Wc := by rw [hWc]; exact jb
  have c3' : Blk Wc (w.heap.size + 2) 31 zs.toArray := by rw [hWc]; exact j3
  have c4' : Blk Wc (w.heap.size + 3) 37 #[.slice none 0 0, .int .i64 0] := by rw [hWc]; exact j4
  have cc1 : Blk Wc w.heap.size 31 (rdc us (.slice none 0 0) true).toArray := by rw [hWc]; exact j1
  have hszz : w.heap.size + 4 ≤ Wc.heap.size := by
    have := hcb.size
    rw [hWc]
    have e1 : ∀ (us : List Value) (o : Nat) (a : World), (a.setCells w.heap.size o us).heap.size = a.heap.size := by
      intro us
      induction us with
      | nil => intro o a; rfl
      | cons u r ih => intro o a; show ((a.setCell _ u).setCells w.heap.size (o + 1) r).heap.size = _; rw [ih]; simp [World.setCell]
    simp [World.setCell, e1]
    omega
  have hrd : RD p (XD N w) Wc (⟨layK D.there D.waits ks, layK D.there D.waits ks, [], true⟩) us none 0 := ⟨hul, by
    show Each (Sv p (XD N w) Wc) us (layK D.there D.waits ks)
    exact heu.mono (fun v l x => by rw [hWc]; exact vc v l x), Puts.nil_ _ _ _, Nat.le_refl _⟩
  obtain ⟨W1, W2, hW1, hW2, t1, t2, t3, hout⟩ := do_end (b := []) (k := 0) HH.out hcb hszz hrd (SLs.nil_ _ _) (fun a h => by cases h) c3' (by simp [HZL.out]) c4' rfl (rdc us (.slice none 0 0) true) (by rfl)
  have y0 := t1.cell 0; have y1 := t1.cell 1; have y2 := t1.frozen 0; have y3 := t1.frozen 1
  simp only [List.getElem?_toArray, List.getElem?_cons_zero, List.getElem?_cons_succ] at y0 y1
  have X1 := Lib.hid (And.intro y0 (And.intro y1 (And.intro y2 y3)))
  have X64 := Lib.hid (And.intro x64 z64); have X65 := Lib.hid (And.intro x65 z65)
  have T2 := Lib.hid t2; have T4 := Lib.hid t3; have HOUT := Lib.hid hout; have HW1 := Lib.hid hW1; have HWc := Lib.hid hWc.symm
  have HW2 := Lib.hid (show W2 = (W1.setCell ⟨w.heap.size + 1 + 1 + 1, 0, none⟩ (.slice none 0 0)).setCell ⟨w.heap.size + 1 + 1 + 1, 1, none⟩ (.int .i64 0) from hW2)
  have RL := Lib.hid cc1.rangeL
  have TT := Lib.hid (f1.there (o := 0) (n := us.toArray.size) (by rw [List.size_toArray, List.size_toArray, rdc_len HRL.out, hul]; omega))
  have T3 := Lib.hid (c3'.there (o := 0) (n := (rdc us (.slice none 0 0) true).toArray.size) (by simp [rdc_len hul, HZL.out]))
  have HCL := Lib.hid (rdc_len (wv := .slice none 0 0) (down := true) hul)
  have HO1 := Lib.hid (all_oneCell_toArray heu.one)
  have HO2 := Lib.hid (rdc_one (n := 0) hrd true)
  have HUL := Lib.hid hul
  obtain ⟨cz, hcz⟩ : ∃ cz, cz = rdc us (.slice none 0 0) true := ⟨_, rfl⟩
  rw [← hcz] at RL T3 HCL HO2 T2 HOUT HW1
  clear hplt hsz h3 f1 f3 f4 hb3 hsz3 n0 s0 g1 e20 e30 S0 v1 g3 g4 gb x64 z64 k1 k3 k4 kb S1 v2 hcz heu hul b3 hrd hout t1 t2 t3 hW1 hW2 y0 y1 y2 y3 hcb hszz c3' c4' cc1 vc hWc c0 c3 c64 c65 x65 z65 j1 j3 j4 jb v3
  go_wp2_with (first
    | (refine wpList_store_mid rfl 28 (.tmp 26) (.tmp 25) (by rfl) w.heap.size 0 us.toArray (by rfl) (by rfl) TT.out (by rw [size_row, List.size_toArray, HUL.out]) HO1.out ?_; obtain ⟨x64, z64⟩ := X64.out; obtain ⟨x65, z65⟩ := X65.out)
    | (refine wpList_load_mid rfl 31 (.tmp 2) (by rfl) w.heap.size 0 (by rfl) cz _ (by rw [HWc.out]; exact RL.out) Try.underlying31 rdc_isRow (by rw [size_rdc, HCL.out]) ?_)
    | (refine wpList_store_mid rfl 31 (.tmp 4) (.tmp 29) (by rfl) (w.heap.size + 2) 0 cz.toArray (by rfl) (by rfl) (by rw [HWc.out]; exact T3.out) (by rw [size_rdc, List.size_toArray, HCL.out]) HO2.out ?_; rw [HWc.out]; rw [show (Wc.setCells (w.heap.size + 2) 0 cz.toArray.toList) = W1 from HW1.out.symm]; obtain ⟨y0, y1, y2, y3⟩ := X1.out))
  rw [← HW2.out]
  exact do_ret HCL.out T2.out T4.out rfl rfl rfl HOUT.out

set_option maxRecDepth 100000 in
set_option maxHeartbeats 2000000 in
theorem do_sync (h : IsDisk p X w D0) {D : DS} {rs : List Value} {A : Option Addr} {c : Nat} (hr : RD p N w D rs A c) (hd : D.down = false) (hw1 : ∀ x ∈ D.waits, x.1 < 64) (hwl : D.waits.length ≤ 100000) (at_ : Int) (B K : Option Addr) (n bl d bc : Nat):
    Calls Try.prog 12 #[.agg (rdc rs (.slice A D.waits.length c) D.down).toArray, .agg #[.int .i64 1, .int .i64 at_, .slice B bl bc, .slice K n d]] w (GivesDo p N w (⟨layK D.there D.waits (List.replicate D.waits.length true), layK D.there D.waits (List.replicate D.waits.length true), [], false⟩) [] 0) := by
  obtain ⟨zs, hzs⟩ : ∃ zs, zs = rdc (List.replicate 64 (Value.slice none 0 0)) (.slice none 0 0) false := ⟨_, rfl⟩
  obtain ⟨cs, hcs⟩ : ∃ cs, cs = rdc rs (.slice A D.waits.length c) D.down := ⟨_, rfl⟩
  have hz := zero_rdc
  rw [← hzs] at hz
  rw [← hcs]
  obtain ⟨W, hW, b1, q1, q2, q3, q4, hsz⟩ := do_head h cs [.int .i64 1, .int .i64 at_, .slice B bl bc, .slice K n d] zs
  have hzl : zs.length = 66 := by rw [hzs, rdc_len (by simp)]
  have hrw := (hr.weak (Y := XD N w) (fun b hb hn => .inl ⟨hb, hn⟩)).fr (Fr.of_bl b1 h.plt)
  have hdk := h.bl b1
  have hlay := laid_any p W hdk rs D.there hrw.lr A c D.waits hrw.pw hrw.et hw1 hwl none 0 [] (RVs.nil' _ _ _) (by simp) true
  have HL := Lib.hid hlay
  have c0 := q2.cell 0; have c3 := q2.cell 3
  simp only [List.getElem?_toArray, List.getElem?_cons_zero, List.getElem?_cons_succ] at c0 c3
  have c64 := q1.cell 64; have c65 := q1.cell 65
  rw [List.getElem?_toArray, hcs, rdc_wv hr.lr] at c64
  rw [List.getElem?_toArray, hcs, rdc_down hr.lr, hd] at c65
  have hrng : W.rangeAt w.heap.size 0 rs := by
    rw [hcs] at q1; exact q1.rangeT hr.lr
  have R1 := Lib.hid hrng
  have HRL := Lib.hid hr.lr
  have HCS := Lib.hid hcs; have HZL := Lib.hid hzl; have HDD := Lib.hid hd
  have HB1 := Lib.hid b1; have HQ1 := Lib.hid q1; have HQ3 := Lib.hid q3; have HQ4 := Lib.hid q4; have HSZ := Lib.hid hsz; have HH := Lib.hid h
  have HW := Lib.hid hW
  rw [hW] at c0 c3 c64 c65
  clear hr hd hcs hzs hW b1 q1 q2 q3 q4 hsz hzl hrw hlay hrng hdk h
  go_enter Try.func12, Try.ntmps12
  go_wp2_with (refine wpList_load_mid rfl 28 (.tmp 38) (by rfl) w.heap.size 0 (by rfl) rs _ (by rw [← HW.out]; exact R1.out) Try.underlying28 row_isRow (by rw [size_row, HRL.out]) ?_)
  rw [← HW.out]
  refine HL.out.mono ?_
  rintro e w3 ⟨us, rfl, hul, heu, b3⟩
  have hplt := HH.out.plt
  have hsz := HSZ.out
  have h3 := HH.out.bl (HB1.out.trans b3)
  have f1 := HQ1.out.below b3 (by omega)
  rw [HCS.out, HDD.out] at f1
  have f3 := HQ3.out.below b3 (by omega)
  have f4 := HQ4.out.below b3 (by omega)
  have hb3 := HB1.out.trans b3
  have hsz3 := b3.size
  have n0 : ¬ XD N w w.heap.size := xd_not (Nat.le_refl _) (by omega)
  have s0 := HH.out.safe_new hb3 (b := w.heap.size) (Nat.le_refl _) (by omega)
  -- the stores
  have g1 := f1.set64 HRL.out hul
  have e20 : w.heap.size + 2 ≠ w.heap.size := by omega
  have e30 : w.heap.size + 3 ≠ w.heap.size := by omega
  have S0 := Safe.setCells' us 0 w3 s0 s0
  have v1 : ∀ v l, Sv p (XD N w) w3 v l → Sv p (XD N w) (w3.setCells w.heap.size 0 us) v l := fun v l x => Sv.fars n0 us 0 w3 x s0
  have g3 : Blk (w3.setCells w.heap.size 0 us) (w.heap.size + 2) 31 zs.toArray := (World.heap_setCells_other w3 w.heap.size 0 us (by omega) e20).trans f3
  have g4 : Blk (w3.setCells w.heap.size 0 us) (w.heap.size + 3) 37 #[.slice none 0 0, .int .i64 0] := (World.heap_setCells_other w3 w.heap.size 0 us (by omega) e30).trans f4
  have gb := Below.setCells' (B := w.heap.size) (Nat.le_refl _) us 0 w3 hb3
  have x64 := g1.cell 64; have z64 := g1.frozen 64
  rw [List.getElem?_toArray, rdc_wv hul] at x64
  have k1 := row_set g1 64 (.slice none 0 0)
  rw [rdc_set_wv hul] at k1
  have k3 := g3.far (p := ⟨w.heap.size, 64, none⟩) e20 (.slice none 0 0)
  have k4 := g4.far (p := ⟨w.heap.size, 64, none⟩) e30 (.slice none 0 0)
  have kb := Below.setCell gb (p := ⟨w.heap.size, 64, none⟩) (Nat.le_refl _) (.slice none 0 0)
  have S1 := S0.setCell S0 64 (.slice none 0 0)
  have v2 : ∀ v l, Sv p (XD N w) w3 v l → Sv p (XD N w) ((w3.setCells w.heap.size 0 us).setCell ⟨w.heap.size, 64, none⟩ (.slice none 0 0)) v l := fun v l x => (v1 v l x).far n0 S0 64 _
  obtain ⟨Wc, hWc⟩ : ∃ Wc, Wc = (w3.setCells w.heap.size 0 us).setCell ⟨w.heap.size, 64, none⟩ (.slice none 0 0) := ⟨_, rfl⟩
  have vc := v2
  have hcb : Below w.heap.size w Wc := by rw [hWc]; exact kb
  have c3' : Blk Wc (w.heap.size + 2) 31 zs.toArray := by rw [hWc]; exact k3
  have c4' : Blk Wc (w.heap.size + 3) 37 #[.slice none 0 0, .int .i64 0] := by rw [hWc]; exact k4
  have cc1 : Blk Wc w.heap.size 31 (rdc us (.slice none 0 0) false).toArray := by rw [hWc]; exact k1
  have hszz : w.heap.size + 4 ≤ Wc.heap.size := by
    have := hcb.size
    rw [hWc]
    have e1 : ∀ (us : List Value) (o : Nat) (a : World), (a.setCells w.heap.size o us).heap.size = a.heap.size := by
      intro us
      induction us with
      | nil => intro o a; rfl
      | cons u r ih => intro o a; show ((a.setCell _ u).setCells w.heap.size (o + 1) r).heap.size = _; rw [ih]; simp [World.setCell]
    simp [World.setCell, e1]
    omega
  have hrd : RD p (XD N w) Wc (⟨layK D.there D.waits (List.replicate D.waits.length true), layK D.there D.waits (List.replicate D.waits.length true), [], false⟩) us none 0 := ⟨hul, by
    show Each (Sv p (XD N w) Wc) us (layK D.there D.waits (List.replicate D.waits.length true))
    exact heu.mono (fun v l x => by rw [hWc]; exact vc v l x), Puts.nil_ _ _ _, Nat.le_refl _⟩
  obtain ⟨W1, W2, hW1, hW2, t1, t2, t3, hout⟩ := do_end (b := []) (k := 0) HH.out hcb hszz hrd (SLs.nil_ _ _) (fun a h => by cases h) c3' (by simp [HZL.out]) c4' rfl (rdc us (.slice none 0 0) false) (by rfl)
  have y0 := t1.cell 0; have y1 := t1.cell 1; have y2 := t1.frozen 0; have y3 := t1.frozen 1
  simp only [List.getElem?_toArray, List.getElem?_cons_zero, List.getElem?_cons_succ] at y0 y1
  have X1 := Lib.hid (And.intro y0 (And.intro y1 (And.intro y2 y3)))
  have X64 := Lib.hid (And.intro x64 z64)
  have T2 := Lib.hid t2; have T4 := Lib.hid t3; have HOUT := Lib.hid hout; have HW1 := Lib.hid hW1; have HWc := Lib.hid hWc.symm
  have HW2 := Lib.hid (show W2 = (W1.setCell ⟨w.heap.size + 1 + 1 + 1, 0, none⟩ (.slice none 0 0)).setCell ⟨w.heap.size + 1 + 1 + 1, 1, none⟩ (.int .i64 0) from hW2)
  have RL := Lib.hid cc1.rangeL
  have TT := Lib.hid (f1.there (o := 0) (n := us.toArray.size) (by rw [List.size_toArray, List.size_toArray, rdc_len HRL.out, hul]; omega))
  have T3 := Lib.hid (c3'.there (o := 0) (n := (rdc us (.slice none 0 0) false).toArray.size) (by simp [rdc_len hul, HZL.out]))
  have HCL := Lib.hid (rdc_len (wv := .slice none 0 0) (down := false) hul)
  have HO1 := Lib.hid (all_oneCell_toArray heu.one)
  have HO2 := Lib.hid (rdc_one (n := 0) hrd false)
  have HUL := Lib.hid hul
  obtain ⟨cz, hcz⟩ : ∃ cz, cz = rdc us (.slice none 0 0) false := ⟨_, rfl⟩
  rw [← hcz] at RL T3 HCL HO2 T2 HOUT HW1
  clear hplt hsz h3 f1 f3 f4 hb3 hsz3 n0 s0 g1 e20 e30 S0 v1 g3 g4 gb x64 z64 k1 k3 k4 kb S1 v2 hcz heu hul b3 hrd hout t1 t2 t3 hW1 hW2 y0 y1 y2 y3 hcb hszz c3' c4' cc1 vc hWc c0 c3 c64 c65
  go_wp2_with (first
    | (refine wpList_store_mid rfl 28 (.tmp 43) (.tmp 42) (by rfl) w.heap.size 0 us.toArray (by rfl) (by rfl) TT.out (by rw [size_row, List.size_toArray, HUL.out]) HO1.out ?_; obtain ⟨x64, z64⟩ := X64.out)
    | (refine wpList_load_mid rfl 31 (.tmp 2) (by rfl) w.heap.size 0 (by rfl) cz _ (by rw [HWc.out]; exact RL.out) Try.underlying31 rdc_isRow (by rw [size_rdc, HCL.out]) ?_)
    | (refine wpList_store_mid rfl 31 (.tmp 4) (.tmp 45) (by rfl) (w.heap.size + 2) 0 cz.toArray (by rfl) (by rfl) (by rw [HWc.out]; exact T3.out) (by rw [size_rdc, List.size_toArray, HCL.out]) HO2.out ?_; rw [HWc.out]; rw [show (Wc.setCells (w.heap.size + 2) 0 cz.toArray.toList) = W1 from HW1.out.symm]; obtain ⟨y0, y1, y2, y3⟩ := X1.out))
  rw [← HW2.out]
  exact do_ret HCL.out T2.out T4.out rfl rfl rfl HOUT.out

end
end Go.Proofs.Ytmjdmigjhllmeaa
