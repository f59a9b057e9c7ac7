/- The contract of ratchetref24.Do: Read. -/
import Derived.Test.YtmjdmigjhllmeaaDo2
import Derived.Deep.RegionHeld3
import Derived.Deep.DrawnRows
namespace Go.Proofs.Ytmjdmigjhllmeaa
open Go.RowKit
set_option linter.unusedVariables false
attribute [local go_sem ↓] Go.wp_at_zero Go.wp_at_succ

section
variable {p : Nat} {X N : Nat → Prop} {w : World} {D0 : DS}
set_option maxRecDepth 100000 in
set_option maxHeartbeats 4000000 in
theorem do_read (h : IsDisk p X w D0) {D : DS} {rs : List Value} {A : Option Addr} {c : Nat} (hr : RD p N w D rs A c) (hd : D.down = false) (hw1 : ∀ x ∈ D.waits, x.1 < 64) (hwl : D.waits.length ≤ 100000) (k : Nat) (hk : k < 64) (hdl : D.there.length = 64) (B K : Option Addr) (n bl d bc : Nat) (b : List UInt8) (hb : b = (layK D.there D.waits (List.replicate D.waits.length true)).getD k []) :
    Calls Try.prog 12 #[.agg (rdc rs (.slice A D.waits.length c) D.down).toArray, .agg #[.int .i64 2, .int .i64 (k : Int), .slice B bl bc, .slice K n d]] w (GivesDo p N w D b 0) := by
  obtain ⟨zs, hzs⟩ : ∃ zs, zs = rdc (List.replicate 64 (Value.slice none 0 0)) (.slice none 0 0) false := ⟨_, rfl⟩
  obtain ⟨cs, hcs⟩ : ∃ cs, cs = rdc rs (.slice A D.waits.length c) D.down := ⟨_, rfl⟩
  obtain ⟨zr, hzr⟩ : ∃ zr, zr = (List.replicate 64 (Value.slice none 0 0)) := ⟨_, rfl⟩
  have hz := zero_rdc
  have hz2 := zero_row
  rw [← hzs] at hz
  rw [← hzr] at hz2
  rw [← hcs]
  obtain ⟨W, hW, b1, q1, q2, q3, q4, hsz⟩ := do_head h cs [.int .i64 2, .int .i64 (k : Int), .slice B bl bc, .slice K n d] zs
  have hzl : zs.length = 66 := by rw [hzs, rdc_len (by simp)]
  have hcl : cs.length = 66 := by rw [hcs, rdc_len hr.lr]
  have hzrl : zr.length = 64 := by rw [hzr]; simp
  have hrw := (hr.weak (Y := XD N w) (fun b hb hn => .inl ⟨hb, hn⟩)).fr (Fr.of_bl b1 h.plt)
  have hdk := h.bl b1
  have hlay := laid_any p W hdk rs D.there hrw.lr A c D.waits hrw.pw hrw.et hw1 hwl none 0 [] (RVs.nil' _ _ _) (by simp) true
  have HL := Lib.hid hlay
  have c0 := q2.cell 0; have c1 := q2.cell 1
  simp only [List.getElem?_toArray, List.getElem?_cons_zero, List.getElem?_cons_succ] at c0 c1
  have c64 := q1.cell 64; have c65 := q1.cell 65
  rw [List.getElem?_toArray, hcs, rdc_wv hr.lr] at c64
  rw [List.getElem?_toArray, hcs, rdc_down hr.lr, hd] at c65
  have hrng : W.rangeAt w.heap.size 0 rs := by
    rw [hcs] at q1; exact q1.rangeT hr.lr
  have R1 := Lib.hid hrng
  have HRL := Lib.hid hr.lr
  have ho := rdc_one (n := D.waits.length) hr D.down
  rw [← hcs] at ho
  have HO2 := Lib.hid ho
  have HCS := Lib.hid hcs; have HZL := Lib.hid hzl; have HDD := Lib.hid hd; have HCL := Lib.hid hcl; have HZRL := Lib.hid hzrl
  have HB1 := Lib.hid b1; have HQ1 := Lib.hid q1; have HQ2 := Lib.hid q2; have HQ3 := Lib.hid q3; have HQ4 := Lib.hid q4; have HSZ := Lib.hid hsz; have HH := Lib.hid h; have HRW := Lib.hid hrw
  have HW := Lib.hid hW
  have HBB := Lib.hid hb; have HDL := Lib.hid hdl
  have i1 : (0 : Int) ≤ (k : Int) := by omega
  have i2 : (k : Int) < 64 := by omega
  rw [hW] at c0 c1 c64 c65
  clear hr hd hcs hzs hW b1 q1 q2 q3 q4 hsz hzl hrw hlay hrng hdk h ho hcl hzr hzrl hb hdl
  go_enter Try.func12, Try.ntmps12
  go_wp2_with (refine wpList_load_mid rfl 28 (.tmp 60) (by rfl) w.heap.size 0 (by rfl) rs _ (by rw [← HW.out]; exact R1.out) Try.underlying28 row_isRow (by rw [size_row, HRL.out]) ?_)
  rw [← HW.out]
  refine HL.out.mono ?_
  rintro e w3 ⟨us, rfl, hul, heu, b3⟩
  have hplt := HH.out.plt
  have hsz := HSZ.out
  have hb3 := HB1.out.trans b3
  have hsz3 := b3.size
  have n0 := Blk.new w3 28 zr.toArray
  have ba := Bl.alloc w3 (.cells zr.toArray 28)
  have g0 := n0.setAll (us := us) (by simp [HZRL.out, hul])
  have tz := Lib.hid (n0.there (o := 0) (n := us.toArray.size) (by simp [HZRL.out, hul]))
  have hb4 := Below.setCells' (B := w.heap.size) (g := w3.heap.size) (by omega) us 0 _ (hb3.trans ba)
  have hbs : Below w3.heap.size w3 ((w3.alloc (.cells zr.toArray 28)).setCells w3.heap.size 0 us) := Below.setCells' (Nat.le_refl _) us 0 _ ba
  obtain ⟨V, hV⟩ : ∃ V, V = (w3.alloc (.cells zr.toArray 28)).setCells w3.heap.size 0 us := ⟨_, rfl⟩
  rw [← hV] at g0 hb4 hbs
  have f1 := (HQ1.out.below b3 (by omega)).below hbs (by omega)
  have f2 := (HQ2.out.below b3 (by omega)).below hbs (by omega)
  have f3 := (HQ3.out.below b3 (by omega)).below hbs (by omega)
  have f4 := (HQ4.out.below b3 (by omega)).below hbs (by omega)
  have hrV : RD p (XD N w) V D rs A c := HRW.out.fr ((Fr.of_bl b3 (by omega)).trans (Fr.of_bl hbs (by omega)))
  have hsV := hbs.size
  have heV : Each (Sv p (XD N w) V) us (layK D.there D.waits (List.replicate D.waits.length true)) := heu.mono fun v l x => x.fr (Fr.of_bl hbs (by omega))
  obtain ⟨v, hv, Bv, cv, hve, hvs, hvx⟩ := heV.at_ (i := k) (by rw [layK_len, HDL.out]; exact hk)
  have hbk : b = (layK D.there D.waits (List.replicate D.waits.length true))[k]'(by rw [layK_len, HDL.out]; exact hk) := by
    rw [HBB.out, List.getD_eq_getElem?_getD, List.getElem?_eq_getElem (by rw [layK_len, HDL.out]; exact hk)]; rfl
  rw [← hbk] at hve hvs hvx
  subst hve
  obtain ⟨W1, W2, hW1, hW2, t1, t2, t3, hout⟩ := do_end (Wc := V.drew) (b := b) (k := 0) HH.out (Below.drew hb4) (by show w.heap.size + 4 ≤ V.heap.size; omega) (hrV.fr (Fr.of_bl (Bl.drew V) (by omega))) (hvs.fr (Fr.of_bl (Bl.drew V) (by omega))) hvx (show Blk V.drew _ _ _ from f3) (by simp [HZL.out]) (show Blk V.drew _ _ _ from f4) rfl cs HCS.out
  have y0 := t1.cell 0; have y1 := t1.cell 1; have y2 := t1.frozen 0; have y3 := t1.frozen 1
  simp only [List.getElem?_toArray, List.getElem?_cons_zero, List.getElem?_cons_succ] at y0 y1
  have r1 := f1.rangeL
  have r2 := f3.there (o := 0) (n := cs.toArray.size) (by simp [HZL.out, HCL.out])
  have r3 := f2.cell 1
  simp only [List.getElem?_toArray, List.getElem?_cons_zero, List.getElem?_cons_succ] at r3
  have r4 : V.cell? ⟨w3.heap.size, k, none⟩ = some (.slice Bv b.length cv) := by rw [g0.cell, List.getElem?_toArray]; exact hv
  have T2 := Lib.hid t2; have T4 := Lib.hid t3; have HOUT := Lib.hid hout; have HW1 := Lib.hid hW1; have HV := Lib.hid hV.symm; have HW2 := Lib.hid (show W2 = (W1.setCell ⟨w.heap.size + 1 + 1 + 1, 0, none⟩ (.slice Bv b.length cv)).setCell ⟨w.heap.size + 1 + 1 + 1, 1, none⟩ (.int .i64 0) from hW2)
  have HUL := Lib.hid hul
  have HO1 := Lib.hid (all_oneCell_toArray heu.one)
  have m1 : w3.heap.size ≠ w.heap.size + 2 := by omega
  have m2 : w3.heap.size ≠ w.heap.size + 3 := by omega
  clear hplt hsz hb3 hsz3 n0 ba g0 hb4 hbs f1 f2 f3 f4 hrV hsV heV hbk hvs hvx hout t1 t2 t3 hW1 hW2 hV hv heu b3 c0 c1 c64 c65 hz
  go_wp2_with (refine wpList_store_mid rfl 28 (.tmp 6) (.tmp 64) (by rfl) w3.heap.size 0 us.toArray (by rfl) (by rfl) tz.out (by rw [size_row, List.size_toArray, HUL.out]) HO1.out ?_)
  rw [HV.out]
  have hu := Try.underlying31
  have hi : (Try.prog.info? 31).map (·.size) = some cs.length := by rw [size_rdc, HCL.out]
  have hcl := HCL.out
  have h1 : ∀ v ∈ cs, v.oneCell' = true := fun v hv => (Array.all_eq_true_iff_forall_mem.1 HO2.out) v (by simpa using hv)
  have hW1' := HW1.out
  rw [show (V.drew.setCells (w.heap.size + 2) 0 cs) = V.drew.setCells (w.heap.size + 1 + 1) 0 cs from rfl] at hW1'
  rw [hW1'] at y0 y1 y2 y3
  rw [List.size_toArray] at r2
  have hS0 : (fun w' : World => w'.rangeAt w.heap.size 0 cs ∧ w'.cell? ⟨w.heap.size + 1, 1, none⟩ = some (.int .i64 (k : Int)) ∧ w'.cell? ⟨w3.heap.size, k, none⟩ = some (.slice Bv b.length cv) ∧ w'.there (w.heap.size + 1 + 1) 0 cs.length) V.drew := ⟨r1, r3, r4, r2⟩
  have hK1 : ∀ w' : World, (fun w' : World => w'.rangeAt w.heap.size 0 cs ∧ w'.cell? ⟨w.heap.size + 1, 1, none⟩ = some (.int .i64 (k : Int)) ∧ w'.cell? ⟨w3.heap.size, k, none⟩ = some (.slice Bv b.length cv) ∧ w'.there (w.heap.size + 1 + 1) 0 cs.length) w' →
      (fun w' : World => w'.rangeAt w.heap.size 0 cs ∧ w'.cell? ⟨w.heap.size + 1, 1, none⟩ = some (.int .i64 (k : Int)) ∧ w'.cell? ⟨w3.heap.size, k, none⟩ = some (.slice Bv b.length cv) ∧ w'.there (w.heap.size + 1 + 1) 0 cs.length) (w'.setCells (w.heap.size + 1 + 1) 0 cs) := by
    rintro w' ⟨a1, a2, a3, a4⟩
    refine ⟨World.rangeAt_setCells_apart a1 _ _ _ (.inl (by omega)), ?_, ?_, World.there_setCells a4 _ _ _⟩
    · rw [World.cell?_setCells_out _ _ _ _ _ (fun e => by have : w.heap.size + 1 = w.heap.size + 1 + 1 := e; omega)]; exact a2
    · rw [World.cell?_setCells_out _ _ _ _ _ (fun e => by have : w3.heap.size = w.heap.size + 1 + 1 := e; omega)]; exact a3
  have hK2 : ∀ (w' : World) (u v : Value), (fun w' : World => w'.rangeAt w.heap.size 0 cs ∧ w'.cell? ⟨w.heap.size + 1, 1, none⟩ = some (.int .i64 (k : Int)) ∧ w'.cell? ⟨w3.heap.size, k, none⟩ = some (.slice Bv b.length cv) ∧ w'.there (w.heap.size + 1 + 1) 0 cs.length) w' →
      (fun w' : World => w'.rangeAt w.heap.size 0 cs ∧ w'.cell? ⟨w.heap.size + 1, 1, none⟩ = some (.int .i64 (k : Int)) ∧ w'.cell? ⟨w3.heap.size, k, none⟩ = some (.slice Bv b.length cv) ∧ w'.there (w.heap.size + 1 + 1) 0 cs.length) ((w'.setCell ⟨w.heap.size + 1 + 1 + 1, 0, none⟩ u).setCell ⟨w.heap.size + 1 + 1 + 1, 1, none⟩ v) := by
    rintro w' u v ⟨a1, a2, a3, a4⟩
    have o1 : ∀ (w' : World) (u : Value) (i : Nat) (a : Addr), a.block ≠ w.heap.size + 1 + 1 + 1 → (w'.setCell ⟨w.heap.size + 1 + 1 + 1, i, none⟩ u).cell? a = w'.cell? a := fun w' u i a ha => World.cell?_of_block (Below.heap_setCell w' ⟨w.heap.size + 1 + 1 + 1, i, none⟩ u a.block ha)
    refine ⟨fun j v hv => ?_, ?_, ?_, fun j hj => ?_⟩
    · rw [o1 _ _ _ _ (by simp; omega), o1 _ _ _ _ (by simp; omega)]; exact a1 j v hv
    · rw [o1 _ _ _ _ (by simp), o1 _ _ _ _ (by simp)]; exact a2
    · rw [o1 _ _ _ _ (by simp; omega), o1 _ _ _ _ (by simp; omega)]; exact a3
    · rw [o1 _ _ _ _ (by simp), o1 _ _ _ _ (by simp), World.frozen?_setCell, World.frozen?_setCell]; exact a4 j hj
  refine wp_region_noPanic ?_
  refine wp_region_held_drew (S := fun w' : World => w'.rangeAt w.heap.size 0 cs ∧ w'.cell? ⟨w.heap.size + 1, 1, none⟩ = some (.int .i64 (k : Int)) ∧ w'.cell? ⟨w3.heap.size, k, none⟩ = some (.slice Bv b.length cv) ∧ w'.there (w.heap.size + 1 + 1) 0 cs.length) (by kernel_rfl) hS0 (fun hHeld => ?_)
  refine wpAnyH_take (i := 0) (oi := { dst := some 65, op := Op.load 31 (Operand.tmp 2), type := 31, pos := "ref.go:75", after := #[], guard := none }) (v := .agg cs.toArray) rfl (by kernel_rfl) (by kernel_rfl) (by kernel_rfl) (fun _ _ _ h => h) (yieldsIf_load_mid (by rfl) 31 (.tmp 2) rfl w.heap.size 0 rfl cs _ (fun w' h => h.1) hu rfl hi) hHeld ?_
  simp only [Act.put, List.setIfInBounds_toArray, List.set_cons_zero, List.set_cons_succ]
  refine wpAnyH_take (i := 1) (oi := { dst := some 66, op := Op.fieldAddr 34 (Operand.tmp 3) 1, type := 0, pos := "ref.go:75", after := #[{ on := 6, ground := Ground.gcOnly Departure.lateStores }], guard := none }) (v := ?_) rfl (by kernel_rfl) (by kernel_rfl) (by kernel_rfl) (fun _ _ _ h => h) (Or.inl ⟨by rfl, ?_⟩) hHeld ?_
  rotate_left
  · intro w' hSw
    obtain ⟨_, s1, s2, _⟩ := hSw
    go_simp
    with_reducible rfl
  simp only [Act.put, List.setIfInBounds_toArray, List.set_cons_zero, List.set_cons_succ]
  refine wpAnyH_take (i := 2) (oi := { dst := some 67, op := Op.load 3 (Operand.tmp 66), type := 3, pos := "ref.go:75", after := #[{ on := 1, ground := Ground.data }, { on := 6, ground := Ground.gcOnly Departure.lateStores }], guard := none }) (v := ?_) rfl (by kernel_rfl) (by kernel_rfl) (by kernel_rfl) (fun _ _ _ h => h) (Or.inl ⟨by rfl, ?_⟩) hHeld ?_
  rotate_left
  · intro w' hSw
    obtain ⟨_, s1, s2, _⟩ := hSw
    go_simp
    with_reducible rfl
  simp only [Act.put, List.setIfInBounds_toArray, List.set_cons_zero, List.set_cons_succ]
  refine wpAnyH_take (i := 3) (oi := { dst := some 68, op := Op.indexAddr 28 (Operand.tmp 6) (Operand.tmp 67), type := 0, pos := "ref.go:75", after := #[{ on := 2, ground := Ground.data }, { on := 6, ground := Ground.gcOnly Departure.lateStores }], guard := none }) (v := ?_) rfl (by kernel_rfl) (by kernel_rfl) (by kernel_rfl) (fun _ _ _ h => h) (Or.inl ⟨by rfl, ?_⟩) hHeld ?_
  rotate_left
  · intro w' hSw
    obtain ⟨_, s1, s2, _⟩ := hSw
    go_simp
    with_reducible rfl
  simp only [Act.put, List.setIfInBounds_toArray, List.set_cons_zero, List.set_cons_succ]
  refine wpAnyH_take (i := 4) (oi := { dst := some 69, op := Op.load 27 (Operand.tmp 68), type := 27, pos := "ref.go:75", after := #[{ on := 3, ground := Ground.data }, { on := 6, ground := Ground.gcOnly Departure.lateStores }], guard := none }) (v := ?_) rfl (by kernel_rfl) (by kernel_rfl) (by kernel_rfl) (fun _ _ _ h => h) (Or.inl ⟨by rfl, ?_⟩) hHeld ?_
  rotate_left
  · intro w' hSw
    obtain ⟨_, s1, s2, _⟩ := hSw
    go_simp
    with_reducible rfl
  simp only [Act.put, List.setIfInBounds_toArray, List.set_cons_zero, List.set_cons_succ]
  refine wpAnyH_take (i := 5) (oi := { dst := some 70, op := Op.build 37 #[(0, Operand.tmp 69)], type := 37, pos := "ref.go:75", after := #[{ on := 4, ground := Ground.data }, { on := 6, ground := Ground.gcOnly Departure.lateStores }], guard := none }) (v := ?_) rfl (by kernel_rfl) (by kernel_rfl) (by kernel_rfl) (fun _ _ _ h => h) (Or.inl ⟨by rfl, ?_⟩) hHeld ?_
  rotate_left
  · intro w' hSw
    obtain ⟨_, s1, s2, _⟩ := hSw
    go_simp
    with_reducible rfl
  simp only [Act.put, List.setIfInBounds_toArray, List.set_cons_zero, List.set_cons_succ]
  refine wpAnyH_ready (rs := [6]) (by kernel_rfl) (by simp) ?_
  refine AllReadyH.cons (o := { dst := none, op := Op.store 31 (Operand.tmp 4) (Operand.tmp 65), type := 0, pos := "ref.go:75", after := #[{ on := 0, ground := Ground.data }, { on := 0, ground := Ground.phase }, { on := 1, ground := Ground.textOnly Departure.lateStores }, { on := 2, ground := Ground.textOnly Departure.lateStores }, { on := 3, ground := Ground.textOnly Departure.lateStores }, { on := 4, ground := Ground.textOnly Departure.lateStores }, { on := 5, ground := Ground.textOnly Departure.lateStores }], guard := none }) rfl (fun K hK => ?_) AllReadyH.nil
  rw [if_pos (by rfl)]
  refine wp_store_mid 31 (.tmp 4) (.tmp 65) rfl (w.heap.size + 1 + 1) 0 cs.toArray rfl rfl (by rw [List.size_toArray]; exact r2) (by rw [size_rdc, List.size_toArray, HCL.out]) HO2.out ?_
  refine hK.out _ _ (hK1 _ hS0) (fun hHeld2 => ?_)
  clear hK K
  try simp only [List.toList_toArray] at hHeld2
  try simp only [Act.put, List.setIfInBounds_toArray, List.set_cons_zero, List.set_cons_succ, List.toList_toArray]
  refine wpAnyH_ready (rs := [7]) (by kernel_rfl) (by simp) ?_
  refine AllReadyH.cons (o := { dst := none, op := Op.store 37 (Operand.tmp 5) (Operand.tmp 70), type := 0, pos := "ref.go:75", after := #[{ on := 5, ground := Ground.data }, { on := 6, ground := Ground.chain }, { on := 0, ground := Ground.phase }, { on := 1, ground := Ground.phase }, { on := 2, ground := Ground.phase }, { on := 3, ground := Ground.phase }, { on := 4, ground := Ground.phase }, { on := 5, ground := Ground.phase }, { on := 6, ground := Ground.phase }], guard := none }) rfl (fun K hK => ?_) AllReadyH.nil
  clear r1 r3 r4
  go_simp
  refine hK.out _ _ (hK2 _ _ _ hHeld2) (fun hHeld3 => ?_)
  clear hK K hHeld3 hHeld2 hHeld
  try simp only [Act.put, List.setIfInBounds_toArray, List.set_cons_zero, List.set_cons_succ]
  refine wpAnyH_done (by kernel_rfl) ?_ _
  refine NoPanic.normal ?_
  have hw2' : ((V.drew.setCells (w.heap.size + 1 + 1) 0 cs).setCell ⟨w.heap.size + 1 + 1 + 1, 0, none⟩ (.slice Bv b.length cv)).setCell ⟨w.heap.size + 1 + 1 + 1, 1, none⟩ (.int .i64 0) = W2 := by rw [HW2.out, hW1']
  clear hW1'
  go_wp2
  exact do_ret HCL.out T2.out T4.out rfl rfl rfl HOUT.out
end
end Go.Proofs.Ytmjdmigjhllmeaa
