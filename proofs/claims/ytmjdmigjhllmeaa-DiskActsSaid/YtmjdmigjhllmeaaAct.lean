/- The contract of ratchetlaw24.act. -/
import Derived.Test.YtmjdmigjhllmeaaDisk5
import Derived.Test.YtmjdmigjhllmeaaActWords
namespace Go.Proofs.Ytmjdmigjhllmeaa
open Go.RowKit
set_option linter.unusedVariables false

theorem told_field (u : Value) (k : IntKind) (n : Int) (w : World) : (Instr.field 37 (.agg #[u, .int k n]) 1).run Try.prog w = .ok (.int k n) w := by kernel_rfl
/-- What an act makes of a disk, and tells. -/
def actD (d : DS) (a : ActP) : DS :=
  if a.kind = 0 then dWrite d a.at_ a.b else if a.kind = 1 then dSync d else if a.kind = 3 then dCrash d a.keep else if a.kind = 4 then dUp d else d
def actB (d : DS) (a : ActP) : List UInt8 := if a.kind = 2 then bRead d a.at_ else []
def actE (d : DS) (a : ActP) : Int := if a.kind = 0 then eWrite d a.at_ a.b else if a.kind = 1 then eSync d else if a.kind = 2 then eWrong d a.at_ else 0

section
variable {p : Nat} {X : Nat → Prop} {w : World} {D : DS}
theorem Fr.set_new {w1 : World} (h : Fr p w w1) {g : Nat} (hg : w.heap.size ≤ g) (hs : Safe p w1 g) (i : Nat) (u : Value) : Fr p w (w1.setCell ⟨g, i, none⟩ u) := by
  refine ⟨h.os, h.tape, h.output, by simpa [World.setCell] using h.size, fun b hb => ?_, fun b hb => ?_⟩
  · rw [Below.heap_setCell w1 ⟨g, i, none⟩ u b (by have := hb.1; show b ≠ g; omega)]
    exact h.block b hb
  · have hb' := h.safe b hb
    refine ⟨by simpa [World.setCell] using hb'.1, hb'.2.1, ?_⟩
    rw [rowOf_of_block (Below.heap_setCell w1 ⟨g, i, none⟩ u p (Ne.symm hs.2.1))]
    exact hb'.2.2
theorem Safe.setCell {w1 : World} {b g : Nat} (hb : Safe p w1 b) (hs : Safe p w1 g) (i : Nat) (u : Value) : Safe p (w1.setCell ⟨g, i, none⟩ u) b := by
  refine ⟨by simpa [World.setCell] using hb.1, hb.2.1, ?_⟩
  rw [rowOf_of_block (Below.heap_setCell w1 ⟨g, i, none⟩ u p (Ne.symm hs.2.1))]
  exact hb.2.2
theorem Blk.fr {w1 : World} {g : Nat} {t : TypeId} {cs : Array Value} (h : Blk w g t cs) (hf : Fr p w w1) (hs : Safe p w g) : Blk w1 g t cs := (hf.block g hs).trans h
theorem SLs.far {w1 : World} {A : Option Addr} {c : Nat} {l : List UInt8} (h : SLs p w1 A c l) {g : Nat} (hs : Safe p w1 g) (hne : ∀ a, A = some a → 0 < l.length → a.block ≠ g) (i : Nat) (u : Value) : SLs p (w1.setCell ⟨g, i, none⟩ u) A c l := by
  refine ⟨⟨fun hn => ?_, h.sl.cap, h.sl.none_⟩, fun a ha hn => (h.safe a ha hn).setCell hs i u⟩
  obtain ⟨ad, e, hb, hc⟩ := h.sl.rb hn
  refine ⟨ad, e, by simpa [World.setCell] using hb, fun j hj => ?_⟩
  rw [← hc j hj]
  exact World.cell?_of_block (Below.heap_setCell w1 ⟨g, i, none⟩ u _ (by rw [block_of_add]; exact hne ad e hn))

/-- The result's cells, stored: the disk is as it was. -/
theorem act_end {w1 : World} {D' : DS} {g : Nat} (hg : w.heap.size ≤ g) (h : IsDisk p (fun b => X b ∧ b ≠ g) w1 D') (hf : Fr p w w1) (hs : Safe p w1 g) (u v : Value) :
    IsDisk p X ((w1.setCell ⟨g, 0, none⟩ u).setCell ⟨g, 1, none⟩ v) D' ∧ Fr p w ((w1.setCell ⟨g, 0, none⟩ u).setCell ⟨g, 1, none⟩ v) := by
  have hs2 := hs.setCell hs 0 u
  refine ⟨IsDisk.weak ((h.far (fun h => h.2 rfl) hs.2.1 hs.2.2 0 u).far (fun h => h.2 rfl) hs2.2.1 hs2.2.2 1 v) (fun b _ h => h.1), ?_⟩
  exact (hf.set_new hg hs 0 u).set_new hg hs2 1 v

/-- What act gives. -/
def GivesAct (p : Nat) (X : Nat → Prop) (w : World) (D' : DS) (b : List UInt8) (k : Int) (e : Ending) (w' : World) : Prop :=
  ∃ A c, e = .returned (.agg #[.slice A b.length c, .int .i64 k]) ∧ SLs p w' A c b ∧ IsDisk p X w' D' ∧ Fr p w w' ∧ ∀ a, A = some a → w.heap.size ≤ a.block

/-- The worlds at act's head. -/
theorem act_head (h : IsDisk p X w D) (cs : Array Value) : ∃ W, W = (w.alloc (.cells cs 34)).alloc (.cells #[.slice none 0 0, .int .i64 0] 37) ∧ Bl w W ∧ IsDisk p (fun b => X b ∧ b ≠ w.heap.size + 1) W D ∧
    Blk W w.heap.size 34 cs ∧ Blk W (w.heap.size + 1) 37 #[.slice none 0 0, .int .i64 0] ∧ Safe p W (w.heap.size + 1) ∧ W.heap.size = w.heap.size + 2 := by
  have b1 := Bl.alloc w (.cells cs 34)
  have b2 := b1.trans (Bl.alloc _ (.cells #[.slice none 0 0, .int .i64 0] 37))
  have k2 := Blk.new (w.alloc (.cells cs 34)) 37 #[.slice none 0 0, .int .i64 0]
  rw [show (w.alloc (.cells cs 34)).heap.size = w.heap.size + 1 from by simp] at k2
  exact ⟨_, rfl, b2, (h.weak (Y := fun b => X b ∧ b ≠ w.heap.size + 1) (fun b hb hx => ⟨hx, by omega⟩)).bl b2, (Blk.new w _ cs).alloc _, k2, h.safe_new b2 (by omega) (by simp), by simp⟩

theorem told_blk {w1 : World} {g : Nat} {x y : Value} (h : Blk w1 g 37 #[x, y]) (u v : Value) : Blk ((w1.setCell ⟨g, 0, none⟩ u).setCell ⟨g, 1, none⟩ v) g 37 #[u, v] := by
  have := (h.set_ 0 u).set_ 1 v
  simpa using this
theorem told_size : (Try.prog.info? 37).map (·.size) = some 2 := by kernel_rfl
theorem act_ret {W2 : World} {g : Nat} {u v : Value} (hb : Blk W2 g 37 #[u, v]) {Q : Ending → World → Prop} {a : Act} (ha : a.defers = []) (hp : a.tmps.getD 4 undef = .pointer (some ⟨g, 0, none⟩)) (hQ : Q (.returned (.agg #[u, v])) W2) :
    bodyPost Try.prog Try.f11 Q .ret a W2 := by
  exact bodyPost_ret (v := .agg #[u, v]) (results_cell_row rfl a.tmps W2 g 37 #[u, v] (0, 0) _ hp hb Try.underlying37 rfl told_size) ha hQ

set_option maxRecDepth 100000 in
set_option maxHeartbeats 1000000 in
theorem act_write (h : IsDisk p X w D) (at_ : Int) (B K : Option Addr) (d n bl : Nat) (c : Nat) (l : List UInt8) (hl : bl = l.length) (hs : SL w B c l) (hw : D.waits.length ≤ 100000) (hX : ∀ b, w.heap.size ≤ b → X b) (k : Int) (D' : DS) (hk : eWrite D at_ l = k) (hD : dWrite D at_ l = D') :
    Calls Try.prog 11 #[.pointer (some ⟨p, 0, none⟩), .agg #[.int .i64 0, .int .i64 at_, .slice B bl c, .slice K n d]] w (GivesAct p X w D' [] k) := by
  obtain ⟨W, hW, b1, h1, k1, k2, hs1, hsz⟩ := act_head h #[.int .i64 0, .int .i64 at_, .slice B bl c, .slice K n d]
  have hsl := hs.step b1
  have hX' : ∀ b, W.heap.size ≤ b → X b ∧ b ≠ w.heap.size + 1 := fun b hb => ⟨hX b (by omega), by omega⟩
  have HX := Lib.hid hX'; have HK := Lib.hid hk; have HD := Lib.hid hD; have HL := Lib.hid hl
  clear hs hX hX' hk hD hl
  have HF := Lib.hid (Fr.of_bl b1 h.plt)
  have HW := Lib.hid hW
  have HSZ := Lib.hid hsz
  have HK2 := Lib.hid k2; have HS := Lib.hid hs1; have H1 := Lib.hid h1
  have c0 := k1.cell 0; have c1 := k1.cell 1; have c2 := k1.cell 2; have c3 := k1.cell 3
  simp only [List.getElem?_toArray, List.getElem?_cons_zero, List.getElem?_cons_succ] at c0 c1 c2 c3
  clear h b1 h1 k1 k2 hs1 hsz hW
  go_enter Try.func11, Try.ntmps11
  go_wp2_with fail
  rw [← HW.out]
  refine (dWrite_to H1.out at_ _ _ _ l HL.out hsl hw HX.out k D' HK.out HD.out).mono ?_
  rintro e w3 ⟨rfl, d3, f3⟩
  have q := HK2.out.fr f3 HS.out
  have q0 := q.cell 0; have q1 := q.cell 1; have z0 := q.frozen 0; have z1 := q.frozen 1
  simp only [List.getElem?_toArray, List.getElem?_cons_zero, List.getElem?_cons_succ] at q0 q1
  have HE := Lib.hid (act_end (Nat.le_succ _) d3 (HF.out.trans f3) (f3.safe _ HS.out) (.slice none 0 0) (.int .i64 k))
  have HQ := Lib.hid (told_blk q (.slice none 0 0) (.int .i64 k))
  clear d3 f3 q c0 c1 c2 c3
  go_wp2
  exact act_ret HQ.out rfl rfl ⟨none, 0, rfl, SLs.nil_ _ _, HE.out.1, HE.out.2, fun a h => by cases h⟩

set_option maxRecDepth 100000 in
set_option maxHeartbeats 1000000 in
theorem act_sync (h : IsDisk p X w D) (at_ : Int) (B K : Option Addr) (d n bl : Nat) (c : Nat) (k : Int) (D' : DS) (hk : eSync D = k) (hD : dSync D = D') :
    Calls Try.prog 11 #[.pointer (some ⟨p, 0, none⟩), .agg #[.int .i64 1, .int .i64 at_, .slice B bl c, .slice K n d]] w (GivesAct p X w D' [] k) := by
  obtain ⟨W, hW, b1, h1, k1, k2, hs1, hsz⟩ := act_head h #[.int .i64 1, .int .i64 at_, .slice B bl c, .slice K n d]
  have HK := Lib.hid hk; have HD := Lib.hid hD
  clear hk hD
  have HF := Lib.hid (Fr.of_bl b1 h.plt)
  have HW := Lib.hid hW
  have HSZ := Lib.hid hsz
  have HK2 := Lib.hid k2; have HS := Lib.hid hs1; have H1 := Lib.hid h1
  have c0 := k1.cell 0; have c1 := k1.cell 1; have c2 := k1.cell 2; have c3 := k1.cell 3
  simp only [List.getElem?_toArray, List.getElem?_cons_zero, List.getElem?_cons_succ] at c0 c1 c2 c3
  clear h b1 h1 k1 k2 hs1 hsz hW
  go_enter Try.func11, Try.ntmps11
  go_wp2_with fail
  rw [← HW.out]
  refine (dSync_to H1.out k D' HK.out HD.out).mono ?_
  rintro e w3 ⟨rfl, d3, f3⟩
  have q := HK2.out.fr f3 HS.out
  have q0 := q.cell 0; have q1 := q.cell 1; have z0 := q.frozen 0; have z1 := q.frozen 1
  simp only [List.getElem?_toArray, List.getElem?_cons_zero, List.getElem?_cons_succ] at q0 q1
  have HE := Lib.hid (act_end (Nat.le_succ _) d3 (HF.out.trans f3) (f3.safe _ HS.out) (.slice none 0 0) (.int .i64 k))
  have HQ := Lib.hid (told_blk q (.slice none 0 0) (.int .i64 k))
  clear d3 f3 q c0 c1 c2 c3
  go_wp2
  exact act_ret HQ.out rfl rfl ⟨none, 0, rfl, SLs.nil_ _ _, HE.out.1, HE.out.2, fun a h => by cases h⟩

set_option maxRecDepth 100000 in
set_option maxHeartbeats 1000000 in
theorem act_read (h : IsDisk p X w D) (at_ : Int) (B K : Option Addr) (d n bl : Nat) (c : Nat) (hsh : Short D) (b : List UInt8) (k : Int) (hb : bRead D at_ = b) (hk : eWrong D at_ = k) :
    Calls Try.prog 11 #[.pointer (some ⟨p, 0, none⟩), .agg #[.int .i64 2, .int .i64 at_, .slice B bl c, .slice K n d]] w (GivesAct p X w D b k) := by
  obtain ⟨W, hW, b1, h1, k1, k2, hs1, hsz⟩ := act_head h #[.int .i64 2, .int .i64 at_, .slice B bl c, .slice K n d]
  have HK := Lib.hid hk; have HB := Lib.hid hb; have HSh := Lib.hid hsh
  clear hk hb hsh
  have HF := Lib.hid (Fr.of_bl b1 h.plt)
  have HW := Lib.hid hW
  have HSZ := Lib.hid hsz
  have HK2 := Lib.hid k2; have HS := Lib.hid hs1; have H1 := Lib.hid h1
  have c0 := k1.cell 0; have c1 := k1.cell 1; have c2 := k1.cell 2; have c3 := k1.cell 3
  simp only [List.getElem?_toArray, List.getElem?_cons_zero, List.getElem?_cons_succ] at c0 c1 c2 c3
  clear h b1 h1 k1 k2 hs1 hsz hW
  go_enter Try.func11, Try.ntmps11
  go_wp2_with fail
  rw [← HW.out]
  refine (dRead_to H1.out at_ HSh.out b k HB.out HK.out).mono ?_
  rintro e w3 ⟨A3, c3', rfl, s3, b3, n3, _⟩
  have d3 := H1.out.bl b3
  have f3 := Fr.of_bl b3 H1.out.plt
  have hsls := H1.out.sls b3 s3 n3
  have q := HK2.out.fr f3 HS.out
  have q0 := q.cell 0; have q1 := q.cell 1; have z0 := q.frozen 0; have z1 := q.frozen 1
  simp only [List.getElem?_toArray, List.getElem?_cons_zero, List.getElem?_cons_succ] at q0 q1
  have HE := Lib.hid (act_end (Nat.le_succ _) d3 (HF.out.trans f3) (f3.safe _ HS.out) (.slice A3 b.length c3') (.int .i64 k))
  have HQ := Lib.hid (told_blk q (.slice A3 b.length c3') (.int .i64 k))
  have hs2 := (f3.safe _ HS.out)
  have hne : ∀ a, A3 = some a → 0 < b.length → a.block ≠ w.heap.size + 1 := fun a ha _ => by have := n3 a ha; have := HSZ.out; omega
  have HR := Lib.hid ((hsls.far hs2 hne 0 (.slice A3 b.length c3')).far (hs2.setCell hs2 0 _) hne 1 (.int .i64 k))
  have HN3 := Lib.hid (show ∀ a, A3 = some a → w.heap.size ≤ a.block from fun a ha => by have := n3 a ha; have := HSZ.out; omega)
  clear hs2 hne hsls s3 b3 n3
  clear d3 f3 q c0 c1 c2 c3
  go_wp2
  exact act_ret HQ.out rfl rfl ⟨A3, c3', rfl, HR.out, HE.out.1, HE.out.2, HN3.out⟩

set_option maxRecDepth 100000 in
set_option maxHeartbeats 1000000 in
theorem act_crash (h : IsDisk p X w D) (at_ : Int) (B K : Option Addr) (d n bl : Nat) (c : Nat) (ks : List Bool) (hn : n = ks.length) (hk : RVs p w K (ks.map Value.bool)) (hkl : ks.length ≤ 9223372036854775807) (hw : D.waits.length ≤ 100000) (D' : DS) (hD : dCrash D ks = D') :
    Calls Try.prog 11 #[.pointer (some ⟨p, 0, none⟩), .agg #[.int .i64 3, .int .i64 at_, .slice B bl c, .slice K n d]] w (GivesAct p X w D' [] 0) := by
  obtain ⟨W, hW, b1, h1, k1, k2, hs1, hsz⟩ := act_head h #[.int .i64 3, .int .i64 at_, .slice B bl c, .slice K n d]
  have hks := Lib.hid (hk.fr (Fr.of_bl b1 h.plt))
  have HD := Lib.hid hD; have HN := Lib.hid hn
  clear hk hD hn
  have HF := Lib.hid (Fr.of_bl b1 h.plt)
  have HW := Lib.hid hW
  have HSZ := Lib.hid hsz
  have HK2 := Lib.hid k2; have HS := Lib.hid hs1; have H1 := Lib.hid h1
  have c0 := k1.cell 0; have c1 := k1.cell 1; have c2 := k1.cell 2; have c3 := k1.cell 3
  simp only [List.getElem?_toArray, List.getElem?_cons_zero, List.getElem?_cons_succ] at c0 c1 c2 c3
  clear h b1 h1 k1 k2 hs1 hsz hW
  go_enter Try.func11, Try.ntmps11
  go_wp2_with fail
  rw [← HW.out]
  refine (dCrash_to H1.out _ _ _ ks HN.out hks.out hkl hw D' HD.out).mono ?_
  rintro e w3 ⟨rfl, d3, f3⟩
  have q := HK2.out.fr f3 HS.out
  have q0 := q.cell 0; have q1 := q.cell 1; have z0 := q.frozen 0; have z1 := q.frozen 1
  simp only [List.getElem?_toArray, List.getElem?_cons_zero, List.getElem?_cons_succ] at q0 q1
  have HE := Lib.hid (act_end (Nat.le_succ _) d3 (HF.out.trans f3) (f3.safe _ HS.out) (.slice none 0 0) (.int .i64 0))
  have HQ := Lib.hid (told_blk q (.slice none 0 0) (.int .i64 0))
  clear d3 f3 q c0 c1 c2 c3
  go_wp2
  exact act_ret HQ.out rfl rfl ⟨none, 0, rfl, SLs.nil_ _ _, HE.out.1, HE.out.2, fun a h => by cases h⟩

set_option maxRecDepth 100000 in
set_option maxHeartbeats 1000000 in
theorem act_up (h : IsDisk p X w D) (at_ : Int) (B K : Option Addr) (d n bl : Nat) (c : Nat) (D' : DS) (hD : dUp D = D') :
    Calls Try.prog 11 #[.pointer (some ⟨p, 0, none⟩), .agg #[.int .i64 4, .int .i64 at_, .slice B bl c, .slice K n d]] w (GivesAct p X w D' [] 0) := by
  obtain ⟨W, hW, b1, h1, k1, k2, hs1, hsz⟩ := act_head h #[.int .i64 4, .int .i64 at_, .slice B bl c, .slice K n d]
  have HD := Lib.hid hD
  clear hD
  have HF := Lib.hid (Fr.of_bl b1 h.plt)
  have HW := Lib.hid hW
  have HSZ := Lib.hid hsz
  have HK2 := Lib.hid k2; have HS := Lib.hid hs1; have H1 := Lib.hid h1
  have c0 := k1.cell 0; have c1 := k1.cell 1; have c2 := k1.cell 2; have c3 := k1.cell 3
  simp only [List.getElem?_toArray, List.getElem?_cons_zero, List.getElem?_cons_succ] at c0 c1 c2 c3
  clear h b1 h1 k1 k2 hs1 hsz hW
  go_enter Try.func11, Try.ntmps11
  go_wp2_with fail
  rw [← HW.out]
  refine (dUp_to H1.out D' HD.out).mono ?_
  rintro e w3 ⟨rfl, d3, f3⟩
  have q := HK2.out.fr f3 HS.out
  have q0 := q.cell 0; have q1 := q.cell 1; have z0 := q.frozen 0; have z1 := q.frozen 1
  simp only [List.getElem?_toArray, List.getElem?_cons_zero, List.getElem?_cons_succ] at q0 q1
  have HE := Lib.hid (act_end (Nat.le_succ _) d3 (HF.out.trans f3) (f3.safe _ HS.out) (.slice none 0 0) (.int .i64 0))
  have HQ := Lib.hid (told_blk q (.slice none 0 0) (.int .i64 0))
  clear d3 f3 q c0 c1 c2 c3
  go_wp2
  exact act_ret HQ.out rfl rfl ⟨none, 0, rfl, SLs.nil_ _ _, HE.out.1, HE.out.2, fun a h => by cases h⟩

set_option maxRecDepth 100000 in
set_option maxHeartbeats 1000000 in
theorem act_none (h : IsDisk p X w D) (kind at_ : Int) (B K : Option Addr) (d n bl : Nat) (c : Nat) (n0 : kind ≠ 0) (n1 : kind ≠ 1) (n2 : kind ≠ 2) (n3 : kind ≠ 3) (n4 : kind ≠ 4) :
    Calls Try.prog 11 #[.pointer (some ⟨p, 0, none⟩), .agg #[.int .i64 kind, .int .i64 at_, .slice B bl c, .slice K n d]] w (GivesAct p X w D [] 0) := by
  obtain ⟨W, hW, b1, h1, k1, k2, hs1, hsz⟩ := act_head h #[.int .i64 kind, .int .i64 at_, .slice B bl c, .slice K n d]
  have HW := Lib.hid hW
  have c0 := k1.cell 0
  simp only [List.getElem?_toArray, List.getElem?_cons_zero] at c0
  have q0 := k2.cell 0; have q1 := k2.cell 1; have z0 := k2.frozen 0; have z1 := k2.frozen 1
  simp only [List.getElem?_toArray, List.getElem?_cons_zero, List.getElem?_cons_succ] at q0 q1
  have HE := Lib.hid (And.intro (h.bl b1) (Fr.of_bl b1 h.plt))
  have HQ := Lib.hid k2
  have m0 : (kind == 0) = false := by simpa using n0
  have m1 : (kind == 1) = false := by simpa using n1
  have m2 : (kind == 2) = false := by simpa using n2
  have m3 : (kind == 3) = false := by simpa using n3
  have m4 : (kind == 4) = false := by simpa using n4
  rw [hW] at c0 q0 q1 z0 z1
  clear h b1 h1 k1 k2 hs1 hsz hW n0 n1 n2 n3 n4
  go_enter Try.func11, Try.ntmps11
  go_wp2
  rw [← HW.out]
  exact act_ret HQ.out rfl rfl ⟨none, 0, rfl, SLs.nil_ _ _, HE.out.1, HE.out.2, fun a h => by cases h⟩

theorem act_any (h : IsDisk p X w D) (x : ActP) {B K : Option Addr} {c d : Nat} (hs : SL w B c x.b) (hk : RVs p w K (x.keep.map Value.bool)) (hkl : x.keep.length ≤ 9223372036854775807) (hw : D.waits.length ≤ 100000) (hsh : Short D) (hX : ∀ b, w.heap.size ≤ b → X b)
    (b : List UInt8) (k : Int) (D' : DS) (hb : actB D x = b) (hk' : actE D x = k) (hD : actD D x = D') :
    Calls Try.prog 11 #[.pointer (some ⟨p, 0, none⟩), .agg #[.int .i64 x.kind, .int .i64 x.at_, .slice B x.b.length c, .slice K x.keep.length d]] w (GivesAct p X w D' b k) := by
  subst hb hk' hD
  obtain ⟨kind, at_, l, ks⟩ := x
  simp only [actB, actE, actD] at hs hk hkl ⊢
  by_cases k0 : kind = 0
  · subst k0
    exact act_write h at_ B K d _ _ c l rfl hs hw hX _ _ rfl rfl
  by_cases k1 : kind = 1
  · subst k1
    exact act_sync h at_ B K d _ _ c _ _ rfl rfl
  by_cases k2 : kind = 2
  · subst k2
    exact act_read h at_ B K d _ _ c hsh _ _ rfl rfl
  by_cases k3 : kind = 3
  · subst k3
    exact act_crash h at_ B K d _ _ c ks rfl hk hkl hw _ rfl
  by_cases k4 : kind = 4
  · subst k4
    exact act_up h at_ B K d _ _ c _ rfl
  simp only [if_neg k0, if_neg k1, if_neg k2, if_neg k3, if_neg k4]
  exact act_none h kind at_ B K d _ _ c k0 k1 k2 k3 k4
end

theorem RV.news {p : Nat} {w w1 : World} {A : Option Addr} {xs : List Value} (h : RV w A xs) (hn : ∀ b, b < w.heap.size → Safe p w1 b) (hb : Bl w w1) : RVs p w1 A xs := fun hl => by
  obtain ⟨ad, e, hs, hc⟩ := h hl
  exact ⟨ad, e, hn _ hs, fun j hj => (Bl.cell hb (by rw [block_of_add]; exact hs)).trans (hc j hj)⟩
theorem short_act {D : DS} (h : Short D) (x : ActP) (hs : Short (dCrash D x.keep)) : Short (actD D x) := by
  unfold actD
  split
  · exact short_write h _ _
  · split
    · exact short_sync h
    · split
      · exact hs
      · split <;> exact h
end Go.Proofs.Ytmjdmigjhllmeaa
