/- The contract of Write. -/
import Derived.Test.YtebillkojmafoaaDisk2
import Derived.Deep.RegionHeld3
import Derived.Deep.DrawnRows
import Derived.Deep.AppendLies
import Derived.Deep.RegionLaw
namespace Go.Proofs.Ytebillkojmafoaa
open Go.RowKit
set_option linter.unusedVariables false
attribute [local go_sem ↓] Go.wp_at_zero Go.wp_at_succ

theorem infoFn : (Try.prog.info? 1).map (fun i => (i.zero, i.size, i.bytes)) = some (some .nilFunc, 1, 8) := by kernel_rfl

theorem Bl.some' {w w' : World} (b : Bl w w') {p : Addr} {v : Value} (h : w.cell? p = some v) : w'.cell? p = some v := by
  refine (Bl.cell b ?_).trans h
  rcases Nat.lt_or_ge p.block w.heap.size with h' | h'
  · exact h'
  · simp [World.cell?, Array.getElem?_eq_none h'] at h

section
variable {p : Nat} {X : Nat → Prop} {w : World} {D : DS} {vt vs fs : List Value} {A : Option Addr} {c : Nat}

/-- A write is laid to those that wait. -/
theorem Dk.push (h : Dk p X w D vt vs fs A c) {w1 : World} {fv : Value} {x : Nat × List UInt8} {g cap : Nat}
    (hown : w1.ownsRow (p + 1) 1 1 (.slice (some ⟨g, 0, none⟩) (D.waits.length + 1) cap) (D.waits.length + 1) (fs ++ [fv])) (hgrow : w.grownBy w1 (Value.slice A D.waits.length c).ownBlock)
    (hat : (Value.slice A D.waits.length c).ownBlock = some g ∨ g = w.heap.size) (hfv : Wv p X w fv x) :
    Dk p X (w1.setCell ⟨p, 128, none⟩ (.slice (some ⟨g, 0, none⟩) (D.waits.length + 1) cap)) { D with waits := D.waits ++ [x] } vt vs (fs ++ [fv]) (some ⟨g, 0, none⟩) cap ∧
      Fr p w (w1.setCell ⟨p, 128, none⟩ (.slice (some ⟨g, 0, none⟩) (D.waits.length + 1) cap)) := by
  have hr := h.rowOf_
  have hf : Fr p w (w1.setCell ⟨p, 128, none⟩ (.slice (some ⟨g, 0, none⟩) (D.waits.length + 1) cap)) := by
    refine Fr.row (by rw [hr]; exact hgrow) h.plt h.row_ne (by rw [h.wcell]; rfl) ?_
    rcases hat with e | e
    · left; rw [hr, e]; rfl
    · right
      intro g' hg'
      have : g = g' := by simpa [Value.ownBlock] using hg'
      omega
  refine ⟨⟨?_, h.lt, h.ls, h.et.mono fun _ _ x => x.fr hf, h.es.mono fun _ _ x => x.fr hf, (h.ew.snoc hfv).mono fun _ _ x => x.fr hf, ?_⟩, hf⟩
  · have hb : Blk w1 p 46 _ := (hgrow.block p h.plt (fun e => h.row_ne (by rw [hr]; exact e.symm))).trans h.blk
    have := hb.set_ 128 (.slice (some ⟨g, 0, none⟩) (D.waits.length + 1) cap)
    rw [dcells_set_wv h.lt h.ls] at this
    simpa using this
  · have := ownsRow_setCell_below hown (a := ⟨p, 128, none⟩) (by simp) (.slice (some ⟨g, 0, none⟩) (D.waits.length + 1) cap)
    simpa using this

theorem Dk.push_facts (h : Dk p X w D vt vs fs A c) {w1 : World} (hgrow : w.grownBy w1 (Value.slice A D.waits.length c).ownBlock) {b : Nat} {v : Value} (hb : Box p w b v) :
    w1.cell? ⟨b, 0, none⟩ = some v ∧ w1.cell? ⟨p, 128, none⟩ = some (.slice A D.waits.length c) ∧ w1.frozen? ⟨p, 128, none⟩ = false := by
  have hp : w1.heap[p]? = w.heap[p]? := hgrow.block p h.plt (fun e => h.row_ne (by rw [h.rowOf_]; exact e.symm))
  refine ⟨hgrow.cell hb.2 (fun e => hb.1.2.2 (by rw [h.rowOf_]; exact e.symm)), (World.cell?_of_block (a := ⟨p, 128, none⟩) hp).trans h.wcell, (World.frozen?_of_block (a := ⟨p, 128, none⟩) hp).trans (h.blk.frozen 128)⟩
set_option maxRecDepth 100000 in
theorem dWrite_no (h : IsDisk p X w D) (at_ : Int) (B : Option Addr) (d : Nat) (l : List UInt8) (k : Int) (hk : k = eWrong D at_) (hn : k ≠ 0) :
    Calls Try.prog 26 #[.pointer (some ⟨p, 0, none⟩), .int .i64 at_, .slice B l.length d] w fun e w' => e = .returned (.int .i64 k) ∧ Bl w w' := by
  have hb := (Bl.alloc w (.cells #[.pointer (some ⟨p, 0, none⟩)] 24)).trans (Bl.alloc _ (.cells #[.int .i64 at_] 3))
  have hw := dWrong_any (h.bl hb) at_
  rw [← hk] at hw
  have hw := Lib.hid hw
  have hn1 : ((k == 0) = false) := by simp [hn]
  have hn2 : ((k != 0) = true) := by simp [hn]
  clear h hk hn
  go_enter Try.func26, Try.ntmps26
  go_wp2_with fail
  refine hw.out.mono ?_
  rintro e w' ⟨rfl, rfl⟩
  go_wp2
  go_ret
  exact ⟨rfl, hb⟩

set_option maxRecDepth 100000 in
theorem dWrite_large (h : IsDisk p X w D) (at_ : Int) (B : Option Addr) (d : Nat) (l : List UInt8) (hk : eWrong D at_ = 0) (hl : 64 < l.length) :
    Calls Try.prog 26 #[.pointer (some ⟨p, 0, none⟩), .int .i64 at_, .slice B l.length d] w fun e w' => e = .returned (.int .i64 6) ∧ Bl w w' := by
  have hb := (Bl.alloc w (.cells #[.pointer (some ⟨p, 0, none⟩)] 24)).trans (Bl.alloc _ (.cells #[.int .i64 at_] 3))
  have hw := dWrong_any (h.bl hb) at_
  rw [hk] at hw
  have hw := Lib.hid hw
  clear h hk
  go_enter Try.func26, Try.ntmps26
  go_wp2_with fail
  refine hw.out.mono ?_
  rintro e w' ⟨rfl, rfl⟩
  go_wp2
  go_ret
  exact ⟨rfl, hb⟩

/-- What Write has made, ahead of its stores. -/
theorem write_prep (h : IsDisk p X w D) (k : Nat) {w1 : World} {A1 : Option Addr} {c1 : Nat} {l : List UInt8}
    (b1 : Bl ((w.alloc (.cells #[.pointer (some ⟨p, 0, none⟩)] 24)).alloc (.cells #[.int .i64 (k : Int)] 3)) w1) (s1 : SL w1 A1 c1 l)
    (n1 : ∀ a, A1 = some a → ((w.alloc (.cells #[.pointer (some ⟨p, 0, none⟩)] 24)).alloc (.cells #[.int .i64 (k : Int)] 3)).heap.size ≤ a.block) :
    ∃ W, W = w1.alloc (.cells #[.slice A1 l.length c1] 22) ∧ Bl w W ∧ IsDisk p X W D ∧ Box p W w1.heap.size (.slice A1 l.length c1) ∧ Box p W w.heap.size (.pointer (some ⟨p, 0, none⟩)) ∧ Box p W (w.heap.size + 1) (.int .i64 (k : Int)) ∧ SLs p W A1 c1 l ∧ w.heap.size ≤ w1.heap.size ∧ ∀ a, A1 = some a → w.heap.size ≤ a.block := by
  have hb := (Bl.alloc w (.cells #[.pointer (some ⟨p, 0, none⟩)] 24)).trans (Bl.alloc _ (.cells #[.int .i64 (k : Int)] 3))
  have b3 := b1.trans (Bl.alloc w1 (.cells #[.slice A1 l.length c1] 22))
  have b2 := hb.trans b3
  have hz1 : w.heap.size + 2 ≤ w1.heap.size := by have := b1.size; simp at this; omega
  have bk1 := (Blk.new w 24 #[.pointer (some ⟨p, 0, none⟩)]).alloc (.cells #[.int .i64 (k : Int)] 3)
  have bk2 := Blk.new (w.alloc (.cells #[.pointer (some ⟨p, 0, none⟩)] 24)) 3 #[.int .i64 (k : Int)]
  rw [show (w.alloc (.cells #[.pointer (some ⟨p, 0, none⟩)] 24)).heap.size = w.heap.size + 1 from by simp] at bk2
  have n2 : ((w.alloc (.cells #[.pointer (some ⟨p, 0, none⟩)] 24)).alloc (.cells #[.int .i64 (k : Int)] 3)).heap.size = w.heap.size + 2 := by simp
  rw [n2] at n1
  refine ⟨_, rfl, b2, h.bl b2, ⟨h.safe_new b2 (by omega) (by simp), (Blk.new w1 22 #[.slice A1 l.length c1]).cell 0⟩, ⟨h.safe_new b2 (Nat.le_refl _) (by simp; omega), (bk1.below b3 bk1.lt).cell 0⟩,
    ⟨h.safe_new b2 (by omega) (by simp; omega), (bk2.below b3 bk2.lt).cell 0⟩, SLs.mk' (s1.step (Bl.alloc _ _)) (fun b hA hlt => h.safe_new b2 ?_ hlt), by omega, fun a ha => by have := n1 a ha; omega⟩
  cases A1 with
  | none => simp at hA
  | some a => simp at hA; have := n1 a rfl; omega

set_option maxRecDepth 100000 in
set_option maxHeartbeats 8000000 in
theorem dWrite_yes (h : IsDisk p X w D) (k : Nat) (hk : k < 64) (hd : D.down = false) (B : Option Addr) (d : Nat) (l : List UInt8) (hs : SL w B d l) (hl : l.length ≤ 64) (hwn : D.waits.length ≤ 100000) (hX : ∀ b, w.heap.size ≤ b → X b) :
    Calls Try.prog 26 #[.pointer (some ⟨p, 0, none⟩), .int .i64 (k : Int), .slice B l.length d] w fun e w' => e = .returned (.int .i64 0) ∧ IsDisk p X w' { D with seen := D.seen.set k l, waits := D.waits ++ [(k, l)] } ∧ Fr p w w' := by
  have hb := (Bl.alloc w (.cells #[.pointer (some ⟨p, 0, none⟩)] 24)).trans (Bl.alloc _ (.cells #[.int .i64 (k : Int)] 3))
  have he : eWrong D k = 0 := eWrong_zero.2 ⟨hd, by omega, by omega⟩
  have hw := dWrong_any (h.bl hb) k
  rw [he] at hw
  have HW := Lib.hid hw
  replace hs := hs.step hb
  have H := Lib.hid h
  clear h hd hw he
  go_enter Try.func26, Try.ntmps26
  go_wp2_with fail
  refine HW.out.mono ?_
  rintro e w' ⟨rfl, rfl⟩
  go_wp2_with fail
  refine (clone_sl _ _ _ _ hs (by omega)).mono ?_
  rintro e w1 ⟨A1, c1, rfl, s1, b1, n1, o1⟩
  clear o1 HW hs
  obtain ⟨W, hW, b2, h2, hbox, hbd, hba, hsl, hx1, hx2⟩ := write_prep H.out k b1 s1 n1
  have HWW := Lib.hid hW
  obtain ⟨fv, hfv⟩ : ∃ fv, fv = Value.func (.func 32) #[] #[.pointer (some ⟨w1.heap.size, 0, none⟩), .pointer (some ⟨w.heap.size, 0, none⟩), .pointer (some ⟨w.heap.size + 1, 0, none⟩)] := ⟨_, rfl⟩
  obtain ⟨vt, vs, fs, A, c, h2⟩ := h2
  have f2 := Fr.of_bl b2 H.out.plt
  obtain ⟨g1, f1⟩ := h2.seen1 hk ⟨A1, c1, rfl, hsl, fun a ha _ => hX _ (hx2 a ha)⟩
  have hc1 := hbd.2; have hc2 := hba.2; have hc3 := hbox.2
  have hz := h2.blk.frozen (64 + k)
  have e1 := hbd.1.2.1; have e2 := hba.1.2.1; have e3 := hbox.1.2.1
  have ck : ∃ u, W.cell? ⟨p, 64 + k, none⟩ = some u := by
    rw [h2.blk.cell, dcells_seen h2.lt h2.ls hk]
    exact ⟨_, List.getElem?_eq_getElem (by rw [h2.ls]; exact hk)⟩
  obtain ⟨u, ck⟩ := ck
  have i1 : (0 : Int) ≤ (k : Int) := by omega
  have i2 : (k : Int) < 64 := by omega
  have F1 := f1.bl (Bl.drew _) g1.plt
  have G1 := Lib.hid (g1.bl (Bl.drew _))
  have F2 := Lib.hid (f2.trans F1)
  have B1 := Lib.hid (hbd.fr F1); have B2 := Lib.hid (hba.fr F1); have B3 := Lib.hid (hbox.fr F1)
  have S3 := Lib.hid (hsl.fr F1)
  have HF := Lib.hid hfv
  have HX1 := Lib.hid hx1; have HX2 := Lib.hid hx2; clear hx1 hx2
  replace hX := Lib.hid hX
  clear hb b1 s1 n1 H b2 hbox hbd hba hsl h2 f2 f1 g1 F1 hfv hW
  go_wp2
  rw [← HWW.out]
  go_region
  go_wp2
  clear hc1 hc2 hc3 hz ck
  obtain ⟨V, hV⟩ : ∃ V, V = (W.setCell ⟨p, 64 + k, none⟩ (.slice A1 l.length c1)).drew := ⟨_, rfl⟩
  rw [← hV] at G1 F2 B1 B2 B3 S3 ⊢
  clear hV
  replace G1 := G1.out
  have c1' := B1.out.2
  have c2' := G1.wcell
  have hfw : Wv p X V fv (k, l) := ⟨_, _, _, _, HF.out, B3.out, ⟨A1, c1, rfl, S3.out, fun a ha _ => hX.out _ (HX2.out a ha)⟩, B1.out, B2.out, hk, hX.out _ HX1.out, hX.out _ (Nat.le_refl _), hX.out _ (Nat.le_succ _)⟩
  have HG := Lib.hid G1
  have HV := Lib.hid hfw
  obtain ⟨i, hi, hiz, his, hib⟩ := info_parts infoFn
  have hI := Lib.hid (And.intro hi (And.intro hiz (And.intro his hib)))
  clear G1 hfw hi hiz his hib
  have c1n := Bl.some' (Bl.alloc V (.cells #[Value.func (.func 32) #[] #[.pointer (some ⟨w1.heap.size, 0, none⟩), .pointer (some ⟨w.heap.size, 0, none⟩), .pointer (some ⟨w.heap.size + 1, 0, none⟩)]] 1)) c1'
  have c2n := Bl.some' (Bl.alloc V (.cells #[Value.func (.func 32) #[] #[.pointer (some ⟨w1.heap.size, 0, none⟩), .pointer (some ⟨w.heap.size, 0, none⟩), .pointer (some ⟨w.heap.size + 1, 0, none⟩)]] 1)) c2'
  go_region_law
    ((refine step_append_lies _ (by rfl) (.tmp 30) (.tmp 32) 44 (by rfl) (p + 1) 1 i .nilFunc 1 8 Try.underlying44 hI.out.1 hI.out.2.1 hI.out.2.2.1 hI.out.2.2.2 (by rfl) (by omega) (.slice A D.waits.length c) D.waits.length fs (by rfl) (HG.out.own.alloc _) ⟨V.heap.size, 0, none⟩ 1 1 [fv] (by rfl) rfl (by rw [HF.out]; exact cell_one_new V _ _) (by rw [HF.out]; intro u hu; simp at hu; subst hu; rfl) (by omega) (by unfold maxLen; omega) (by omega) (by have := HG.out.plt; simp; omega) (V.heap.size + 1) (by simp) ?_; intro g cap w4 hown hgrow hat hlt; have hb4 := (Bl.alloc V (.cells #[Value.func (.func 32) #[] #[.pointer (some ⟨w1.heap.size, 0, none⟩), .pointer (some ⟨w.heap.size, 0, none⟩), .pointer (some ⟨w.heap.size + 1, 0, none⟩)]] 1)).trans (Bl.drew _); have hd4 := HG.out.bl hb4; have hp4 := Lib.hid (Dk.push hd4 hown hgrow (by simpa using hat) (HV.out.fr (Fr.of_bl hb4 HG.out.plt))); have hf4 := Lib.hid (F2.out.bl hb4 HG.out.plt); obtain ⟨k1, k2, z2⟩ := Dk.push_facts hd4 hgrow (B1.out.fr (Fr.of_bl hb4 HG.out.plt)); clear hown hgrow hat hlt hb4 hd4))
  all_goals
    go_wp2
    go_ret
    exact ⟨rfl, hp4.out.1.is, hf4.out.trans hp4.out.2⟩
end
end Go.Proofs.Ytebillkojmafoaa
