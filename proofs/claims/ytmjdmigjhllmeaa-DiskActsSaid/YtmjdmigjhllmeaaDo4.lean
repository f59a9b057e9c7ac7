/- The contract of ratchetref24.Do: Write. -/
import Derived.Test.YtmjdmigjhllmeaaDo3
import Derived.Test.YtmjdmigjhllmeaaAppV
namespace Go.Proofs.Ytmjdmigjhllmeaa
open Go.RowKit
set_option linter.unusedVariables false
attribute [local go_sem ↓] Go.wp_at_zero Go.wp_at_succ

theorem putT : IsRows Try.prog 29 60 (.agg #[.int .i64 0, .slice none 0 0]) 2 32 := ⟨by kernel_rfl, by kernel_rfl, by kernel_rfl, by decide⟩
theorem zero_row2 : ((Value.agg #[.int .i64 0, .slice none 0 0] : Value).cells.size) = 2 := by kernel_rfl

section
variable {p : Nat} {X N : Nat → Prop} {w : World} {D0 : DS}
/-- The cells of a slice of writes, in a row. -/
structure Flat (p : Nat) (X : Nat → Prop) (w : World) (A : Option Addr) (ws : List (Nat × List UInt8)) (fl : List Value) : Prop where
  len : fl.length = ws.length * 2
  rc : RC w A fl
  one : ∀ u ∈ fl, u.oneCell' = true
  at_ : ∀ i, (h : i < ws.length) → ∃ v, fl[i * 2]? = some (.int .i64 (ws[i].1 : Int)) ∧ fl[i * 2 + 1]? = some v ∧ Sv p X w v ws[i].2
theorem Puts.flat {A : Option Addr} {ws : List (Nat × List UInt8)} (h : Puts p X w A ws) : ∃ fl, Flat p X w A ws fl := by
  rcases Nat.eq_zero_or_pos ws.length with h0 | hn
  · obtain rfl : ws = [] := List.eq_nil_of_length_eq_zero h0
    exact ⟨[], by simp, RC.nil_ _ _, by simp, fun i hi => absurd hi (by simp)⟩
  · obtain ⟨g, o, rfl, hs, hx, hc⟩ := h hn
    have hat : ∀ j, j < ws.length * 2 → ∃ u, w.cell? ⟨g, o + j, none⟩ = some u ∧ u.oneCell' = true := by
      intro j hj
      obtain ⟨v, c0, c1, A, c, rfl, _⟩ := hc (j / 2) (by omega)
      rcases Nat.mod_two_eq_zero_or_one j with e | e
      · exact ⟨_, by rw [show o + j = o + j / 2 * 2 from by omega]; exact c0, rfl⟩
      · exact ⟨_, by rw [show o + j = o + j / 2 * 2 + 1 from by omega]; exact c1, rfl⟩
    have hget : ∀ j, j < ws.length * 2 → ((List.range (ws.length * 2)).map fun j => (w.cell? ⟨g, o + j, none⟩).getD undef)[j]? = some ((w.cell? ⟨g, o + j, none⟩).getD undef) := by
      intro j hj
      rw [List.getElem?_map, List.getElem?_range hj]; rfl
    refine ⟨(List.range (ws.length * 2)).map fun j => (w.cell? ⟨g, o + j, none⟩).getD undef, by simp, fun _ => ⟨_, rfl, hs.1, fun j u hu => ?_⟩, fun u hu => ?_, fun i hi => ?_⟩
    · have hj : j < ws.length * 2 := by have := (List.getElem?_eq_some_iff.1 hu).1; simpa using this
      rw [hget j hj] at hu
      obtain ⟨x, hx, _⟩ := hat j hj
      rw [hx] at hu
      rw [Addr.add_mid, hx]
      simpa using hu
    · obtain ⟨j, hj, rfl⟩ := List.mem_map.1 hu
      obtain ⟨x, hx, h1⟩ := hat j (by simpa using hj)
      rw [hx]; exact h1
    · obtain ⟨v, c0, c1, hv⟩ := hc i hi
      refine ⟨v, ?_, ?_, hv⟩
      · rw [hget _ (by omega), c0]; rfl
      · rw [hget _ (by omega), show o + (i * 2 + 1) = o + i * 2 + 1 from by omega, c1]; rfl
theorem Flat.puts {A : Option Addr} {ws : List (Nat × List UInt8)} {fl : List Value} (h : Flat p X w A ws fl) (hs : ∀ a, A = some a → Safe p w a.block ∧ X a.block) : Puts p X w A ws := by
  intro hn
  obtain ⟨ad, rfl, _, hc⟩ := h.rc (by rw [h.len]; omega)
  obtain ⟨g, o, sp⟩ := ad
  obtain rfl : sp = none := by
    obtain ⟨v, c0, _⟩ := h.at_ 0 hn
    have := World.cell?_spot (hc 0 _ c0)
    simpa [Addr.add] using this
  obtain ⟨s1, s2⟩ := hs _ rfl
  refine ⟨g, o, rfl, s1, s2, fun i hi => ?_⟩
  obtain ⟨v, c0, c1, hv⟩ := h.at_ i hi
  have e0 := hc _ _ c0
  have e1 := hc _ _ c1
  rw [Addr.add_mid] at e0 e1
  exact ⟨v, e0, e1, hv⟩

/-- What a write leaves of the document's disk. -/
theorem do_write_end (h : IsDisk p X w D0) {D : DS} {rs : List Value} {A : Option Addr} {c : Nat} (hr : RD p N w D rs A c) {fl : List Value} (hfl : Flat p (XD N w) w A D.waits fl)
    {V w1 wA wA' wB wD : World} {A0 A1 A2 A3 A0' : Option Addr} {c1 c2 c3 k : Nat} {l : List UInt8} {tp : TypeId}
    (bV : Bl w V) (hVs : w.heap.size + 4 ≤ V.heap.size) (hb1 : Bl V w1) (hA0 : ∀ a, A0 = some a → V.heap.size ≤ a.block ∧ a.block < w1.heap.size) (d80 : ApdV w1 wA 60 2 w1.heap.size A0 A1 D.waits.length c1 fl)
    (hbA : Bl wA wA') (hA0' : ∀ a, A0' = some a → V.heap.size ≤ a.block) (d86 : Apd wA' wB 5 wA'.heap.size A0' A2 l.length c2 l) (o86 : 0 < l.length → wB.ownsRow wA'.heap.size 5 1 (.slice A2 l.length c2) l.length (l.map vb))
    (d89 : ApdV (wB.alloc (.cells #[.int .i64 (k : Int), .slice A2 l.length c2] tp)) wD 60 2 w1.heap.size A1 A3 (D.waits.length + 1) c3 (fl ++ [.int .i64 (k : Int), .slice A2 l.length c2]))
    {dn : Bool} (q1 : Blk V w.heap.size 31 (rdc rs (.slice A D.waits.length c) dn).toArray) :
    ∃ Wc, Wc = wD.setCell ⟨w.heap.size, 64, none⟩ (.slice A3 (D.waits.length + 1) c3) ∧ Bl w Wc ∧ Below (w.heap.size + 1) (V.setCell ⟨w.heap.size, 64, none⟩ (.slice A3 (D.waits.length + 1) c3)) Wc ∧
      RD p (XD N w) Wc { D with waits := D.waits ++ [(k, l)] } rs A3 c3 ∧ Blk Wc w.heap.size 31 (rdc rs (.slice A3 (D.waits.length + 1) c3) dn).toArray ∧
      (∀ g cs t, w.heap.size < g → g < V.heap.size → Blk V g t cs → Blk Wc g t cs) ∧ V.heap.size ≤ Wc.heap.size := by
  have b1A : Bl w1 wA := d80.below
  have bAB : Bl wA' wB := d86.below
  have bD : Below V.heap.size (wB.alloc (.cells #[.int .i64 (k : Int), .slice A2 l.length c2] tp)) wD := d89.below.mono hb1.size
  have bVA := hb1.trans b1A
  have bVB := (bVA.trans hbA).trans bAB
  have bVC := bVB.trans (Bl.alloc wB (.cells #[.int .i64 (k : Int), .slice A2 l.length c2] tp))
  have bVD : Bl V wD := Below.trans bVC bD
  have bwD : Bl w wD := bV.trans bVD
  have hplt := h.plt
  have sg := h.safe_new bwD (b := w.heap.size) (Nat.le_refl _) (by have := bwD.size; have := bV.size; have := bVD.size; omega)
  have hng : ¬ XD N w w.heap.size := xd_not (Nat.le_refl _) (by omega)
  have qD := q1.below bVD (by have := bV.size; omega)
  have fD := Fr.of_bl bwD hplt
  refine ⟨_, rfl, Below.setCell bwD (by exact Nat.le_refl _) _, ?_, ?_, ?_, ?_, by simpa [World.setCell] using bVD.size⟩
  · refine ⟨bVD.os, bVD.tape, bVD.output, by simpa [World.setCell] using bVD.size, fun b hb => ?_⟩
    by_cases e : b = w.heap.size
    · subst e
      have e1 := qD
      have e2 := q1
      have f1 := qD.set_ 64 (.slice A3 (D.waits.length + 1) c3)
      have f2 := q1.set_ 64 (.slice A3 (D.waits.length + 1) c3)
      exact f1.trans f2.symm
    · rw [Below.heap_setCell _ _ _ _ e, Below.heap_setCell _ _ _ _ e]
      exact bVD.block b (by omega)
  · have hrD := (hr.weak (Y := XD N w) (fun b hb hn => .inl ⟨hb, hn⟩)).fr fD
    -- the slice that was written
    have hA2 : ∀ a, A2 = some a → V.heap.size ≤ a.block := by
      intro a ha
      subst ha
      rcases d86.at_ with e | e
      · cases A0' with
        | none => simp at e
        | some a0 => simp at e; rw [e]; exact hA0' a0 rfl
      · have := e a.block rfl
        have := bVA.size; have := hbA.size
        omega
    have hsl0 : SL wB A2 c2 l := SL.of_apd d86 rfl
    -- the block of the writes
    have hA1 : ∀ a, A1 = some a → V.heap.size ≤ a.block ∧ a.block < wA.heap.size := by
      intro a ha
      subst ha
      rcases d80.at_ with e | e
      · cases A0 with
        | none => simp at e
        | some a0 => simp at e; have := hA0 a0 rfl; have := b1A.size; omega
      · have := e a.block rfl
        have := hb1.size
        omega
    have hsl : SL wD A2 c2 l := by
      refine ⟨fun hn => ?_, hsl0.cap, hsl0.none_⟩
      obtain ⟨ad, e, hlt, hc⟩ := hsl0.rb hn
      obtain ⟨g, cap, hv, hge, _⟩ := (o86 hn).form (by omega)
      have hg2 : A2 = some ⟨g, 0, none⟩ := by injection hv
      rw [e] at hg2
      injection hg2 with hg2
      subst hg2
      obtain ⟨row, hgr, hrow⟩ := d89.grown
      refine ⟨_, e, by have := (Bl.alloc wB (.cells #[.int .i64 (k : Int), .slice A2 l.length c2] tp)).size; have := hgr.size; simp at *; omega, fun j hj => ?_⟩
      have hcj := hc j hj
      have e1 := Bl.cell (Bl.alloc wB (.cells #[.int .i64 (k : Int), .slice A2 l.length c2] tp)) (p := (⟨g, 0, none⟩ : Addr).add j) (by rw [block_of_add]; exact hlt)
      refine (World.cell?_of_block (hgr.block _ (by rw [block_of_add]; simp; simp at hlt; omega) ?_)).trans (e1.trans hcj)
      rw [block_of_add]
      intro e'
      obtain ⟨_, e2⟩ := hrow g e'.symm
      cases A1 with
      | none => simp at e2
      | some a => simp at e2; have := hA1 a rfl; have := hbA.size; omega
    have hxA2 : ∀ a, A2 = some a → XD N w a.block := fun a ha => .inr (by have := hA2 a ha; omega)
    have hslv : Sv p (XD N w) wD (.slice A2 l.length c2) l := ⟨A2, c2, rfl, SLs.mk' hsl (fun b hA hlt => h.safe_new bwD (by
      cases A2 with
      | none => simp at hA
      | some a => simp at hA; have := hA2 a rfl; have := bV.size; omega) hlt), fun a ha _ => hxA2 a ha⟩
    have hA3 : ∀ a, A3 = some a → V.heap.size ≤ a.block := by
      intro a ha
      subst ha
      rcases d89.at_ with e | e
      · cases A1 with
        | none => simp at e
        | some a0 => simp at e; rw [e]; exact (hA1 a0 rfl).1
      · have := e a.block rfl
        have := bVC.size
        omega
    have hflat : Flat p (XD N w) wD A3 (D.waits ++ [(k, l)]) (fl ++ [.int .i64 (k : Int), .slice A2 l.length c2]) := by
      refine ⟨by simp [hfl.len]; omega, d89.ap.rb, fun u hu => ?_, fun i hi => ?_⟩
      · rcases List.mem_append.1 hu with h' | h'
        · exact hfl.one u h'
        · simp at h'; rcases h' with h' | h' <;> subst h' <;> rfl
      · by_cases e : i < D.waits.length
        · obtain ⟨v, x0, x1, hv⟩ := hfl.at_ i e
          refine ⟨v, ?_, ?_, ?_⟩
          · rw [List.getElem?_append_left (by rw [hfl.len]; omega), List.getElem_append_left e]; exact x0
          · rw [List.getElem?_append_left (by rw [hfl.len]; omega)]; exact x1
          · rw [List.getElem_append_left e]; exact hv.fr fD
        · obtain rfl : i = D.waits.length := by simp at hi; omega
          refine ⟨.slice A2 l.length c2, ?_, ?_, ?_⟩
          · rw [List.getElem?_append_right (by rw [hfl.len]; exact Nat.le_refl _), hfl.len, Nat.sub_self, List.getElem_append_right (Nat.le_refl _)]; simp
          · rw [List.getElem?_append_right (by rw [hfl.len]; omega), hfl.len, show D.waits.length * 2 + 1 - D.waits.length * 2 = 1 from by omega]; rfl
          · rw [List.getElem_append_right (Nat.le_refl _)]; simpa using hslv
    have hputs := hflat.puts (fun a ha => ⟨h.safe_new bwD (by have := hA3 a ha; have := bV.size; omega) (by
      subst ha
      obtain ⟨ad, e, hs, _⟩ := d89.ap.rb (by simp)
      cases e
      exact hs), .inr (by have := hA3 a ha; omega)⟩)
    have hrd : RD p (XD N w) wD { D with waits := D.waits ++ [(k, l)] } rs A3 c3 := ⟨hrD.lr, hrD.et, hputs, by simpa using d89.ap.cap⟩
    exact hrd.far hng sg 64 _
  · have := qD.set_ 64 (.slice A3 (D.waits.length + 1) c3)
    have e := rdc_set_wv (wv := .slice A D.waits.length c) (u := .slice A3 (D.waits.length + 1) c3) (down := dn) hr.lr
    have e2 : ((rdc rs (.slice A D.waits.length c) dn).toArray).setIfInBounds 64 (.slice A3 (D.waits.length + 1) c3) = (rdc rs (.slice A3 (D.waits.length + 1) c3) dn).toArray := by rw [← e]; simp
    rw [e2] at this
    exact this
  · intro g cs t h1 h2 hg
    exact (hg.below bVD h2).far (p := ⟨w.heap.size, 64, none⟩) (by exact Nat.ne_of_gt h1) _

theorem RC.two (w : World) (t : TypeId) (u v : Value) : RC (w.alloc (.cells #[u, v] t)) (some ⟨w.heap.size, 0, none⟩) [u, v] := fun _ => by
  refine ⟨_, rfl, by simp, fun j x hx => ?_⟩
  rw [Addr.add_mid, Nat.zero_add]
  rw [(Blk.new w t #[u, v]).cell]
  simpa using hx
theorem to80 {w0 w1 wA : World} {e : TypeId} {sz b n c : Nat} {A0 A1 : Option Addr} {fl : List Value} (d : ApdV w1 wA e sz b A0 A1 n c fl) (h : Bl w0 w1) : Bl w0 w1 := h
theorem at80 {w0 w1 wA : World} {e : TypeId} {sz b n c : Nat} {A0 A1 : Option Addr} {fl : List Value} (d : ApdV w1 wA e sz b A0 A1 n c fl) (h : ∀ a, A0 = some a → w0.heap.size ≤ a.block ∧ a.block < w1.heap.size) : ∀ a, A0 = some a → w0.heap.size ≤ a.block ∧ a.block < w1.heap.size := h
theorem to86 {w0 w1 wA : World} {e : TypeId} {b n c : Nat} {A0 A1 : Option Addr} {l : List UInt8} (d : Apd w1 wA e b A0 A1 n c l) (h : Bl w0 w1) : Bl w0 w1 := h
theorem at86 {w0 w1 wA : World} {e : TypeId} {b n c : Nat} {A0 A1 : Option Addr} {l : List UInt8} (d : Apd w1 wA e b A0 A1 n c l) (h : ∀ a, A0 = some a → w0.heap.size ≤ a.block) : ∀ a, A0 = some a → w0.heap.size ≤ a.block := h

set_option maxRecDepth 100000 in
set_option maxHeartbeats 4000000 in
theorem do_write (h : IsDisk p X w D0) {D : DS} {rs : List Value} {A : Option Addr} {c : Nat} (hr : RD p N w D rs A c) (hd : D.down = false) (hwl : D.waits.length ≤ 100000) (k : Nat) (hk : k < 64) (B K : Option Addr) (n d bc : Nat) (l : List UInt8) (hs : SL w B bc l) (hl : l.length ≤ 64) :
    Calls Try.prog 12 #[.agg (rdc rs (.slice A D.waits.length c) D.down).toArray, .agg #[.int .i64 0, .int .i64 (k : Int), .slice B l.length bc, .slice K n d]] w (GivesDo p N w { D with waits := D.waits ++ [(k, l)] } [] 0) := by
  obtain ⟨zs, hzs⟩ : ∃ zs, zs = rdc (List.replicate 64 (Value.slice none 0 0)) (.slice none 0 0) false := ⟨_, rfl⟩
  obtain ⟨cs, hcs⟩ : ∃ cs, cs = rdc rs (.slice A D.waits.length c) D.down := ⟨_, rfl⟩
  have hz := zero_rdc
  rw [← hzs] at hz
  rw [← hcs]
  obtain ⟨W, hW, b1, q1, q2, q3, q4, hsz⟩ := do_head h cs [.int .i64 0, .int .i64 (k : Int), .slice B l.length bc, .slice K n d] zs
  have hzl : zs.length = 66 := by rw [hzs, rdc_len (by simp)]
  obtain ⟨fl, hfl⟩ := (hr.pw.weak (Y := XD N w) (fun b hb hn => .inl ⟨hb, hn⟩)).flat
  have c0 := q2.cell 0; have c1 := q2.cell 1; have c2 := q2.cell 2
  simp only [List.getElem?_toArray, List.getElem?_cons_zero, List.getElem?_cons_succ] at c0 c1 c2
  have c64 := q1.cell 64; have c65 := q1.cell 65; have z64 := q1.frozen 64
  rw [List.getElem?_toArray, hcs, rdc_wv hr.lr] at c64
  rw [List.getElem?_toArray, hcs, rdc_down hr.lr, hd] at c65
  have HFL := Lib.hid hfl; have HS := Lib.hid hs; have HR := Lib.hid hr
  have HCS := Lib.hid hcs; have HZL := Lib.hid hzl; have HDD := Lib.hid hd
  have bw := b1
  have HQ1 := Lib.hid q1; have HQ3 := Lib.hid q3; have HQ4 := Lib.hid q4; have HSZ := Lib.hid hsz; have HH := Lib.hid h
  have HW := Lib.hid hW
  have i1 : (0 : Int) ≤ (k : Int) := by omega
  have i2 : (k : Int) < 64 := by omega
  have s1 := World.new_ne _ _ c1; have s2 := World.new_ne _ _ c2; have s64 := World.new_ne _ _ c64
  have hS0 : (fun w' : World => w'.cell? ⟨w.heap.size + 1, 1, none⟩ = some (.int .i64 (k : Int)) ∧ w'.cell? ⟨w.heap.size + 1, 2, none⟩ = some (.slice B l.length bc)) W.drew := ⟨c1, c2⟩
  have hKB : ∀ w' : World, Bl W w' → (fun w' : World => w'.cell? ⟨w.heap.size + 1, 1, none⟩ = some (.int .i64 (k : Int)) ∧ w'.cell? ⟨w.heap.size + 1, 2, none⟩ = some (.slice B l.length bc)) w' := fun w' hb => ⟨Bl.some' hb c1, Bl.some' hb c2⟩
  have hKS : ∀ (w' : World) (u : Value), (fun w' : World => w'.cell? ⟨w.heap.size + 1, 1, none⟩ = some (.int .i64 (k : Int)) ∧ w'.cell? ⟨w.heap.size + 1, 2, none⟩ = some (.slice B l.length bc)) w' → (fun w' : World => w'.cell? ⟨w.heap.size + 1, 1, none⟩ = some (.int .i64 (k : Int)) ∧ w'.cell? ⟨w.heap.size + 1, 2, none⟩ = some (.slice B l.length bc)) (w'.setCell ⟨w.heap.size, 64, none⟩ u) := by
    rintro w' u ⟨a1, a2⟩
    have o1 : ∀ (a : Addr), a.block ≠ w.heap.size → (w'.setCell ⟨w.heap.size, 64, none⟩ u).cell? a = w'.cell? a := fun a ha => World.cell?_of_block (Below.heap_setCell w' ⟨w.heap.size, 64, none⟩ u a.block ha)
    exact ⟨(o1 _ (by simp)).trans a1, (o1 _ (by simp)).trans a2⟩
  have l1 : D.waits.length + 1 ≤ maxLen := by unfold maxLen; omega
  have l2 : (D.waits.length + 1) * 32 ≤ 140737488355328 := by omega
  have l3 : 0 + D.waits.length ≤ maxLen := by unfold maxLen; omega
  have l4 : (0 + D.waits.length) * 32 ≤ 140737488355328 := by omega
  have c64a : ∀ o, (W.drew.alloc o).cell? ⟨w.heap.size, 64, none⟩ = some (.slice A D.waits.length c) := fun o => Bl.some' (Bl.alloc _ _) (show W.drew.cell? _ = _ from c64)
  have c64b : ∀ o o', ((W.drew.alloc o).alloc o').cell? ⟨w.heap.size, 64, none⟩ = some (.slice A D.waits.length c) := fun o o' => Bl.some' (Bl.alloc _ _) (c64a o)
  have C1 := Lib.hid c1; have C2 := Lib.hid c2; have C64 := Lib.hid c64; have C65 := Lib.hid c65; have Z64 := Lib.hid z64
  have C64A := Lib.hid c64a; have C64B := Lib.hid c64b
  have HS0 := Lib.hid hS0; have HKB := Lib.hid hKB; have HKS := Lib.hid hKS; have HB := Lib.hid b1
  have hbl : decide (64 < l.length) = false := by simp; omega
  have hbl2 : decide ((64 : Int) < (l.length : Int)) = false := by simp; omega
  rw [hW] at c0 c1 c2 c64 c65
  clear hr hd hcs hzs hW b1 q1 q2 q3 q4 hsz hzl h hfl hs z64 c64a c64b hS0 hKB hKS s1 s2 s64 bw
  go_enter Try.func12, Try.ntmps12
  go_wp2_with fail
  rw [← HW.out]
  clear c0 c1 c2 c64 c65 hz
  have c1 := C1.out; have c2 := C2.out; have c64 := C64.out; have c64a := C64A.out; have c64b := C64B.out
  have g1 : w.heap.size < W.heap.size := by have := HSZ.out; omega
  have g2 : w.heap.size < W.heap.size + 1 := by have := HSZ.out; omega
  have bC := Bl.drewN W 1
  have bw : Bl w W := HB.out
  refine wp_region_noPanic ?_
  refine wp_region_held_drew (S := (fun w' : World => w'.cell? ⟨w.heap.size + 1, 1, none⟩ = some (.int .i64 (k : Int)) ∧ w'.cell? ⟨w.heap.size + 1, 2, none⟩ = some (.slice B l.length bc))) (by kernel_rfl) HS0.out (fun hHeld => ?_)
  have bC : Bl W W.drew := bC
  refine wpAnyH_take (i := 1) (oi := { dst := some 78, op := Op.fieldAddr 31 (Operand.tmp 2) 1, type := 0, pos := "ref.go:80", after := #[], guard := none }) (v := ?_) rfl (by kernel_rfl) (by kernel_rfl) (by kernel_rfl) (fun _ _ _ h => h) (Or.inl ⟨by rfl, ?_⟩) hHeld ?_
  rotate_left
  · intro w' hSw
    obtain ⟨s1, s2⟩ := hSw
    go_simp
    with_reducible rfl
  try simp only [Act.put, List.setIfInBounds_toArray, List.set_cons_zero, List.set_cons_succ]
  refine wpAnyH_take (i := 4) (oi := { dst := some 81, op := Op.fieldAddr 34 (Operand.tmp 3) 1, type := 0, pos := "ref.go:80", after := #[], guard := none }) (v := ?_) rfl (by kernel_rfl) (by kernel_rfl) (by kernel_rfl) (fun _ _ _ h => h) (Or.inl ⟨by rfl, ?_⟩) hHeld ?_
  rotate_left
  · intro w' hSw
    obtain ⟨s1, s2⟩ := hSw
    go_simp
    with_reducible rfl
  try simp only [Act.put, List.setIfInBounds_toArray, List.set_cons_zero, List.set_cons_succ]
  refine wpAnyH_take (i := 5) (oi := { dst := some 82, op := Op.load 3 (Operand.tmp 81), type := 3, pos := "ref.go:80", after := #[{ on := 4, ground := Ground.data }], guard := none }) (v := ?_) rfl (by kernel_rfl) (by kernel_rfl) (by kernel_rfl) (fun _ _ _ h => h) (Or.inl ⟨by rfl, ?_⟩) hHeld ?_
  rotate_left
  · intro w' hSw
    obtain ⟨s1, s2⟩ := hSw
    go_simp
    with_reducible rfl
  try simp only [Act.put, List.setIfInBounds_toArray, List.set_cons_zero, List.set_cons_succ]
  refine wpAnyH_take (i := 7) (oi := { dst := some 84, op := Op.fieldAddr 34 (Operand.tmp 3) 2, type := 0, pos := "ref.go:80", after := #[], guard := none }) (v := ?_) rfl (by kernel_rfl) (by kernel_rfl) (by kernel_rfl) (fun _ _ _ h => h) (Or.inl ⟨by rfl, ?_⟩) hHeld ?_
  rotate_left
  · intro w' hSw
    obtain ⟨s1, s2⟩ := hSw
    go_simp
    with_reducible rfl
  try simp only [Act.put, List.setIfInBounds_toArray, List.set_cons_zero, List.set_cons_succ]
  refine wpAnyH_take (i := 8) (oi := { dst := some 85, op := Op.load 27 (Operand.tmp 84), type := 27, pos := "ref.go:80", after := #[{ on := 7, ground := Ground.data }], guard := none }) (v := ?_) rfl (by kernel_rfl) (by kernel_rfl) (by kernel_rfl) (fun _ _ _ h => h) (Or.inl ⟨by rfl, ?_⟩) hHeld ?_
  rotate_left
  · intro w' hSw
    obtain ⟨s1, s2⟩ := hSw
    go_simp
    with_reducible rfl
  try simp only [Act.put, List.setIfInBounds_toArray, List.set_cons_zero, List.set_cons_succ]
  refine wpAnyH_ready (rs := [0, 2, 6]) (by kernel_rfl) (by simp) ?_
  refine AllReadyH.cons (o := { dst := some 77, op := Op.buildSlice 29 0 #[], type := 29, pos := "ref.go:80", after := #[], guard := none }) rfl (fun K hK => ?_) ?_
  · skip
    go_simp
    have bC' := bC.trans (Bl.alloc _ (.cells #[] 60))
    refine hK.out _ _ (HKB.out _ bC') (fun hHeld => ?_)
    clear hK K
    try simp only [Act.put, List.setIfInBounds_toArray, List.set_cons_zero, List.set_cons_succ]
    have bC := bC'
    refine wpAnyH_ready (rs := [2, 6]) (by kernel_rfl) (by simp) ?_
    refine AllReadyH.cons (o := { dst := some 79, op := Op.load 29 (Operand.tmp 78), type := 29, pos := "ref.go:80", after := #[{ on := 1, ground := Ground.data }], guard := none }) rfl (fun K hK => ?_) ?_
    · skip
      go_simp
      refine hK.out _ _ (by first | exact HKB.out _ bC | exact HKB.out _ bD | exact HKS.out _ _ hHeld) (fun hHeld => ?_)
      clear hK K
      try simp only [Act.put, List.setIfInBounds_toArray, List.set_cons_zero, List.set_cons_succ]
      refine wpAnyH_ready (rs := [3, 6]) (by kernel_rfl) (by simp) ?_
      refine AllReadyH.cons (o := { dst := some 80, op := Op.call { callee := Callee.builtin Builtin.append, args := #[Operand.tmp 77, Operand.tmp 79], argTypes := #[29, 29] }, type := 29, pos := "ref.go:80", after := #[{ on := 0, ground := Ground.data }, { on := 2, ground := Ground.data }], guard := none }) rfl (fun K hK => ?_) ?_
      · skip
        refine step_append_apv _ (by rfl) (.tmp 77) (.tmp 79) _ (by rfl) putT (ApV.empty (base := _) _) (by rfl)
            (HFL.out.rc.below (bw.trans bC)) (by rfl) HFL.out.len HFL.out.one l3 l4 (Nat.le_refl _) ?_
        intro A1 c1' wA d80
        simp only [Nat.zero_add, List.nil_append] at d80 ⊢
        have hb1 := to80 d80 bC
        have hA0 := at80 (w0 := W) d80 (by intro a ha; cases ha; constructor <;> (try simp) <;> (try omega))
        replace bC := hb1.trans d80.below
        refine hK.out _ _ (by first | exact HKB.out _ bC | exact HKB.out _ bD | exact HKS.out _ _ hHeld) (fun hHeld => ?_)
        clear hK K
        try simp only [Act.put, List.setIfInBounds_toArray, List.set_cons_zero, List.set_cons_succ]
        refine wpAnyH_ready (rs := [6]) (by kernel_rfl) (by simp) ?_
        refine AllReadyH.cons (o := { dst := some 83, op := Op.buildSlice 27 0 #[], type := 27, pos := "ref.go:80", after := #[], guard := none }) rfl (fun K hK => ?_) AllReadyH.nil
        go_simp
        have bC' := bC.trans (Bl.alloc _ (.cells #[] 5))
        refine hK.out _ _ (HKB.out _ bC') (fun hHeld => ?_)
        clear hK K
        try simp only [Act.put, List.setIfInBounds_toArray, List.set_cons_zero, List.set_cons_succ]
        have bC := bC'
        refine wpAnyH_ready (rs := [9]) (by kernel_rfl) (by simp) ?_
        refine AllReadyH.cons (o := { dst := some 86, op := Op.call { callee := Callee.builtin Builtin.append, args := #[Operand.tmp 83, Operand.tmp 85], argTypes := #[27, 27] }, type := 27, pos := "ref.go:80", after := #[{ on := 6, ground := Ground.data }, { on := 8, ground := Ground.data }, { on := 3, ground := Ground.chain }], guard := none }) rfl (fun K hK => ?_) AllReadyH.nil
        refine step_append_ap2 _ (by rfl) (.tmp 83) (.tmp 85) _ (by rfl) bytesT (Ap.empty (base := _) _) (by rfl)
            (HS.out.step (bw.trans bC)).rb (by rfl) (by rfl) (by omega) (Nat.le_refl _) ?_
        intro A2 c2' wB d86 o86
        simp only [Nat.zero_add, List.nil_append] at d86 o86 ⊢
        have hbA := to86 (w0 := wA) d86 (Bl.alloc _ _)
        have hA0' := at86 (w0 := W) d86 (by intro a ha; cases ha; have := (hb1.trans d80.below).size; simp at this ⊢; try omega)
        replace bC := bC.trans d86.below
        refine hK.out _ _ (by first | exact HKB.out _ bC | exact HKB.out _ bD | exact HKS.out _ _ hHeld) (fun hHeld => ?_)
        clear hK K
        try simp only [Act.put, List.setIfInBounds_toArray, List.set_cons_zero, List.set_cons_succ]
        refine wpAnyH_take (i := 10) (oi := { dst := some 87, op := Op.build 60 #[(0, Operand.tmp 82), (1, Operand.tmp 86)], type := 60, pos := "ref.go:80", after := #[{ on := 5, ground := Ground.data }, { on := 9, ground := Ground.data }], guard := none }) (v := ?_) rfl (by kernel_rfl) (by kernel_rfl) (by kernel_rfl) (fun _ _ _ h => h) (Or.inl ⟨by rfl, ?_⟩) hHeld ?_
        rotate_left
        · intro w' hSw
          obtain ⟨s1, s2⟩ := hSw
          go_simp
          with_reducible rfl
        try simp only [Act.put, List.setIfInBounds_toArray, List.set_cons_zero, List.set_cons_succ]
        refine wpAnyH_ready (rs := [11]) (by kernel_rfl) (by simp) ?_
        refine AllReadyH.cons (o := { dst := some 88, op := Op.buildSlice 29 1 #[(0, Operand.tmp 87)], type := 29, pos := "ref.go:80", after := #[{ on := 10, ground := Ground.data }], guard := none }) rfl (fun K hK => ?_) AllReadyH.nil
        go_simp
        have bC' := bC.trans (Bl.alloc _ (.cells #[.int .i64 (k : Int), .slice A2 l.length c2'] 60))
        refine hK.out _ _ (HKB.out _ bC') (fun hHeld => ?_)
        clear hK K bC'
        try simp only [Act.put, List.setIfInBounds_toArray, List.set_cons_zero, List.set_cons_succ]
        refine wpAnyH_ready (rs := [12]) (by kernel_rfl) (by simp) ?_
        refine AllReadyH.cons (o := { dst := some 89, op := Op.call { callee := Callee.builtin Builtin.append, args := #[Operand.tmp 80, Operand.tmp 88], argTypes := #[29, 29] }, type := 29, pos := "ref.go:80", after := #[{ on := 3, ground := Ground.data }, { on := 11, ground := Ground.data }, { on := 9, ground := Ground.chain }], guard := none }) rfl (fun K hK => ?_) AllReadyH.nil
        refine step_append_apv _ (by rfl) (.tmp 80) (.tmp 88) _ (by rfl) putT (d80.ap.keep ((hbA.trans d86.below).trans (Bl.alloc _ _))) (by rfl)
            (RC.two _ _ _ _) (by rfl) (by rfl) (by intro u hu; simp at hu; rcases hu with hu | hu <;> subst hu <;> rfl) l1 l2 (((Bl.trans d80.below hbA).trans d86.below).trans (Bl.alloc _ _)).size ?_
        intro A3 c3' wD d89
        have bD := Below.trans (bC.trans (Bl.alloc _ _)) (d89.below.mono hb1.size)
        have e64 := Bl.some' bD c64
        have f64 := (World.frozen?_of_block (a := ⟨w.heap.size, 64, none⟩) (bD.block w.heap.size g1)).trans Z64.out
        refine hK.out _ _ (by first | exact HKB.out _ bC | exact HKB.out _ bD | exact HKS.out _ _ hHeld) (fun hHeld => ?_)
        clear hK K
        try simp only [Act.put, List.setIfInBounds_toArray, List.set_cons_zero, List.set_cons_succ]
        refine wpAnyH_take (i := 13) (oi := { dst := some 90, op := Op.fieldAddr 31 (Operand.tmp 2) 1, type := 0, pos := "ref.go:80", after := #[{ on := 0, ground := Ground.phase }, { on := 1, ground := Ground.phase }, { on := 2, ground := Ground.phase }, { on := 3, ground := Ground.phase }, { on := 4, ground := Ground.phase }, { on := 5, ground := Ground.phase }, { on := 6, ground := Ground.phase }, { on := 7, ground := Ground.phase }, { on := 8, ground := Ground.phase }, { on := 9, ground := Ground.phase }, { on := 10, ground := Ground.phase }, { on := 11, ground := Ground.phase }, { on := 12, ground := Ground.phase }], guard := none }) (v := ?_) rfl (by kernel_rfl) (by kernel_rfl) (by kernel_rfl) (fun _ _ _ h => h) (Or.inl ⟨by rfl, ?_⟩) hHeld ?_
        rotate_left
        · intro w' hSw
          obtain ⟨s1, s2⟩ := hSw
          go_simp
          with_reducible rfl
        try simp only [Act.put, List.setIfInBounds_toArray, List.set_cons_zero, List.set_cons_succ]
        refine wpAnyH_ready (rs := [14]) (by kernel_rfl) (by simp) ?_
        refine AllReadyH.cons (o := { dst := none, op := Op.store 29 (Operand.tmp 90) (Operand.tmp 89), type := 0, pos := "ref.go:80", after := #[{ on := 13, ground := Ground.data }, { on := 12, ground := Ground.data }, { on := 12, ground := Ground.chain }, { on := 0, ground := Ground.phase }, { on := 1, ground := Ground.phase }, { on := 2, ground := Ground.phase }, { on := 3, ground := Ground.phase }, { on := 4, ground := Ground.phase }, { on := 5, ground := Ground.phase }, { on := 6, ground := Ground.phase }, { on := 7, ground := Ground.phase }, { on := 8, ground := Ground.phase }, { on := 9, ground := Ground.phase }, { on := 10, ground := Ground.phase }, { on := 11, ground := Ground.phase }, { on := 12, ground := Ground.phase }], guard := none }) rfl (fun K hK => ?_) AllReadyH.nil
        go_simp
        refine hK.out _ _ (by first | exact HKB.out _ bC | exact HKB.out _ bD | exact HKS.out _ _ hHeld) (fun hHeld => ?_)
        clear hK K
        try simp only [Act.put, List.setIfInBounds_toArray, List.set_cons_zero, List.set_cons_succ]
        refine wpAnyH_done (by kernel_rfl) ?_ _
        refine NoPanic.normal ?_
        have hsz := HSZ.out
        obtain ⟨Wc, hWc, b4, b5, hrd, hq1, hqs, hsz4⟩ := do_write_end (k := k) (l := l) (tp := 60) (dn := D.down) HH.out HR.out HFL.out bw (by omega) hb1 hA0 d80 hbA hA0' d86 o86 d89 (by rw [← HCS.out]; exact HQ1.out)
        have f3 := hqs _ _ _ (by omega) (by omega) HQ3.out
        have f4 := hqs _ _ _ (by omega) (by omega) HQ4.out
        obtain ⟨cz, hcz⟩ : ∃ cz, cz = rdc rs (.slice A3 (D.waits.length + 1) c3') D.down := ⟨_, rfl⟩
        have hcl : cz.length = 66 := by rw [hcz, rdc_len hrd.lr]
        have ho := rdc_one (n := D.waits.length + 1) hrd D.down
        rw [← hcz] at ho hq1
        obtain ⟨W1, W2, hW1, hW2, t1, t2, t3, hout⟩ := do_end (b := []) (k := 0) HH.out b4 (by omega) hrd (SLs.nil_ _ _) (fun a h => by cases h) f3 (by simp [HZL.out]) f4 rfl cz (by rw [hcz]; simp)
        have y0 := t1.cell 0; have y1 := t1.cell 1; have y2 := t1.frozen 0; have y3 := t1.frozen 1
        simp only [List.getElem?_toArray, List.getElem?_cons_zero, List.getElem?_cons_succ] at y0 y1
        have X1 := Lib.hid (And.intro y0 (And.intro y1 (And.intro y2 y3)))
        have T2 := Lib.hid t2; have T4 := Lib.hid t3; have HOUT := Lib.hid hout; have HW1 := Lib.hid hW1; have HWc := Lib.hid hWc
        have HW2 := Lib.hid (show W2 = (W1.setCell ⟨w.heap.size + 1 + 1 + 1, 0, none⟩ (.slice none 0 0)).setCell ⟨w.heap.size + 1 + 1 + 1, 1, none⟩ (.int .i64 0) from hW2)
        have R1 := Lib.hid hq1.rangeL
        have T3 := Lib.hid (f3.there (o := 0) (n := cz.toArray.size) (by simp [hcl, HZL.out]))
        have HCL := Lib.hid hcl
        have HO := Lib.hid ho
        rw [← hWc]
        clear b4 b5 hrd hq1 hqs hsz4 f3 f4 hcz hcl ho hout t1 t2 t3 hW1 hW2 y0 y1 y2 y3 e64 f64 bD d89 d86 o86 d80 hbA hA0' hb1 hA0 bC bw g1 g2 c1 c2 c64 c64a c64b hsz hWc
        go_wp2_with (first
          | (refine wpList_load_mid rfl 31 (.tmp 2) (by rfl) w.heap.size 0 (by rfl) cz _ R1.out Try.underlying31 rdc_isRow (by rw [size_rdc, HCL.out]) ?_)
          | (refine wpList_store_mid rfl 31 (.tmp 4) (.tmp 91) (by rfl) (w.heap.size + 2) 0 cz.toArray (by rfl) (by rfl) T3.out (by rw [size_rdc, List.size_toArray, HCL.out]) HO.out ?_; rw [show (Wc.setCells (w.heap.size + 2) 0 cz.toArray.toList) = W1 from HW1.out.symm]; obtain ⟨y0, y1, y2, y3⟩ := X1.out))
        rw [← HW2.out]
        exact do_ret HCL.out T2.out T4.out rfl rfl rfl HOUT.out
      refine AllReadyH.cons (o := { dst := some 83, op := Op.buildSlice 27 0 #[], type := 27, pos := "ref.go:80", after := #[], guard := none }) rfl (fun K hK => ?_) AllReadyH.nil
      go_simp
      have bC' := bC.trans (Bl.alloc _ (.cells #[] 5))
      refine hK.out _ _ (HKB.out _ bC') (fun hHeld => ?_)
      clear hK K
      try simp only [Act.put, List.setIfInBounds_toArray, List.set_cons_zero, List.set_cons_succ]
      have bC := bC'
      refine wpAnyH_ready (rs := [3]) (by kernel_rfl) (by simp) ?_
      refine AllReadyH.cons (o := { dst := some 80, op := Op.call { callee := Callee.builtin Builtin.append, args := #[Operand.tmp 77, Operand.tmp 79], argTypes := #[29, 29] }, type := 29, pos := "ref.go:80", after := #[{ on := 0, ground := Ground.data }, { on := 2, ground := Ground.data }], guard := none }) rfl (fun K hK => ?_) AllReadyH.nil
      refine step_append_apv _ (by rfl) (.tmp 77) (.tmp 79) _ (by rfl) putT (ApV.empty (base := _) _) (by rfl)
          (HFL.out.rc.below (bw.trans bC)) (by rfl) HFL.out.len HFL.out.one l3 l4 (Nat.le_refl _) ?_
      intro A1 c1' wA d80
      simp only [Nat.zero_add, List.nil_append] at d80 ⊢
      have hb1 := to80 d80 bC
      have hA0 := at80 (w0 := W) d80 (by intro a ha; cases ha; constructor <;> (try simp) <;> (try omega))
      replace bC := hb1.trans d80.below
      refine hK.out _ _ (by first | exact HKB.out _ bC | exact HKB.out _ bD | exact HKS.out _ _ hHeld) (fun hHeld => ?_)
      clear hK K
      try simp only [Act.put, List.setIfInBounds_toArray, List.set_cons_zero, List.set_cons_succ]
      refine wpAnyH_ready (rs := [9]) (by kernel_rfl) (by simp) ?_
      refine AllReadyH.cons (o := { dst := some 86, op := Op.call { callee := Callee.builtin Builtin.append, args := #[Operand.tmp 83, Operand.tmp 85], argTypes := #[27, 27] }, type := 27, pos := "ref.go:80", after := #[{ on := 6, ground := Ground.data }, { on := 8, ground := Ground.data }, { on := 3, ground := Ground.chain }], guard := none }) rfl (fun K hK => ?_) AllReadyH.nil
      refine step_append_ap2 _ (by rfl) (.tmp 83) (.tmp 85) _ (by rfl) bytesT (Ap.empty (base := _) _) (by rfl)
          (HS.out.step (bw.trans bC)).rb (by rfl) (by rfl) (by omega) (Nat.le_refl _) ?_
      intro A2 c2' wB d86 o86
      simp only [Nat.zero_add, List.nil_append] at d86 o86 ⊢
      have hbA := to86 (w0 := wA) d86 (Bl.refl _)
      have hA0' := at86 (w0 := W) d86 (by intro a ha; cases ha; have := (hb1.trans d80.below).size; simp at this ⊢; try omega)
      replace bC := bC.trans d86.below
      refine hK.out _ _ (by first | exact HKB.out _ bC | exact HKB.out _ bD | exact HKS.out _ _ hHeld) (fun hHeld => ?_)
      clear hK K
      try simp only [Act.put, List.setIfInBounds_toArray, List.set_cons_zero, List.set_cons_succ]
      refine wpAnyH_take (i := 10) (oi := { dst := some 87, op := Op.build 60 #[(0, Operand.tmp 82), (1, Operand.tmp 86)], type := 60, pos := "ref.go:80", after := #[{ on := 5, ground := Ground.data }, { on := 9, ground := Ground.data }], guard := none }) (v := ?_) rfl (by kernel_rfl) (by kernel_rfl) (by kernel_rfl) (fun _ _ _ h => h) (Or.inl ⟨by rfl, ?_⟩) hHeld ?_
      rotate_left
      · intro w' hSw
        obtain ⟨s1, s2⟩ := hSw
        go_simp
        with_reducible rfl
      try simp only [Act.put, List.setIfInBounds_toArray, List.set_cons_zero, List.set_cons_succ]
      refine wpAnyH_ready (rs := [11]) (by kernel_rfl) (by simp) ?_
      refine AllReadyH.cons (o := { dst := some 88, op := Op.buildSlice 29 1 #[(0, Operand.tmp 87)], type := 29, pos := "ref.go:80", after := #[{ on := 10, ground := Ground.data }], guard := none }) rfl (fun K hK => ?_) AllReadyH.nil
      go_simp
      have bC' := bC.trans (Bl.alloc _ (.cells #[.int .i64 (k : Int), .slice A2 l.length c2'] 60))
      refine hK.out _ _ (HKB.out _ bC') (fun hHeld => ?_)
      clear hK K bC'
      try simp only [Act.put, List.setIfInBounds_toArray, List.set_cons_zero, List.set_cons_succ]
      refine wpAnyH_ready (rs := [12]) (by kernel_rfl) (by simp) ?_
      refine AllReadyH.cons (o := { dst := some 89, op := Op.call { callee := Callee.builtin Builtin.append, args := #[Operand.tmp 80, Operand.tmp 88], argTypes := #[29, 29] }, type := 29, pos := "ref.go:80", after := #[{ on := 3, ground := Ground.data }, { on := 11, ground := Ground.data }, { on := 9, ground := Ground.chain }], guard := none }) rfl (fun K hK => ?_) AllReadyH.nil
      refine step_append_apv _ (by rfl) (.tmp 80) (.tmp 88) _ (by rfl) putT (d80.ap.keep ((hbA.trans d86.below).trans (Bl.alloc _ _))) (by rfl)
          (RC.two _ _ _ _) (by rfl) (by rfl) (by intro u hu; simp at hu; rcases hu with hu | hu <;> subst hu <;> rfl) l1 l2 (((Bl.trans d80.below hbA).trans d86.below).trans (Bl.alloc _ _)).size ?_
      intro A3 c3' wD d89
      have bD := Below.trans (bC.trans (Bl.alloc _ _)) (d89.below.mono hb1.size)
      have e64 := Bl.some' bD c64
      have f64 := (World.frozen?_of_block (a := ⟨w.heap.size, 64, none⟩) (bD.block w.heap.size g1)).trans Z64.out
      refine hK.out _ _ (by first | exact HKB.out _ bC | exact HKB.out _ bD | exact HKS.out _ _ hHeld) (fun hHeld => ?_)
      clear hK K
      try simp only [Act.put, List.setIfInBounds_toArray, List.set_cons_zero, List.set_cons_succ]
      refine wpAnyH_take (i := 13) (oi := { dst := some 90, op := Op.fieldAddr 31 (Operand.tmp 2) 1, type := 0, pos := "ref.go:80", after := #[{ on := 0, ground := Ground.phase }, { on := 1, ground := Ground.phase }, { on := 2, ground := Ground.phase }, { on := 3, ground := Ground.phase }, { on := 4, ground := Ground.phase }, { on := 5, ground := Ground.phase }, { on := 6, ground := Ground.phase }, { on := 7, ground := Ground.phase }, { on := 8, ground := Ground.phase }, { on := 9, ground := Ground.phase }, { on := 10, ground := Ground.phase }, { on := 11, ground := Ground.phase }, { on := 12, ground := Ground.phase }], guard := none }) (v := ?_) rfl (by kernel_rfl) (by kernel_rfl) (by kernel_rfl) (fun _ _ _ h => h) (Or.inl ⟨by rfl, ?_⟩) hHeld ?_
      rotate_left
      · intro w' hSw
        obtain ⟨s1, s2⟩ := hSw
        go_simp
        with_reducible rfl
      try simp only [Act.put, List.setIfInBounds_toArray, List.set_cons_zero, List.set_cons_succ]
      refine wpAnyH_ready (rs := [14]) (by kernel_rfl) (by simp) ?_
      refine AllReadyH.cons (o := { dst := none, op := Op.store 29 (Operand.tmp 90) (Operand.tmp 89), type := 0, pos := "ref.go:80", after := #[{ on := 13, ground := Ground.data }, { on := 12, ground := Ground.data }, { on := 12, ground := Ground.chain }, { on := 0, ground := Ground.phase }, { on := 1, ground := Ground.phase }, { on := 2, ground := Ground.phase }, { on := 3, ground := Ground.phase }, { on := 4, ground := Ground.phase }, { on := 5, ground := Ground.phase }, { on := 6, ground := Ground.phase }, { on := 7, ground := Ground.phase }, { on := 8, ground := Ground.phase }, { on := 9, ground := Ground.phase }, { on := 10, ground := Ground.phase }, { on := 11, ground := Ground.phase }, { on := 12, ground := Ground.phase }], guard := none }) rfl (fun K hK => ?_) AllReadyH.nil
      go_simp
      refine hK.out _ _ (by first | exact HKB.out _ bC | exact HKB.out _ bD | exact HKS.out _ _ hHeld) (fun hHeld => ?_)
      clear hK K
      try simp only [Act.put, List.setIfInBounds_toArray, List.set_cons_zero, List.set_cons_succ]
      refine wpAnyH_done (by kernel_rfl) ?_ _
      refine NoPanic.normal ?_
      have hsz := HSZ.out
      obtain ⟨Wc, hWc, b4, b5, hrd, hq1, hqs, hsz4⟩ := do_write_end (k := k) (l := l) (tp := 60) (dn := D.down) HH.out HR.out HFL.out bw (by omega) hb1 hA0 d80 hbA hA0' d86 o86 d89 (by rw [← HCS.out]; exact HQ1.out)
      have f3 := hqs _ _ _ (by omega) (by omega) HQ3.out
      have f4 := hqs _ _ _ (by omega) (by omega) HQ4.out
      obtain ⟨cz, hcz⟩ : ∃ cz, cz = rdc rs (.slice A3 (D.waits.length + 1) c3') D.down := ⟨_, rfl⟩
      have hcl : cz.length = 66 := by rw [hcz, rdc_len hrd.lr]
      have ho := rdc_one (n := D.waits.length + 1) hrd D.down
      rw [← hcz] at ho hq1
      obtain ⟨W1, W2, hW1, hW2, t1, t2, t3, hout⟩ := do_end (b := []) (k := 0) HH.out b4 (by omega) hrd (SLs.nil_ _ _) (fun a h => by cases h) f3 (by simp [HZL.out]) f4 rfl cz (by rw [hcz]; simp)
      have y0 := t1.cell 0; have y1 := t1.cell 1; have y2 := t1.frozen 0; have y3 := t1.frozen 1
      simp only [List.getElem?_toArray, List.getElem?_cons_zero, List.getElem?_cons_succ] at y0 y1
      have X1 := Lib.hid (And.intro y0 (And.intro y1 (And.intro y2 y3)))
      have T2 := Lib.hid t2; have T4 := Lib.hid t3; have HOUT := Lib.hid hout; have HW1 := Lib.hid hW1; have HWc := Lib.hid hWc
      have HW2 := Lib.hid (show W2 = (W1.setCell ⟨w.heap.size + 1 + 1 + 1, 0, none⟩ (.slice none 0 0)).setCell ⟨w.heap.size + 1 + 1 + 1, 1, none⟩ (.int .i64 0) from hW2)
      have R1 := Lib.hid hq1.rangeL
      have T3 := Lib.hid (f3.there (o := 0) (n := cz.toArray.size) (by simp [hcl, HZL.out]))
      have HCL := Lib.hid hcl
      have HO := Lib.hid ho
      rw [← hWc]
      clear b4 b5 hrd hq1 hqs hsz4 f3 f4 hcz hcl ho hout t1 t2 t3 hW1 hW2 y0 y1 y2 y3 e64 f64 bD d89 d86 o86 d80 hbA hA0' hb1 hA0 bC bw g1 g2 c1 c2 c64 c64a c64b hsz hWc
      go_wp2_with (first
        | (refine wpList_load_mid rfl 31 (.tmp 2) (by rfl) w.heap.size 0 (by rfl) cz _ R1.out Try.underlying31 rdc_isRow (by rw [size_rdc, HCL.out]) ?_)
        | (refine wpList_store_mid rfl 31 (.tmp 4) (.tmp 91) (by rfl) (w.heap.size + 2) 0 cz.toArray (by rfl) (by rfl) T3.out (by rw [size_rdc, List.size_toArray, HCL.out]) HO.out ?_; rw [show (Wc.setCells (w.heap.size + 2) 0 cz.toArray.toList) = W1 from HW1.out.symm]; obtain ⟨y0, y1, y2, y3⟩ := X1.out))
      rw [← HW2.out]
      exact do_ret HCL.out T2.out T4.out rfl rfl rfl HOUT.out
    refine AllReadyH.cons (o := { dst := some 83, op := Op.buildSlice 27 0 #[], type := 27, pos := "ref.go:80", after := #[], guard := none }) rfl (fun K hK => ?_) AllReadyH.nil
    go_simp
    have bC' := bC.trans (Bl.alloc _ (.cells #[] 5))
    refine hK.out _ _ (HKB.out _ bC') (fun hHeld => ?_)
    clear hK K
    try simp only [Act.put, List.setIfInBounds_toArray, List.set_cons_zero, List.set_cons_succ]
    have bC := bC'
    refine wpAnyH_ready (rs := [2]) (by kernel_rfl) (by simp) ?_
    refine AllReadyH.cons (o := { dst := some 79, op := Op.load 29 (Operand.tmp 78), type := 29, pos := "ref.go:80", after := #[{ on := 1, ground := Ground.data }], guard := none }) rfl (fun K hK => ?_) AllReadyH.nil
    go_simp
    refine hK.out _ _ (by first | exact HKB.out _ bC | exact HKB.out _ bD | exact HKS.out _ _ hHeld) (fun hHeld => ?_)
    clear hK K
    try simp only [Act.put, List.setIfInBounds_toArray, List.set_cons_zero, List.set_cons_succ]
    refine wpAnyH_ready (rs := [3]) (by kernel_rfl) (by simp) ?_
    refine AllReadyH.cons (o := { dst := some 80, op := Op.call { callee := Callee.builtin Builtin.append, args := #[Operand.tmp 77, Operand.tmp 79], argTypes := #[29, 29] }, type := 29, pos := "ref.go:80", after := #[{ on := 0, ground := Ground.data }, { on := 2, ground := Ground.data }], guard := none }) rfl (fun K hK => ?_) AllReadyH.nil
    refine step_append_apv _ (by rfl) (.tmp 77) (.tmp 79) _ (by rfl) putT (ApV.empty (base := _) _) (by rfl)
        (HFL.out.rc.below (bw.trans bC)) (by rfl) HFL.out.len HFL.out.one l3 l4 (Nat.le_refl _) ?_
    intro A1 c1' wA d80
    simp only [Nat.zero_add, List.nil_append] at d80 ⊢
    have hb1 := to80 d80 bC
    have hA0 := at80 (w0 := W) d80 (by intro a ha; cases ha; constructor <;> (try simp) <;> (try omega))
    replace bC := hb1.trans d80.below
    refine hK.out _ _ (by first | exact HKB.out _ bC | exact HKB.out _ bD | exact HKS.out _ _ hHeld) (fun hHeld => ?_)
    clear hK K
    try simp only [Act.put, List.setIfInBounds_toArray, List.set_cons_zero, List.set_cons_succ]
    refine wpAnyH_ready (rs := [9]) (by kernel_rfl) (by simp) ?_
    refine AllReadyH.cons (o := { dst := some 86, op := Op.call { callee := Callee.builtin Builtin.append, args := #[Operand.tmp 83, Operand.tmp 85], argTypes := #[27, 27] }, type := 27, pos := "ref.go:80", after := #[{ on := 6, ground := Ground.data }, { on := 8, ground := Ground.data }, { on := 3, ground := Ground.chain }], guard := none }) rfl (fun K hK => ?_) AllReadyH.nil
    refine step_append_ap2 _ (by rfl) (.tmp 83) (.tmp 85) _ (by rfl) bytesT (Ap.empty (base := _) _) (by rfl)
        (HS.out.step (bw.trans bC)).rb (by rfl) (by rfl) (by omega) (Nat.le_refl _) ?_
    intro A2 c2' wB d86 o86
    simp only [Nat.zero_add, List.nil_append] at d86 o86 ⊢
    have hbA := to86 (w0 := wA) d86 (Bl.refl _)
    have hA0' := at86 (w0 := W) d86 (by intro a ha; cases ha; have := (hb1.trans d80.below).size; simp at this ⊢; try omega)
    replace bC := bC.trans d86.below
    refine hK.out _ _ (by first | exact HKB.out _ bC | exact HKB.out _ bD | exact HKS.out _ _ hHeld) (fun hHeld => ?_)
    clear hK K
    try simp only [Act.put, List.setIfInBounds_toArray, List.set_cons_zero, List.set_cons_succ]
    refine wpAnyH_take (i := 10) (oi := { dst := some 87, op := Op.build 60 #[(0, Operand.tmp 82), (1, Operand.tmp 86)], type := 60, pos := "ref.go:80", after := #[{ on := 5, ground := Ground.data }, { on := 9, ground := Ground.data }], guard := none }) (v := ?_) rfl (by kernel_rfl) (by kernel_rfl) (by kernel_rfl) (fun _ _ _ h => h) (Or.inl ⟨by rfl, ?_⟩) hHeld ?_
    rotate_left
    · intro w' hSw
      obtain ⟨s1, s2⟩ := hSw
      go_simp
      with_reducible rfl
    try simp only [Act.put, List.setIfInBounds_toArray, List.set_cons_zero, List.set_cons_succ]
    refine wpAnyH_ready (rs := [11]) (by kernel_rfl) (by simp) ?_
    refine AllReadyH.cons (o := { dst := some 88, op := Op.buildSlice 29 1 #[(0, Operand.tmp 87)], type := 29, pos := "ref.go:80", after := #[{ on := 10, ground := Ground.data }], guard := none }) rfl (fun K hK => ?_) AllReadyH.nil
    go_simp
    have bC' := bC.trans (Bl.alloc _ (.cells #[.int .i64 (k : Int), .slice A2 l.length c2'] 60))
    refine hK.out _ _ (HKB.out _ bC') (fun hHeld => ?_)
    clear hK K bC'
    try simp only [Act.put, List.setIfInBounds_toArray, List.set_cons_zero, List.set_cons_succ]
    refine wpAnyH_ready (rs := [12]) (by kernel_rfl) (by simp) ?_
    refine AllReadyH.cons (o := { dst := some 89, op := Op.call { callee := Callee.builtin Builtin.append, args := #[Operand.tmp 80, Operand.tmp 88], argTypes := #[29, 29] }, type := 29, pos := "ref.go:80", after := #[{ on := 3, ground := Ground.data }, { on := 11, ground := Ground.data }, { on := 9, ground := Ground.chain }], guard := none }) rfl (fun K hK => ?_) AllReadyH.nil
    refine step_append_apv _ (by rfl) (.tmp 80) (.tmp 88) _ (by rfl) putT (d80.ap.keep ((hbA.trans d86.below).trans (Bl.alloc _ _))) (by rfl)
        (RC.two _ _ _ _) (by rfl) (by rfl) (by intro u hu; simp at hu; rcases hu with hu | hu <;> subst hu <;> rfl) l1 l2 (((Bl.trans d80.below hbA).trans d86.below).trans (Bl.alloc _ _)).size ?_
    intro A3 c3' wD d89
    have bD := Below.trans (bC.trans (Bl.alloc _ _)) (d89.below.mono hb1.size)
    have e64 := Bl.some' bD c64
    have f64 := (World.frozen?_of_block (a := ⟨w.heap.size, 64, none⟩) (bD.block w.heap.size g1)).trans Z64.out
    refine hK.out _ _ (by first | exact HKB.out _ bC | exact HKB.out _ bD | exact HKS.out _ _ hHeld) (fun hHeld => ?_)
    clear hK K
    try simp only [Act.put, List.setIfInBounds_toArray, List.set_cons_zero, List.set_cons_succ]
    refine wpAnyH_take (i := 13) (oi := { dst := some 90, op := Op.fieldAddr 31 (Operand.tmp 2) 1, type := 0, pos := "ref.go:80", after := #[{ on := 0, ground := Ground.phase }, { on := 1, ground := Ground.phase }, { on := 2, ground := Ground.phase }, { on := 3, ground := Ground.phase }, { on := 4, ground := Ground.phase }, { on := 5, ground := Ground.phase }, { on := 6, ground := Ground.phase }, { on := 7, ground := Ground.phase }, { on := 8, ground := Ground.phase }, { on := 9, ground := Ground.phase }, { on := 10, ground := Ground.phase }, { on := 11, ground := Ground.phase }, { on := 12, ground := Ground.phase }], guard := none }) (v := ?_) rfl (by kernel_rfl) (by kernel_rfl) (by kernel_rfl) (fun _ _ _ h => h) (Or.inl ⟨by rfl, ?_⟩) hHeld ?_
    rotate_left
    · intro w' hSw
      obtain ⟨s1, s2⟩ := hSw
      go_simp
      with_reducible rfl
    try simp only [Act.put, List.setIfInBounds_toArray, List.set_cons_zero, List.set_cons_succ]
    refine wpAnyH_ready (rs := [14]) (by kernel_rfl) (by simp) ?_
    refine AllReadyH.cons (o := { dst := none, op := Op.store 29 (Operand.tmp 90) (Operand.tmp 89), type := 0, pos := "ref.go:80", after := #[{ on := 13, ground := Ground.data }, { on := 12, ground := Ground.data }, { on := 12, ground := Ground.chain }, { on := 0, ground := Ground.phase }, { on := 1, ground := Ground.phase }, { on := 2, ground := Ground.phase }, { on := 3, ground := Ground.phase }, { on := 4, ground := Ground.phase }, { on := 5, ground := Ground.phase }, { on := 6, ground := Ground.phase }, { on := 7, ground := Ground.phase }, { on := 8, ground := Ground.phase }, { on := 9, ground := Ground.phase }, { on := 10, ground := Ground.phase }, { on := 11, ground := Ground.phase }, { on := 12, ground := Ground.phase }], guard := none }) rfl (fun K hK => ?_) AllReadyH.nil
    go_simp
    refine hK.out _ _ (by first | exact HKB.out _ bC | exact HKB.out _ bD | exact HKS.out _ _ hHeld) (fun hHeld => ?_)
    clear hK K
    try simp only [Act.put, List.setIfInBounds_toArray, List.set_cons_zero, List.set_cons_succ]
    refine wpAnyH_done (by kernel_rfl) ?_ _
    refine NoPanic.normal ?_
    have hsz := HSZ.out
    obtain ⟨Wc, hWc, b4, b5, hrd, hq1, hqs, hsz4⟩ := do_write_end (k := k) (l := l) (tp := 60) (dn := D.down) HH.out HR.out HFL.out bw (by omega) hb1 hA0 d80 hbA hA0' d86 o86 d89 (by rw [← HCS.out]; exact HQ1.out)
    have f3 := hqs _ _ _ (by omega) (by omega) HQ3.out
    have f4 := hqs _ _ _ (by omega) (by omega) HQ4.out
    obtain ⟨cz, hcz⟩ : ∃ cz, cz = rdc rs (.slice A3 (D.waits.length + 1) c3') D.down := ⟨_, rfl⟩
    have hcl : cz.length = 66 := by rw [hcz, rdc_len hrd.lr]
    have ho := rdc_one (n := D.waits.length + 1) hrd D.down
    rw [← hcz] at ho hq1
    obtain ⟨W1, W2, hW1, hW2, t1, t2, t3, hout⟩ := do_end (b := []) (k := 0) HH.out b4 (by omega) hrd (SLs.nil_ _ _) (fun a h => by cases h) f3 (by simp [HZL.out]) f4 rfl cz (by rw [hcz]; simp)
    have y0 := t1.cell 0; have y1 := t1.cell 1; have y2 := t1.frozen 0; have y3 := t1.frozen 1
    simp only [List.getElem?_toArray, List.getElem?_cons_zero, List.getElem?_cons_succ] at y0 y1
    have X1 := Lib.hid (And.intro y0 (And.intro y1 (And.intro y2 y3)))
    have T2 := Lib.hid t2; have T4 := Lib.hid t3; have HOUT := Lib.hid hout; have HW1 := Lib.hid hW1; have HWc := Lib.hid hWc
    have HW2 := Lib.hid (show W2 = (W1.setCell ⟨w.heap.size + 1 + 1 + 1, 0, none⟩ (.slice none 0 0)).setCell ⟨w.heap.size + 1 + 1 + 1, 1, none⟩ (.int .i64 0) from hW2)
    have R1 := Lib.hid hq1.rangeL
    have T3 := Lib.hid (f3.there (o := 0) (n := cz.toArray.size) (by simp [hcl, HZL.out]))
    have HCL := Lib.hid hcl
    have HO := Lib.hid ho
    rw [← hWc]
    clear b4 b5 hrd hq1 hqs hsz4 f3 f4 hcz hcl ho hout t1 t2 t3 hW1 hW2 y0 y1 y2 y3 e64 f64 bD d89 d86 o86 d80 hbA hA0' hb1 hA0 bC bw g1 g2 c1 c2 c64 c64a c64b hsz hWc
    go_wp2_with (first
      | (refine wpList_load_mid rfl 31 (.tmp 2) (by rfl) w.heap.size 0 (by rfl) cz _ R1.out Try.underlying31 rdc_isRow (by rw [size_rdc, HCL.out]) ?_)
      | (refine wpList_store_mid rfl 31 (.tmp 4) (.tmp 91) (by rfl) (w.heap.size + 2) 0 cz.toArray (by rfl) (by rfl) T3.out (by rw [size_rdc, List.size_toArray, HCL.out]) HO.out ?_; rw [show (Wc.setCells (w.heap.size + 2) 0 cz.toArray.toList) = W1 from HW1.out.symm]; obtain ⟨y0, y1, y2, y3⟩ := X1.out))
    rw [← HW2.out]
    exact do_ret HCL.out T2.out T4.out rfl rfl rfl HOUT.out
  refine AllReadyH.cons (o := { dst := some 79, op := Op.load 29 (Operand.tmp 78), type := 29, pos := "ref.go:80", after := #[{ on := 1, ground := Ground.data }], guard := none }) rfl (fun K hK => ?_) ?_
  · skip
    go_simp
    refine hK.out _ _ (by first | exact HKB.out _ bC | exact HKB.out _ bD | exact HKS.out _ _ hHeld) (fun hHeld => ?_)
    clear hK K
    try simp only [Act.put, List.setIfInBounds_toArray, List.set_cons_zero, List.set_cons_succ]
    refine wpAnyH_ready (rs := [0, 6]) (by kernel_rfl) (by simp) ?_
    refine AllReadyH.cons (o := { dst := some 77, op := Op.buildSlice 29 0 #[], type := 29, pos := "ref.go:80", after := #[], guard := none }) rfl (fun K hK => ?_) ?_
    · skip
      go_simp
      have bC' := bC.trans (Bl.alloc _ (.cells #[] 60))
      refine hK.out _ _ (HKB.out _ bC') (fun hHeld => ?_)
      clear hK K
      try simp only [Act.put, List.setIfInBounds_toArray, List.set_cons_zero, List.set_cons_succ]
      have bC := bC'
      refine wpAnyH_ready (rs := [3, 6]) (by kernel_rfl) (by simp) ?_
      refine AllReadyH.cons (o := { dst := some 80, op := Op.call { callee := Callee.builtin Builtin.append, args := #[Operand.tmp 77, Operand.tmp 79], argTypes := #[29, 29] }, type := 29, pos := "ref.go:80", after := #[{ on := 0, ground := Ground.data }, { on := 2, ground := Ground.data }], guard := none }) rfl (fun K hK => ?_) ?_
      · skip
        refine step_append_apv _ (by rfl) (.tmp 77) (.tmp 79) _ (by rfl) putT (ApV.empty (base := _) _) (by rfl)
            (HFL.out.rc.below (bw.trans bC)) (by rfl) HFL.out.len HFL.out.one l3 l4 (Nat.le_refl _) ?_
        intro A1 c1' wA d80
        simp only [Nat.zero_add, List.nil_append] at d80 ⊢
        have hb1 := to80 d80 bC
        have hA0 := at80 (w0 := W) d80 (by intro a ha; cases ha; constructor <;> (try simp) <;> (try omega))
        replace bC := hb1.trans d80.below
        refine hK.out _ _ (by first | exact HKB.out _ bC | exact HKB.out _ bD | exact HKS.out _ _ hHeld) (fun hHeld => ?_)
        clear hK K
        try simp only [Act.put, List.setIfInBounds_toArray, List.set_cons_zero, List.set_cons_succ]
        refine wpAnyH_ready (rs := [6]) (by kernel_rfl) (by simp) ?_
        refine AllReadyH.cons (o := { dst := some 83, op := Op.buildSlice 27 0 #[], type := 27, pos := "ref.go:80", after := #[], guard := none }) rfl (fun K hK => ?_) AllReadyH.nil
        go_simp
        have bC' := bC.trans (Bl.alloc _ (.cells #[] 5))
        refine hK.out _ _ (HKB.out _ bC') (fun hHeld => ?_)
        clear hK K
        try simp only [Act.put, List.setIfInBounds_toArray, List.set_cons_zero, List.set_cons_succ]
        have bC := bC'
        refine wpAnyH_ready (rs := [9]) (by kernel_rfl) (by simp) ?_
        refine AllReadyH.cons (o := { dst := some 86, op := Op.call { callee := Callee.builtin Builtin.append, args := #[Operand.tmp 83, Operand.tmp 85], argTypes := #[27, 27] }, type := 27, pos := "ref.go:80", after := #[{ on := 6, ground := Ground.data }, { on := 8, ground := Ground.data }, { on := 3, ground := Ground.chain }], guard := none }) rfl (fun K hK => ?_) AllReadyH.nil
        refine step_append_ap2 _ (by rfl) (.tmp 83) (.tmp 85) _ (by rfl) bytesT (Ap.empty (base := _) _) (by rfl)
            (HS.out.step (bw.trans bC)).rb (by rfl) (by rfl) (by omega) (Nat.le_refl _) ?_
        intro A2 c2' wB d86 o86
        simp only [Nat.zero_add, List.nil_append] at d86 o86 ⊢
        have hbA := to86 (w0 := wA) d86 (Bl.alloc _ _)
        have hA0' := at86 (w0 := W) d86 (by intro a ha; cases ha; have := (hb1.trans d80.below).size; simp at this ⊢; try omega)
        replace bC := bC.trans d86.below
        refine hK.out _ _ (by first | exact HKB.out _ bC | exact HKB.out _ bD | exact HKS.out _ _ hHeld) (fun hHeld => ?_)
        clear hK K
        try simp only [Act.put, List.setIfInBounds_toArray, List.set_cons_zero, List.set_cons_succ]
        refine wpAnyH_take (i := 10) (oi := { dst := some 87, op := Op.build 60 #[(0, Operand.tmp 82), (1, Operand.tmp 86)], type := 60, pos := "ref.go:80", after := #[{ on := 5, ground := Ground.data }, { on := 9, ground := Ground.data }], guard := none }) (v := ?_) rfl (by kernel_rfl) (by kernel_rfl) (by kernel_rfl) (fun _ _ _ h => h) (Or.inl ⟨by rfl, ?_⟩) hHeld ?_
        rotate_left
        · intro w' hSw
          obtain ⟨s1, s2⟩ := hSw
          go_simp
          with_reducible rfl
        try simp only [Act.put, List.setIfInBounds_toArray, List.set_cons_zero, List.set_cons_succ]
        refine wpAnyH_ready (rs := [11]) (by kernel_rfl) (by simp) ?_
        refine AllReadyH.cons (o := { dst := some 88, op := Op.buildSlice 29 1 #[(0, Operand.tmp 87)], type := 29, pos := "ref.go:80", after := #[{ on := 10, ground := Ground.data }], guard := none }) rfl (fun K hK => ?_) AllReadyH.nil
        go_simp
        have bC' := bC.trans (Bl.alloc _ (.cells #[.int .i64 (k : Int), .slice A2 l.length c2'] 60))
        refine hK.out _ _ (HKB.out _ bC') (fun hHeld => ?_)
        clear hK K bC'
        try simp only [Act.put, List.setIfInBounds_toArray, List.set_cons_zero, List.set_cons_succ]
        refine wpAnyH_ready (rs := [12]) (by kernel_rfl) (by simp) ?_
        refine AllReadyH.cons (o := { dst := some 89, op := Op.call { callee := Callee.builtin Builtin.append, args := #[Operand.tmp 80, Operand.tmp 88], argTypes := #[29, 29] }, type := 29, pos := "ref.go:80", after := #[{ on := 3, ground := Ground.data }, { on := 11, ground := Ground.data }, { on := 9, ground := Ground.chain }], guard := none }) rfl (fun K hK => ?_) AllReadyH.nil
        refine step_append_apv _ (by rfl) (.tmp 80) (.tmp 88) _ (by rfl) putT (d80.ap.keep ((hbA.trans d86.below).trans (Bl.alloc _ _))) (by rfl)
            (RC.two _ _ _ _) (by rfl) (by rfl) (by intro u hu; simp at hu; rcases hu with hu | hu <;> subst hu <;> rfl) l1 l2 (((Bl.trans d80.below hbA).trans d86.below).trans (Bl.alloc _ _)).size ?_
        intro A3 c3' wD d89
        have bD := Below.trans (bC.trans (Bl.alloc _ _)) (d89.below.mono hb1.size)
        have e64 := Bl.some' bD c64
        have f64 := (World.frozen?_of_block (a := ⟨w.heap.size, 64, none⟩) (bD.block w.heap.size g1)).trans Z64.out
        refine hK.out _ _ (by first | exact HKB.out _ bC | exact HKB.out _ bD | exact HKS.out _ _ hHeld) (fun hHeld => ?_)
        clear hK K
        try simp only [Act.put, List.setIfInBounds_toArray, List.set_cons_zero, List.set_cons_succ]
        refine wpAnyH_take (i := 13) (oi := { dst := some 90, op := Op.fieldAddr 31 (Operand.tmp 2) 1, type := 0, pos := "ref.go:80", after := #[{ on := 0, ground := Ground.phase }, { on := 1, ground := Ground.phase }, { on := 2, ground := Ground.phase }, { on := 3, ground := Ground.phase }, { on := 4, ground := Ground.phase }, { on := 5, ground := Ground.phase }, { on := 6, ground := Ground.phase }, { on := 7, ground := Ground.phase }, { on := 8, ground := Ground.phase }, { on := 9, ground := Ground.phase }, { on := 10, ground := Ground.phase }, { on := 11, ground := Ground.phase }, { on := 12, ground := Ground.phase }], guard := none }) (v := ?_) rfl (by kernel_rfl) (by kernel_rfl) (by kernel_rfl) (fun _ _ _ h => h) (Or.inl ⟨by rfl, ?_⟩) hHeld ?_
        rotate_left
        · intro w' hSw
          obtain ⟨s1, s2⟩ := hSw
          go_simp
          with_reducible rfl
        try simp only [Act.put, List.setIfInBounds_toArray, List.set_cons_zero, List.set_cons_succ]
        refine wpAnyH_ready (rs := [14]) (by kernel_rfl) (by simp) ?_
        refine AllReadyH.cons (o := { dst := none, op := Op.store 29 (Operand.tmp 90) (Operand.tmp 89), type := 0, pos := "ref.go:80", after := #[{ on := 13, ground := Ground.data }, { on := 12, ground := Ground.data }, { on := 12, ground := Ground.chain }, { on := 0, ground := Ground.phase }, { on := 1, ground := Ground.phase }, { on := 2, ground := Ground.phase }, { on := 3, ground := Ground.phase }, { on := 4, ground := Ground.phase }, { on := 5, ground := Ground.phase }, { on := 6, ground := Ground.phase }, { on := 7, ground := Ground.phase }, { on := 8, ground := Ground.phase }, { on := 9, ground := Ground.phase }, { on := 10, ground := Ground.phase }, { on := 11, ground := Ground.phase }, { on := 12, ground := Ground.phase }], guard := none }) rfl (fun K hK => ?_) AllReadyH.nil
        go_simp
        refine hK.out _ _ (by first | exact HKB.out _ bC | exact HKB.out _ bD | exact HKS.out _ _ hHeld) (fun hHeld => ?_)
        clear hK K
        try simp only [Act.put, List.setIfInBounds_toArray, List.set_cons_zero, List.set_cons_succ]
        refine wpAnyH_done (by kernel_rfl) ?_ _
        refine NoPanic.normal ?_
        have hsz := HSZ.out
        obtain ⟨Wc, hWc, b4, b5, hrd, hq1, hqs, hsz4⟩ := do_write_end (k := k) (l := l) (tp := 60) (dn := D.down) HH.out HR.out HFL.out bw (by omega) hb1 hA0 d80 hbA hA0' d86 o86 d89 (by rw [← HCS.out]; exact HQ1.out)
        have f3 := hqs _ _ _ (by omega) (by omega) HQ3.out
        have f4 := hqs _ _ _ (by omega) (by omega) HQ4.out
        obtain ⟨cz, hcz⟩ : ∃ cz, cz = rdc rs (.slice A3 (D.waits.length + 1) c3') D.down := ⟨_, rfl⟩
        have hcl : cz.length = 66 := by rw [hcz, rdc_len hrd.lr]
        have ho := rdc_one (n := D.waits.length + 1) hrd D.down
        rw [← hcz] at ho hq1
        obtain ⟨W1, W2, hW1, hW2, t1, t2, t3, hout⟩ := do_end (b := []) (k := 0) HH.out b4 (by omega) hrd (SLs.nil_ _ _) (fun a h => by cases h) f3 (by simp [HZL.out]) f4 rfl cz (by rw [hcz]; simp)
        have y0 := t1.cell 0; have y1 := t1.cell 1; have y2 := t1.frozen 0; have y3 := t1.frozen 1
        simp only [List.getElem?_toArray, List.getElem?_cons_zero, List.getElem?_cons_succ] at y0 y1
        have X1 := Lib.hid (And.intro y0 (And.intro y1 (And.intro y2 y3)))
        have T2 := Lib.hid t2; have T4 := Lib.hid t3; have HOUT := Lib.hid hout; have HW1 := Lib.hid hW1; have HWc := Lib.hid hWc
        have HW2 := Lib.hid (show W2 = (W1.setCell ⟨w.heap.size + 1 + 1 + 1, 0, none⟩ (.slice none 0 0)).setCell ⟨w.heap.size + 1 + 1 + 1, 1, none⟩ (.int .i64 0) from hW2)
        have R1 := Lib.hid hq1.rangeL
        have T3 := Lib.hid (f3.there (o := 0) (n := cz.toArray.size) (by simp [hcl, HZL.out]))
        have HCL := Lib.hid hcl
        have HO := Lib.hid ho
        rw [← hWc]
        clear b4 b5 hrd hq1 hqs hsz4 f3 f4 hcz hcl ho hout t1 t2 t3 hW1 hW2 y0 y1 y2 y3 e64 f64 bD d89 d86 o86 d80 hbA hA0' hb1 hA0 bC bw g1 g2 c1 c2 c64 c64a c64b hsz hWc
        go_wp2_with (first
          | (refine wpList_load_mid rfl 31 (.tmp 2) (by rfl) w.heap.size 0 (by rfl) cz _ R1.out Try.underlying31 rdc_isRow (by rw [size_rdc, HCL.out]) ?_)
          | (refine wpList_store_mid rfl 31 (.tmp 4) (.tmp 91) (by rfl) (w.heap.size + 2) 0 cz.toArray (by rfl) (by rfl) T3.out (by rw [size_rdc, List.size_toArray, HCL.out]) HO.out ?_; rw [show (Wc.setCells (w.heap.size + 2) 0 cz.toArray.toList) = W1 from HW1.out.symm]; obtain ⟨y0, y1, y2, y3⟩ := X1.out))
        rw [← HW2.out]
        exact do_ret HCL.out T2.out T4.out rfl rfl rfl HOUT.out
      refine AllReadyH.cons (o := { dst := some 83, op := Op.buildSlice 27 0 #[], type := 27, pos := "ref.go:80", after := #[], guard := none }) rfl (fun K hK => ?_) AllReadyH.nil
      go_simp
      have bC' := bC.trans (Bl.alloc _ (.cells #[] 5))
      refine hK.out _ _ (HKB.out _ bC') (fun hHeld => ?_)
      clear hK K
      try simp only [Act.put, List.setIfInBounds_toArray, List.set_cons_zero, List.set_cons_succ]
      have bC := bC'
      refine wpAnyH_ready (rs := [3]) (by kernel_rfl) (by simp) ?_
      refine AllReadyH.cons (o := { dst := some 80, op := Op.call { callee := Callee.builtin Builtin.append, args := #[Operand.tmp 77, Operand.tmp 79], argTypes := #[29, 29] }, type := 29, pos := "ref.go:80", after := #[{ on := 0, ground := Ground.data }, { on := 2, ground := Ground.data }], guard := none }) rfl (fun K hK => ?_) AllReadyH.nil
      refine step_append_apv _ (by rfl) (.tmp 77) (.tmp 79) _ (by rfl) putT (ApV.empty (base := _) _) (by rfl)
          (HFL.out.rc.below (bw.trans bC)) (by rfl) HFL.out.len HFL.out.one l3 l4 (Nat.le_refl _) ?_
      intro A1 c1' wA d80
      simp only [Nat.zero_add, List.nil_append] at d80 ⊢
      have hb1 := to80 d80 bC
      have hA0 := at80 (w0 := W) d80 (by intro a ha; cases ha; constructor <;> (try simp) <;> (try omega))
      replace bC := hb1.trans d80.below
      refine hK.out _ _ (by first | exact HKB.out _ bC | exact HKB.out _ bD | exact HKS.out _ _ hHeld) (fun hHeld => ?_)
      clear hK K
      try simp only [Act.put, List.setIfInBounds_toArray, List.set_cons_zero, List.set_cons_succ]
      refine wpAnyH_ready (rs := [9]) (by kernel_rfl) (by simp) ?_
      refine AllReadyH.cons (o := { dst := some 86, op := Op.call { callee := Callee.builtin Builtin.append, args := #[Operand.tmp 83, Operand.tmp 85], argTypes := #[27, 27] }, type := 27, pos := "ref.go:80", after := #[{ on := 6, ground := Ground.data }, { on := 8, ground := Ground.data }, { on := 3, ground := Ground.chain }], guard := none }) rfl (fun K hK => ?_) AllReadyH.nil
      refine step_append_ap2 _ (by rfl) (.tmp 83) (.tmp 85) _ (by rfl) bytesT (Ap.empty (base := _) _) (by rfl)
          (HS.out.step (bw.trans bC)).rb (by rfl) (by rfl) (by omega) (Nat.le_refl _) ?_
      intro A2 c2' wB d86 o86
      simp only [Nat.zero_add, List.nil_append] at d86 o86 ⊢
      have hbA := to86 (w0 := wA) d86 (Bl.refl _)
      have hA0' := at86 (w0 := W) d86 (by intro a ha; cases ha; have := (hb1.trans d80.below).size; simp at this ⊢; try omega)
      replace bC := bC.trans d86.below
      refine hK.out _ _ (by first | exact HKB.out _ bC | exact HKB.out _ bD | exact HKS.out _ _ hHeld) (fun hHeld => ?_)
      clear hK K
      try simp only [Act.put, List.setIfInBounds_toArray, List.set_cons_zero, List.set_cons_succ]
      refine wpAnyH_take (i := 10) (oi := { dst := some 87, op := Op.build 60 #[(0, Operand.tmp 82), (1, Operand.tmp 86)], type := 60, pos := "ref.go:80", after := #[{ on := 5, ground := Ground.data }, { on := 9, ground := Ground.data }], guard := none }) (v := ?_) rfl (by kernel_rfl) (by kernel_rfl) (by kernel_rfl) (fun _ _ _ h => h) (Or.inl ⟨by rfl, ?_⟩) hHeld ?_
      rotate_left
      · intro w' hSw
        obtain ⟨s1, s2⟩ := hSw
        go_simp
        with_reducible rfl
      try simp only [Act.put, List.setIfInBounds_toArray, List.set_cons_zero, List.set_cons_succ]
      refine wpAnyH_ready (rs := [11]) (by kernel_rfl) (by simp) ?_
      refine AllReadyH.cons (o := { dst := some 88, op := Op.buildSlice 29 1 #[(0, Operand.tmp 87)], type := 29, pos := "ref.go:80", after := #[{ on := 10, ground := Ground.data }], guard := none }) rfl (fun K hK => ?_) AllReadyH.nil
      go_simp
      have bC' := bC.trans (Bl.alloc _ (.cells #[.int .i64 (k : Int), .slice A2 l.length c2'] 60))
      refine hK.out _ _ (HKB.out _ bC') (fun hHeld => ?_)
      clear hK K bC'
      try simp only [Act.put, List.setIfInBounds_toArray, List.set_cons_zero, List.set_cons_succ]
      refine wpAnyH_ready (rs := [12]) (by kernel_rfl) (by simp) ?_
      refine AllReadyH.cons (o := { dst := some 89, op := Op.call { callee := Callee.builtin Builtin.append, args := #[Operand.tmp 80, Operand.tmp 88], argTypes := #[29, 29] }, type := 29, pos := "ref.go:80", after := #[{ on := 3, ground := Ground.data }, { on := 11, ground := Ground.data }, { on := 9, ground := Ground.chain }], guard := none }) rfl (fun K hK => ?_) AllReadyH.nil
      refine step_append_apv _ (by rfl) (.tmp 80) (.tmp 88) _ (by rfl) putT (d80.ap.keep ((hbA.trans d86.below).trans (Bl.alloc _ _))) (by rfl)
          (RC.two _ _ _ _) (by rfl) (by rfl) (by intro u hu; simp at hu; rcases hu with hu | hu <;> subst hu <;> rfl) l1 l2 (((Bl.trans d80.below hbA).trans d86.below).trans (Bl.alloc _ _)).size ?_
      intro A3 c3' wD d89
      have bD := Below.trans (bC.trans (Bl.alloc _ _)) (d89.below.mono hb1.size)
      have e64 := Bl.some' bD c64
      have f64 := (World.frozen?_of_block (a := ⟨w.heap.size, 64, none⟩) (bD.block w.heap.size g1)).trans Z64.out
      refine hK.out _ _ (by first | exact HKB.out _ bC | exact HKB.out _ bD | exact HKS.out _ _ hHeld) (fun hHeld => ?_)
      clear hK K
      try simp only [Act.put, List.setIfInBounds_toArray, List.set_cons_zero, List.set_cons_succ]
      refine wpAnyH_take (i := 13) (oi := { dst := some 90, op := Op.fieldAddr 31 (Operand.tmp 2) 1, type := 0, pos := "ref.go:80", after := #[{ on := 0, ground := Ground.phase }, { on := 1, ground := Ground.phase }, { on := 2, ground := Ground.phase }, { on := 3, ground := Ground.phase }, { on := 4, ground := Ground.phase }, { on := 5, ground := Ground.phase }, { on := 6, ground := Ground.phase }, { on := 7, ground := Ground.phase }, { on := 8, ground := Ground.phase }, { on := 9, ground := Ground.phase }, { on := 10, ground := Ground.phase }, { on := 11, ground := Ground.phase }, { on := 12, ground := Ground.phase }], guard := none }) (v := ?_) rfl (by kernel_rfl) (by kernel_rfl) (by kernel_rfl) (fun _ _ _ h => h) (Or.inl ⟨by rfl, ?_⟩) hHeld ?_
      rotate_left
      · intro w' hSw
        obtain ⟨s1, s2⟩ := hSw
        go_simp
        with_reducible rfl
      try simp only [Act.put, List.setIfInBounds_toArray, List.set_cons_zero, List.set_cons_succ]
      refine wpAnyH_ready (rs := [14]) (by kernel_rfl) (by simp) ?_
      refine AllReadyH.cons (o := { dst := none, op := Op.store 29 (Operand.tmp 90) (Operand.tmp 89), type := 0, pos := "ref.go:80", after := #[{ on := 13, ground := Ground.data }, { on := 12, ground := Ground.data }, { on := 12, ground := Ground.chain }, { on := 0, ground := Ground.phase }, { on := 1, ground := Ground.phase }, { on := 2, ground := Ground.phase }, { on := 3, ground := Ground.phase }, { on := 4, ground := Ground.phase }, { on := 5, ground := Ground.phase }, { on := 6, ground := Ground.phase }, { on := 7, ground := Ground.phase }, { on := 8, ground := Ground.phase }, { on := 9, ground := Ground.phase }, { on := 10, ground := Ground.phase }, { on := 11, ground := Ground.phase }, { on := 12, ground := Ground.phase }], guard := none }) rfl (fun K hK => ?_) AllReadyH.nil
      go_simp
      refine hK.out _ _ (by first | exact HKB.out _ bC | exact HKB.out _ bD | exact HKS.out _ _ hHeld) (fun hHeld => ?_)
      clear hK K
      try simp only [Act.put, List.setIfInBounds_toArray, List.set_cons_zero, List.set_cons_succ]
      refine wpAnyH_done (by kernel_rfl) ?_ _
      refine NoPanic.normal ?_
      have hsz := HSZ.out
      obtain ⟨Wc, hWc, b4, b5, hrd, hq1, hqs, hsz4⟩ := do_write_end (k := k) (l := l) (tp := 60) (dn := D.down) HH.out HR.out HFL.out bw (by omega) hb1 hA0 d80 hbA hA0' d86 o86 d89 (by rw [← HCS.out]; exact HQ1.out)
      have f3 := hqs _ _ _ (by omega) (by omega) HQ3.out
      have f4 := hqs _ _ _ (by omega) (by omega) HQ4.out
      obtain ⟨cz, hcz⟩ : ∃ cz, cz = rdc rs (.slice A3 (D.waits.length + 1) c3') D.down := ⟨_, rfl⟩
      have hcl : cz.length = 66 := by rw [hcz, rdc_len hrd.lr]
      have ho := rdc_one (n := D.waits.length + 1) hrd D.down
      rw [← hcz] at ho hq1
      obtain ⟨W1, W2, hW1, hW2, t1, t2, t3, hout⟩ := do_end (b := []) (k := 0) HH.out b4 (by omega) hrd (SLs.nil_ _ _) (fun a h => by cases h) f3 (by simp [HZL.out]) f4 rfl cz (by rw [hcz]; simp)
      have y0 := t1.cell 0; have y1 := t1.cell 1; have y2 := t1.frozen 0; have y3 := t1.frozen 1
      simp only [List.getElem?_toArray, List.getElem?_cons_zero, List.getElem?_cons_succ] at y0 y1
      have X1 := Lib.hid (And.intro y0 (And.intro y1 (And.intro y2 y3)))
      have T2 := Lib.hid t2; have T4 := Lib.hid t3; have HOUT := Lib.hid hout; have HW1 := Lib.hid hW1; have HWc := Lib.hid hWc
      have HW2 := Lib.hid (show W2 = (W1.setCell ⟨w.heap.size + 1 + 1 + 1, 0, none⟩ (.slice none 0 0)).setCell ⟨w.heap.size + 1 + 1 + 1, 1, none⟩ (.int .i64 0) from hW2)
      have R1 := Lib.hid hq1.rangeL
      have T3 := Lib.hid (f3.there (o := 0) (n := cz.toArray.size) (by simp [hcl, HZL.out]))
      have HCL := Lib.hid hcl
      have HO := Lib.hid ho
      rw [← hWc]
      clear b4 b5 hrd hq1 hqs hsz4 f3 f4 hcz hcl ho hout t1 t2 t3 hW1 hW2 y0 y1 y2 y3 e64 f64 bD d89 d86 o86 d80 hbA hA0' hb1 hA0 bC bw g1 g2 c1 c2 c64 c64a c64b hsz hWc
      go_wp2_with (first
        | (refine wpList_load_mid rfl 31 (.tmp 2) (by rfl) w.heap.size 0 (by rfl) cz _ R1.out Try.underlying31 rdc_isRow (by rw [size_rdc, HCL.out]) ?_)
        | (refine wpList_store_mid rfl 31 (.tmp 4) (.tmp 91) (by rfl) (w.heap.size + 2) 0 cz.toArray (by rfl) (by rfl) T3.out (by rw [size_rdc, List.size_toArray, HCL.out]) HO.out ?_; rw [show (Wc.setCells (w.heap.size + 2) 0 cz.toArray.toList) = W1 from HW1.out.symm]; obtain ⟨y0, y1, y2, y3⟩ := X1.out))
      rw [← HW2.out]
      exact do_ret HCL.out T2.out T4.out rfl rfl rfl HOUT.out
    refine AllReadyH.cons (o := { dst := some 83, op := Op.buildSlice 27 0 #[], type := 27, pos := "ref.go:80", after := #[], guard := none }) rfl (fun K hK => ?_) AllReadyH.nil
    go_simp
    have bC' := bC.trans (Bl.alloc _ (.cells #[] 5))
    refine hK.out _ _ (HKB.out _ bC') (fun hHeld => ?_)
    clear hK K
    try simp only [Act.put, List.setIfInBounds_toArray, List.set_cons_zero, List.set_cons_succ]
    have bC := bC'
    refine wpAnyH_ready (rs := [0]) (by kernel_rfl) (by simp) ?_
    refine AllReadyH.cons (o := { dst := some 77, op := Op.buildSlice 29 0 #[], type := 29, pos := "ref.go:80", after := #[], guard := none }) rfl (fun K hK => ?_) AllReadyH.nil
    go_simp
    have bC' := bC.trans (Bl.alloc _ (.cells #[] 60))
    refine hK.out _ _ (HKB.out _ bC') (fun hHeld => ?_)
    clear hK K
    try simp only [Act.put, List.setIfInBounds_toArray, List.set_cons_zero, List.set_cons_succ]
    have bC := bC'
    refine wpAnyH_ready (rs := [3]) (by kernel_rfl) (by simp) ?_
    refine AllReadyH.cons (o := { dst := some 80, op := Op.call { callee := Callee.builtin Builtin.append, args := #[Operand.tmp 77, Operand.tmp 79], argTypes := #[29, 29] }, type := 29, pos := "ref.go:80", after := #[{ on := 0, ground := Ground.data }, { on := 2, ground := Ground.data }], guard := none }) rfl (fun K hK => ?_) AllReadyH.nil
    refine step_append_apv _ (by rfl) (.tmp 77) (.tmp 79) _ (by rfl) putT (ApV.empty (base := _) _) (by rfl)
        (HFL.out.rc.below (bw.trans bC)) (by rfl) HFL.out.len HFL.out.one l3 l4 (Nat.le_refl _) ?_
    intro A1 c1' wA d80
    simp only [Nat.zero_add, List.nil_append] at d80 ⊢
    have hb1 := to80 d80 bC
    have hA0 := at80 (w0 := W) d80 (by intro a ha; cases ha; constructor <;> (try simp) <;> (try omega))
    replace bC := hb1.trans d80.below
    refine hK.out _ _ (by first | exact HKB.out _ bC | exact HKB.out _ bD | exact HKS.out _ _ hHeld) (fun hHeld => ?_)
    clear hK K
    try simp only [Act.put, List.setIfInBounds_toArray, List.set_cons_zero, List.set_cons_succ]
    refine wpAnyH_ready (rs := [9]) (by kernel_rfl) (by simp) ?_
    refine AllReadyH.cons (o := { dst := some 86, op := Op.call { callee := Callee.builtin Builtin.append, args := #[Operand.tmp 83, Operand.tmp 85], argTypes := #[27, 27] }, type := 27, pos := "ref.go:80", after := #[{ on := 6, ground := Ground.data }, { on := 8, ground := Ground.data }, { on := 3, ground := Ground.chain }], guard := none }) rfl (fun K hK => ?_) AllReadyH.nil
    refine step_append_ap2 _ (by rfl) (.tmp 83) (.tmp 85) _ (by rfl) bytesT (Ap.empty (base := _) _) (by rfl)
        (HS.out.step (bw.trans bC)).rb (by rfl) (by rfl) (by omega) (Nat.le_refl _) ?_
    intro A2 c2' wB d86 o86
    simp only [Nat.zero_add, List.nil_append] at d86 o86 ⊢
    have hbA := to86 (w0 := wA) d86 (Bl.refl _)
    have hA0' := at86 (w0 := W) d86 (by intro a ha; cases ha; have := (hb1.trans d80.below).size; simp at this ⊢; try omega)
    replace bC := bC.trans d86.below
    refine hK.out _ _ (by first | exact HKB.out _ bC | exact HKB.out _ bD | exact HKS.out _ _ hHeld) (fun hHeld => ?_)
    clear hK K
    try simp only [Act.put, List.setIfInBounds_toArray, List.set_cons_zero, List.set_cons_succ]
    refine wpAnyH_take (i := 10) (oi := { dst := some 87, op := Op.build 60 #[(0, Operand.tmp 82), (1, Operand.tmp 86)], type := 60, pos := "ref.go:80", after := #[{ on := 5, ground := Ground.data }, { on := 9, ground := Ground.data }], guard := none }) (v := ?_) rfl (by kernel_rfl) (by kernel_rfl) (by kernel_rfl) (fun _ _ _ h => h) (Or.inl ⟨by rfl, ?_⟩) hHeld ?_
    rotate_left
    · intro w' hSw
      obtain ⟨s1, s2⟩ := hSw
      go_simp
      with_reducible rfl
    try simp only [Act.put, List.setIfInBounds_toArray, List.set_cons_zero, List.set_cons_succ]
    refine wpAnyH_ready (rs := [11]) (by kernel_rfl) (by simp) ?_
    refine AllReadyH.cons (o := { dst := some 88, op := Op.buildSlice 29 1 #[(0, Operand.tmp 87)], type := 29, pos := "ref.go:80", after := #[{ on := 10, ground := Ground.data }], guard := none }) rfl (fun K hK => ?_) AllReadyH.nil
    go_simp
    have bC' := bC.trans (Bl.alloc _ (.cells #[.int .i64 (k : Int), .slice A2 l.length c2'] 60))
    refine hK.out _ _ (HKB.out _ bC') (fun hHeld => ?_)
    clear hK K bC'
    try simp only [Act.put, List.setIfInBounds_toArray, List.set_cons_zero, List.set_cons_succ]
    refine wpAnyH_ready (rs := [12]) (by kernel_rfl) (by simp) ?_
    refine AllReadyH.cons (o := { dst := some 89, op := Op.call { callee := Callee.builtin Builtin.append, args := #[Operand.tmp 80, Operand.tmp 88], argTypes := #[29, 29] }, type := 29, pos := "ref.go:80", after := #[{ on := 3, ground := Ground.data }, { on := 11, ground := Ground.data }, { on := 9, ground := Ground.chain }], guard := none }) rfl (fun K hK => ?_) AllReadyH.nil
    refine step_append_apv _ (by rfl) (.tmp 80) (.tmp 88) _ (by rfl) putT (d80.ap.keep ((hbA.trans d86.below).trans (Bl.alloc _ _))) (by rfl)
        (RC.two _ _ _ _) (by rfl) (by rfl) (by intro u hu; simp at hu; rcases hu with hu | hu <;> subst hu <;> rfl) l1 l2 (((Bl.trans d80.below hbA).trans d86.below).trans (Bl.alloc _ _)).size ?_
    intro A3 c3' wD d89
    have bD := Below.trans (bC.trans (Bl.alloc _ _)) (d89.below.mono hb1.size)
    have e64 := Bl.some' bD c64
    have f64 := (World.frozen?_of_block (a := ⟨w.heap.size, 64, none⟩) (bD.block w.heap.size g1)).trans Z64.out
    refine hK.out _ _ (by first | exact HKB.out _ bC | exact HKB.out _ bD | exact HKS.out _ _ hHeld) (fun hHeld => ?_)
    clear hK K
    try simp only [Act.put, List.setIfInBounds_toArray, List.set_cons_zero, List.set_cons_succ]
    refine wpAnyH_take (i := 13) (oi := { dst := some 90, op := Op.fieldAddr 31 (Operand.tmp 2) 1, type := 0, pos := "ref.go:80", after := #[{ on := 0, ground := Ground.phase }, { on := 1, ground := Ground.phase }, { on := 2, ground := Ground.phase }, { on := 3, ground := Ground.phase }, { on := 4, ground := Ground.phase }, { on := 5, ground := Ground.phase }, { on := 6, ground := Ground.phase }, { on := 7, ground := Ground.phase }, { on := 8, ground := Ground.phase }, { on := 9, ground := Ground.phase }, { on := 10, ground := Ground.phase }, { on := 11, ground := Ground.phase }, { on := 12, ground := Ground.phase }], guard := none }) (v := ?_) rfl (by kernel_rfl) (by kernel_rfl) (by kernel_rfl) (fun _ _ _ h => h) (Or.inl ⟨by rfl, ?_⟩) hHeld ?_
    rotate_left
    · intro w' hSw
      obtain ⟨s1, s2⟩ := hSw
      go_simp
      with_reducible rfl
    try simp only [Act.put, List.setIfInBounds_toArray, List.set_cons_zero, List.set_cons_succ]
    refine wpAnyH_ready (rs := [14]) (by kernel_rfl) (by simp) ?_
    refine AllReadyH.cons (o := { dst := none, op := Op.store 29 (Operand.tmp 90) (Operand.tmp 89), type := 0, pos := "ref.go:80", after := #[{ on := 13, ground := Ground.data }, { on := 12, ground := Ground.data }, { on := 12, ground := Ground.chain }, { on := 0, ground := Ground.phase }, { on := 1, ground := Ground.phase }, { on := 2, ground := Ground.phase }, { on := 3, ground := Ground.phase }, { on := 4, ground := Ground.phase }, { on := 5, ground := Ground.phase }, { on := 6, ground := Ground.phase }, { on := 7, ground := Ground.phase }, { on := 8, ground := Ground.phase }, { on := 9, ground := Ground.phase }, { on := 10, ground := Ground.phase }, { on := 11, ground := Ground.phase }, { on := 12, ground := Ground.phase }], guard := none }) rfl (fun K hK => ?_) AllReadyH.nil
    go_simp
    refine hK.out _ _ (by first | exact HKB.out _ bC | exact HKB.out _ bD | exact HKS.out _ _ hHeld) (fun hHeld => ?_)
    clear hK K
    try simp only [Act.put, List.setIfInBounds_toArray, List.set_cons_zero, List.set_cons_succ]
    refine wpAnyH_done (by kernel_rfl) ?_ _
    refine NoPanic.normal ?_
    have hsz := HSZ.out
    obtain ⟨Wc, hWc, b4, b5, hrd, hq1, hqs, hsz4⟩ := do_write_end (k := k) (l := l) (tp := 60) (dn := D.down) HH.out HR.out HFL.out bw (by omega) hb1 hA0 d80 hbA hA0' d86 o86 d89 (by rw [← HCS.out]; exact HQ1.out)
    have f3 := hqs _ _ _ (by omega) (by omega) HQ3.out
    have f4 := hqs _ _ _ (by omega) (by omega) HQ4.out
    obtain ⟨cz, hcz⟩ : ∃ cz, cz = rdc rs (.slice A3 (D.waits.length + 1) c3') D.down := ⟨_, rfl⟩
    have hcl : cz.length = 66 := by rw [hcz, rdc_len hrd.lr]
    have ho := rdc_one (n := D.waits.length + 1) hrd D.down
    rw [← hcz] at ho hq1
    obtain ⟨W1, W2, hW1, hW2, t1, t2, t3, hout⟩ := do_end (b := []) (k := 0) HH.out b4 (by omega) hrd (SLs.nil_ _ _) (fun a h => by cases h) f3 (by simp [HZL.out]) f4 rfl cz (by rw [hcz]; simp)
    have y0 := t1.cell 0; have y1 := t1.cell 1; have y2 := t1.frozen 0; have y3 := t1.frozen 1
    simp only [List.getElem?_toArray, List.getElem?_cons_zero, List.getElem?_cons_succ] at y0 y1
    have X1 := Lib.hid (And.intro y0 (And.intro y1 (And.intro y2 y3)))
    have T2 := Lib.hid t2; have T4 := Lib.hid t3; have HOUT := Lib.hid hout; have HW1 := Lib.hid hW1; have HWc := Lib.hid hWc
    have HW2 := Lib.hid (show W2 = (W1.setCell ⟨w.heap.size + 1 + 1 + 1, 0, none⟩ (.slice none 0 0)).setCell ⟨w.heap.size + 1 + 1 + 1, 1, none⟩ (.int .i64 0) from hW2)
    have R1 := Lib.hid hq1.rangeL
    have T3 := Lib.hid (f3.there (o := 0) (n := cz.toArray.size) (by simp [hcl, HZL.out]))
    have HCL := Lib.hid hcl
    have HO := Lib.hid ho
    rw [← hWc]
    clear b4 b5 hrd hq1 hqs hsz4 f3 f4 hcz hcl ho hout t1 t2 t3 hW1 hW2 y0 y1 y2 y3 e64 f64 bD d89 d86 o86 d80 hbA hA0' hb1 hA0 bC bw g1 g2 c1 c2 c64 c64a c64b hsz hWc
    go_wp2_with (first
      | (refine wpList_load_mid rfl 31 (.tmp 2) (by rfl) w.heap.size 0 (by rfl) cz _ R1.out Try.underlying31 rdc_isRow (by rw [size_rdc, HCL.out]) ?_)
      | (refine wpList_store_mid rfl 31 (.tmp 4) (.tmp 91) (by rfl) (w.heap.size + 2) 0 cz.toArray (by rfl) (by rfl) T3.out (by rw [size_rdc, List.size_toArray, HCL.out]) HO.out ?_; rw [show (Wc.setCells (w.heap.size + 2) 0 cz.toArray.toList) = W1 from HW1.out.symm]; obtain ⟨y0, y1, y2, y3⟩ := X1.out))
    rw [← HW2.out]
    exact do_ret HCL.out T2.out T4.out rfl rfl rfl HOUT.out
  refine AllReadyH.cons (o := { dst := some 83, op := Op.buildSlice 27 0 #[], type := 27, pos := "ref.go:80", after := #[], guard := none }) rfl (fun K hK => ?_) AllReadyH.nil
  go_simp
  have bC' := bC.trans (Bl.alloc _ (.cells #[] 5))
  refine hK.out _ _ (HKB.out _ bC') (fun hHeld => ?_)
  clear hK K
  try simp only [Act.put, List.setIfInBounds_toArray, List.set_cons_zero, List.set_cons_succ]
  have bC := bC'
  refine wpAnyH_ready (rs := [0, 2]) (by kernel_rfl) (by simp) ?_
  refine AllReadyH.cons (o := { dst := some 77, op := Op.buildSlice 29 0 #[], type := 29, pos := "ref.go:80", after := #[], guard := none }) rfl (fun K hK => ?_) ?_
  · skip
    go_simp
    have bC' := bC.trans (Bl.alloc _ (.cells #[] 60))
    refine hK.out _ _ (HKB.out _ bC') (fun hHeld => ?_)
    clear hK K
    try simp only [Act.put, List.setIfInBounds_toArray, List.set_cons_zero, List.set_cons_succ]
    have bC := bC'
    refine wpAnyH_ready (rs := [2]) (by kernel_rfl) (by simp) ?_
    refine AllReadyH.cons (o := { dst := some 79, op := Op.load 29 (Operand.tmp 78), type := 29, pos := "ref.go:80", after := #[{ on := 1, ground := Ground.data }], guard := none }) rfl (fun K hK => ?_) AllReadyH.nil
    go_simp
    refine hK.out _ _ (by first | exact HKB.out _ bC | exact HKB.out _ bD | exact HKS.out _ _ hHeld) (fun hHeld => ?_)
    clear hK K
    try simp only [Act.put, List.setIfInBounds_toArray, List.set_cons_zero, List.set_cons_succ]
    refine wpAnyH_ready (rs := [3]) (by kernel_rfl) (by simp) ?_
    refine AllReadyH.cons (o := { dst := some 80, op := Op.call { callee := Callee.builtin Builtin.append, args := #[Operand.tmp 77, Operand.tmp 79], argTypes := #[29, 29] }, type := 29, pos := "ref.go:80", after := #[{ on := 0, ground := Ground.data }, { on := 2, ground := Ground.data }], guard := none }) rfl (fun K hK => ?_) AllReadyH.nil
    refine step_append_apv _ (by rfl) (.tmp 77) (.tmp 79) _ (by rfl) putT (ApV.empty (base := _) _) (by rfl)
        (HFL.out.rc.below (bw.trans bC)) (by rfl) HFL.out.len HFL.out.one l3 l4 (Nat.le_refl _) ?_
    intro A1 c1' wA d80
    simp only [Nat.zero_add, List.nil_append] at d80 ⊢
    have hb1 := to80 d80 bC
    have hA0 := at80 (w0 := W) d80 (by intro a ha; cases ha; constructor <;> (try simp) <;> (try omega))
    replace bC := hb1.trans d80.below
    refine hK.out _ _ (by first | exact HKB.out _ bC | exact HKB.out _ bD | exact HKS.out _ _ hHeld) (fun hHeld => ?_)
    clear hK K
    try simp only [Act.put, List.setIfInBounds_toArray, List.set_cons_zero, List.set_cons_succ]
    refine wpAnyH_ready (rs := [9]) (by kernel_rfl) (by simp) ?_
    refine AllReadyH.cons (o := { dst := some 86, op := Op.call { callee := Callee.builtin Builtin.append, args := #[Operand.tmp 83, Operand.tmp 85], argTypes := #[27, 27] }, type := 27, pos := "ref.go:80", after := #[{ on := 6, ground := Ground.data }, { on := 8, ground := Ground.data }, { on := 3, ground := Ground.chain }], guard := none }) rfl (fun K hK => ?_) AllReadyH.nil
    refine step_append_ap2 _ (by rfl) (.tmp 83) (.tmp 85) _ (by rfl) bytesT (Ap.empty (base := _) _) (by rfl)
        (HS.out.step (bw.trans bC)).rb (by rfl) (by rfl) (by omega) (Nat.le_refl _) ?_
    intro A2 c2' wB d86 o86
    simp only [Nat.zero_add, List.nil_append] at d86 o86 ⊢
    have hbA := to86 (w0 := wA) d86 (Bl.refl _)
    have hA0' := at86 (w0 := W) d86 (by intro a ha; cases ha; have := (hb1.trans d80.below).size; simp at this ⊢; try omega)
    replace bC := bC.trans d86.below
    refine hK.out _ _ (by first | exact HKB.out _ bC | exact HKB.out _ bD | exact HKS.out _ _ hHeld) (fun hHeld => ?_)
    clear hK K
    try simp only [Act.put, List.setIfInBounds_toArray, List.set_cons_zero, List.set_cons_succ]
    refine wpAnyH_take (i := 10) (oi := { dst := some 87, op := Op.build 60 #[(0, Operand.tmp 82), (1, Operand.tmp 86)], type := 60, pos := "ref.go:80", after := #[{ on := 5, ground := Ground.data }, { on := 9, ground := Ground.data }], guard := none }) (v := ?_) rfl (by kernel_rfl) (by kernel_rfl) (by kernel_rfl) (fun _ _ _ h => h) (Or.inl ⟨by rfl, ?_⟩) hHeld ?_
    rotate_left
    · intro w' hSw
      obtain ⟨s1, s2⟩ := hSw
      go_simp
      with_reducible rfl
    try simp only [Act.put, List.setIfInBounds_toArray, List.set_cons_zero, List.set_cons_succ]
    refine wpAnyH_ready (rs := [11]) (by kernel_rfl) (by simp) ?_
    refine AllReadyH.cons (o := { dst := some 88, op := Op.buildSlice 29 1 #[(0, Operand.tmp 87)], type := 29, pos := "ref.go:80", after := #[{ on := 10, ground := Ground.data }], guard := none }) rfl (fun K hK => ?_) AllReadyH.nil
    go_simp
    have bC' := bC.trans (Bl.alloc _ (.cells #[.int .i64 (k : Int), .slice A2 l.length c2'] 60))
    refine hK.out _ _ (HKB.out _ bC') (fun hHeld => ?_)
    clear hK K bC'
    try simp only [Act.put, List.setIfInBounds_toArray, List.set_cons_zero, List.set_cons_succ]
    refine wpAnyH_ready (rs := [12]) (by kernel_rfl) (by simp) ?_
    refine AllReadyH.cons (o := { dst := some 89, op := Op.call { callee := Callee.builtin Builtin.append, args := #[Operand.tmp 80, Operand.tmp 88], argTypes := #[29, 29] }, type := 29, pos := "ref.go:80", after := #[{ on := 3, ground := Ground.data }, { on := 11, ground := Ground.data }, { on := 9, ground := Ground.chain }], guard := none }) rfl (fun K hK => ?_) AllReadyH.nil
    refine step_append_apv _ (by rfl) (.tmp 80) (.tmp 88) _ (by rfl) putT (d80.ap.keep ((hbA.trans d86.below).trans (Bl.alloc _ _))) (by rfl)
        (RC.two _ _ _ _) (by rfl) (by rfl) (by intro u hu; simp at hu; rcases hu with hu | hu <;> subst hu <;> rfl) l1 l2 (((Bl.trans d80.below hbA).trans d86.below).trans (Bl.alloc _ _)).size ?_
    intro A3 c3' wD d89
    have bD := Below.trans (bC.trans (Bl.alloc _ _)) (d89.below.mono hb1.size)
    have e64 := Bl.some' bD c64
    have f64 := (World.frozen?_of_block (a := ⟨w.heap.size, 64, none⟩) (bD.block w.heap.size g1)).trans Z64.out
    refine hK.out _ _ (by first | exact HKB.out _ bC | exact HKB.out _ bD | exact HKS.out _ _ hHeld) (fun hHeld => ?_)
    clear hK K
    try simp only [Act.put, List.setIfInBounds_toArray, List.set_cons_zero, List.set_cons_succ]
    refine wpAnyH_take (i := 13) (oi := { dst := some 90, op := Op.fieldAddr 31 (Operand.tmp 2) 1, type := 0, pos := "ref.go:80", after := #[{ on := 0, ground := Ground.phase }, { on := 1, ground := Ground.phase }, { on := 2, ground := Ground.phase }, { on := 3, ground := Ground.phase }, { on := 4, ground := Ground.phase }, { on := 5, ground := Ground.phase }, { on := 6, ground := Ground.phase }, { on := 7, ground := Ground.phase }, { on := 8, ground := Ground.phase }, { on := 9, ground := Ground.phase }, { on := 10, ground := Ground.phase }, { on := 11, ground := Ground.phase }, { on := 12, ground := Ground.phase }], guard := none }) (v := ?_) rfl (by kernel_rfl) (by kernel_rfl) (by kernel_rfl) (fun _ _ _ h => h) (Or.inl ⟨by rfl, ?_⟩) hHeld ?_
    rotate_left
    · intro w' hSw
      obtain ⟨s1, s2⟩ := hSw
      go_simp
      with_reducible rfl
    try simp only [Act.put, List.setIfInBounds_toArray, List.set_cons_zero, List.set_cons_succ]
    refine wpAnyH_ready (rs := [14]) (by kernel_rfl) (by simp) ?_
    refine AllReadyH.cons (o := { dst := none, op := Op.store 29 (Operand.tmp 90) (Operand.tmp 89), type := 0, pos := "ref.go:80", after := #[{ on := 13, ground := Ground.data }, { on := 12, ground := Ground.data }, { on := 12, ground := Ground.chain }, { on := 0, ground := Ground.phase }, { on := 1, ground := Ground.phase }, { on := 2, ground := Ground.phase }, { on := 3, ground := Ground.phase }, { on := 4, ground := Ground.phase }, { on := 5, ground := Ground.phase }, { on := 6, ground := Ground.phase }, { on := 7, ground := Ground.phase }, { on := 8, ground := Ground.phase }, { on := 9, ground := Ground.phase }, { on := 10, ground := Ground.phase }, { on := 11, ground := Ground.phase }, { on := 12, ground := Ground.phase }], guard := none }) rfl (fun K hK => ?_) AllReadyH.nil
    go_simp
    refine hK.out _ _ (by first | exact HKB.out _ bC | exact HKB.out _ bD | exact HKS.out _ _ hHeld) (fun hHeld => ?_)
    clear hK K
    try simp only [Act.put, List.setIfInBounds_toArray, List.set_cons_zero, List.set_cons_succ]
    refine wpAnyH_done (by kernel_rfl) ?_ _
    refine NoPanic.normal ?_
    have hsz := HSZ.out
    obtain ⟨Wc, hWc, b4, b5, hrd, hq1, hqs, hsz4⟩ := do_write_end (k := k) (l := l) (tp := 60) (dn := D.down) HH.out HR.out HFL.out bw (by omega) hb1 hA0 d80 hbA hA0' d86 o86 d89 (by rw [← HCS.out]; exact HQ1.out)
    have f3 := hqs _ _ _ (by omega) (by omega) HQ3.out
    have f4 := hqs _ _ _ (by omega) (by omega) HQ4.out
    obtain ⟨cz, hcz⟩ : ∃ cz, cz = rdc rs (.slice A3 (D.waits.length + 1) c3') D.down := ⟨_, rfl⟩
    have hcl : cz.length = 66 := by rw [hcz, rdc_len hrd.lr]
    have ho := rdc_one (n := D.waits.length + 1) hrd D.down
    rw [← hcz] at ho hq1
    obtain ⟨W1, W2, hW1, hW2, t1, t2, t3, hout⟩ := do_end (b := []) (k := 0) HH.out b4 (by omega) hrd (SLs.nil_ _ _) (fun a h => by cases h) f3 (by simp [HZL.out]) f4 rfl cz (by rw [hcz]; simp)
    have y0 := t1.cell 0; have y1 := t1.cell 1; have y2 := t1.frozen 0; have y3 := t1.frozen 1
    simp only [List.getElem?_toArray, List.getElem?_cons_zero, List.getElem?_cons_succ] at y0 y1
    have X1 := Lib.hid (And.intro y0 (And.intro y1 (And.intro y2 y3)))
    have T2 := Lib.hid t2; have T4 := Lib.hid t3; have HOUT := Lib.hid hout; have HW1 := Lib.hid hW1; have HWc := Lib.hid hWc
    have HW2 := Lib.hid (show W2 = (W1.setCell ⟨w.heap.size + 1 + 1 + 1, 0, none⟩ (.slice none 0 0)).setCell ⟨w.heap.size + 1 + 1 + 1, 1, none⟩ (.int .i64 0) from hW2)
    have R1 := Lib.hid hq1.rangeL
    have T3 := Lib.hid (f3.there (o := 0) (n := cz.toArray.size) (by simp [hcl, HZL.out]))
    have HCL := Lib.hid hcl
    have HO := Lib.hid ho
    rw [← hWc]
    clear b4 b5 hrd hq1 hqs hsz4 f3 f4 hcz hcl ho hout t1 t2 t3 hW1 hW2 y0 y1 y2 y3 e64 f64 bD d89 d86 o86 d80 hbA hA0' hb1 hA0 bC bw g1 g2 c1 c2 c64 c64a c64b hsz hWc
    go_wp2_with (first
      | (refine wpList_load_mid rfl 31 (.tmp 2) (by rfl) w.heap.size 0 (by rfl) cz _ R1.out Try.underlying31 rdc_isRow (by rw [size_rdc, HCL.out]) ?_)
      | (refine wpList_store_mid rfl 31 (.tmp 4) (.tmp 91) (by rfl) (w.heap.size + 2) 0 cz.toArray (by rfl) (by rfl) T3.out (by rw [size_rdc, List.size_toArray, HCL.out]) HO.out ?_; rw [show (Wc.setCells (w.heap.size + 2) 0 cz.toArray.toList) = W1 from HW1.out.symm]; obtain ⟨y0, y1, y2, y3⟩ := X1.out))
    rw [← HW2.out]
    exact do_ret HCL.out T2.out T4.out rfl rfl rfl HOUT.out
  refine AllReadyH.cons (o := { dst := some 79, op := Op.load 29 (Operand.tmp 78), type := 29, pos := "ref.go:80", after := #[{ on := 1, ground := Ground.data }], guard := none }) rfl (fun K hK => ?_) AllReadyH.nil
  go_simp
  refine hK.out _ _ (by first | exact HKB.out _ bC | exact HKB.out _ bD | exact HKS.out _ _ hHeld) (fun hHeld => ?_)
  clear hK K
  try simp only [Act.put, List.setIfInBounds_toArray, List.set_cons_zero, List.set_cons_succ]
  refine wpAnyH_ready (rs := [0]) (by kernel_rfl) (by simp) ?_
  refine AllReadyH.cons (o := { dst := some 77, op := Op.buildSlice 29 0 #[], type := 29, pos := "ref.go:80", after := #[], guard := none }) rfl (fun K hK => ?_) AllReadyH.nil
  go_simp
  have bC' := bC.trans (Bl.alloc _ (.cells #[] 60))
  refine hK.out _ _ (HKB.out _ bC') (fun hHeld => ?_)
  clear hK K
  try simp only [Act.put, List.setIfInBounds_toArray, List.set_cons_zero, List.set_cons_succ]
  have bC := bC'
  refine wpAnyH_ready (rs := [3]) (by kernel_rfl) (by simp) ?_
  refine AllReadyH.cons (o := { dst := some 80, op := Op.call { callee := Callee.builtin Builtin.append, args := #[Operand.tmp 77, Operand.tmp 79], argTypes := #[29, 29] }, type := 29, pos := "ref.go:80", after := #[{ on := 0, ground := Ground.data }, { on := 2, ground := Ground.data }], guard := none }) rfl (fun K hK => ?_) AllReadyH.nil
  refine step_append_apv _ (by rfl) (.tmp 77) (.tmp 79) _ (by rfl) putT (ApV.empty (base := _) _) (by rfl)
      (HFL.out.rc.below (bw.trans bC)) (by rfl) HFL.out.len HFL.out.one l3 l4 (Nat.le_refl _) ?_
  intro A1 c1' wA d80
  simp only [Nat.zero_add, List.nil_append] at d80 ⊢
  have hb1 := to80 d80 bC
  have hA0 := at80 (w0 := W) d80 (by intro a ha; cases ha; constructor <;> (try simp) <;> (try omega))
  replace bC := hb1.trans d80.below
  refine hK.out _ _ (by first | exact HKB.out _ bC | exact HKB.out _ bD | exact HKS.out _ _ hHeld) (fun hHeld => ?_)
  clear hK K
  try simp only [Act.put, List.setIfInBounds_toArray, List.set_cons_zero, List.set_cons_succ]
  refine wpAnyH_ready (rs := [9]) (by kernel_rfl) (by simp) ?_
  refine AllReadyH.cons (o := { dst := some 86, op := Op.call { callee := Callee.builtin Builtin.append, args := #[Operand.tmp 83, Operand.tmp 85], argTypes := #[27, 27] }, type := 27, pos := "ref.go:80", after := #[{ on := 6, ground := Ground.data }, { on := 8, ground := Ground.data }, { on := 3, ground := Ground.chain }], guard := none }) rfl (fun K hK => ?_) AllReadyH.nil
  refine step_append_ap2 _ (by rfl) (.tmp 83) (.tmp 85) _ (by rfl) bytesT (Ap.empty (base := _) _) (by rfl)
      (HS.out.step (bw.trans bC)).rb (by rfl) (by rfl) (by omega) (Nat.le_refl _) ?_
  intro A2 c2' wB d86 o86
  simp only [Nat.zero_add, List.nil_append] at d86 o86 ⊢
  have hbA := to86 (w0 := wA) d86 (Bl.refl _)
  have hA0' := at86 (w0 := W) d86 (by intro a ha; cases ha; have := (hb1.trans d80.below).size; simp at this ⊢; try omega)
  replace bC := bC.trans d86.below
  refine hK.out _ _ (by first | exact HKB.out _ bC | exact HKB.out _ bD | exact HKS.out _ _ hHeld) (fun hHeld => ?_)
  clear hK K
  try simp only [Act.put, List.setIfInBounds_toArray, List.set_cons_zero, List.set_cons_succ]
  refine wpAnyH_take (i := 10) (oi := { dst := some 87, op := Op.build 60 #[(0, Operand.tmp 82), (1, Operand.tmp 86)], type := 60, pos := "ref.go:80", after := #[{ on := 5, ground := Ground.data }, { on := 9, ground := Ground.data }], guard := none }) (v := ?_) rfl (by kernel_rfl) (by kernel_rfl) (by kernel_rfl) (fun _ _ _ h => h) (Or.inl ⟨by rfl, ?_⟩) hHeld ?_
  rotate_left
  · intro w' hSw
    obtain ⟨s1, s2⟩ := hSw
    go_simp
    with_reducible rfl
  try simp only [Act.put, List.setIfInBounds_toArray, List.set_cons_zero, List.set_cons_succ]
  refine wpAnyH_ready (rs := [11]) (by kernel_rfl) (by simp) ?_
  refine AllReadyH.cons (o := { dst := some 88, op := Op.buildSlice 29 1 #[(0, Operand.tmp 87)], type := 29, pos := "ref.go:80", after := #[{ on := 10, ground := Ground.data }], guard := none }) rfl (fun K hK => ?_) AllReadyH.nil
  go_simp
  have bC' := bC.trans (Bl.alloc _ (.cells #[.int .i64 (k : Int), .slice A2 l.length c2'] 60))
  refine hK.out _ _ (HKB.out _ bC') (fun hHeld => ?_)
  clear hK K bC'
  try simp only [Act.put, List.setIfInBounds_toArray, List.set_cons_zero, List.set_cons_succ]
  refine wpAnyH_ready (rs := [12]) (by kernel_rfl) (by simp) ?_
  refine AllReadyH.cons (o := { dst := some 89, op := Op.call { callee := Callee.builtin Builtin.append, args := #[Operand.tmp 80, Operand.tmp 88], argTypes := #[29, 29] }, type := 29, pos := "ref.go:80", after := #[{ on := 3, ground := Ground.data }, { on := 11, ground := Ground.data }, { on := 9, ground := Ground.chain }], guard := none }) rfl (fun K hK => ?_) AllReadyH.nil
  refine step_append_apv _ (by rfl) (.tmp 80) (.tmp 88) _ (by rfl) putT (d80.ap.keep ((hbA.trans d86.below).trans (Bl.alloc _ _))) (by rfl)
      (RC.two _ _ _ _) (by rfl) (by rfl) (by intro u hu; simp at hu; rcases hu with hu | hu <;> subst hu <;> rfl) l1 l2 (((Bl.trans d80.below hbA).trans d86.below).trans (Bl.alloc _ _)).size ?_
  intro A3 c3' wD d89
  have bD := Below.trans (bC.trans (Bl.alloc _ _)) (d89.below.mono hb1.size)
  have e64 := Bl.some' bD c64
  have f64 := (World.frozen?_of_block (a := ⟨w.heap.size, 64, none⟩) (bD.block w.heap.size g1)).trans Z64.out
  refine hK.out _ _ (by first | exact HKB.out _ bC | exact HKB.out _ bD | exact HKS.out _ _ hHeld) (fun hHeld => ?_)
  clear hK K
  try simp only [Act.put, List.setIfInBounds_toArray, List.set_cons_zero, List.set_cons_succ]
  refine wpAnyH_take (i := 13) (oi := { dst := some 90, op := Op.fieldAddr 31 (Operand.tmp 2) 1, type := 0, pos := "ref.go:80", after := #[{ on := 0, ground := Ground.phase }, { on := 1, ground := Ground.phase }, { on := 2, ground := Ground.phase }, { on := 3, ground := Ground.phase }, { on := 4, ground := Ground.phase }, { on := 5, ground := Ground.phase }, { on := 6, ground := Ground.phase }, { on := 7, ground := Ground.phase }, { on := 8, ground := Ground.phase }, { on := 9, ground := Ground.phase }, { on := 10, ground := Ground.phase }, { on := 11, ground := Ground.phase }, { on := 12, ground := Ground.phase }], guard := none }) (v := ?_) rfl (by kernel_rfl) (by kernel_rfl) (by kernel_rfl) (fun _ _ _ h => h) (Or.inl ⟨by rfl, ?_⟩) hHeld ?_
  rotate_left
  · intro w' hSw
    obtain ⟨s1, s2⟩ := hSw
    go_simp
    with_reducible rfl
  try simp only [Act.put, List.setIfInBounds_toArray, List.set_cons_zero, List.set_cons_succ]
  refine wpAnyH_ready (rs := [14]) (by kernel_rfl) (by simp) ?_
  refine AllReadyH.cons (o := { dst := none, op := Op.store 29 (Operand.tmp 90) (Operand.tmp 89), type := 0, pos := "ref.go:80", after := #[{ on := 13, ground := Ground.data }, { on := 12, ground := Ground.data }, { on := 12, ground := Ground.chain }, { on := 0, ground := Ground.phase }, { on := 1, ground := Ground.phase }, { on := 2, ground := Ground.phase }, { on := 3, ground := Ground.phase }, { on := 4, ground := Ground.phase }, { on := 5, ground := Ground.phase }, { on := 6, ground := Ground.phase }, { on := 7, ground := Ground.phase }, { on := 8, ground := Ground.phase }, { on := 9, ground := Ground.phase }, { on := 10, ground := Ground.phase }, { on := 11, ground := Ground.phase }, { on := 12, ground := Ground.phase }], guard := none }) rfl (fun K hK => ?_) AllReadyH.nil
  go_simp
  refine hK.out _ _ (by first | exact HKB.out _ bC | exact HKB.out _ bD | exact HKS.out _ _ hHeld) (fun hHeld => ?_)
  clear hK K
  try simp only [Act.put, List.setIfInBounds_toArray, List.set_cons_zero, List.set_cons_succ]
  refine wpAnyH_done (by kernel_rfl) ?_ _
  refine NoPanic.normal ?_
  have hsz := HSZ.out
  obtain ⟨Wc, hWc, b4, b5, hrd, hq1, hqs, hsz4⟩ := do_write_end (k := k) (l := l) (tp := 60) (dn := D.down) HH.out HR.out HFL.out bw (by omega) hb1 hA0 d80 hbA hA0' d86 o86 d89 (by rw [← HCS.out]; exact HQ1.out)
  have f3 := hqs _ _ _ (by omega) (by omega) HQ3.out
  have f4 := hqs _ _ _ (by omega) (by omega) HQ4.out
  obtain ⟨cz, hcz⟩ : ∃ cz, cz = rdc rs (.slice A3 (D.waits.length + 1) c3') D.down := ⟨_, rfl⟩
  have hcl : cz.length = 66 := by rw [hcz, rdc_len hrd.lr]
  have ho := rdc_one (n := D.waits.length + 1) hrd D.down
  rw [← hcz] at ho hq1
  obtain ⟨W1, W2, hW1, hW2, t1, t2, t3, hout⟩ := do_end (b := []) (k := 0) HH.out b4 (by omega) hrd (SLs.nil_ _ _) (fun a h => by cases h) f3 (by simp [HZL.out]) f4 rfl cz (by rw [hcz]; simp)
  have y0 := t1.cell 0; have y1 := t1.cell 1; have y2 := t1.frozen 0; have y3 := t1.frozen 1
  simp only [List.getElem?_toArray, List.getElem?_cons_zero, List.getElem?_cons_succ] at y0 y1
  have X1 := Lib.hid (And.intro y0 (And.intro y1 (And.intro y2 y3)))
  have T2 := Lib.hid t2; have T4 := Lib.hid t3; have HOUT := Lib.hid hout; have HW1 := Lib.hid hW1; have HWc := Lib.hid hWc
  have HW2 := Lib.hid (show W2 = (W1.setCell ⟨w.heap.size + 1 + 1 + 1, 0, none⟩ (.slice none 0 0)).setCell ⟨w.heap.size + 1 + 1 + 1, 1, none⟩ (.int .i64 0) from hW2)
  have R1 := Lib.hid hq1.rangeL
  have T3 := Lib.hid (f3.there (o := 0) (n := cz.toArray.size) (by simp [hcl, HZL.out]))
  have HCL := Lib.hid hcl
  have HO := Lib.hid ho
  rw [← hWc]
  clear b4 b5 hrd hq1 hqs hsz4 f3 f4 hcz hcl ho hout t1 t2 t3 hW1 hW2 y0 y1 y2 y3 e64 f64 bD d89 d86 o86 d80 hbA hA0' hb1 hA0 bC bw g1 g2 c1 c2 c64 c64a c64b hsz hWc
  go_wp2_with (first
    | (refine wpList_load_mid rfl 31 (.tmp 2) (by rfl) w.heap.size 0 (by rfl) cz _ R1.out Try.underlying31 rdc_isRow (by rw [size_rdc, HCL.out]) ?_)
    | (refine wpList_store_mid rfl 31 (.tmp 4) (.tmp 91) (by rfl) (w.heap.size + 2) 0 cz.toArray (by rfl) (by rfl) T3.out (by rw [size_rdc, List.size_toArray, HCL.out]) HO.out ?_; rw [show (Wc.setCells (w.heap.size + 2) 0 cz.toArray.toList) = W1 from HW1.out.symm]; obtain ⟨y0, y1, y2, y3⟩ := X1.out))
  rw [← HW2.out]
  exact do_ret HCL.out T2.out T4.out rfl rfl rfl HOUT.out
end
end Go.Proofs.Ytmjdmigjhllmeaa
