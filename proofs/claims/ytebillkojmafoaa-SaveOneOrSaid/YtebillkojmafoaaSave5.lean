/- What a save's acts are ranged over by: words. -/
import Derived.Test.YtebillkojmafoaaSave4
namespace Go.Proofs.Ytebillkojmafoaa
open Go.RowKit
set_option linter.unusedVariables false
attribute [local go_sem] Oper.semAt_some

theorem Safe.setCell {p : Nat} {w1 : World} {b g : Nat} (hb : Safe p w1 b) (hs : Safe p w1 g) (i : Nat) (u : Value) : Safe p (w1.setCell ⟨g, i, none⟩ u) b := by
  refine ⟨by simpa [World.setCell] using hb.1, hb.2.1, ?_⟩
  rw [rowOf_of_block (Below.heap_setCell w1 ⟨g, i, none⟩ u p (Ne.symm hs.2.1))]
  exact hb.2.2
theorem new_at (w : World) (t : TypeId) (cs : Array Value) (g : Nat) (hg : g = w.heap.size) : Blk (w.alloc (.cells cs t)) g t cs := by subst hg; exact Blk.new w t cs
theorem roundIn_any {m n l l' : Nat} {P : Program} {f : FuncId} {tmps : Array Value} {assign body : Code} {w : World} {R : Ending → World → Prop} (h : RoundIn Fence.wide m P l f tmps assign body w R) : RoundIn (Fence.wide.inRound l') n P l f tmps assign body w R :=
  ⟨h.1, fun c cs _ => h.2 c cs (fun d hd => by cases hd)⟩
theorem roundIn_any' {m n l : Nat} {P : Program} {f : FuncId} {tmps : Array Value} {assign body : Code} {w : World} {R : Ending → World → Prop} (h : RoundIn Fence.wide m P l f tmps assign body w R) : RoundIn Fence.wide n P l f tmps assign body w R :=
  ⟨h.1, fun c cs _ => h.2 c cs (fun d hd => by cases hd)⟩
/-- f is an act: it turns the disk D into D'. -/
def ActFor (p : Nat) (X S : Nat → Prop) (w : World) (f : Value) (D D' : DS) : Prop :=
  ∃ g lb, f = .func (.func g) #[] lb ∧ (∀ args w, (callFunc g args).run Try.prog w = .ok (.enter g args) w) ∧
    ∀ w', FrS S p w w' → IsDisk p X w' D → Calls Try.prog g lb w' fun e w'' => e = .returned (.tuple #[]) ∧ IsDisk p X w'' D' ∧ Fr p w' w''

/-- A turn of a block that holds no cells. -/
structure Off (w w' : World) (g : Nat) : Prop where
  os : w'.os = w.os
  tape : w'.tape = w.tape
  output : w'.output = w.output
  size : w'.heap.size = w.heap.size
  block : ∀ b, b ≠ g → w'.heap[b]? = w.heap[b]?
  none_ : ∀ cs t fr, w.heap[g]? ≠ some (.cells cs t fr)
theorem Off.put {w : World} {g : Nat} {o : Obj} (h : w.heap[g]? = some o) (ho : o.isCells = false) (o' : Obj) : Off w (w.putObj g o') g :=
  ⟨rfl, rfl, rfl, by simp, fun b hb => World.putObj_heap_other hb, fun cs t fr e => by rw [h] at e; cases e; cases ho⟩
theorem Off.ne {w w' : World} {g : Nat} (h : Off w w' g) {a : Addr} {v : Value} (hc : w.cell? a = some v) : a.block ≠ g := by
  intro e
  obtain ⟨o, ho, hw⟩ : ∃ o : Obj, w.heap[a.block]? = some o ∧ (∃ cs t fr, o = .cells cs t fr) := by
    unfold World.cell? at hc
    cases ho : w.heap[a.block]? with
    | none => simp [ho] at hc
    | some o =>
      rw [ho] at hc
      cases o <;> first | exact ⟨_, rfl, _, _, _, rfl⟩ | (simp at hc)
  obtain ⟨cs, t, fr, rfl⟩ := hw
  rw [e] at ho
  exact h.none_ _ _ _ ho
theorem Off.cell {w w' : World} {g : Nat} (h : Off w w' g) {a : Addr} {v : Value} (hc : w.cell? a = some v) : w'.cell? a = some v := (World.cell?_of_block (h.block _ (h.ne hc))).trans hc
theorem Off.blk {w w' : World} {g : Nat} (h : Off w w' g) {b : Nat} {t : TypeId} {cs : Array Value} (hb : Blk w b t cs) : Blk w' b t cs := by
  have : b ≠ g := fun e => h.none_ _ _ _ (by rw [← e]; exact hb)
  exact (h.block b this).trans hb
theorem Off.sl {w w' : World} {g : Nat} (h : Off w w' g) {A : Option Addr} {c : Nat} {l : List UInt8} (hs : SL w A c l) : SL w' A c l := by
  refine ⟨fun hn => ?_, hs.cap, hs.none_⟩
  obtain ⟨ad, e, hb, hc⟩ := hs.rb hn
  exact ⟨ad, e, by rw [h.size]; exact hb, fun j hj => h.cell (hc j hj)⟩
theorem IsDisk.off {p : Nat} {X : Nat → Prop} {w w' : World} {D : DS} {g : Nat} (hd : IsDisk p X w D) (h : Off w w' g) : IsDisk p X w' D ∧ rowOf w' p = rowOf w p := by
  obtain ⟨vt, vs, fs, A, c, d⟩ := hd
  have hp : p ≠ g := fun e => h.none_ _ _ _ (by rw [← e]; exact d.blk)
  have hrow : rowOf w' p = rowOf w p := rowOf_of_block (h.block p hp)
  have hsafe : ∀ b, Safe p w b → Safe p w' b := fun b hb => ⟨by rw [h.size]; exact hb.1, hb.2.1, by rw [hrow]; exact hb.2.2⟩
  have hsv : ∀ v l, Sv p X w v l → Sv p X w' v l := by
    rintro v l ⟨B, d, e, hs, hx⟩
    exact ⟨B, d, e, ⟨h.sl hs.sl, fun a ha hn => hsafe _ (hs.safe a ha hn)⟩, hx⟩
  have hbox : ∀ b v, Box p w b v → Box p w' b v := fun b v hb => ⟨hsafe _ hb.1, h.cell hb.2⟩
  refine ⟨⟨vt, vs, fs, A, c, h.blk d.blk, d.lt, d.ls, d.et.mono hsv, d.es.mono hsv, d.ew.mono ?_, ?_⟩, hrow⟩
  · rintro v x ⟨bo, bd, ba, vo, e, h1, h2, h3, h4, h5⟩
    exact ⟨bo, bd, ba, vo, e, hbox _ _ h1, hsv _ _ h2, hbox _ _ h3, hbox _ _ h4, h5⟩
  · have ho := d.own
    refine ⟨ho.1, ho.2.imp id ?_⟩
    rintro ⟨g', cap, cur, e1, e2, e3, e4⟩
    have : g' ≠ g := fun e => h.none_ _ _ _ (by rw [← e]; exact e3)
    exact ⟨g', cap, cur, e1, e2, (h.block g' this).trans e3, e4⟩
theorem Off.safe {p : Nat} {X : Nat → Prop} {w w' : World} {D : DS} {g : Nat} (h : Off w w' g) (hd : IsDisk p X w D) {b : Nat} (hb : Safe p w b) : Safe p w' b := by
  have := (hd.off h).2
  exact ⟨by rw [h.size]; exact hb.1, hb.2.1, by rw [this]; exact hb.2.2⟩
theorem Off.below {w w' : World} {g B : Nat} (h : Off w w' g) (hg : B ≤ g) : Below B w w' := ⟨h.os, h.tape, h.output, by rw [h.size]; exact Nat.le_refl _, fun b hb => h.block b (by omega)⟩

section
variable {p : Nat} {X S : Nat → Prop} {w w' : World} {D : DS}
theorem Off.safe' {g : Nat} (h : Off w w' g) (hp : p ≠ g) {b : Nat} (hb : Safe p w b) : Safe p w' b :=
  ⟨by rw [h.size]; exact hb.1, hb.2.1, by rw [rowOf_of_block (h.block p hp)]; exact hb.2.2⟩
theorem FrS.off {w0 : World} (h : FrS S p w0 w) {g : Nat} (hg : w0.heap.size ≤ g ∨ S g) (ho : Off w w' g) (hp : p ≠ g) : FrS S p w0 w' :=
  ⟨ho.os.trans h.os, ho.tape.trans h.tape, ho.output.trans h.output, by rw [ho.size]; exact h.size, fun b hb hn => (ho.block b (by
    rcases hg with hg | hg
    · have := hb.1; omega
    · intro e; rw [e] at hn; exact hn hg)).trans (h.block b hb hn), fun b hb => ho.safe' hp (h.safe b hb)⟩
theorem FrS.setCell {w0 : World} (h : FrS S p w0 w) {g : Nat} (hg : w0.heap.size ≤ g ∨ S g) (hs : Safe p w g) (i : Nat) (u : Value) : FrS S p w0 (w.setCell ⟨g, i, none⟩ u) :=
  ⟨h.os, h.tape, h.output, by simpa [World.setCell] using h.size, fun b hb hn => (Below.heap_setCell w ⟨g, i, none⟩ u b (by
    show b ≠ g
    rcases hg with hg | hg
    · have := hb.1; omega
    · intro e; rw [e] at hn; exact hn hg)).trans (h.block b hb hn), fun b hb => by
    have h1 := h.safe b hb
    refine ⟨by simpa [World.setCell] using h1.1, h1.2.1, ?_⟩
    rw [rowOf_of_block (Below.heap_setCell w ⟨g, i, none⟩ u p (Ne.symm hs.2.1))]
    exact h1.2.2⟩
theorem FrS.blk {g : Nat} {t : TypeId} {cs : Array Value} (h : FrS S p w w') (hb : Blk w g t cs) (hs : Safe p w g) (hn : ¬ S g) : Blk w' g t cs := (h.block g hs hn).trans hb
theorem FrS.sl {A : Option Addr} {c : Nat} {l : List UInt8} (h : FrS S p w w') (hs : SLs p w A c l) (hn : ∀ a, A = some a → 0 < l.length → ¬ S a.block) : SLs p w' A c l := by
  refine ⟨⟨fun h0 => ?_, hs.sl.cap, hs.sl.none_⟩, fun a ha h0 => h.safe _ (hs.safe a ha h0)⟩
  obtain ⟨ad, e, hb, hc⟩ := hs.sl.rb h0
  exact ⟨ad, e, Nat.lt_of_lt_of_le hb h.size, fun j hj => (h.cell (by rw [block_of_add]; exact hs.safe ad e h0) (by rw [block_of_add]; exact hn ad e h0)).trans (hc j hj)⟩
theorem FrS.bl {w0 : World} (h : FrS S p w0 w) (hb : Bl w w') (hd : IsDisk p X w D) : FrS S p w0 w' := h.trans (FrS.of_fr (Fr.of_bl hb hd.plt))
end

/-- A part's bytes. -/
theorem sl_part {w : World} {p : Nat} {ad : Addr} {cap : Nat} {b : List UInt8} (h : SLs p w (some ad) cap b) (k : Nat) : ∃ m, partV (some ad) b.length k = .slice (some (ad.add (64 * k))) (chunk b k).length m ∧ SLs p w (some (ad.add (64 * k))) m (chunk b k) := by
  have hl : (chunk b k).length = min 64 (b.length - 64 * k) := by unfold chunk; rw [List.length_take, List.length_drop]
  refine ⟨min 64 (b.length - 64 * k), by rw [hl]; rfl, ⟨⟨fun h0 => ?_, by rw [hl]; exact Nat.le_refl _, fun e => by cases e⟩, fun a ha h0 => ?_⟩⟩
  · obtain ⟨ad', e, hb, hc⟩ := h.sl.rb (by rw [hl] at h0; omega)
    cases e
    refine ⟨_, rfl, by rw [block_of_add]; exact hb, fun j hj => ?_⟩
    rw [hl] at hj
    have := hc (64 * k + j) (by omega)
    rw [show (ad.add (64 * k)).add j = ad.add (64 * k + j) from by
      obtain ⟨g, o, sp⟩ := ad
      have hsp : sp = none := by
        have := World.cell?_spot (hc 0 (by omega))
        simpa [Addr.add] using this
      subst hsp
      rw [Addr.add_mid, Addr.add_mid, Addr.add_mid, Nat.add_assoc]]
    rw [this]
    congr 2
    simp only [chunk, List.getElem_take, List.getElem_drop]
  · cases ha
    rw [block_of_add]
    exact h.safe ad rfl (by rw [hl] at h0; omega)
end Go.Proofs.Ytebillkojmafoaa
