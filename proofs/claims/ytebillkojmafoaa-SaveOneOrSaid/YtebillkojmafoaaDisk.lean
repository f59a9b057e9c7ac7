/- A disk in memory: what it means that a block is a disk, and what leaves it one. -/
import Derived.Test.YtebillkojmafoaaSL
import Derived.Test.YtebillkojmafoaaDiskPlain
import Derived.Deep.MidRow
import Derived.Deep.Upon
namespace Go.Proofs.Ytebillkojmafoaa
open Go.RowKit
set_option linter.unusedVariables false

/-- The block of the row of writes that wait. -/
def rowOf (w : World) (p : Nat) : Option Nat := (w.cell? ⟨p, 128, none⟩).bind Value.ownBlock

/-- Block b is none of those that disk p's acts turn. -/
def Safe (p : Nat) (w : World) (b : Nat) : Prop := b < w.heap.size ∧ b ≠ p ∧ rowOf w p ≠ some b

/-- Acts on disk p: nothing has changed but the disk's own. -/
structure Fr (p : Nat) (w w' : World) : Prop where
  os : w'.os = w.os
  tape : w'.tape = w.tape
  output : w'.output = w.output
  size : w.heap.size ≤ w'.heap.size
  block : ∀ b, Safe p w b → w'.heap[b]? = w.heap[b]?
  safe : ∀ b, Safe p w b → Safe p w' b

theorem Fr.refl (p : Nat) (w : World) : Fr p w w := ⟨rfl, rfl, rfl, Nat.le_refl _, fun _ _ => rfl, fun _ h => h⟩
theorem Fr.trans {p : Nat} {a b c : World} (h : Fr p a b) (k : Fr p b c) : Fr p a c :=
  ⟨k.os.trans h.os, k.tape.trans h.tape, k.output.trans h.output, Nat.le_trans h.size k.size, fun x hx => (k.block x (h.safe x hx)).trans (h.block x hx), fun x hx => k.safe x (h.safe x hx)⟩
theorem rowOf_of_block {w w' : World} {p : Nat} (h : w'.heap[p]? = w.heap[p]?) : rowOf w' p = rowOf w p := by
  unfold rowOf; rw [World.cell?_of_block (a := ⟨p, 128, none⟩) h]
theorem Fr.of_bl {p : Nat} {w w' : World} (h : Bl w w') (hp : p < w.heap.size) : Fr p w w' :=
  ⟨h.os, h.tape, h.output, h.size, fun b hb => h.block b hb.1, fun b hb => ⟨Nat.lt_of_lt_of_le hb.1 h.size, hb.2.1, by rw [rowOf_of_block (h.block p hp)]; exact hb.2.2⟩⟩
theorem Fr.bl {p : Nat} {w w' a : World} (h : Fr p a w) (hb : Bl w w') (hp : p < w.heap.size) : Fr p a w' := h.trans (Fr.of_bl hb hp)
/-- A store into the disk, but not of the row. -/
theorem Fr.setCell (p : Nat) (w : World) (i : Nat) (u : Value) (hi : i ≠ 128) : Fr p w (w.setCell ⟨p, i, none⟩ u) := by
  refine ⟨rfl, rfl, rfl, by simp [World.setCell], fun b hb => Below.heap_setCell _ _ _ _ hb.2.1, fun b hb => ⟨by simpa [World.setCell] using hb.1, hb.2.1, ?_⟩⟩
  have : rowOf (w.setCell ⟨p, i, none⟩ u) p = rowOf w p := by
    unfold rowOf
    rw [World.cell?_setCell_other _ _ _ _ (fun e => hi (by injection e))]
  rw [this]; exact hb.2.2
theorem Fr.setCells (p : Nat) : ∀ (vs : List Value) (o : Nat) (w : World), (128 < o ∨ o + vs.length ≤ 128) → Fr p w (w.setCells p o vs)
  | [], _, w, _ => Fr.refl p w
  | v :: r, o, w, h => (Fr.setCell p w o v (by simp at h; omega)).trans (Fr.setCells p r (o + 1) _ (by simp at h; omega))
/-- The row has grown, and is stored anew. -/
theorem Fr.row {p : Nat} {w w1 : World} {v : Value} (h : w.grownBy w1 (rowOf w p)) (hp : p < w.heap.size) (hne : rowOf w p ≠ some p) (hsome : (w.cell? ⟨p, 128, none⟩).isSome = true)
    (hv : v.ownBlock = rowOf w p ∨ ∀ g, v.ownBlock = some g → w.heap.size ≤ g) : Fr p w (w1.setCell ⟨p, 128, none⟩ v) := by
  refine ⟨h.os, h.tape, h.output, by simpa [World.setCell] using h.size, fun b hb => ?_, fun b hb => ⟨?_, hb.2.1, ?_⟩⟩
  · rw [Below.heap_setCell _ _ _ _ hb.2.1]
    exact h.block b hb.1 (fun e => hb.2.2 e.symm)
  · have := h.size; have := hb.1; simp [World.setCell]; omega
  · have hp1 : w1.heap[p]? = w.heap[p]? := h.block p hp (fun e => hne e.symm)
    have hc : w1.cell? ⟨p, 128, none⟩ = w.cell? ⟨p, 128, none⟩ := World.cell?_of_block (a := ⟨p, 128, none⟩) hp1
    have : rowOf (w1.setCell ⟨p, 128, none⟩ v) p = v.ownBlock := by
      unfold rowOf
      rw [World.cell?_setCell_same' _ _ _ (by rw [hc]; exact hsome)]
      rfl
    rw [this]
    rcases hv with e | e
    · rw [e]; exact hb.2.2
    · intro e'
      have := e b e'
      have := hb.1
      omega
theorem Fr.cell {p : Nat} {w w' : World} (h : Fr p w w') {a : Addr} (ha : Safe p w a.block) : w'.cell? a = w.cell? a := World.cell?_of_block (h.block _ ha)
/-- What lay ahead of the disk lies as it lay. -/
theorem Fr.below {p B : Nat} {w0 w w' : World} (h : Fr p w w') (hb : Below B w0 w) (hs : ∀ b, b < B → Safe p w b) : Below B w0 w' :=
  hb.trans ⟨h.os, h.tape, h.output, h.size, fun b hB => h.block b (hs b hB)⟩

/-- A slice of bytes in blocks that disk p's acts do not turn. -/
structure SLs (p : Nat) (w : World) (A : Option Addr) (c : Nat) (l : List UInt8) : Prop where
  sl : SL w A c l
  safe : ∀ a, A = some a → 0 < l.length → Safe p w a.block
theorem SLs.fr {p : Nat} {w w' : World} {A : Option Addr} {c : Nat} {l : List UInt8} (h : SLs p w A c l) (hf : Fr p w w') : SLs p w' A c l := by
  refine ⟨⟨fun hn => ?_, h.sl.cap, h.sl.none_⟩, fun a ha hn => hf.safe _ (h.safe a ha hn)⟩
  obtain ⟨ad, e, hb, hc⟩ := h.sl.rb hn
  have hs := h.safe ad e hn
  exact ⟨ad, e, Nat.lt_of_lt_of_le hb hf.size, fun j hj => (hf.cell (by rw [block_of_add]; exact hs)).trans (hc j hj)⟩
theorem SLs.nil_ (p : Nat) (w : World) : SLs p w none 0 [] := ⟨SL.nil_ w, fun a h => by cases h⟩
/-- What was made since, or lies below the disk, is safe. -/
theorem SLs.mk' {p : Nat} {w : World} {A : Option Addr} {c : Nat} {l : List UInt8} (h : SL w A c l) (hs : ∀ b, A.map (·.block) = some b → b < w.heap.size → Safe p w b) : SLs p w A c l := by
  refine ⟨h, fun a ha hn => ?_⟩
  obtain ⟨ad, e, hb, _⟩ := h.rb hn
  rw [ha] at e
  cases e
  exact hs _ (by rw [ha]; rfl) hb

section
variable {X : Nat → Prop}
/-- A value that is such a slice, in a block of X. -/
def Sv (p : Nat) (X : Nat → Prop) (w : World) (v : Value) (l : List UInt8) : Prop := ∃ A c, v = .slice A l.length c ∧ SLs p w A c l ∧ ∀ a, A = some a → 0 < l.length → X a.block
theorem Sv.fr {p : Nat} {w w' : World} {v : Value} {l : List UInt8} (h : Sv p X w v l) (hf : Fr p w w') : Sv p X w' v l := by
  obtain ⟨A, c, e, h, hx⟩ := h
  exact ⟨A, c, e, h.fr hf, hx⟩
theorem Sv.nil_ (p : Nat) (w : World) : Sv p X w (.slice none 0 0) [] := ⟨none, 0, rfl, SLs.nil_ p w, fun a h => by cases h⟩

/-- A cell in a block that disk p's acts do not turn. -/
def Box (p : Nat) (w : World) (b : Nat) (v : Value) : Prop := Safe p w b ∧ w.cell? ⟨b, 0, none⟩ = some v
theorem Box.fr {p : Nat} {w w' : World} {b : Nat} {v : Value} (h : Box p w b v) (hf : Fr p w w') : Box p w' b v := ⟨hf.safe _ h.1, (hf.cell (a := ⟨b, 0, none⟩) h.1).trans h.2⟩

/-- A write that waits. -/
def Wv (p : Nat) (X : Nat → Prop) (w : World) (v : Value) (x : Nat × List UInt8) : Prop :=
  ∃ bo bd ba vo, v = .func (.func 32) #[] #[.pointer (some ⟨bo, 0, none⟩), .pointer (some ⟨bd, 0, none⟩), .pointer (some ⟨ba, 0, none⟩)] ∧
    Box p w bo vo ∧ Sv p X w vo x.2 ∧ Box p w bd (.pointer (some ⟨p, 0, none⟩)) ∧ Box p w ba (.int .i64 (x.1 : Int)) ∧ x.1 < 64 ∧ X bo ∧ X bd ∧ X ba
theorem Wv.fr {p : Nat} {w w' : World} {v : Value} {x : Nat × List UInt8} (h : Wv p X w v x) (hf : Fr p w w') : Wv p X w' v x := by
  obtain ⟨bo, bd, ba, vo, e, h1, h2, h3, h4, h5⟩ := h
  exact ⟨bo, bd, ba, vo, e, h1.fr hf, h2.fr hf, h3.fr hf, h4.fr hf, h5⟩
end

/-- Values that read as things, place by place. -/
def Each {α : Type} (R : Value → α → Prop) (vs : List Value) (xs : List α) : Prop := vs.length = xs.length ∧ ∀ (i : Nat) (v : Value) (x : α), vs[i]? = some v → xs[i]? = some x → R v x
theorem Each.mono {α : Type} {R S : Value → α → Prop} {vs : List Value} {xs : List α} (h : Each R vs xs) (hr : ∀ v x, R v x → S v x) : Each S vs xs := ⟨h.1, fun i v x hv hx => hr v x (h.2 i v x hv hx)⟩
theorem Each.set_ {α : Type} {R : Value → α → Prop} {vs : List Value} {xs : List α} (h : Each R vs xs) (k : Nat) {v : Value} {x : α} (hr : R v x) : Each R (vs.set k v) (xs.set k x) := by
  refine ⟨by simp [h.1], fun i v' x' hv hx => ?_⟩
  rw [List.getElem?_set] at hv hx
  rw [h.1] at hv
  by_cases e : k = i
  · subst e
    simp only [if_true] at hv hx
    split at hv
    · rename_i hlt
      rw [if_pos hlt] at hx
      injection hv with hv; injection hx with hx
      subst hv hx
      exact hr
    · cases hv
  · rw [if_neg e] at hv hx
    exact h.2 i v' x' hv hx
theorem Each.snoc {α : Type} {R : Value → α → Prop} {vs : List Value} {xs : List α} (h : Each R vs xs) {v : Value} {x : α} (hr : R v x) : Each R (vs ++ [v]) (xs ++ [x]) := by
  refine ⟨by simp [h.1], fun i v' x' hv hx => ?_⟩
  by_cases hi : i < vs.length
  · rw [List.getElem?_append_left hi] at hv
    rw [List.getElem?_append_left (by have := h.1; omega)] at hx
    exact h.2 i v' x' hv hx
  · rw [List.getElem?_append_right (by omega)] at hv
    rw [List.getElem?_append_right (by have := h.1; omega)] at hx
    rw [h.1] at hv
    cases hk : i - xs.length with
    | zero => rw [hk] at hv hx; simp at hv hx; subst hv hx; exact hr
    | succ n => rw [hk] at hv; simp at hv
theorem Each.nil_ {α : Type} {R : Value → α → Prop} : Each R [] [] := ⟨rfl, fun i v x h => by simp at h⟩
theorem Each.at_ {α : Type} {R : Value → α → Prop} {vs : List Value} {xs : List α} (h : Each R vs xs) {i : Nat} (hi : i < xs.length) : ∃ v, vs[i]? = some v ∧ R v xs[i] :=
  ⟨vs[i]'(by have := h.1; omega), List.getElem?_eq_getElem _, h.2 i _ _ (List.getElem?_eq_getElem _) (List.getElem?_eq_getElem hi)⟩
theorem Each.replicate_ {α : Type} {R : Value → α → Prop} (n : Nat) {v : Value} {x : α} (hr : R v x) : Each R (List.replicate n v) (List.replicate n x) :=
  ⟨by simp, fun i v' x' hv hx => by
    rw [List.getElem?_replicate] at hv hx
    split at hv
    · rw [if_pos (by assumption)] at hx
      injection hv with hv; injection hx with hx
      subst hv hx; exact hr
    · cases hv⟩

/-- The cells of a disk. -/
def dcells (vt vs : List Value) (wv : Value) (down : Bool) : Array Value := (vt ++ (vs ++ [wv, .bool down])).toArray
theorem dcells_size {vt vs : List Value} {wv : Value} {down : Bool} (h1 : vt.length = 64) (h2 : vs.length = 64) : (dcells vt vs wv down).size = 130 := by simp [dcells, h1, h2]
theorem dcells_there {vt vs : List Value} {wv : Value} {down : Bool} (h1 : vt.length = 64) {i : Nat} (hi : i < 64) : (dcells vt vs wv down)[i]? = vt[i]? := by
  simp only [dcells, List.getElem?_toArray]
  rw [List.getElem?_append_left (by omega)]
theorem dcells_seen {vt vs : List Value} {wv : Value} {down : Bool} (h1 : vt.length = 64) (h2 : vs.length = 64) {i : Nat} (hi : i < 64) : (dcells vt vs wv down)[64 + i]? = vs[i]? := by
  simp only [dcells, List.getElem?_toArray]
  rw [List.getElem?_append_right (by omega), List.getElem?_append_left (by omega), h1, Nat.add_sub_cancel_left]
theorem dcells_wv {vt vs : List Value} {wv : Value} {down : Bool} (h1 : vt.length = 64) (h2 : vs.length = 64) : (dcells vt vs wv down)[128]? = some wv := by
  simp only [dcells, List.getElem?_toArray]
  rw [List.getElem?_append_right (by omega), List.getElem?_append_right (by omega), h1, h2]; rfl
theorem dcells_down {vt vs : List Value} {wv : Value} {down : Bool} (h1 : vt.length = 64) (h2 : vs.length = 64) : (dcells vt vs wv down)[129]? = some (.bool down) := by
  simp only [dcells, List.getElem?_toArray]
  rw [List.getElem?_append_right (by omega), List.getElem?_append_right (by omega), h1, h2]; rfl
theorem dcells_set_there {vt vs : List Value} {wv u : Value} {down : Bool} (h1 : vt.length = 64) {i : Nat} (hi : i < 64) : (dcells vt vs wv down).setIfInBounds i u = dcells (vt.set i u) vs wv down := by
  simp only [dcells, List.setIfInBounds_toArray]
  rw [List.set_append_left _ _ (by omega)]
theorem dcells_set_seen {vt vs : List Value} {wv u : Value} {down : Bool} (h1 : vt.length = 64) (h2 : vs.length = 64) {i : Nat} (hi : i < 64) : (dcells vt vs wv down).setIfInBounds (64 + i) u = dcells vt (vs.set i u) wv down := by
  simp only [dcells, List.setIfInBounds_toArray]
  rw [List.set_append_right _ _ (by omega), h1, Nat.add_sub_cancel_left, List.set_append_left _ _ (by omega)]
theorem dcells_set_wv {vt vs : List Value} {wv u : Value} {down : Bool} (h1 : vt.length = 64) (h2 : vs.length = 64) : (dcells vt vs wv down).setIfInBounds 128 u = dcells vt vs u down := by
  simp only [dcells, List.setIfInBounds_toArray]
  rw [List.set_append_right _ _ (by omega), h1, List.set_append_right _ _ (by omega), h2]; rfl
theorem dcells_set_down {vt vs : List Value} {wv : Value} {down b : Bool} (h1 : vt.length = 64) (h2 : vs.length = 64) : (dcells vt vs wv down).setIfInBounds 129 (.bool b) = dcells vt vs wv b := by
  simp only [dcells, List.setIfInBounds_toArray]
  rw [List.set_append_right _ _ (by omega), h1, List.set_append_right _ _ (by omega), h2]; rfl

theorem Blk.setCells {g : Nat} {t : TypeId} : ∀ (vs : List Value) (o : Nat) (w : World) (cs : Array Value), Blk w g t cs → ∃ cs', Blk (w.setCells g o vs) g t cs' ∧ cs'.size = cs.size ∧ ∀ i, i < cs.size → cs'[i]? = if o ≤ i ∧ i < o + vs.length then vs[i - o]? else cs[i]?
  | [], o, w, cs, h => ⟨cs, h, rfl, fun i hi => by rw [if_neg (by rw [List.length_nil]; omega)]⟩
  | v :: r, o, w, cs, h => by
    obtain ⟨cs', h1, h2, h3⟩ := Blk.setCells r (o + 1) (w.setCell ⟨g, o, none⟩ v) _ (h.set_ o v)
    refine ⟨cs', h1, by simpa using h2, fun i hi => ?_⟩
    rw [h3 i (by simpa using hi)]
    by_cases e : i = o
    · subst e
      rw [if_neg (by omega), if_pos (by simp)]
      simp [hi]
    · by_cases hr : o + 1 ≤ i ∧ i < o + 1 + r.length
      · rw [if_pos hr, if_pos (by simp; omega)]
        obtain ⟨k, hk⟩ : ∃ k, i - o = k + 1 := ⟨i - o - 1, by omega⟩
        rw [hk, show i - (o + 1) = k from by omega]; rfl
      · rw [if_neg hr, if_neg (by simp; omega)]
        rw [Array.getElem?_setIfInBounds, if_neg (by omega)]
theorem dcells_ext {vt vs : List Value} {wv : Value} {down : Bool} {cs : Array Value} (h1 : vt.length = 64) (h2 : vs.length = 64) (hs : cs.size = 130) (ht : ∀ i, i < 64 → cs[i]? = vt[i]?) (hv : ∀ i, i < 64 → cs[64 + i]? = vs[i]?)
    (hw : cs[128]? = some wv) (hd : cs[129]? = some (.bool down)) : cs = dcells vt vs wv down := by
  apply Array.ext_getElem?
  intro i
  by_cases a : i < 64
  · rw [ht i a, dcells_there h1 a]
  · by_cases b : i < 128
    · obtain ⟨k, rfl⟩ : ∃ k, i = 64 + k := ⟨i - 64, by omega⟩
      rw [hv k (by omega), dcells_seen h1 h2 (by omega)]
    · by_cases c : i = 128
      · subst c; rw [hw, dcells_wv h1 h2]
      · by_cases d : i = 129
        · subst d; rw [hd, dcells_down h1 h2]
        · rw [Array.getElem?_eq_none (by omega), Array.getElem?_eq_none (by rw [dcells_size h1 h2]; omega)]
theorem Blk.lay_there {w : World} {p : Nat} {t : TypeId} {vt vs us : List Value} {wv : Value} {down : Bool} (h : Blk w p t (dcells vt vs wv down)) (h1 : vt.length = 64) (h2 : vs.length = 64) (hu : us.length = 64) :
    Blk (w.setCells p 0 us) p t (dcells us vs wv down) := by
  obtain ⟨cs, hb, hs, hc⟩ := Blk.setCells us 0 w _ h
  rw [dcells_size h1 h2] at hs hc
  have : cs = dcells us vs wv down := dcells_ext hu h2 hs (fun i hi => by rw [hc i (by omega), if_pos (by omega)]; rfl)
    (fun i hi => by rw [hc _ (by omega), if_neg (by omega), dcells_seen h1 h2 hi]) (by rw [hc _ (by omega), if_neg (by omega), dcells_wv h1 h2]) (by rw [hc _ (by omega), if_neg (by omega), dcells_down h1 h2])
  rw [← this]; exact hb
theorem Blk.lay_seen {w : World} {p : Nat} {t : TypeId} {vt vs us : List Value} {wv : Value} {down : Bool} (h : Blk w p t (dcells vt vs wv down)) (h1 : vt.length = 64) (h2 : vs.length = 64) (hu : us.length = 64) :
    Blk (w.setCells p 64 us) p t (dcells vt us wv down) := by
  obtain ⟨cs, hb, hs, hc⟩ := Blk.setCells us 64 w _ h
  rw [dcells_size h1 h2] at hs hc
  have : cs = dcells vt us wv down := dcells_ext h1 hu hs (fun i hi => by rw [hc i (by omega), if_neg (by omega), dcells_there h1 hi])
    (fun i hi => by rw [hc _ (by omega), if_pos (by omega), Nat.add_sub_cancel_left]) (by rw [hc _ (by omega), if_neg (by omega), dcells_wv h1 h2]) (by rw [hc _ (by omega), if_neg (by omega), dcells_down h1 h2])
  rw [← this]; exact hb
theorem Blk.range_there {w : World} {p : Nat} {t : TypeId} {vt vs : List Value} {wv : Value} {down : Bool} (h : Blk w p t (dcells vt vs wv down)) (h1 : vt.length = 64) : w.rangeAt p 0 vt := fun j v hv => by
  have hj := (List.getElem?_eq_some_iff.1 hv).1
  rw [h.cell, Nat.zero_add, dcells_there h1 (by omega)]; exact hv
theorem Blk.range_seen {w : World} {p : Nat} {t : TypeId} {vt vs : List Value} {wv : Value} {down : Bool} (h : Blk w p t (dcells vt vs wv down)) (h1 : vt.length = 64) (h2 : vs.length = 64) : w.rangeAt p 64 vs := fun j v hv => by
  have hj := (List.getElem?_eq_some_iff.1 hv).1
  rw [h.cell, dcells_seen h1 h2 (by omega)]; exact hv
theorem Blk.there {w : World} {g : Nat} {t : TypeId} {cs : Array Value} (h : Blk w g t cs) {o n : Nat} (hn : o + n ≤ cs.size) : w.there g o n := fun j hj => by
  refine ⟨?_, h.frozen _⟩
  rw [h.cell, Array.getElem?_eq_getElem (by omega)]; rfl

/-- The parts of disk p, whose row is the call's own. -/
structure Dk (p : Nat) (X : Nat → Prop) (w : World) (D : DS) (vt vs fs : List Value) (A : Option Addr) (c : Nat) : Prop where
  blk : Blk w p 46 (dcells vt vs (.slice A D.waits.length c) D.down)
  lt : vt.length = 64
  ls : vs.length = 64
  et : Each (Sv p X w) vt D.there
  es : Each (Sv p X w) vs D.seen
  ew : Each (Wv p X w) fs D.waits
  own : w.ownsRow (p + 1) 1 1 (.slice A D.waits.length c) D.waits.length fs
/-- Block p is the disk D. -/
def IsDisk (p : Nat) (X : Nat → Prop) (w : World) (D : DS) : Prop := ∃ vt vs fs A c, Dk p X w D vt vs fs A c

section
variable {p : Nat} {X : Nat → Prop} {w w' : World} {D : DS} {vt vs fs : List Value} {A : Option Addr} {c : Nat}
theorem Dk.is (h : Dk p X w D vt vs fs A c) : IsDisk p X w D := ⟨_, _, _, _, _, h⟩
theorem Dk.plt (h : Dk p X w D vt vs fs A c) : p < w.heap.size := h.blk.lt
theorem Dk.lenT (h : Dk p X w D vt vs fs A c) : D.there.length = 64 := by rw [← h.et.1, h.lt]
theorem Dk.lenS (h : Dk p X w D vt vs fs A c) : D.seen.length = 64 := by rw [← h.es.1, h.ls]
theorem Dk.lenW (h : Dk p X w D vt vs fs A c) : fs.length = D.waits.length := h.ew.1
theorem Dk.wcell (h : Dk p X w D vt vs fs A c) : w.cell? ⟨p, 128, none⟩ = some (.slice A D.waits.length c) := by rw [h.blk.cell, dcells_wv h.lt h.ls]
theorem Dk.dcell (h : Dk p X w D vt vs fs A c) : w.cell? ⟨p, 129, none⟩ = some (.bool D.down) := by rw [h.blk.cell, dcells_down h.lt h.ls]
theorem Dk.rowOf_ (h : Dk p X w D vt vs fs A c) : rowOf w p = (Value.slice A D.waits.length c).ownBlock := by unfold rowOf; rw [h.wcell]; rfl
theorem Dk.row_ne (h : Dk p X w D vt vs fs A c) : rowOf w p ≠ some p := by
  rw [h.rowOf_]
  intro e
  have := (h.own.lt p e).1
  omega
theorem Dk.seen_at (h : Dk p X w D vt vs fs A c) {k : Nat} (hk : k < 64) : ∃ B d, w.cell? ⟨p, 64 + k, none⟩ = some (.slice B (D.seen[k]'(by rw [h.lenS]; exact hk)).length d) ∧ SLs p w B d (D.seen[k]'(by rw [h.lenS]; exact hk)) := by
  obtain ⟨v, hv, B, d, rfl, hs, _⟩ := h.es.at_ (i := k) (by rw [h.lenS]; exact hk)
  exact ⟨B, d, by rw [h.blk.cell, dcells_seen h.lt h.ls hk]; exact hv, hs⟩
/-- Nothing of the disk has changed. -/
theorem Dk.bl (h : Dk p X w D vt vs fs A c) (hb : Bl w w') : Dk p X w' D vt vs fs A c := by
  have hf := Fr.of_bl hb h.plt
  refine ⟨h.blk.below hb h.plt, h.lt, h.ls, h.et.mono fun _ _ x => x.fr hf, h.es.mono fun _ _ x => x.fr hf, h.ew.mono fun _ _ x => x.fr hf, ?_⟩
  exact h.own.kept (row := none) ⟨hb.os, hb.tape, hb.output, hb.size, fun k hk _ => hb.block k hk⟩ (by cases hv : (Value.slice A D.waits.length c).ownBlock <;> simp)
theorem IsDisk.bl (h : IsDisk p X w D) (hb : Bl w w') : IsDisk p X w' D := by
  obtain ⟨_, _, _, _, _, h⟩ := h
  exact ⟨_, _, _, _, _, h.bl hb⟩
theorem IsDisk.plt (h : IsDisk p X w D) : p < w.heap.size := by
  obtain ⟨_, _, _, _, _, h⟩ := h
  exact h.plt
/-- What was made since is safe. -/
theorem IsDisk.safe_new (h : IsDisk p X w D) (hb : Bl w w') {b : Nat} (h1 : w.heap.size ≤ b) (h2 : b < w'.heap.size) : Safe p w' b := by
  obtain ⟨_, _, _, _, _, h⟩ := h
  have hp := h.plt
  refine ⟨h2, by omega, ?_⟩
  rw [rowOf_of_block (hb.block p hp), h.rowOf_]
  intro e
  have := (h.own.lt b e).2
  omega
/-- A block that the disk has nothing in may be written. -/
theorem IsDisk.far (h : IsDisk p X w D) {g : Nat} (hg : ¬ X g) (hp : g ≠ p) (hr : rowOf w p ≠ some g) (i : Nat) (u : Value) : IsDisk p X (w.setCell ⟨g, i, none⟩ u) D := by
  obtain ⟨vt, vs, fs, A, c, h⟩ := h
  have hrow : rowOf (w.setCell ⟨g, i, none⟩ u) p = rowOf w p := rowOf_of_block (Below.heap_setCell w ⟨g, i, none⟩ u p (Ne.symm hp))
  have hsafe : ∀ b, Safe p w b → Safe p (w.setCell ⟨g, i, none⟩ u) b := fun b hb => ⟨by simpa [World.setCell] using hb.1, hb.2.1, by rw [hrow]; exact hb.2.2⟩
  have hcell : ∀ (a : Addr), X a.block → (w.setCell ⟨g, i, none⟩ u).cell? a = w.cell? a := fun a ha => World.cell?_of_block (Below.heap_setCell w ⟨g, i, none⟩ u a.block (fun e => hg (by
    have e' : a.block = g := e
    rw [← e']; exact ha)))
  have hsv : ∀ v l, Sv p X w v l → Sv p X (w.setCell ⟨g, i, none⟩ u) v l := by
    rintro v l ⟨B, d, e, hs, hx⟩
    refine ⟨B, d, e, ⟨⟨fun hn => ?_, hs.sl.cap, hs.sl.none_⟩, fun a ha hn => hsafe _ (hs.safe a ha hn)⟩, hx⟩
    obtain ⟨ad, ea, hb, hc⟩ := hs.sl.rb hn
    exact ⟨ad, ea, by simpa [World.setCell] using hb, fun j hj => (hcell _ (by rw [block_of_add]; exact hx ad ea hn)).trans (hc j hj)⟩
  have hbox : ∀ b v, X b → Box p w b v → Box p (w.setCell ⟨g, i, none⟩ u) b v := fun b v hx hb => ⟨hsafe _ hb.1, (hcell ⟨b, 0, none⟩ hx).trans hb.2⟩
  refine ⟨vt, vs, fs, A, c, h.blk.far (p := ⟨g, i, none⟩) (Ne.symm hp) u, h.lt, h.ls, h.et.mono hsv, h.es.mono hsv, h.ew.mono ?_, ?_⟩
  · rintro v x ⟨bo, bd, ba, vo, e, h1, h2, h3, h4, h5, x1, x2, x3⟩
    exact ⟨bo, bd, ba, vo, e, hbox _ _ x1 h1, hsv _ _ h2, hbox _ _ x2 h3, hbox _ _ x3 h4, h5, x1, x2, x3⟩
  · refine h.own.kept (row := some g) ⟨rfl, rfl, rfl, by simp [World.setCell], fun k hk hne => Below.heap_setCell w ⟨g, i, none⟩ u k (fun e => hne (by rw [e]))⟩ (.inr ?_)
    rw [← h.rowOf_]; exact hr
/-- Another set of blocks. -/
theorem IsDisk.weak (h : IsDisk p X w D) {Y : Nat → Prop} (hy : ∀ b, b < w.heap.size → X b → Y b) : IsDisk p Y w D := by
  obtain ⟨vt, vs, fs, A, c, h⟩ := h
  have hsv : ∀ v l, Sv p X w v l → Sv p Y w v l := by
    rintro v l ⟨B, d, e, hs, hx⟩
    exact ⟨B, d, e, hs, fun a ha hn => hy _ (hs.safe a ha hn).1 (hx a ha hn)⟩
  refine ⟨vt, vs, fs, A, c, h.blk, h.lt, h.ls, h.et.mono hsv, h.es.mono hsv, h.ew.mono ?_, h.own⟩
  rintro v x ⟨bo, bd, ba, vo, e, h1, h2, h3, h4, h5, x1, x2, x3⟩
  exact ⟨bo, bd, ba, vo, e, h1, hsv _ _ h2, h3, h4, h5, hy _ h1.1.1 x1, hy _ h3.1.1 x2, hy _ h4.1.1 x3⟩
end
end Go.Proofs.Ytebillkojmafoaa
