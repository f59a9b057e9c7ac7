/- Words for slices of acts, of rows of bytes, of flags. -/
import Derived.Test.YtigicphmnlkjfaaSL
import Derived.Test.YtigicphmnlkjfaaRowKit
import Derived.Deep.Grids
import Derived.Deep.Fields
import Derived.ChangeSame
import Derived.DataReads
import Derived.Deep.MidRow
namespace Go.Proofs.Ytigicphmnlkjfaa
open Go.RowKit Go.ChangeShapes Go.WideShapes Go.ChangeAt Go.Deep
set_option linter.unusedVariables false

theorem list_choose {α : Type} {P : Nat → α → Prop} : ∀ (n : Nat), (∀ i, i < n → ∃ x, P i x) → ∃ l : List α, l.length = n ∧ ∀ i (h : i < l.length), P i l[i]
  | 0, _ => ⟨[], rfl, fun i h => absurd h (by simp)⟩
  | n + 1, h => by
    obtain ⟨l, hl, hp⟩ := list_choose n (fun i hi => h i (by omega))
    obtain ⟨x, hx⟩ := h n (by omega)
    refine ⟨l ++ [x], by simp [hl], fun i hi => ?_⟩
    by_cases e : i < l.length
    · rw [List.getElem_append_left e]; exact hp i e
    · have : i = n := by simp at hi; omega
      subst this
      rw [List.getElem_append_right (by omega)]
      simpa [hl] using hx

/-- A slice that reads as these values. -/
def RV (w : World) (A : Option Addr) (xs : List Value) : Prop := 0 < xs.length → ∃ ad, A = some ad ∧ ad.block < w.heap.size ∧ ∀ j, (h : j < xs.length) → w.cell? (ad.add j) = some xs[j]
theorem RV.nil_ (w : World) (A : Option Addr) : RV w A [] := fun h => absurd h (by simp)
theorem RV.step {w w' : World} {A : Option Addr} {xs : List Value} (h : RV w A xs) (hb : Bl w w') : RV w' A xs := fun hn => by
  obtain ⟨ad, e, hs, hc⟩ := h hn
  exact ⟨ad, e, Nat.lt_of_lt_of_le hs hb.size, fun j hj => (Bl.cell hb (by rw [block_of_add]; exact hs)).trans (hc j hj)⟩
theorem RV.at_ {w : World} {A : Option Addr} {xs : List Value} (h : RV w A xs) {k : Nat} (hk : k < xs.length) : ∃ ad, A = some ad ∧ w.cell? (ad.add k) = some xs[k] := by
  obtain ⟨ad, e, _, hc⟩ := h (by omega)
  exact ⟨ad, e, hc k hk⟩

/-- A slice of flags. -/
structure KL (w : World) (A : Option Addr) (c : Nat) (ks : List Bool) : Prop where
  rv : RV w A (ks.map Value.bool)
  cap : ks.length ≤ c
  max : ks.length ≤ 9223372036854775807
theorem KL.step {w w' : World} {A : Option Addr} {c : Nat} {ks : List Bool} (h : KL w A c ks) (hb : Bl w w') : KL w' A c ks := ⟨h.rv.step hb, h.cap, h.max⟩
theorem KL.nil_ (w : World) : KL w none 0 [] := ⟨RV.nil_ _ _, by simp, by decide⟩

/-- A slice of rows of bytes. -/
def Rows2 (w : World) (A : Option Addr) (l : List (List UInt8)) : Prop := 0 < l.length → ∃ ad, A = some ad ∧ ad.block < w.heap.size ∧ ∀ i, (h : i < l.length) → ∃ B d, w.cell? (ad.add i) = some (.slice B l[i].length d) ∧ SL w B d l[i] ∧ l[i].length ≤ 9223372036854775807
theorem Rows2.step {w w' : World} {A : Option Addr} {l : List (List UInt8)} (h : Rows2 w A l) (hb : Bl w w') : Rows2 w' A l := fun hn => by
  obtain ⟨ad, e, hs, hc⟩ := h hn
  refine ⟨ad, e, Nat.lt_of_lt_of_le hs hb.size, fun i hi => ?_⟩
  obtain ⟨B, d, h1, h2, h3⟩ := hc i hi
  exact ⟨B, d, (Bl.cell hb (by rw [block_of_add]; exact hs)).trans h1, h2.step hb, h3⟩
theorem Rows2.at_ {w : World} {A : Option Addr} {l : List (List UInt8)} (h : Rows2 w A l) {k : Nat} (hk : k < l.length) : ∃ ad B d, A = some ad ∧ w.cell? (ad.add k) = some (.slice B l[k].length d) ∧ SL w B d l[k] ∧ l[k].length ≤ 9223372036854775807 := by
  obtain ⟨ad, e, _, hc⟩ := h (by omega)
  obtain ⟨B, d, h⟩ := hc k hk
  exact ⟨ad, B, d, e, h⟩

/-- An act, as numbers and lists. -/
structure ActP where
  kind : Int
  at_ : Int
  b : List UInt8
  keep : List Bool

/-- A slice of acts. -/
def Acts (w : World) (A : Option Addr) (l : List ActP) : Prop := 0 < l.length → ∃ g o, A = some ⟨g, o, none⟩ ∧ g < w.heap.size ∧ ∀ i, (h : i < l.length) → ∃ B c K d,
  w.cell? ⟨g, o + i * 4, none⟩ = some (.int .i64 l[i].kind) ∧ w.cell? ⟨g, o + i * 4 + 1, none⟩ = some (.int .i64 l[i].at_) ∧ w.cell? ⟨g, o + i * 4 + 2, none⟩ = some (.slice B l[i].b.length c) ∧ w.cell? ⟨g, o + i * 4 + 3, none⟩ = some (.slice K l[i].keep.length d) ∧
  SL w B c l[i].b ∧ KL w K d l[i].keep ∧ l[i].b.length ≤ 9223372036854775807
theorem Acts.step {w w' : World} {A : Option Addr} {l : List ActP} (h : Acts w A l) (hb : Bl w w') : Acts w' A l := fun hn => by
  obtain ⟨g, o, e, hs, hc⟩ := h hn
  refine ⟨g, o, e, Nat.lt_of_lt_of_le hs hb.size, fun i hi => ?_⟩
  obtain ⟨B, c, K, d, h1, h2, h3, h4, h5, h6, h7⟩ := hc i hi
  have hk := fun x => Bl.cell hb (p := ⟨g, x, none⟩) hs
  exact ⟨B, c, K, d, (hk _).trans h1, (hk _).trans h2, (hk _).trans h3, (hk _).trans h4, h5.step hb, h6.step hb, h7⟩
theorem Acts.at_ {w : World} {A : Option Addr} {l : List ActP} (h : Acts w A l) {i : Nat} (hi : i < l.length) : ∃ g o B c K d, A = some ⟨g, o, none⟩ ∧
  w.cell? ⟨g, o + i * 4, none⟩ = some (.int .i64 l[i].kind) ∧ w.cell? ⟨g, o + i * 4 + 1, none⟩ = some (.int .i64 l[i].at_) ∧ w.cell? ⟨g, o + i * 4 + 2, none⟩ = some (.slice B l[i].b.length c) ∧ w.cell? ⟨g, o + i * 4 + 3, none⟩ = some (.slice K l[i].keep.length d) ∧
  SL w B c l[i].b ∧ KL w K d l[i].keep ∧ l[i].b.length ≤ 9223372036854775807 := by
  obtain ⟨g, o, e, _, hc⟩ := h (by omega)
  obtain ⟨B, c, K, d, h⟩ := hc i hi
  exact ⟨g, o, B, c, K, d, e, h⟩

section
variable {H : Type} {enc : TypeId × Value → H} {P : Program} {w : World} {base : Nat} {spare : Nat → Bool} {held : Bool}
/-- A slice of structs of one-cell fields, opened at every index. -/
theorem open_slice_fields {t e : TypeId} {fs : Array Field} {fuel : Nat} {cs : List Value} {x : DataW H × List MemPlace} (ht : P.underlying t = some (.slice e)) (he : P.underlying e = some (.struct fs))
    (hone : oneCellFields P fs = true) (hC : P.cellsOf e = fs.size) (h : DataW.trod enc P w base spare held fuel t cs = some x) :
    (cs = [.slice none 0 0] ∧ x = (.nil, [])) ∨
    ∃ (a : Addr) (len cap m : Nat), cs = [.slice (some a) len cap] ∧ base ≤ a.block ∧ len ≤ cap ∧ cap ≤ maxLen ∧ m = (if spare a.block then cap else len) ∧
      ∀ i, i < m → ∃ (n : Nat), ∀ (j : Nat) (f : Field), fs[j]? = some f → ∃ (v : Value) (y : DataW H × List MemPlace), w.cell? (a.add (i * fs.size + j)) = some v ∧ DataW.trod enc P w base spare held n f.type [v] = some y := by
  rcases open_slice ht h with h0 | ⟨a, len, cap, m, n, D, Pl, hcs, hb, hl, hm, hmm, hx, hi⟩
  · exact .inl h0
  · refine .inr ⟨a, len, cap, m, hcs, hb, hl, hm, hmm, fun i him => ?_⟩
    obtain ⟨cs', hc, ht'⟩ := hi i him
    rw [hC] at hc
    obtain ⟨ys, n', hn', hy, hlen, hyl, hf⟩ := DataW.trod_struct he ht'
    obtain ⟨_, hcl, hat⟩ := World.cells?_some hc
    refine ⟨n', fun j f hj => ?_⟩
    obtain ⟨ho, hk⟩ := hone_of hone j f hj
    have hjl : j < fs.size := (Array.getElem?_eq_some_iff.1 hj).1
    have hcell := hat j hjl
    have hv : cs'[j]? = some (cs'[j]'(by omega)) := List.getElem?_eq_getElem (by omega)
    have h1 := hf j f hj
    rw [ho, hk] at h1
    have hone' : (cs'.drop j).take 1 = [cs'[j]'(by omega)] := by
      rw [List.drop_eq_getElem_cons (by omega)]
      rfl
    rw [hone'] at h1
    have hys : ys[j]? = some (ys[j]'(by omega)) := List.getElem?_eq_getElem (by omega)
    refine ⟨_, _, ?_, h1.trans hys⟩
    rw [← Go.Deep.add_add, hcell, hv]

/-- A slice of flags that is read. -/
theorem kl_of_trod {t e : TypeId} {fuel : Nat} {A : Option Addr} {len cap : Nat} {y : DataW H × List MemPlace} (ht : P.underlying t = some (.slice e)) (he : P.underlying e = some .bool) (hc : P.cellsOf e = 1)
    (hf : DataW.trod enc P w base (fun _ => true) held fuel t [.slice A len cap] = some y) : ∃ ks : List Bool, ks.length = len ∧ KL w A cap ks ∧ (A = none → cap = 0) := by
  rcases open_bools ht he hc hf with ⟨hcs, _⟩ | ⟨a, len', cap', B, hcs, _, hl, hm, _, hcell⟩
  · simp at hcs
    obtain ⟨rfl, rfl, rfl⟩ := hcs
    exact ⟨[], rfl, KL.nil_ _, fun _ => rfl⟩
  · simp at hcs
    obtain ⟨rfl, rfl, rfl⟩ := hcs
    unfold maxLen at hm
    refine ⟨(List.range len).map B, by simp, ⟨fun hn => ⟨a, rfl, ?_, fun j hj => ?_⟩, by simpa using hl, by simp; omega⟩, fun h => by cases h⟩
    · simp at hn
      have := block_lt_of_cell (hcell 0 (by omega))
      rwa [block_of_add] at this
    · simp at hj
      rw [hcell j (by omega)]
      simp

/-- A slice of acts that is read. -/
theorem acts_of_trod {t e eb ek : TypeId} {f0 f1 f2 f3 : Field} {fuel : Nat} {A : Option Addr} {len cap : Nat} {y : DataW H × List MemPlace} (ht : P.underlying t = some (.slice e)) (he : P.underlying e = some (.struct #[f0, f1, f2, f3]))
    (hone : oneCellFields P #[f0, f1, f2, f3] = true) (hC : P.cellsOf e = 4) (h0 : P.underlying f0.type = some (.int .i64)) (h1 : P.underlying f1.type = some (.int .i64)) (h2 : P.underlying f2.type = some (.slice eb)) (hb : P.underlying eb = some (.int .u8)) (hbc : P.cellsOf eb = 1)
    (h3 : P.underlying f3.type = some (.slice ek)) (hk : P.underlying ek = some .bool) (hkc : P.cellsOf ek = 1)
    (hf : DataW.trod enc P w base (fun _ => true) held fuel t [.slice A len cap] = some y) : ∃ l : List ActP, l.length = len ∧ Acts w A l ∧ len ≤ maxLen ∧ ∀ i (h : i < l.length), (Lit.int .i64 l[i].kind).wf = true ∧ (Lit.int .i64 l[i].at_).wf = true := by
  rcases open_slice_fields ht he hone hC hf with ⟨hcs, _⟩ | ⟨a, len', cap', m, hcs, _, hl, hm, hmm, hi⟩
  · simp at hcs
    obtain ⟨rfl, rfl, rfl⟩ := hcs
    exact ⟨[], rfl, fun h => absurd h (by simp), Nat.zero_le _, fun i h => absurd h (by simp)⟩
  · simp at hcs
    obtain ⟨rfl, rfl, rfl⟩ := hcs
    simp only [if_true] at hmm
    subst hmm
    have each : ∀ i, i < len → ∃ x : ActP, (∃ B c K d, w.cell? (a.add (i * 4)) = some (.int .i64 x.kind) ∧ w.cell? (a.add (i * 4 + 1)) = some (.int .i64 x.at_) ∧ w.cell? (a.add (i * 4 + 2)) = some (.slice B x.b.length c) ∧ w.cell? (a.add (i * 4 + 3)) = some (.slice K x.keep.length d) ∧
        SL w B c x.b ∧ KL w K d x.keep ∧ x.b.length ≤ 9223372036854775807) ∧ (Lit.int .i64 x.kind).wf = true ∧ (Lit.int .i64 x.at_).wf = true := by
      intro i hil
      obtain ⟨n, hj⟩ := hi i (by omega)
      obtain ⟨v0, y0, c0, t0⟩ := hj 0 f0 rfl
      obtain ⟨v1, y1, c1, t1⟩ := hj 1 f1 rfl
      obtain ⟨v2, y2, c2, t2⟩ := hj 2 f2 rfl
      obtain ⟨v3, y3, c3, t3⟩ := hj 3 f3 rfl
      obtain ⟨z0, e0, _, wf0⟩ := DataW.trod_int h0 t0
      obtain ⟨z1, e1, _, wf1⟩ := DataW.trod_int h1 t1
      simp at e0 e1
      subst e0 e1
      obtain ⟨B, bl, bc, e2⟩ := Go.Joins.slice_form h2 t2
      obtain ⟨K, kl, kc, e3⟩ := Go.Joins.slice_form h3 t3
      injection e2 with e2
      injection e3 with e3
      subst e2 e3
      obtain ⟨b, hbl, hr, hbc', hbn, hbm⟩ := rb_of_trod h2 hb hbc t2
      obtain ⟨ks, hkl, hK, _⟩ := kl_of_trod h3 hk hkc t3
      subst hbl hkl
      unfold maxLen at hbm
      exact ⟨⟨z0, z1, b, ks⟩, ⟨B, bc, K, kc, c0, c1, c2, c3, ⟨hr, hbc', hbn⟩, hK, hbm⟩, wf0, wf1⟩
    obtain ⟨l, hll, hp⟩ := list_choose len each
    refine ⟨l, hll, fun hn => ?_, by omega, fun i hil => (hp i hil).2⟩
    obtain ⟨⟨_, _, _, _, hc, _⟩, _⟩ := hp 0 hn
    have hb := block_lt_of_cell hc
    rw [block_of_add] at hb
    obtain ⟨g, o, sp⟩ := a
    have hsp : sp = none := by
      have := World.cell?_spot hc
      simpa [Addr.add] using this
    subst hsp
    refine ⟨g, o, rfl, hb, fun i hil => ?_⟩
    obtain ⟨⟨B, c, K, d, h1, h2, h3, h4, h5⟩, _⟩ := hp i hil
    rw [Addr.add_mid] at h1 h2 h3 h4
    exact ⟨B, c, K, d, h1, h2, h3, h4, h5⟩
end
end Go.Proofs.Ytigicphmnlkjfaa
