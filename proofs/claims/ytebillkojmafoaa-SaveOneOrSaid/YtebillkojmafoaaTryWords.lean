/- Words for slices of tries: bytes, a number, flags. -/
import Derived.Test.YtebillkojmafoaaActWords
import Derived.Test.YtebillkojmafoaaSaveLong
namespace Go.Proofs.Ytebillkojmafoaa
open Go.RowKit Go.ChangeShapes Go.WideShapes Go.ChangeAt Go.Deep
set_option linter.unusedVariables false

/-- A try: what is saved, where it is stopped, what a crash keeps. -/
structure TryP where
  b : List UInt8
  stop : Int
  keep : List Bool

/-- A slice of tries. -/
def Tries (w : World) (A : Option Addr) (l : List TryP) : Prop := 0 < l.length → ∃ g o, A = some ⟨g, o, none⟩ ∧ g < w.heap.size ∧ ∀ i, (h : i < l.length) → ∃ B c K d,
  w.cell? ⟨g, o + i * 3, none⟩ = some (.slice B l[i].b.length c) ∧ w.cell? ⟨g, o + i * 3 + 1, none⟩ = some (.int .i64 l[i].stop) ∧ w.cell? ⟨g, o + i * 3 + 2, none⟩ = some (.slice K l[i].keep.length d) ∧
  SL w B c l[i].b ∧ KL w K d l[i].keep ∧ l[i].b.length ≤ 9223372036854775807
theorem Tries.step {w w' : World} {A : Option Addr} {l : List TryP} (h : Tries w A l) (hb : Bl w w') : Tries w' A l := fun hn => by
  obtain ⟨g, o, e, hs, hc⟩ := h hn
  refine ⟨g, o, e, Nat.lt_of_lt_of_le hs hb.size, fun i hi => ?_⟩
  obtain ⟨B, c, K, d, h1, h2, h3, h5, h6, h7⟩ := hc i hi
  have hk := fun x => Bl.cell hb (p := ⟨g, x, none⟩) hs
  exact ⟨B, c, K, d, (hk _).trans h1, (hk _).trans h2, (hk _).trans h3, h5.step hb, h6.step hb, h7⟩
theorem Tries.at_ {w : World} {A : Option Addr} {l : List TryP} (h : Tries w A l) {i : Nat} (hi : i < l.length) : ∃ g o B c K d, A = some ⟨g, o, none⟩ ∧
  w.cell? ⟨g, o + i * 3, none⟩ = some (.slice B l[i].b.length c) ∧ w.cell? ⟨g, o + i * 3 + 1, none⟩ = some (.int .i64 l[i].stop) ∧ w.cell? ⟨g, o + i * 3 + 2, none⟩ = some (.slice K l[i].keep.length d) ∧
  SL w B c l[i].b ∧ KL w K d l[i].keep ∧ l[i].b.length ≤ 9223372036854775807 := by
  obtain ⟨g, o, e, _, hc⟩ := h (by omega)
  obtain ⟨B, c, K, d, h⟩ := hc i hi
  exact ⟨g, o, B, c, K, d, e, h⟩

section
variable {H : Type} {enc : TypeId × Value → H} {P : Program} {w : World} {base : Nat} {spare : Nat → Bool} {held : Bool}
/-- A slice of tries that is read. -/
theorem tries_of_trod {t e eb ek : TypeId} {f0 f1 f2 : Field} {fuel : Nat} {A : Option Addr} {len cap : Nat} {y : DataW H × List MemPlace} (ht : P.underlying t = some (.slice e)) (he : P.underlying e = some (.struct #[f0, f1, f2]))
    (hone : oneCellFields P #[f0, f1, f2] = true) (hC : P.cellsOf e = 3) (h0 : P.underlying f0.type = some (.slice eb)) (hb : P.underlying eb = some (.int .u8)) (hbc : P.cellsOf eb = 1) (h1 : P.underlying f1.type = some (.int .i64))
    (h2 : P.underlying f2.type = some (.slice ek)) (hk : P.underlying ek = some .bool) (hkc : P.cellsOf ek = 1)
    (hf : DataW.trod enc P w base (fun _ => true) held fuel t [.slice A len cap] = some y) : ∃ l : List TryP, l.length = len ∧ Tries w A l ∧ len ≤ maxLen ∧ ∀ i (h : i < l.length), (Lit.int .i64 l[i].stop).wf = true := by
  rcases open_slice_fields ht he hone hC hf with ⟨hcs, _⟩ | ⟨a, len', cap', m, hcs, _, hl, hm, hmm, hi⟩
  · simp at hcs
    obtain ⟨rfl, rfl, rfl⟩ := hcs
    exact ⟨[], rfl, fun h => absurd h (by simp), Nat.zero_le _, fun i h => absurd h (by simp)⟩
  · simp at hcs
    obtain ⟨rfl, rfl, rfl⟩ := hcs
    simp only [if_true] at hmm
    subst hmm
    have each : ∀ i, i < len → ∃ x : TryP, (∃ B c K d, w.cell? (a.add (i * 3)) = some (.slice B x.b.length c) ∧ w.cell? (a.add (i * 3 + 1)) = some (.int .i64 x.stop) ∧ w.cell? (a.add (i * 3 + 2)) = some (.slice K x.keep.length d) ∧
        SL w B c x.b ∧ KL w K d x.keep ∧ x.b.length ≤ 9223372036854775807) ∧ (Lit.int .i64 x.stop).wf = true := by
      intro i hil
      obtain ⟨n, hj⟩ := hi i (by omega)
      obtain ⟨v0, y0, c0, t0⟩ := hj 0 f0 rfl
      obtain ⟨v1, y1, c1, t1⟩ := hj 1 f1 rfl
      obtain ⟨v2, y2, c2, t2⟩ := hj 2 f2 rfl
      obtain ⟨z1, e1, _, wf1⟩ := DataW.trod_int h1 t1
      simp at e1
      subst e1
      obtain ⟨B, bl, bc, e0⟩ := Go.Joins.slice_form h0 t0
      obtain ⟨K, kl, kc, e2⟩ := Go.Joins.slice_form h2 t2
      injection e0 with e0
      injection e2 with e2
      subst e0 e2
      obtain ⟨b, hbl, hr, hbc', hbn, hbm⟩ := rb_of_trod h0 hb hbc t0
      obtain ⟨ks, hkl, hK, _⟩ := kl_of_trod h2 hk hkc t2
      subst hbl hkl
      unfold maxLen at hbm
      exact ⟨⟨b, z1, ks⟩, ⟨B, bc, K, kc, c0, c1, c2, ⟨hr, hbc', hbn⟩, hK, hbm⟩, wf1⟩
    obtain ⟨l, hll, hp⟩ := list_choose len each
    refine ⟨l, hll, fun hn => ?_, by omega, fun i hil => (hp i hil).2⟩
    obtain ⟨⟨_, _, _, _, hc, _⟩, _⟩ := hp 0 hn
    have hb := block_lt_of_cell hc
    rw [block_of_add] at hb
    obtain ⟨g, o, sp⟩ := a
    have hsp : sp = none := by
      have := World.cell?_spot hc
      simpa [Addr.add] using this
    subst hsp
    refine ⟨g, o, rfl, hb, fun i hil => ?_⟩
    obtain ⟨⟨B, c, K, d, h1, h2, h3, h5⟩, _⟩ := hp i hil
    rw [Addr.add_mid] at h1 h2 h3
    exact ⟨B, c, K, d, h1, h2, h3, h5⟩
end
/-- The flags of a try, beside a disk. -/
theorem KL.news {w w1 : World} {A : Option Addr} {c : Nat} {ks : List Bool} (h : KL w A c ks) (hn : New w w1) : RVs w.heap.size w1 A (ks.map Value.bool) := fun hl => by
  obtain ⟨ad, e, hs, hc⟩ := h.rv hl
  exact ⟨ad, e, hn.safe _ hs, fun j hj => (Bl.cell hn.bl (by rw [block_of_add]; exact hs)).trans (hc j hj)⟩
end Go.Proofs.Ytebillkojmafoaa
