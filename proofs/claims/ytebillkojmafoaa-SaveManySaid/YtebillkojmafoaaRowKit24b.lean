/- A slice of rows of bytes that is read. Nothing of the program. -/
import Derived.Test.YtebillkojmafoaaRowKit
import Derived.Test.YtebillkojmafoaaActWords
namespace Go.Proofs.Ytebillkojmafoaa
open Go.RowKit Go.ChangeShapes Go.WideShapes Go.ChangeAt Go.Deep
section
variable {H : Type} {enc : TypeId × Value → H} {P : Program} {w : World} {base : Nat} {held : Bool}
theorem rows2_of_trod {t e q : TypeId} {fuel : Nat} {A : Option Addr} {len cap : Nat} {y : DataW H × List MemPlace} (ht : P.underlying t = some (.slice e)) (he : P.underlying e = some (.slice q)) (hq : P.underlying q = some (.int .u8))
    (ce : P.cellsOf e = 1) (cq : P.cellsOf q = 1) (hf : DataW.trod enc P w base (fun _ => true) held fuel t [.slice A len cap] = some y) : ∃ l : List (List UInt8), l.length = len ∧ Rows2 w A l ∧ len ≤ maxLen := by
  rcases open_slice1 ht ce hf with ⟨hcs, _⟩ | ⟨a, len', cap', m, n, V, D, Pl, hcs, _, hl, hm, hmm, _, hx⟩
  · simp at hcs
    obtain ⟨rfl, rfl, rfl⟩ := hcs
    exact ⟨[], rfl, fun h => absurd h (by simp), Nat.zero_le _⟩
  · simp at hcs
    obtain ⟨rfl, rfl, rfl⟩ := hcs
    simp only [if_true] at hmm
    subst hmm
    have each : ∀ i, i < len → ∃ x : List UInt8, ∃ B d, w.cell? (a.add i) = some (.slice B x.length d) ∧ SL w B d x ∧ x.length ≤ 9223372036854775807 := by
      intro i hil
      obtain ⟨hc, htr⟩ := hx i (by omega)
      obtain ⟨B, bl, bc, e2⟩ := Go.Joins.slice_form he htr
      injection e2 with e2
      rw [e2] at hc htr
      obtain ⟨b, hbl, hr, hbc', hbn, hbm⟩ := rb_of_trod he hq cq htr
      subst hbl
      unfold maxLen at hbm
      exact ⟨b, B, bc, hc, ⟨hr, hbc', hbn⟩, hbm⟩
    obtain ⟨l, hll, hp⟩ := list_choose len each
    refine ⟨l, hll, fun hn => ⟨a, rfl, ?_, fun i hil => hp i hil⟩, by omega⟩
    obtain ⟨_, _, hc, _⟩ := hp 0 hn
    have := block_lt_of_cell hc
    rwa [block_of_add] at this
end
end Go.Proofs.Ytebillkojmafoaa
