/- An array of two slices of flags that is read. Nothing of the program. -/
import Derived.Test.YtmjdmigjhllmeaaRowKit
import Derived.Test.YtmjdmigjhllmeaaActWords
namespace Go.Proofs.Ytmjdmigjhllmeaa
open Go.RowKit Go.ChangeShapes Go.WideShapes Go.ChangeAt
section
variable {H : Type} {enc : TypeId × Value → H} {P : Program} {w : World} {base : Nat} {held : Bool}
theorem open_arr2k {r : Reach} {b0 : Nat} {u t e : TypeId} {v : Value} {d : DataW H} {p : List MemPlace} (hu : P.underlying u = some (.array 2 t)) (hC : P.cellsOf u = 2) (hCt : P.cellsOf t = 1)
    (ht : P.underlying t = some (.slice e)) (he : P.underlying e = some .bool) (hc : P.cellsOf e = 1) (hv : Value.okWide P w r b0 u v) (h : DataW.Trod enc P w base (fun _ => true) held u v d p) :
    ∃ (A B : Option Addr) (c d' : Nat) (l k : List Bool), v = .agg #[.slice A l.length c, .slice B k.length d'] ∧ KL w A c l ∧ KL w B d' k := by
  obtain ⟨cs, rfl, hsz, _⟩ : ∃ cs, v = .agg cs ∧ cs.size = P.cellsOf u ∧ Row.okWide P w r b0 u cs := by
    simpa only [Value.okWide, hu] using hv
  obtain ⟨c0, c1, rfl⟩ := Go.Joins.array2 (hsz.trans hC)
  obtain ⟨fuel, hf⟩ := h
  obtain ⟨xs, m, _, _, _, hlen, hg⟩ := DataW.trod_array hu hf
  have g0 := hg 0 (by omega)
  have g1 := hg 1 (by omega)
  rw [List.getElem?_eq_getElem (by omega)] at g0 g1
  simp only [Value.cells, hCt, List.drop, List.take, Nat.zero_mul, Nat.one_mul] at g0 g1
  obtain ⟨A, n, c, h0⟩ := Go.Joins.slice_form ht g0
  obtain ⟨B, m', d', h1⟩ := Go.Joins.slice_form ht g1
  injection h0 with h0
  injection h1 with h1
  subst h0 h1
  obtain ⟨l, hl, hL, _⟩ := kl_of_trod ht he hc g0
  obtain ⟨k, hk, hK, _⟩ := kl_of_trod ht he hc g1
  subst hl hk
  exact ⟨A, B, c, d', l, k, rfl, hL, hK⟩
end
end Go.Proofs.Ytmjdmigjhllmeaa
