/- Arrays of two numbers that are read. Nothing of the program. -/
import Derived.Test.YtcbfcbkpbaefaaaRowKit
namespace Go.Proofs.Ytcbfcbkpbaefaaa
open Go.RowKit Go.ChangeShapes Go.WideShapes Go.ChangeAt
section
variable {H : Type} {enc : TypeId × Value → H} {P : Program} {w : World} {base : Nat} {held : Bool}
/-- An array of two bytes that is read. -/
theorem open_arr2b {r : Reach} {b0 : Nat} {u e : TypeId} {v : Value} {d : DataW H} {p : List MemPlace} (hu : P.underlying u = some (.array 2 e)) (hC : P.cellsOf u = 2)
    (he : P.underlying e = some (.int .u8)) (hc : P.cellsOf e = 1) (hv : Value.okWide P w r b0 u v) (h : DataW.Trod enc P w base (fun _ => true) held u v d p) :
    ∃ x0 x1 : UInt8, v = .agg #[.int .u8 x0.toNat, .int .u8 x1.toNat] := by
  obtain ⟨cs, rfl, hsz, _⟩ : ∃ cs, v = .agg cs ∧ cs.size = P.cellsOf u ∧ Row.okWide P w r b0 u cs := by
    simpa only [Value.okWide, hu] using hv
  obtain ⟨c0, c1, rfl⟩ := Go.Joins.array2 (hsz.trans hC)
  obtain ⟨fuel, hf⟩ := h
  obtain ⟨xs, m, _, _, _, hlen, hg⟩ := DataW.trod_array hu hf
  have one : ∀ (c : Value) (y : DataW H × List MemPlace), DataW.trod enc P w base (fun _ => true) held m e [c] = some y → ∃ x : UInt8, c = .int .u8 x.toNat := by
    intro c y hy
    obtain ⟨a, e0, _, wa⟩ := DataW.trod_int he hy
    simp at e0
    subst e0
    obtain ⟨x, rfl⟩ := u8_byte wa
    exact ⟨x, rfl⟩
  have g0 := hg 0 (by omega)
  have g1 := hg 1 (by omega)
  rw [List.getElem?_eq_getElem (by omega)] at g0 g1
  simp only [Value.cells, hc, List.drop, List.take, Nat.mul_one] at g0 g1
  obtain ⟨x0, rfl⟩ := one _ _ g0
  obtain ⟨x1, rfl⟩ := one _ _ g1
  exact ⟨x0, x1, rfl⟩
/-- An array of two numbers of 32 bits that is read. -/
theorem open_arr2u {r : Reach} {b0 : Nat} {u e : TypeId} {v : Value} {d : DataW H} {p : List MemPlace} (hu : P.underlying u = some (.array 2 e)) (hC : P.cellsOf u = 2)
    (he : P.underlying e = some (.int .u32)) (hc : P.cellsOf e = 1) (hv : Value.okWide P w r b0 u v) (h : DataW.Trod enc P w base (fun _ => true) held u v d p) :
    ∃ x0 x1 : Nat, v = .agg #[.int .u32 x0, .int .u32 x1] ∧ x0 < 2 ^ 32 ∧ x1 < 2 ^ 32 := by
  obtain ⟨cs, rfl, hsz, _⟩ : ∃ cs, v = .agg cs ∧ cs.size = P.cellsOf u ∧ Row.okWide P w r b0 u cs := by
    simpa only [Value.okWide, hu] using hv
  obtain ⟨c0, c1, rfl⟩ := Go.Joins.array2 (hsz.trans hC)
  obtain ⟨fuel, hf⟩ := h
  obtain ⟨xs, m, _, _, _, hlen, hg⟩ := DataW.trod_array hu hf
  have one : ∀ (c : Value) (y : DataW H × List MemPlace), DataW.trod enc P w base (fun _ => true) held m e [c] = some y → ∃ x : Nat, c = .int .u32 x ∧ x < 2 ^ 32 := by
    intro c y hy
    obtain ⟨a, e0, _, wa⟩ := DataW.trod_int he hy
    simp at e0
    subst e0
    obtain ⟨x, rfl, hx⟩ := u32_nat wa
    exact ⟨x, rfl, hx⟩
  have g0 := hg 0 (by omega)
  have g1 := hg 1 (by omega)
  rw [List.getElem?_eq_getElem (by omega)] at g0 g1
  simp only [Value.cells, hc, List.drop, List.take, Nat.mul_one] at g0 g1
  obtain ⟨x0, rfl, hx0⟩ := one _ _ g0
  obtain ⟨x1, rfl, hx1⟩ := one _ _ g1
  exact ⟨x0, x1, rfl, hx0, hx1⟩
end
end Go.Proofs.Ytcbfcbkpbaefaaa
