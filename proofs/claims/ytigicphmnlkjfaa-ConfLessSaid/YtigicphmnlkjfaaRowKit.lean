/- From what the row's frame gives of an argument to what the walks ask. Nothing of the program. -/
import Derived.Test.YtigicphmnlkjfaaWords
import Derived.ShutString
import Derived.ProofKit
import Derived.OpenShut
import Derived.Lib.SmallJoins
namespace Go.Proofs.Ytigicphmnlkjfaa
open Go.RowKit Go.ChangeShapes Go.WideShapes Go.ChangeAt

theorem block_lt_of_cell {w : World} {a : Addr} {v : Value} (h : w.cell? a = some v) : a.block < w.heap.size := by
  rcases Nat.lt_or_ge a.block w.heap.size with h' | h'
  · exact h'
  · simp [World.cell?, Array.getElem?_eq_none h'] at h

/-- A slice of bytes that came in reads as a list of bytes. -/
theorem rb_of_row {w : World} {a : Option Addr} {len cap : Nat} {zs : List Int}
    (h : (a = none ∧ len = 0 ∧ cap = 0 ∧ zs = []) ∨
      ∃ x, a = some x ∧ len ≤ cap ∧ cap ≤ maxLen ∧ zs.length = cap ∧ (∀ i, i < zs.length → w.cell? (x.add i) = some (.int .u8 (zs.getD i 0))) ∧ ∀ n ∈ zs, (Lit.int .u8 n).wf = true) :
    ∃ l : List UInt8, l.length = len ∧ RB w w.heap.size a l ∧ len ≤ cap ∧ (a = none → cap = 0) ∧ len ≤ maxLen := by
  rcases h with ⟨rfl, rfl, rfl, rfl⟩ | ⟨x, rfl, hl, hm, hz, hc, hw⟩
  · exact ⟨[], rfl, RB.nil_, Nat.le_refl _, fun _ => rfl, Nat.zero_le _⟩
  · refine ⟨(zs.take len).map fun z => UInt8.ofNat z.toNat, by simp; omega, fun hn => ?_, hl, (fun e => by cases e), by omega⟩
    simp only [List.length_map, List.length_take] at hn
    have h0 := hc 0 (by omega)
    refine ⟨x, rfl, ?_, fun j hj => ?_⟩
    · have := block_lt_of_cell h0
      rwa [block_of_add] at this
    · simp only [List.length_map, List.length_take] at hj
      have hjz : j < zs.length := by omega
      rw [hc j hjz, List.getElem_map, List.getElem_take, List.getD_eq_getElem?_getD, List.getElem?_eq_getElem hjz]
      have hb : 0 ≤ zs[j] ∧ zs[j] ≤ 255 := by simpa [Lit.wf, IntKind.min, IntKind.max, IntKind.signed, IntKind.bits] using hw _ (List.getElem_mem hjz)
      simp only [Option.getD_some, vb, UInt8.toNat_ofNat']
      congr 2
      omega

theorem u32_nat {n : Int} (h : (Lit.int .u32 n).wf = true) : ∃ k : Nat, n = (k : Int) ∧ k < 2 ^ 32 := by
  have hb : 0 ≤ n ∧ n ≤ 4294967295 := by simpa [Lit.wf, IntKind.min, IntKind.max, IntKind.signed, IntKind.bits] using h
  exact ⟨n.toNat, by omega, by omega⟩
theorem u8_byte {n : Int} (h : (Lit.int .u8 n).wf = true) : ∃ c : UInt8, n = (c.toNat : Int) := by
  have hb : 0 ≤ n ∧ n ≤ 255 := by simpa [Lit.wf, IntKind.min, IntKind.max, IntKind.signed, IntKind.bits] using h
  refine ⟨UInt8.ofNat n.toNat, ?_⟩
  simp only [UInt8.toNat_ofNat']
  omega
theorem u64_nat {n : Int} (h : (Lit.int .u64 n).wf = true) : ∃ k : Nat, n = (k : Int) ∧ k < 2 ^ 64 := by
  have hb : 0 ≤ n ∧ n ≤ 18446744073709551615 := by simpa [Lit.wf, IntKind.min, IntKind.max, IntKind.signed, IntKind.bits] using h
  exact ⟨n.toNat, by omega, by omega⟩

section
variable {H : Type} {enc : TypeId × Value → H} {P : Program} {w : World} {base : Nat} {held : Bool}
/-- A slice of bytes that is read, as a list of bytes. -/
theorem rb_of_trod {t e : TypeId} {fuel : Nat} {a : Option Addr} {len cap : Nat} {y : DataW H × List MemPlace} (ht : P.underlying t = some (.slice e)) (he : P.underlying e = some (.int .u8)) (hc : P.cellsOf e = 1)
    (hf : DataW.trod enc P w base (fun _ => true) held fuel t [.slice a len cap] = some y) :
    ∃ l : List UInt8, l.length = len ∧ RB w w.heap.size a l ∧ len ≤ cap ∧ (a = none → cap = 0) ∧ len ≤ maxLen := by
  rcases open_ints ht he hc hf with ⟨hcs, _⟩ | ⟨x, l, c, zs, hcs, _, hl, hm, hz, _, hcell, hwz⟩
  · simp at hcs
    obtain ⟨rfl, rfl, rfl⟩ := hcs
    exact rb_of_row (zs := []) (.inl ⟨rfl, rfl, rfl, rfl⟩)
  · simp at hcs
    obtain ⟨rfl, rfl, rfl⟩ := hcs
    exact rb_of_row (.inr ⟨_, rfl, hl, hm, by simpa using hz, hcell, hwz⟩)

/-- An array of two slices of bytes that is read. -/
theorem open_arr2 {r : Reach} {b0 : Nat} {u t e : TypeId} {v : Value} {d : DataW H} {p : List MemPlace} (hu : P.underlying u = some (.array 2 t)) (hC : P.cellsOf u = 2) (hCt : P.cellsOf t = 1)
    (ht : P.underlying t = some (.slice e)) (he : P.underlying e = some (.int .u8)) (hc : P.cellsOf e = 1) (hv : Value.okWide P w r b0 u v) (h : DataW.Trod enc P w base (fun _ => true) held u v d p) :
    ∃ (A B : Option Addr) (n m c d' : Nat) (l k : List UInt8), v = .agg #[.slice A n c, .slice B m d'] ∧
      (l.length = n ∧ RB w w.heap.size A l ∧ n ≤ c ∧ (A = none → c = 0) ∧ n ≤ maxLen) ∧ (k.length = m ∧ RB w w.heap.size B k ∧ m ≤ d' ∧ (B = none → d' = 0) ∧ m ≤ maxLen) := by
  obtain ⟨cs, rfl, hsz, _⟩ : ∃ cs, v = .agg cs ∧ cs.size = P.cellsOf u ∧ Row.okWide P w r b0 u cs := by
    simpa only [Value.okWide, hu] using hv
  obtain ⟨c0, c1, rfl⟩ := Go.Joins.array2 (hsz.trans hC)
  obtain ⟨fuel, hf⟩ := h
  obtain ⟨xs, m, _, _, _, hlen, hg⟩ := DataW.trod_array hu hf
  have g0 := hg 0 (by omega)
  have g1 := hg 1 (by omega)
  rw [List.getElem?_eq_getElem (by omega)] at g0 g1
  simp only [Value.cells, hCt, List.drop, List.take, Nat.zero_mul, Nat.one_mul] at g0 g1
  obtain ⟨A, n, c, h0⟩ := Go.Joins.slice_form ht g0
  obtain ⟨B, m', d', h1⟩ := Go.Joins.slice_form ht g1
  injection h0 with h0
  injection h1 with h1
  subst h0 h1
  obtain ⟨l, hl⟩ := rb_of_trod ht he hc g0
  obtain ⟨k, hk⟩ := rb_of_trod ht he hc g1
  exact ⟨A, B, n, m', c, d', l, k, rfl, hl, hk⟩
/-- An array of four bytes that is read. -/
theorem open_arr4 {r : Reach} {b0 : Nat} {u e : TypeId} {v : Value} {d : DataW H} {p : List MemPlace} (hu : P.underlying u = some (.array 4 e)) (hC : P.cellsOf u = 4)
    (he : P.underlying e = some (.int .u8)) (hc : P.cellsOf e = 1) (hv : Value.okWide P w r b0 u v) (h : DataW.Trod enc P w base (fun _ => true) held u v d p) :
    ∃ x0 x1 x2 x3 : UInt8, v = .agg #[.int .u8 x0.toNat, .int .u8 x1.toNat, .int .u8 x2.toNat, .int .u8 x3.toNat] := by
  obtain ⟨cs, rfl, hsz, _⟩ : ∃ cs, v = .agg cs ∧ cs.size = P.cellsOf u ∧ Row.okWide P w r b0 u cs := by
    simpa only [Value.okWide, hu] using hv
  obtain ⟨c0, c1, c2, c3, rfl⟩ := Go.Joins.array4 (hsz.trans hC)
  obtain ⟨fuel, hf⟩ := h
  obtain ⟨xs, m, _, _, _, hlen, hg⟩ := DataW.trod_array hu hf
  have one : ∀ (c : Value) (y : DataW H × List MemPlace), DataW.trod enc P w base (fun _ => true) held m e [c] = some y → ∃ x : UInt8, c = .int .u8 x.toNat := by
    intro c y hy
    obtain ⟨a, e0, _, wa⟩ := DataW.trod_int he hy
    simp at e0
    subst e0
    obtain ⟨x, rfl⟩ := u8_byte wa
    exact ⟨x, rfl⟩
  have g0 := hg 0 (by omega)
  have g1 := hg 1 (by omega)
  have g2 := hg 2 (by omega)
  have g3 := hg 3 (by omega)
  rw [List.getElem?_eq_getElem (by omega)] at g0 g1 g2 g3
  simp only [Value.cells, hc, List.drop, List.take, Nat.mul_one] at g0 g1 g2 g3
  obtain ⟨x0, rfl⟩ := one _ _ g0
  obtain ⟨x1, rfl⟩ := one _ _ g1
  obtain ⟨x2, rfl⟩ := one _ _ g2
  obtain ⟨x3, rfl⟩ := one _ _ g3
  exact ⟨x0, x1, x2, x3, rfl⟩
end
end Go.Proofs.Ytigicphmnlkjfaa
