/- From what the row's frame gives of an argument to what the walks ask. Nothing of the program. -/
import Derived.Test.YtbpmccikkijbmaaWords
import Derived.ShutString
namespace Go.Proofs.Ytbpmccikkijbmaa
open Go.RowKit

theorem block_lt_of_cell {w : World} {a : Addr} {v : Value} (h : w.cell? a = some v) : a.block < w.heap.size := by
  rcases Nat.lt_or_ge a.block w.heap.size with h' | h'
  · exact h'
  · simp [World.cell?, Array.getElem?_eq_none h'] at h

/-- A slice of bytes that came in reads as a list of bytes. -/
theorem rb_of_row {w : World} {a : Option Addr} {len cap : Nat} {zs : List Int}
    (h : (a = none ∧ len = 0 ∧ cap = 0 ∧ zs = []) ∨
      ∃ x, a = some x ∧ len ≤ cap ∧ cap ≤ maxLen ∧ zs.length = cap ∧ (∀ i, i < zs.length → w.cell? (x.add i) = some (.int .u8 (zs.getD i 0))) ∧ ∀ n ∈ zs, (Lit.int .u8 n).wf = true) :
    ∃ l : List UInt8, l.length = len ∧ RB w w.heap.size a l ∧ len ≤ cap ∧ (a = none → cap = 0) ∧ len ≤ maxLen := by
  rcases h with ⟨rfl, rfl, rfl, rfl⟩ | ⟨x, rfl, hl, hm, hz, hc, hw⟩
  · exact ⟨[], rfl, RB.nil_, Nat.le_refl _, fun _ => rfl, Nat.zero_le _⟩
  · refine ⟨(zs.take len).map fun z => UInt8.ofNat z.toNat, by simp; omega, fun hn => ?_, hl, (fun e => by cases e), by omega⟩
    simp only [List.length_map, List.length_take] at hn
    have h0 := hc 0 (by omega)
    refine ⟨x, rfl, ?_, fun j hj => ?_⟩
    · have := block_lt_of_cell h0
      rwa [block_of_add] at this
    · simp only [List.length_map, List.length_take] at hj
      have hjz : j < zs.length := by omega
      rw [hc j hjz, List.getElem_map, List.getElem_take, List.getD_eq_getElem?_getD, List.getElem?_eq_getElem hjz]
      have hb : 0 ≤ zs[j] ∧ zs[j] ≤ 255 := by simpa [Lit.wf, IntKind.min, IntKind.max, IntKind.signed, IntKind.bits] using hw _ (List.getElem_mem hjz)
      simp only [Option.getD_some, vb, UInt8.toNat_ofNat']
      congr 2
      omega

theorem u64_nat {n : Int} (h : (Lit.int .u64 n).wf = true) : ∃ k : Nat, n = (k : Int) ∧ k < 2 ^ 64 := by
  have hb : 0 ≤ n ∧ n ≤ 18446744073709551615 := by simpa [Lit.wf, IntKind.min, IntKind.max, IntKind.signed, IntKind.bits] using h
  exact ⟨n.toNat, by omega, by omega⟩
end Go.Proofs.Ytbpmccikkijbmaa
