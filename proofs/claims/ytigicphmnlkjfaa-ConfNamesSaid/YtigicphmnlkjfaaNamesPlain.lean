/- Names with a byte behind: plain. -/
import Derived.Test.YtigicphmnlkjfaaNames
import Derived.Test.YtigicphmnlkjfaaStr
namespace Go.Proofs.Ytigicphmnlkjfaa
open Go.RowKit
set_option linter.unusedVariables false

theorem nameP_first {s : ByteArray} (h : NameP s) : ∃ h0 : 0 < s.size, 97 ≤ (s[0]).toNat ∧ (s[0]).toNat ≤ 122 := by
  have h0 : 0 < s.size := by have := h.1; omega
  refine ⟨h0, ?_⟩
  have := h.2 0 h0
  unfold okc at this
  omega
theorem nameP_push (s : ByteArray) (c : UInt8) (h : 0 < s.size) : NameP (s ++ ⟨#[c]⟩) ↔ NameP s ∧ okc 1 c ∧ s.size < 20 := by
  have hsz : (s ++ ⟨#[c]⟩ : ByteArray).size = s.size + 1 := by rw [ByteArray.size_append]; rfl
  have h1 : ∀ i, (hi : i < s.size) → (s ++ ⟨#[c]⟩ : ByteArray)[i]'(by omega) = s[i] := fun i hi => ByteArray.getElem_append_left hi
  have h2 : (s ++ ⟨#[c]⟩ : ByteArray)[s.size]'(by omega) = c := by
    rw [ByteArray.getElem_append_right (Nat.le_refl _)]
    simp only [Nat.sub_self]; rfl
  have hc : okc s.size c ↔ okc 1 c := by unfold okc; omega
  unfold NameP
  constructor
  · intro ⟨⟨a, b⟩, k⟩
    refine ⟨⟨⟨h, by omega⟩, fun i hi => ?_⟩, ?_, by omega⟩
    · have := k i (by omega); rwa [h1 i hi] at this
    · have := k s.size (by omega); rw [h2] at this; exact hc.1 this
  · intro ⟨⟨⟨a, b⟩, k⟩, m, n⟩
    refine ⟨⟨by omega, by omega⟩, fun i hi => ?_⟩
    by_cases e : i < s.size
    · rw [h1 i e]; exact k i e
    · obtain rfl : i = s.size := by omega
      rw [h2]; exact hc.2 m
theorem str_one (w : World) (c : UInt8) (t : TypeId) (n : Nat) (fr : Nat × Nat) : (convert 37 9 (.slice (some ⟨w.heap.size, 0, none⟩) 1 n)).run Try.prog (w.alloc (.cells #[.int .u8 c.toNat] t fr)) = .ok (.string ⟨#[c]⟩) (w.alloc (.cells #[.int .u8 c.toNat] t fr)) := by
  have hc : ∀ j v, ([c].map vb)[j]? = some v → (w.alloc (.cells #[.int .u8 c.toNat] t fr)).cell? ⟨w.heap.size, j, none⟩ = some v := by
    intro j v hv
    rw [cell_of_row _ w.heap.size j _ t fr (heap_alloc_new w _)]
    rcases j with _ | j
    · simpa [vb] using hv
    · simp at hv
  refine run_str (B := w.heap.size + 1) bytesT Try.underlying5 Try.underlying9 (l := [c]) (fun hn => ?_) 1 n rfl (by simp)
  exact ⟨⟨w.heap.size, 0, none⟩, rfl, by simp, fun j hj => by
    obtain rfl : j = 0 := by simpa using hj
    exact hc 0 _ rfl⟩
end Go.Proofs.Ytigicphmnlkjfaa
