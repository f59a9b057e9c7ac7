/- The contract of ratchetref24.Few. -/
import Derived.Test.YtmjdmigjhllmeaaActWords
import Derived.Outline
namespace Go.Proofs.Ytmjdmigjhllmeaa
open Go.RowKit
set_option linter.unusedVariables false

def smallAct (x : ActP) : Prop := x.b.length ≤ 100 ∧ x.keep.length ≤ 100
instance (x : ActP) : Decidable (smallAct x) := by unfold smallAct; infer_instance
/-- Are there few acts? -/
def fewB (l : List ActP) (n : Nat) : Bool := decide ((∀ x ∈ l, smallAct x) ∧ l.length ≤ n)

set_option maxRecDepth 100000 in
theorem few_any (A : Option Addr) (c : Nat) (l : List ActP) (n : Nat) (w : World) (h : Acts w A l) (hl : l.length ≤ 9223372036854775807) :
    Calls Try.prog 8 #[.slice A l.length c, .int .i64 (n : Int)] w fun e w' => e = .returned (.bool (fewB l n)) ∧ w = w' := by
  go_enter Try.func8, Try.ntmps8
  go_wp2
  go_loop [5] (fun i => ∃ k : Nat, k ≤ l.length ∧ i = .int .i64 k ∧ Hid (∀ j, (hj : j < l.length) → j < k → smallAct l[j])) (fun i => l.length - (intOf i).toNat)
  case atStart => exact ⟨0, Nat.zero_le _, rfl, fun j hj h => absurd h (by omega)⟩
  case round =>
    obtain ⟨k, hk, rfl, HS⟩ := hrel
    by_cases hlt : k < l.length
    · obtain ⟨g, o, B, bc, K, kc, rfl, c0, c1, c2, c3, sb, sk, hb⟩ := h.at_ hlt
      have hkm := sk.max
      by_cases h1 : l[k].b.length ≤ 100
      · by_cases h2 : l[k].keep.length ≤ 100
        · have HS2 : Hid (∀ j, (hj : j < l.length) → j < k + 1 → smallAct l[j]) := fun j hj h => by
            by_cases e : j < k
            · exact HS.out j hj e
            · obtain rfl : j = k := by omega
              exact ⟨h1, h2⟩
          clear h sb sk HS
          go_wp2
          go_round
          case rel => exact ⟨k + 1, by omega, by go_num, HS2⟩
          case measure => simp [intOf]; omega
        · have hF : Hid (fewB l n = false) := by
            show _ = _
            unfold fewB
            simp only [decide_eq_false_iff_not]
            intro ⟨hall, _⟩
            exact h2 (hall l[k] (List.getElem_mem _)).2
          clear h sb sk HS
          go_wp2
          go_ret
          exact ⟨by rw [hF.out]; rfl, rfl⟩
      · have hF : Hid (fewB l n = false) := by
          show _ = _
          unfold fewB
          simp only [decide_eq_false_iff_not]
          intro ⟨hall, _⟩
          exact h1 (hall l[k] (List.getElem_mem _)).1
        clear h sb sk HS
        go_wp2
        go_ret
        exact ⟨by rw [hF.out]; rfl, rfl⟩
    · have hF : Hid (fewB l n = decide (l.length ≤ n)) := by
        show _ = _
        unfold fewB
        have hall : ∀ x ∈ l, smallAct x := fun x hx => by
          obtain ⟨j, hj, rfl⟩ := List.getElem_of_mem hx
          exact HS.out j hj (by omega)
        exact decide_eq_decide.2 ⟨fun h => h.2, fun h => ⟨hall, h⟩⟩
      clear h HS
      by_cases hn : l.length ≤ n
      · go_wp2
        go_ret
        exact ⟨by rw [hF.out]; simp [hn], rfl⟩
      · go_wp2
        go_ret
        exact ⟨by rw [hF.out]; simp [hn], rfl⟩
end Go.Proofs.Ytmjdmigjhllmeaa
