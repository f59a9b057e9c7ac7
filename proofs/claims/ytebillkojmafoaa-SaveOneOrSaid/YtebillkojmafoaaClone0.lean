/- The contract of slices.Clone at bytes. -/
import Derived.Test.YtebillkojmafoaaSL
import Derived.WalkSpells
namespace Go.Proofs.Ytebillkojmafoaa
open Go.RowKit
set_option linter.unusedVariables false

/-- A slice was given, made since; if it is not empty, its row is the call's own. -/
def GivesOwn (w : World) (l : List UInt8) (e : Ending) (w' : World) : Prop :=
  ∃ A c, e = .returned (.slice A l.length c) ∧ SL w' A c l ∧ Bl w w' ∧ (∀ a, A = some a → w.heap.size ≤ a.block) ∧ (0 < l.length → w'.ownsRow w.heap.size 5 1 (.slice A l.length c) l.length (l.map vb))
theorem GivesOwn.mk' {w w' : World} {l : List UInt8} {n : Nat} {A : Option Addr} {c : Nat} (hn : n = l.length) (h1 : SL w' A c l) (h2 : Bl w w') (h3 : ∀ a, A = some a → w.heap.size ≤ a.block)
    (h4 : 0 < l.length → w'.ownsRow w.heap.size 5 1 (.slice A n c) n (l.map vb)) : GivesOwn w l (.returned (.slice A n c)) w' := by
  subst hn
  exact ⟨A, c, rfl, h1, h2, h3, h4⟩
theorem Apd.new {w w' : World} {e : TypeId} {base n' c' : Nat} {A A' : Option Addr} {l' : List UInt8} (h : Apd w w' e base A A' n' c' l') (B : Nat) (hB : B ≤ w.heap.size) (hA : ∀ a, A = some a → B ≤ a.block) : ∀ a, A' = some a → B ≤ a.block := by
  intro a ha
  subst ha
  rcases h.at_ with e | e
  · cases A with
    | none => simp at e
    | some a0 => simp at e; rw [e]; exact hA _ rfl
  · exact Nat.le_trans hB (e _ rfl)

set_option maxRecDepth 100000 in
theorem clone_sl (A : Option Addr) (c : Nat) (l : List UInt8) (w : World) (h : SL w A c l) (hl : l.length ≤ 140737488355328) :
    Calls Try.prog 20 #[.slice A l.length c] w (GivesOwn w l) := by
  have hn := fun (w : World) a n c n' c' => Lib.run_eql_slice_nil (P := Try.prog) w 22 5 a n c n' c' Try.underlying22
  rcases A with _ | ad
  · have hc := h.none_ rfl
    have hl0 := h.cap
    have hl1 : l = [] := List.eq_nil_of_length_eq_zero (by omega)
    subst hc hl1
    clear h hl0
    go_enter Try.func20, Try.ntmps20
    go_wp2
    go_ret
    exact GivesOwn.mk' rfl (SL.nil_ _) (Bl.refl _) (fun a h => by cases h) (fun h => by cases h)
  · have hs := (h.step (Bl.alloc w (.cells #[] 5))).rb
    clear h
    go_enter Try.func20, Try.ntmps20
    go_wp2_with (at_builtin; refine wpList_append_ap2 _ rfl (.tmp 5) (.tmp 6) _ rfl bytesT (Ap.empty (base := w.heap.size) (some ⟨w.heap.size, 0, none⟩)) rfl hs rfl rfl (by omega) (by simp) ?_; intro A3 c3 w3 hd3 ho3; simp only [Nat.zero_add, List.nil_append] at hd3 ho3)
    go_ret
    exact GivesOwn.mk' rfl (SL.of_apd hd3 rfl) (Below.trans (Bl.alloc w _) hd3.below) (hd3.new _ (by simp) (fun a h => by cases h; exact Nat.le_refl _)) ho3
end Go.Proofs.Ytebillkojmafoaa
