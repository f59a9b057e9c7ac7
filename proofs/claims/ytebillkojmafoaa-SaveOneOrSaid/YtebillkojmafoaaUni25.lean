/- The contracts of pack.Put and pack.Take in one uniform shape. -/
import Derived.Test.YtebillkojmafoaaPut
import Derived.Test.YtebillkojmafoaaTake
namespace Go.Proofs.Ytebillkojmafoaa
open Go.RowKit
set_option linter.unusedVariables false

theorem givesSL_of {w : World} {l : List UInt8} {e : Ending} {w' : World} (h : ∃ v, e = .returned v ∧ Gives w w' v l) : GivesSL w l e w' := by
  obtain ⟨v, rfl, A, c, rfl, ha, hb⟩ := h
  exact ⟨A, c, rfl, SL.of_ap ha, ha, hb⟩

def dN (l : List UInt8) : Nat := match dec l with | none => 0 | some p => p.1
def dR (l : List UInt8) : List UInt8 := match dec l with | none => [] | some p => p.2
def dE (l : List UInt8) : Int := match dec l with | none => 3 | some _ => 0

/-- What was taken: a value, the rest, and an error's number. -/
def TookSL (w : World) (v : Value) (r : List UInt8) (k : Int) (e : Ending) (w' : World) : Prop :=
  ∃ A c, e = .returned (.tuple #[v, .slice A r.length c, .int .i64 k]) ∧ SL w' A c r ∧ Bl w w'

section
variable {w : World} {A D : Option Addr} {c d : Nat} {l k : List UInt8}
theorem put_sl (h : SL w A c l) (n : Nat) (x : List UInt8) (hx : x = l ++ enc n) (hl : l.length ≤ 140737488355000) (hn : n < 2 ^ 64) :
    Calls Try.prog 28 #[.slice A l.length c, .int .u64 n] w (GivesSL w x) := hx ▸
  (put_any A c l n w h.rb h.cap h.none_len hl hn).mono fun _ _ => givesSL_of
theorem took_of {e : Ending} {w' : World} (h : TakePost w w.heap.size (dec l) e w') : TookSL w (.int .u64 (dN l)) (dR l) (dE l) e w' := by
  unfold dN dR dE
  rcases hd : dec l with _ | ⟨n, r⟩ <;> rw [hd] at h
  · obtain ⟨rfl, j, rfl⟩ := h
    exact ⟨none, 0, rfl, SL.nil_ _, Bl.drewN _ _⟩
  · obtain ⟨A, c, j, rfl, hr, hc, hA, rfl⟩ := h
    exact ⟨A, c, rfl, ⟨hr.drewN j, hc, hA⟩, Bl.drewN _ _⟩
theorem take_sl (h : SL w A c l) (hl : l.length ≤ 140737488355328) :
    Calls Try.prog 36 #[.slice A l.length c] w (TookSL w (.int .u64 (dN l)) (dR l) (dE l)) :=
  (take_any A c w.heap.size l w h.rb h.cap h.none_ hl).mono fun _ _ => took_of
end
end Go.Proofs.Ytebillkojmafoaa
