/- The contracts of layer 13 in one uniform shape: a slice that reads as bytes, a world in which nothing that was there has changed. -/
import Derived.Test.YtbpmccikkijbmaaAlive13
namespace Go.Proofs.Ytbpmccikkijbmaa
open Go.RowKit
set_option linter.unusedVariables false

/-- Nothing that was there has changed. -/
def Bl (w w' : World) : Prop := Below w.heap.size w w'
theorem Bl.trans {a b c : World} (h : Bl a b) (k : Bl b c) : Bl a c := Below.trans h (Below.mono k h.size)
theorem Bl.refl (w : World) : Bl w w := Below.refl _ _
theorem Bl.drewN (w : World) (n : Nat) : Bl w (w.drewN n) := below_drewN (Below.refl _ _) n
theorem Bl.alloc (w : World) (o : Obj) : Bl w (w.alloc o) := Below.alloc (Below.refl _ _) (Nat.le_refl _) o

/-- The value '.slice A l.length c' reads as the bytes l. -/
structure SL (w : World) (A : Option Addr) (c : Nat) (l : List UInt8) : Prop where
  rb : RB w w.heap.size A l
  cap : l.length ≤ c
  none_ : A = none → c = 0
theorem SL.step {w w' : World} {A : Option Addr} {c : Nat} {l : List UInt8} (h : SL w A c l) (hb : Bl w w') : SL w' A c l :=
  ⟨(RB.below h.rb hb).more hb.size, h.cap, h.none_⟩
theorem SL.nil_ (w : World) : SL w none 0 [] := ⟨RB.nil_, by simp, fun _ => rfl⟩
theorem SL.none_len {w : World} {A : Option Addr} {c : Nat} {l : List UInt8} (h : SL w A c l) : A = none → l.length = 0 := fun e => by
  have := h.none_ e; have := h.cap; omega
theorem SL.of_ap {w : World} {A : Option Addr} {c base : Nat} {l : List UInt8} {e : TypeId} (h : Ap w e base A l.length c l) : SL w A c l := ⟨h.rb, h.cap, h.none_⟩

/-- A slice was given; it is the call's own. -/
def GivesSL (w : World) (l : List UInt8) (e : Ending) (w' : World) : Prop :=
  ∃ A c, e = .returned (.slice A l.length c) ∧ SL w' A c l ∧ Ap w' 5 w.heap.size A l.length c l ∧ Bl w w'
theorem givesSL_of {w : World} {l : List UInt8} {e : Ending} {w' : World} (h : ∃ v, e = .returned v ∧ Gives w w' v l) : GivesSL w l e w' := by
  obtain ⟨v, rfl, A, c, rfl, ha, hb⟩ := h
  exact ⟨A, c, rfl, SL.of_ap ha, ha, hb⟩

def dN (l : List UInt8) : Nat := match dec l with | none => 0 | some p => p.1
def dZ (l : List UInt8) : Int := match dec l with | none => 0 | some p => zag p.1
def dR (l : List UInt8) : List UInt8 := match dec l with | none => [] | some p => p.2
def dE (l : List UInt8) : Int := match dec l with | none => 3 | some _ => 0

/-- What was taken: a value, the rest, and an error's number. -/
def TookSL (w : World) (v : Value) (r : List UInt8) (k : Int) (e : Ending) (w' : World) : Prop :=
  ∃ A c, e = .returned (.tuple #[v, .slice A r.length c, .int .i64 k]) ∧ SL w' A c r ∧ Bl w w'

section
variable {w : World} {A D : Option Addr} {c d : Nat} {l k : List UInt8}
theorem put_sl (h : SL w A c l) (n : Nat) (x : List UInt8) (hx : x = l ++ enc n) (hl : l.length ≤ 140737488355000) (hn : n < 2 ^ 64) :
    Calls Try.prog 15 #[.slice A l.length c, .int .u64 n] w (GivesSL w x) := hx ▸
  (put_any A c l n w h.rb h.cap h.none_len hl hn).mono fun _ _ => givesSL_of
theorem rput_sl (h : SL w A c l) (n : Nat) (x : List UInt8) (hx : x = l ++ enc n) (hl : l.length ≤ 140737488355000) (hn : n < 2 ^ 64) :
    Calls Try.prog 16 #[.slice A l.length c, .int .u64 n] w (GivesSL w x) := hx ▸
  (rput_any A c l n w h.rb hl hn).mono fun _ _ => givesSL_of
theorem putInt_sl (h : SL w A c l) (n : Int) (x : List UInt8) (hx : x = l ++ enc (zig n)) (hl : l.length ≤ 140737488355000) (hn : (Lit.int .i64 n).wf = true) :
    Calls Try.prog 17 #[.slice A l.length c, .int .i64 n] w (GivesSL w x) := hx ▸
  (putInt_any A c l n w h.rb h.cap h.none_len hl hn).mono fun _ _ => givesSL_of
theorem rputInt_sl (h : SL w A c l) (n : Int) (x : List UInt8) (hx : x = l ++ enc (zig n)) (hl : l.length ≤ 140737488355000) (hn : (Lit.int .i64 n).wf = true) :
    Calls Try.prog 18 #[.slice A l.length c, .int .i64 n] w (GivesSL w x) := hx ▸
  (rputInt_any A c l n w h.rb hl hn).mono fun _ _ => givesSL_of
theorem putRow_sl (h : SL w A c l) (hk : SL w D d k) (x : List UInt8) (hx : x = l ++ (enc k.length ++ k)) (hl : l.length + k.length ≤ 140737488355000) :
    Calls Try.prog 21 #[.slice A l.length c, .slice D k.length d] w (GivesSL w x) := hx ▸
  (putRow_any A D c d l k w h.rb h.cap h.none_len hk.rb hl).mono fun _ _ => givesSL_of
theorem rputRow_sl (h : SL w A c l) (hk : SL w D d k) (x : List UInt8) (hx : x = l ++ (enc k.length ++ k)) (hl : l.length + k.length ≤ 140737488355000) :
    Calls Try.prog 22 #[.slice A l.length c, .slice D k.length d] w (GivesSL w x) := hx ▸
  (rputRow_any A D c d l k w h.rb hk.rb hl).mono fun _ _ => givesSL_of

theorem took_of {e : Ending} {w' : World} (h : TakePost w w.heap.size (dec l) e w') : TookSL w (.int .u64 (dN l)) (dR l) (dE l) e w' := by
  unfold dN dR dE
  rcases hd : dec l with _ | ⟨n, r⟩ <;> rw [hd] at h
  · obtain ⟨rfl, j, rfl⟩ := h
    exact ⟨none, 0, rfl, SL.nil_ _, Bl.drewN _ _⟩
  · obtain ⟨A, c, j, rfl, hr, hc, hA, rfl⟩ := h
    exact ⟨A, c, rfl, ⟨hr.drewN j, hc, hA⟩, Bl.drewN _ _⟩
theorem tookInt_of {e : Ending} {w' : World} (h : TIntPost w w.heap.size (dec l) e w') : TookSL w (.int .i64 (dZ l)) (dR l) (dE l) e w' := by
  unfold dZ dR dE
  rcases hd : dec l with _ | ⟨n, r⟩ <;> rw [hd] at h
  · obtain ⟨rfl, j, rfl⟩ := h
    exact ⟨none, 0, rfl, SL.nil_ _, Bl.drewN _ _⟩
  · obtain ⟨A, c, j, rfl, hr, hc, hA, rfl⟩ := h
    exact ⟨A, c, rfl, ⟨hr.drewN j, hc, hA⟩, Bl.drewN _ _⟩
theorem take_sl (h : SL w A c l) (hl : l.length ≤ 140737488355328) :
    Calls Try.prog 10 #[.slice A l.length c] w (TookSL w (.int .u64 (dN l)) (dR l) (dE l)) :=
  (take_any A c w.heap.size l w h.rb h.cap h.none_ hl).mono fun _ _ => took_of
theorem rtake_sl (h : SL w A c l) (hl : l.length ≤ 140737488355328) :
    Calls Try.prog 11 #[.slice A l.length c] w (TookSL w (.int .u64 (dN l)) (dR l) (dE l)) :=
  (rtake_any A c w.heap.size l w h.rb h.cap h.none_ hl).mono fun _ _ => took_of
theorem takeInt_sl (h : SL w A c l) (hl : l.length ≤ 140737488355328) :
    Calls Try.prog 12 #[.slice A l.length c] w (TookSL w (.int .i64 (dZ l)) (dR l) (dE l)) :=
  (takeInt_any A c w.heap.size l w h.rb h.cap h.none_ hl).mono fun _ _ => tookInt_of
theorem rtakeInt_sl (h : SL w A c l) (hl : l.length ≤ 140737488355328) :
    Calls Try.prog 13 #[.slice A l.length c] w (TookSL w (.int .i64 (dZ l)) (dR l) (dE l)) :=
  (rtakeInt_any A c w.heap.size l w h.rb h.cap h.none_ hl).mono fun _ _ => tookInt_of

/-- What TakeRow takes: the row, the rest, the error's number. -/
def dRow (l : List UInt8) (m : Int) : List UInt8 × List UInt8 × Int :=
  match dec l with
  | none => ([], [], 3)
  | some (n, r) => if m < 0 ∨ m < n then ([], [], 6) else if r.length < n then ([], [], 3) else (r.take n, r.drop n, 0)
def TookRowSL (w : World) (x r : List UInt8) (k : Int) (e : Ending) (w' : World) : Prop :=
  ∃ A c A' c', e = .returned (.tuple #[.slice A x.length c, .slice A' r.length c', .int .i64 k]) ∧ SL w' A c x ∧ SL w' A' c' r ∧ Bl w w'
theorem tookRowNot {e : Ending} {w' : World} {k : Int} (h : TRowNot w k e w') : TookRowSL w [] [] k e w' := by
  obtain ⟨rfl, j, rfl⟩ := h
  exact ⟨none, 0, none, 0, rfl, SL.nil_ _, SL.nil_ _, Bl.drewN _ _⟩
theorem tookRow_of {m : Int} {e : Ending} {w' : World} (h : TRowPost w w.heap.size m (dec l) e w') : TookRowSL w (dRow l m).1 (dRow l m).2.1 (dRow l m).2.2 e w' := by
  unfold dRow
  rcases hd : dec l with _ | ⟨n, r⟩ <;> rw [hd] at h
  · exact tookRowNot h
  · simp only [TRowPost] at h ⊢
    by_cases h1 : m < 0 ∨ m < n
    · rw [if_pos h1] at h ⊢; exact tookRowNot h
    · rw [if_neg h1] at h ⊢
      by_cases h2 : r.length < n
      · rw [if_pos h2] at h ⊢; exact tookRowNot h
      · rw [if_neg h2] at h ⊢
        obtain ⟨A, c, A', c', j, rfl, h1, h2, h3, h4, h5, h6, rfl⟩ := h
        exact ⟨A, c, A', c', rfl, ⟨h1.drewN j, h2, h3⟩, ⟨h4.drewN j, h5, h6⟩, Bl.drewN _ _⟩
theorem takeRow_sl (h : SL w A c l) (m : Int) (hl : l.length ≤ 140737488355328) (hm : (Lit.int .i64 m).wf = true) :
    Calls Try.prog 19 #[.slice A l.length c, .int .i64 m] w (TookRowSL w (dRow l m).1 (dRow l m).2.1 (dRow l m).2.2) :=
  (takeRow_any A c w.heap.size l m w h.rb h.cap h.none_ hl hm).mono fun _ _ => tookRow_of
theorem rtakeRow_sl (h : SL w A c l) (m : Int) (hl : l.length ≤ 140737488355328) (hm : (Lit.int .i64 m).wf = true) :
    Calls Try.prog 20 #[.slice A l.length c, .int .i64 m] w (TookRowSL w (dRow l m).1 (dRow l m).2.1 (dRow l m).2.2) :=
  (rtakeRow_any A c w.heap.size l m w h.rb h.cap h.none_ hl hm).mono fun _ _ => tookRow_of

theorem same_sl (h : SL w A c l) (hk : SL w D d l) (hl : l.length ≤ 9223372036854775807) :
    Calls Try.prog 14 #[.slice A l.length c, .slice D l.length d] w fun e w' => e = .returned (.bool true) ∧ Bl w w' :=
  (same_true A D c d _ _ l w h.rb hk.rb hl).mono fun _ _ ⟨he, n, hn⟩ => ⟨he, hn ▸ Bl.drewN _ _⟩
theorem same_not_sl (h : SL w A c l) (hk : SL w D d k) (hl : l.length ≤ 9223372036854775807) (hl2 : k.length ≤ 9223372036854775807) (hne : l ≠ k) :
    Calls Try.prog 14 #[.slice A l.length c, .slice D k.length d] w fun e w' => e = .returned (.bool false) ∧ Bl w w' :=
  (same_false A D c d _ _ l k w h.rb hk.rb hl hl2 hne).mono fun _ _ ⟨he, n, hn⟩ => ⟨he, hn ▸ Bl.drewN _ _⟩
theorem alive13_sl (w : World) : Calls Try.prog 9 #[] w fun e w' => e = .returned (.bool true) ∧ Bl w w' := alive13 w
end
end Go.Proofs.Ytbpmccikkijbmaa
