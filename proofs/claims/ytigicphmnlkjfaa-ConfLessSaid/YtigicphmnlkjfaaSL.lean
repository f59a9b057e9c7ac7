/- A slice that reads as bytes; a world in which nothing that was there has changed. -/
import Derived.Test.YtigicphmnlkjfaaProg
import Derived.Test.YtigicphmnlkjfaaApp
import Derived.Outline
namespace Go.Proofs.Ytigicphmnlkjfaa
open Go.RowKit
set_option linter.unusedVariables false

theorem bytesT : IsBytes Try.prog 37 5 := ⟨by kernel_rfl, by kernel_rfl⟩

/-- Nothing that was there has changed. -/
def Bl (w w' : World) : Prop := Below w.heap.size w w'
theorem Bl.trans {a b c : World} (h : Bl a b) (k : Bl b c) : Bl a c := Below.trans h (Below.mono k h.size)
theorem Bl.refl (w : World) : Bl w w := Below.refl _ _
theorem Bl.drewN (w : World) (n : Nat) : Bl w (w.drewN n) := below_drewN (Below.refl _ _) n
theorem Bl.alloc (w : World) (o : Obj) : Bl w (w.alloc o) := Below.alloc (Below.refl _ _) (Nat.le_refl _) o

/-- The value '.slice A l.length c' reads as the bytes l. -/
structure SL (w : World) (A : Option Addr) (c : Nat) (l : List UInt8) : Prop where
  rb : RB w w.heap.size A l
  cap : l.length ≤ c
  none_ : A = none → c = 0
theorem SL.step {w w' : World} {A : Option Addr} {c : Nat} {l : List UInt8} (h : SL w A c l) (hb : Bl w w') : SL w' A c l :=
  ⟨(RB.below h.rb hb).more hb.size, h.cap, h.none_⟩
theorem SL.nil_ (w : World) : SL w none 0 [] := ⟨RB.nil_, by simp, fun _ => rfl⟩
theorem SL.none_len {w : World} {A : Option Addr} {c : Nat} {l : List UInt8} (h : SL w A c l) : A = none → l.length = 0 := fun e => by
  have := h.none_ e; have := h.cap; omega
theorem SL.of_ap {w : World} {A : Option Addr} {c base : Nat} {l : List UInt8} {e : TypeId} (h : Ap w e base A l.length c l) : SL w A c l := ⟨h.rb, h.cap, h.none_⟩

/-- A slice was given; it is the call's own. -/
def GivesSL (w : World) (l : List UInt8) (e : Ending) (w' : World) : Prop :=
  ∃ A c, e = .returned (.slice A l.length c) ∧ SL w' A c l ∧ Ap w' 5 w.heap.size A l.length c l ∧ Bl w w'
theorem SL.of_apd {w w' : World} {e : TypeId} {base n c' : Nat} {A A' : Option Addr} {l x : List UInt8} (hd : Apd w w' e base A A' n c' l) (hx : l = x) : SL w' A' c' x := by
  subst hx
  obtain ⟨h1, h2, h3, h4, _⟩ := hd.ap
  exact ⟨h3, by omega, h4⟩

theorem Bl.cell {w w' : World} {p : Addr} (h : Bl w w') (hp : p.block < w.heap.size) : w'.cell? p = w.cell? p := Below.cell h hp

/-- A block that is known whole. -/
def Blk (w : World) (g : Nat) (t : TypeId) (cs : Array Value) : Prop := w.heap[g]? = some (.cells cs t (0, 0))
section
variable {w w' : World} {g : Nat} {t : TypeId} {cs : Array Value}
theorem Blk.lt (h : Blk w g t cs) : g < w.heap.size := by
  rcases Nat.lt_or_ge g w.heap.size with hlt | hge
  · exact hlt
  · unfold Blk at h; rw [Array.getElem?_eq_none hge] at h; cases h
theorem Blk.cell (h : Blk w g t cs) (i : Nat) : w.cell? ⟨g, i, none⟩ = cs[i]? := cell_of_row w g i cs t (0, 0) h
theorem Blk.frozen (h : Blk w g t cs) (i : Nat) : w.frozen? ⟨g, i, none⟩ = false := by
  unfold Blk at h
  simp [World.frozen?, h]
theorem Blk.new (w : World) (t : TypeId) (cs : Array Value) : Blk (w.alloc (.cells cs t)) w.heap.size t cs := heap_alloc_new w _
theorem Blk.alloc (h : Blk w g t cs) (o : Obj) : Blk (w.alloc o) g t cs := (Below.heap_alloc w o g h.lt).trans h
theorem Blk.set_ (h : Blk w g t cs) (i : Nat) (u : Value) : Blk (w.setCell ⟨g, i, none⟩ u) g t (cs.setIfInBounds i u) := by
  unfold Blk at h ⊢
  simp [World.setCell, Array.getElem?_modify, h]
theorem Blk.far (h : Blk w g t cs) {p : Addr} (hp : g ≠ p.block) (u : Value) : Blk (w.setCell p u) g t cs := (Below.heap_setCell w p u g hp).trans h
theorem Blk.below {B : Nat} (h : Blk w g t cs) (hb : Below B w w') (hg : g < B) : Blk w' g t cs := (hb.block g hg).trans h
end

end Go.Proofs.Ytigicphmnlkjfaa
