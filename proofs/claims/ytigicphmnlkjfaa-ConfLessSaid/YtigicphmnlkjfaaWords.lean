/- Words for memory: what it means that a slice value reads as a list of bytes in a world, and how that is carried. Plain lemmas; nothing of the program. -/
import Derived.WalkKit
import Derived.Below
import Derived.Laws.OwnMore
import Derived.Deep.Draws
import Derived.Deep.AppendLies
import Derived.Lib.Hide
namespace Go.Proofs.Ytigicphmnlkjfaa
open Go.RowKit

/-- A byte as a value. -/
def vb (c : UInt8) : Value := .int .u8 (c.toNat : Int)

theorem byte_lt (c : UInt8) : (0 : Int) ≤ (c.toNat : Int) ∧ (c.toNat : Int) ≤ 255 := by
  have := c.toNat_lt; omega

theorem ret_int {k : IntKind} {a b : Int} (h : a = b) : Ending.returned (.int k a) = .returned (.int k b) := by rw [h]

theorem below_drewN {B : Nat} {a w : World} (h : Below B a w) (n : Nat) : Below B a (w.drewN n) := ⟨h.os, h.tape, h.output, h.size, h.block⟩

theorem block_of_add (a : Addr) (n : Nat) : (a.add n).block = a.block := by unfold Addr.add; split <;> rfl
theorem add_of_add (a : Addr) (i j : Nat) : (a.add i).add j = a.add (i + j) := by
  unfold Addr.add
  by_cases hi : i = 0 <;> by_cases hj : j = 0 <;> simp [hi, hj, Nat.add_assoc]

/-- The slice value '.slice A l.length c' reads as the bytes l, and lies below block B. -/
def RB (w : World) (B : Nat) (A : Option Addr) (l : List UInt8) : Prop :=
  0 < l.length → ∃ ad, A = some ad ∧ ad.block < B ∧ ∀ j, (h : j < l.length) → w.cell? (ad.add j) = some (vb l[j])

section
variable {w w' : World} {B B' : Nat} {A : Option Addr} {l : List UInt8}
theorem RB.nil_ : RB w B A [] := fun h => absurd h (by simp)
theorem RB.at_ {k : Nat} (h : RB w B A l) (hk : k < l.length) : ∃ ad, A = some ad ∧ ad.block < B ∧ w.cell? (ad.add k) = some (vb l[k]) := by
  obtain ⟨ad, e, hb, hc⟩ := h (by omega)
  exact ⟨ad, e, hb, hc k hk⟩
theorem RB.keep (h : RB w B A l) (hk : ∀ p : Addr, p.block < B → w'.cell? p = w.cell? p) : RB w' B A l := fun hn => by
  obtain ⟨ad, e, hb, hc⟩ := h hn
  exact ⟨ad, e, hb, fun j hj => (hk _ (by rw [block_of_add]; exact hb)).trans (hc j hj)⟩
theorem RB.more (h : RB w B A l) (hB : B ≤ B') : RB w B' A l := fun hn => by
  obtain ⟨ad, e, hb, hc⟩ := h hn
  exact ⟨ad, e, by omega, hc⟩
theorem RB.below (h : RB w B A l) (hb : Below B w w') : RB w' B A l := h.keep fun _ hp => hb.cell hp
theorem RB.drew (h : RB w B A l) : RB w.drew B A l := h
theorem RB.drewN (h : RB w B A l) (k : Nat) : RB (w.drewN k) B A l := h
theorem RB.alloc (h : RB w B A l) (hB : B ≤ w.heap.size) (o : Obj) : RB (w.alloc o) B A l := h.keep fun p hp => World.cell?_alloc_lt w o p (by omega)
theorem RB.setCell (h : RB w B A l) {p : Addr} (hB : B ≤ p.block) (u : Value) : RB (w.setCell p u) B A l :=
  h.keep fun q hq => World.cell?_setCell_other w p q u (fun e => by subst e; omega)
theorem RB.grown (h : RB w B A l) {row : Option Nat} (hg : w.grownBy w' row) (hB : B ≤ w.heap.size) (hr : ∀ g, row = some g → B ≤ g) : RB w' B A l :=
  h.keep fun p hp => World.cell?_of_block (hg.block p.block (by omega) (fun e => by have := hr _ e.symm; omega))
/-- A cut 's[k:]', as the model has its address. -/
theorem RB.cut (h : RB w B A l) {k cap : Nat} (hk : k ≤ l.length) (hc : l.length ≤ cap) :
    RB w B (if cap = k then A else A.map (·.add k)) (l.drop k) := fun hn => by
  rw [List.length_drop] at hn
  obtain ⟨ad, rfl, hb, hcell⟩ := h (by omega)
  rw [if_neg (by omega)]
  refine ⟨ad.add k, rfl, by rw [block_of_add]; exact hb, fun j hj => ?_⟩
  rw [add_of_add]
  rw [List.length_drop] at hj
  rw [hcell (k + j) (by omega), List.getElem_drop]
theorem RB.take (h : RB w B A l) (k : Nat) : RB w B A (l.take k) := fun hn => by
  rw [List.length_take] at hn
  obtain ⟨ad, rfl, hb, hcell⟩ := h (by omega)
  refine ⟨ad, rfl, hb, fun j hj => ?_⟩
  rw [List.length_take] at hj
  rw [hcell j (by omega), List.getElem_take]
theorem RB.of_own {base : Nat} {e : TypeId} {c : Nat} (h : w.ownsRow base e 1 (.slice A l.length c) l.length (l.map vb)) : RB w w.heap.size A l := fun hn => by
  obtain ⟨g, cap, hv, _, hlt⟩ := h.form hn
  have hA : A = some ⟨g, 0, none⟩ := by injection hv
  subst hA
  refine ⟨_, rfl, hlt, fun j hj => ?_⟩
  exact h.cells (g := g) rfl j _ (by simp [hj])
end
end Go.Proofs.Ytigicphmnlkjfaa
