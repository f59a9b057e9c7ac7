/- The acts of a save. -/
import Derived.Test.YtebillkojmafoaaSave3
namespace Go.Proofs.Ytebillkojmafoaa
open Go.RowKit
set_option linter.unusedVariables false

/-- Like Fr, but for the blocks of S. -/
structure FrS (S : Nat → Prop) (p : Nat) (w w' : World) : Prop where
  os : w'.os = w.os
  tape : w'.tape = w.tape
  output : w'.output = w.output
  size : w.heap.size ≤ w'.heap.size
  block : ∀ b, Safe p w b → ¬ S b → w'.heap[b]? = w.heap[b]?
  safe : ∀ b, Safe p w b → Safe p w' b
theorem FrS.refl (S : Nat → Prop) (p : Nat) (w : World) : FrS S p w w := ⟨rfl, rfl, rfl, Nat.le_refl _, fun _ _ _ => rfl, fun _ h => h⟩
theorem FrS.trans {S : Nat → Prop} {p : Nat} {a b c : World} (h : FrS S p a b) (k : FrS S p b c) : FrS S p a c :=
  ⟨k.os.trans h.os, k.tape.trans h.tape, k.output.trans h.output, Nat.le_trans h.size k.size, fun x hx hn => (k.block x (h.safe x hx) hn).trans (h.block x hx hn), fun x hx => k.safe x (h.safe x hx)⟩
theorem FrS.of_fr {S : Nat → Prop} {p : Nat} {w w' : World} (h : Fr p w w') : FrS S p w w' := ⟨h.os, h.tape, h.output, h.size, fun b hb _ => h.block b hb, h.safe⟩
theorem FrS.cell {S : Nat → Prop} {p : Nat} {w w' : World} (h : FrS S p w w') {a : Addr} (ha : Safe p w a.block) (hn : ¬ S a.block) : w'.cell? a = w.cell? a := World.cell?_of_block (h.block _ ha hn)

section
variable {p : Nat} {X : Nat → Prop} {w : World} {D : DS}
set_option maxRecDepth 100000 in
theorem actPart_any (h : IsDisk p X w D) (gd ga gp : Nat) (hd : w.cell? ⟨gd, 0, none⟩ = some (.pointer (some ⟨p, 0, none⟩))) (at_ : Int) (ha : w.cell? ⟨ga, 0, none⟩ = some (.int .i64 at_)) (A : Option Addr) (c : Nat) (l : List UInt8)
    (hp : w.cell? ⟨gp, 0, none⟩ = some (.slice A l.length c)) (hs : SL w A c l) (hw : D.waits.length ≤ 100000) (hX : ∀ b, w.heap.size ≤ b → X b) :
    Calls Try.prog 25 #[.pointer (some ⟨gd, 0, none⟩), .pointer (some ⟨ga, 0, none⟩), .pointer (some ⟨gp, 0, none⟩)] w fun e w' => e = .returned (.tuple #[]) ∧ IsDisk p X w' (dWrite D at_ l) ∧ Fr p w w' := by
  have HC := Lib.hid (dWrite_any h at_ A c l hs hw hX)
  clear h hs hX
  go_enter Try.func25, Try.ntmps25
  go_wp2_with fail
  refine HC.out.mono ?_
  rintro e w1 ⟨rfl, d1, f1⟩
  go_wp2
  go_end0
  exact ⟨rfl, d1, f1⟩
set_option maxRecDepth 100000 in
theorem actSync_any (h : IsDisk p X w D) (gd : Nat) (hd : w.cell? ⟨gd, 0, none⟩ = some (.pointer (some ⟨p, 0, none⟩))) :
    Calls Try.prog 21 #[.pointer (some ⟨gd, 0, none⟩)] w fun e w' => e = .returned (.tuple #[]) ∧ IsDisk p X w' (dSync D) ∧ Fr p w w' := by
  have HC := Lib.hid (dSync_any h)
  clear h
  go_enter Try.func21, Try.ntmps21
  go_wp2_with fail
  refine HC.out.mono ?_
  rintro e w1 ⟨rfl, d1, f1⟩
  go_wp2
  go_end0
  exact ⟨rfl, d1, f1⟩
set_option maxRecDepth 100000 in
set_option maxHeartbeats 1000000 in
theorem actCommit_any (h : IsDisk p X w D) (gd gn gx : Nat) (hd : w.cell? ⟨gd, 0, none⟩ = some (.pointer (some ⟨p, 0, none⟩))) (n : Nat) (hn : w.cell? ⟨gn, 0, none⟩ = some (.int .u64 (n : Int))) (A : Option Addr) (c : Nat) (l : List UInt8)
    (hp : w.cell? ⟨gx, 0, none⟩ = some (.slice A l.length c)) (hs : SL w A c l) (hw : D.waits.length ≤ 100000) (hX : ∀ b, w.heap.size ≤ b → X b) :
    Calls Try.prog 29 #[.pointer (some ⟨gd, 0, none⟩), .pointer (some ⟨gn, 0, none⟩), .pointer (some ⟨gx, 0, none⟩)] w fun e w' => e = .returned (.tuple #[]) ∧ IsDisk p X w' (dWrite D ((n % 2 : Nat) : Int) l) ∧ Fr p w w' := by
  obtain ⟨m, hmm⟩ : ∃ m, m = n % 2 := ⟨_, rfl⟩
  rw [← hmm]
  have HC := Lib.hid (dWrite_any h (m : Int) A c l hs hw hX)
  have hm : (n : Int) % 2 = (m : Int) := by omega
  have hm2 : m < 2 := by omega
  clear hmm
  clear h hs hX
  go_enter Try.func29, Try.ntmps29
  go_wp2_with fail
  refine HC.out.mono ?_
  rintro e w1 ⟨rfl, d1, f1⟩
  go_wp2
  go_end0
  exact ⟨rfl, d1, f1⟩
end
end Go.Proofs.Ytebillkojmafoaa
