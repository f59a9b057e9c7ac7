/- What a save's acts are ranged over by: the loop over the parts. -/
import Derived.Test.YtebillkojmafoaaSave5
namespace Go.Proofs.Ytebillkojmafoaa
open Go.RowKit
set_option linter.unusedVariables false
attribute [local go_sem] Oper.semAt_some

/-- What acts$2 is called in. -/
structure In2 (p : Nat) (Xs S : Nat → Prop) (JS : Nat → World → Prop) (Jx : Nat → World → Prop) (W : World) (D0 : DS) (c : Com) (b : List UInt8) (ad : Option Addr) (cap gn gb gd gs : Nat) : Prop where
  disk : IsDisk p Xs W D0
  hXs : ∀ x, W.heap.size ≤ x → Xs x
  calm : Calm D0
  na : (nextOf c b).a < 2
  nn : (nextOf c b).n < 2 ^ 64
  nl : b.length ≤ 1984
  kn : Blk W gn 53 (comV (nextOf c b))
  kb : Blk W gb 22 #[.slice ad b.length cap]
  kd : Blk W gd 24 #[.pointer (some ⟨p, 0, none⟩)]
  ks : Blk W gs 1 #[.func (.func 21) #[] #[.pointer (some ⟨gd, 0, none⟩)]]
  sn : Safe p W gn ∧ ¬ S gn
  sb : Safe p W gb ∧ ¬ S gb
  sd : Safe p W gd ∧ ¬ S gd
  ss : Safe p W gs ∧ ¬ S gs
  sl : SLs p W ad cap b
  slS : ∀ a, ad = some a → 0 < b.length → ¬ S a.block
  Slt : ∀ x, S x → x < W.heap.size
  Ssafe : ∀ x, S x → Safe p W x
  hJS : ∀ j w w', JS j w → Below W.heap.size w w' → JS j w'
  hJx : ∀ j w w' g, Jx j w → W.heap.size ≤ g → Off w w' g → Jx j w'

/-- The caller's word at each act. -/
def Yield1 (m l1 p : Nat) (Xs S : Nat → Prop) (JS Jx : Nat → World → Prop) (D0 : DS) (c : Com) (b : List UInt8) : Prop :=
  ∀ (X : Nat → Prop) (j : Nat) (w : World) (f : Value), (∀ x, X x → Xs x) → (∀ x, w.heap.size ≤ x → X x) → j < many b + 3 → IsDisk p X w (runS c b D0 j) → JS j w → (∀ x, S x → Safe p w x) → ActFor p X S w f (runS c b D0 j) (runS c b D0 (j + 1)) →
    YieldAt Fence.wide m Try.prog l1 #[f] w fun e w' => (e = .returned (.bool true) ∧ IsDisk p X w' (runS c b D0 (j + 1)) ∧ JS (j + 1) w' ∧ FrS S p w w') ∨ (e = .returned (.bool false) ∧ Jx j w' ∧ FrS S p w w')

section
variable {p : Nat} {Xs S : Nat → Prop} {JS : Nat → World → Prop} {Jx : Nat → World → Prop} {W : World} {D0 : DS} {c : Com} {b : List UInt8} {ad : Option Addr} {cap gn gb gd gs : Nat}
/-- Between two acts. -/
structure Run2 (I : In2 p Xs S JS Jx W D0 c b ad cap gn gb gd gs) (B6 n2 : Nat) (j : Nat) (w : World) : Prop where
  disk : IsDisk p (fun x => Xs x ∧ x ≠ B6) w (runS c b D0 j)
  js : JS j w
  fr : FrS S p W w
  own : ∀ x, W.heap.size ≤ x → x < n2 → Safe p w x
  size : n2 ≤ w.heap.size
theorem Run2.bl {I : In2 p Xs S JS Jx W D0 c b ad cap gn gb gd gs} {B6 n2 j : Nat} {w w' : World} (h : Run2 I B6 n2 j w) (hb : Bl w w') : Run2 I B6 n2 j w' :=
  ⟨h.disk.bl hb, I.hJS _ _ _ h.js (hb.mono h.fr.size), h.fr.bl hb h.disk, fun x h1 h2 => (Fr.of_bl hb h.disk.plt).safe _ (h.own x h1 h2), Nat.le_trans h.size hb.size⟩
theorem Run2.off {I : In2 p Xs S JS Jx W D0 c b ad cap gn gb gd gs} {B6 n2 j g : Nat} {w w' : World} (h : Run2 I B6 n2 j w) (hg : W.heap.size ≤ g) (ho : Off w w' g) : Run2 I B6 n2 j w' :=
  ⟨(h.disk.off ho).1, I.hJS _ _ _ h.js (ho.below hg), h.fr.off (.inl hg) ho (by have := I.disk.plt; omega), fun x h1 h2 => ho.safe h.disk (h.own x h1 h2), by rw [ho.size]; exact h.size⟩
theorem Run2.box {I : In2 p Xs S JS Jx W D0 c b ad cap gn gb gd gs} {B6 n2 j : Nat} {w : World} (h : Run2 I B6 n2 j w) (h1 : W.heap.size ≤ B6) (h2 : B6 < n2) (i : Nat) (u : Value) : Run2 I B6 n2 j (w.setCell ⟨B6, i, none⟩ u) := by
  have hs := h.own B6 h1 h2
  exact ⟨h.disk.far (fun h => h.2 rfl) hs.2.1 hs.2.2 i u, I.hJS _ _ _ h.js (Below.setCell (Below.refl _ _) (by exact h1) u), h.fr.setCell (.inl h1) hs i u, fun x h3 h4 => (h.own x h3 h4).setCell hs i u, by simpa [World.setCell] using h.size⟩
theorem Run2.cont {I : In2 p Xs S JS Jx W D0 c b ad cap gn gb gd gs} {B6 n2 j : Nat} {w w' : World} (h : Run2 I B6 n2 j w) (hd : IsDisk p (fun x => Xs x ∧ x ≠ B6) w' (runS c b D0 (j + 1))) (hj : JS (j + 1) w') (hf : FrS S p w w') : Run2 I B6 n2 (j + 1) w' :=
  ⟨hd, hj, h.fr.trans hf, fun x h1 h2 => hf.safe _ (h.own x h1 h2), Nat.le_trans h.size hf.size⟩
theorem Run2.own_blk {I : In2 p Xs S JS Jx W D0 c b ad cap gn gb gd gs} {B6 n2 j : Nat} {w w' : World} (h : Run2 I B6 n2 j w) (hf : FrS S p w w') {x : Nat} (h1 : W.heap.size ≤ x) (h2 : x < n2) : w'.heap[x]? = w.heap[x]? :=
  hf.block _ (h.own x h1 h2) (fun e => by have := I.Slt x e; omega)
end
end Go.Proofs.Ytebillkojmafoaa
