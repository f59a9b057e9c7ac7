/- The contract of save's acts. -/
import Derived.Test.YtebillkojmafoaaSave7
namespace Go.Proofs.Ytebillkojmafoaa
open Go.RowKit
set_option linter.unusedVariables false

theorem run_store_func (P : Program) (w : World) (a : Addr) (f : Fn) (e c : Array Value) (m : Mode) (u : Value) (hc : w.cell? a = some u) (hf : w.frozen? a = false) : (store a (.func f e c) m).run P w = .ok () (w.setCell a (.func f e c)) := by
  rw [run_store P w a (.func f e c) m rfl, hc, hf]; rfl
attribute [local go_sem] run_store_func
/-- What acts gives. -/
def GivesActs (p : Nat) (w : World) (nx : Com) (A : Option Addr) (len cap : Nat) (e : Ending) (w' : World) : Prop :=
  ∃ gn gb gd gs, e = .returned (.func (.func 23) #[] #[.pointer (some ⟨gn, 0, none⟩), .pointer (some ⟨gb, 0, none⟩), .pointer (some ⟨gd, 0, none⟩), .pointer (some ⟨gs, 0, none⟩)]) ∧ Bl w w' ∧
    Blk w' gn 53 (comV nx) ∧ Blk w' gb 22 #[.slice A len cap] ∧ Blk w' gd 24 #[.pointer (some ⟨p, 0, none⟩)] ∧ Blk w' gs 1 #[.func (.func 21) #[] #[.pointer (some ⟨gd, 0, none⟩)]] ∧
    w.heap.size ≤ gn ∧ w.heap.size ≤ gb ∧ w.heap.size ≤ gd ∧ w.heap.size ≤ gs
theorem acts_fin {p : Nat} {w w3 : World} {nx : Com} {A : Option Addr} {len cap : Nat} (b3 : Bl w w3) (kd : Blk w3 w.heap.size 24 #[.pointer (some ⟨p, 0, none⟩)]) (kb : Blk w3 (w.heap.size + 1) 22 #[.slice A len cap]) (o1 : Obj) (nv : Array Value) (hn : nv = comV nx) :
    GivesActs p w nx A len cap (.returned (.func (.func 23) #[] #[.pointer (some ⟨w3.heap.size + 1, 0, none⟩), .pointer (some ⟨w.heap.size + 1, 0, none⟩), .pointer (some ⟨w.heap.size, 0, none⟩), .pointer (some ⟨w3.heap.size + 1 + 1, 0, none⟩)]))
      (((w3.alloc o1).alloc (.cells nv 53)).alloc (.cells #[.func (.func 21) #[] #[.pointer (some ⟨w.heap.size, 0, none⟩)]] 1)) := by
  subst hn
  have hs := b3.size
  exact ⟨_, _, _, _, rfl, ((b3.trans (Bl.alloc _ _)).trans (Bl.alloc _ _)).trans (Bl.alloc _ _), (new_at (w3.alloc o1) 53 (comV nx) (w3.heap.size + 1) (by simp)).alloc _, ((kb.alloc _).alloc _).alloc _, ((kd.alloc _).alloc _).alloc _, new_at _ _ _ _ (by simp), by omega, by omega, Nat.le_refl _, by omega⟩
section
variable {p : Nat} {X : Nat → Prop} {w : World} {D : DS}
set_option maxRecDepth 100000 in
set_option maxHeartbeats 1000000 in
theorem acts_new (h : IsDisk p X w D) (hle : ∀ x ∈ D.seen, x.length ≤ 64) (c : Com) (hc : lastD D = c) (hn : c.n < 2 ^ 63) (A : Option Addr) (cap : Nat) (b : List UInt8) (hb : b.length ≤ 1984) :
    Calls Try.prog 17 #[.pointer (some ⟨p, 0, none⟩), .slice A b.length cap] w (GivesActs p w (nextOf c b) A b.length cap) := by
  have b1 := Bl.alloc w (.cells #[.pointer (some ⟨p, 0, none⟩)] 24)
  have b2 := b1.trans (Bl.alloc _ (.cells #[.slice A b.length cap] 22))
  have kd := (Blk.new w 24 #[.pointer (some ⟨p, 0, none⟩)]).alloc (.cells #[.slice A b.length cap] 22)
  have kb := new_at (w.alloc (.cells #[.pointer (some ⟨p, 0, none⟩)] 24)) 22 #[.slice A b.length cap] (w.heap.size + 1) (by simp)
  have HD := Lib.hid (h.bl b2); have HB2 := Lib.hid b2; have HKD := Lib.hid kd; have HKB := Lib.hid kb; have HLE := Lib.hid hle; have HC := Lib.hid hc
  have hca := lastD_bound D
  rw [hc] at hca
  obtain ⟨nx, hnx⟩ : ∃ nx, nx = nextOf c b := ⟨_, rfl⟩
  rw [← hnx]
  have HNX := Lib.hid hnx
  have w1' : IntKind.u64.wrap ((c.n : Int) + 1) = ((c.n + 1 : Nat) : Int) := by rw [IntWalk.u64_in _ (by omega)]; omega
  have w2' : IntKind.u64.wrap (b.length : Int) = (b.length : Int) := IntWalk.u64_in _ (by omega)
  clear h b1 b2 kd kb hle hc hnx
  go_enter Try.func17, Try.ntmps17
  go_wp2_with fail
  refine (lastOf_any HD.out HLE.out c HC.out).mono ?_
  rintro e w3 ⟨rfl, b3⟩
  have HB3 := Lib.hid b3
  have xd := (HKD.out.below b3 HKD.out.lt).cell 0; have xb := (HKB.out.below b3 HKB.out.lt).cell 0
  simp only [List.getElem?_toArray, List.getElem?_cons_zero] at xd xb
  have g1 := (HKD.out.below b3 HKD.out.lt).lt; have g2 := (HKB.out.below b3 HKB.out.lt).lt
  have g3 : w.heap.size < w3.heap.size + 1 := by omega
  have g4 : w.heap.size + 1 < w3.heap.size + 1 := by omega
  have g5 : w.heap.size < w3.heap.size + 1 + 1 := by omega
  have g6 : w.heap.size + 1 < w3.heap.size + 1 + 1 := by omega
  have y7 : ∀ o1 o2, (((w3.alloc o1).alloc o2).alloc (.cells #[.nilFunc] 1)).cell? ⟨w3.heap.size + 1 + 1, 0, none⟩ = some .nilFunc := fun o1 o2 => (new_at ((w3.alloc o1).alloc o2) 1 #[.nilFunc] (w3.heap.size + 1 + 1) (by simp)).cell 0
  have z7 : ∀ o1 o2, (((w3.alloc o1).alloc o2).alloc (.cells #[.nilFunc] 1)).frozen? ⟨w3.heap.size + 1 + 1, 0, none⟩ = false := fun o1 o2 => (new_at ((w3.alloc o1).alloc o2) 1 #[.nilFunc] (w3.heap.size + 1 + 1) (by simp)).frozen 0
  have KD3 := Lib.hid (HKD.out.below b3 HKD.out.lt); have KB3 := Lib.hid (HKB.out.below b3 HKB.out.lt); have B3 := Lib.hid (HB2.out.trans b3)
  clear b3
  unfold comV
  by_cases hz : 0 < c.n
  · have hz1 : (0 : Int) < (c.n : Int) := by omega
    have w3' : IntKind.u64.wrap (1 - (c.a : Int)) = ((1 - c.a : Nat) : Int) := by rw [IntWalk.u64_in _ (by omega)]; omega
    go_wp2
    go_ret
    refine acts_fin B3.out KD3.out KB3.out _ _ ?_
    rw [HNX.out]
    unfold comV nextOf
    rw [if_pos hz]
    simp
  · obtain h0 : c.n = 0 := by omega
    go_wp2
    go_ret
    refine acts_fin B3.out KD3.out KB3.out _ _ ?_
    rw [HNX.out]
    unfold comV nextOf
    rw [if_neg hz]
    simp [h0]
end
end Go.Proofs.Ytebillkojmafoaa
