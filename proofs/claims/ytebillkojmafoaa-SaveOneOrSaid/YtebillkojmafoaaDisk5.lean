/- The contracts of a disk's acts, in the form that the laws take. -/
import Derived.Test.YtebillkojmafoaaDisk4
namespace Go.Proofs.Ytebillkojmafoaa
open Go.RowKit
set_option linter.unusedVariables false

section
variable {p : Nat} {X : Nat → Prop} {w : World} {D : DS}
theorem dWrite_any (h : IsDisk p X w D) (at_ : Int) (B : Option Addr) (d : Nat) (l : List UInt8) (hs : SL w B d l) (hw : D.waits.length ≤ 100000) (hX : ∀ b, w.heap.size ≤ b → X b) :
    Calls Try.prog 26 #[.pointer (some ⟨p, 0, none⟩), .int .i64 at_, .slice B l.length d] w fun e w' => e = .returned (.int .i64 (eWrite D at_ l)) ∧ IsDisk p X w' (dWrite D at_ l) ∧ Fr p w w' := by
  by_cases h0 : eWrong D at_ = 0
  · obtain ⟨hd, h1, h2⟩ := eWrong_zero.1 h0
    by_cases hl : 64 < l.length
    · have he : eWrite D at_ l = 6 := by unfold eWrite; rw [if_neg (by simp [hd]), if_neg (by omega), if_pos hl]
      unfold dWrite
      rw [he, if_neg (by omega)]
      exact (dWrite_large h at_ B d l h0 hl).mono fun e w' ⟨a, b⟩ => ⟨a, h.bl b, Fr.of_bl b h.plt⟩
    · have he : eWrite D at_ l = 0 := by unfold eWrite; rw [if_neg (by simp [hd]), if_neg (by omega), if_neg hl]
      unfold dWrite
      rw [he, if_pos rfl]
      obtain ⟨i, rfl⟩ := Int.eq_ofNat_of_zero_le h1
      rw [Int.toNat_natCast]
      exact dWrite_yes h i (by omega) hd B d l hs (by omega) hw hX
  · have he : eWrite D at_ l = eWrong D at_ := by
      unfold eWrite eWrong
      unfold eWrong at h0
      by_cases hd : D.down = true
      · rw [if_pos hd, if_pos hd]
      · rw [if_neg hd] at h0
        rw [if_neg hd, if_neg hd]
        by_cases ha : at_ < 0 ∨ 64 ≤ at_
        · rw [if_pos ha, if_pos ha]
        · rw [if_neg ha] at h0; exact absurd rfl h0
    unfold dWrite
    rw [he, if_neg h0]
    exact (dWrite_no h at_ B d l _ rfl h0).mono fun e w' ⟨a, b⟩ => ⟨a, h.bl b, Fr.of_bl b h.plt⟩

theorem dWrite_to (h : IsDisk p X w D) (at_ : Int) (B : Option Addr) (d n : Nat) (l : List UInt8) (hn : n = l.length) (hs : SL w B d l) (hw : D.waits.length ≤ 100000) (hX : ∀ b, w.heap.size ≤ b → X b) (k : Int) (D' : DS) (hk : eWrite D at_ l = k) (hD : dWrite D at_ l = D') :
    Calls Try.prog 26 #[.pointer (some ⟨p, 0, none⟩), .int .i64 at_, .slice B n d] w fun e w' => e = .returned (.int .i64 k) ∧ IsDisk p X w' D' ∧ Fr p w w' := by
  subst hk hD hn
  exact dWrite_any h at_ B d l hs hw hX
theorem dSync_to (h : IsDisk p X w D) (k : Int) (D' : DS) (hk : eSync D = k) (hD : dSync D = D') :
    Calls Try.prog 22 #[.pointer (some ⟨p, 0, none⟩)] w fun e w' => e = .returned (.int .i64 k) ∧ IsDisk p X w' D' ∧ Fr p w w' := by
  subst hk hD
  exact dSync_any h
theorem dUp_to (h : IsDisk p X w D) (D' : DS) (hD : dUp D = D') :
    Calls Try.prog 15 #[.pointer (some ⟨p, 0, none⟩)] w fun e w' => e = .returned (.tuple #[]) ∧ IsDisk p X w' D' ∧ Fr p w w' := by
  subst hD
  exact dUp_any h
theorem dCrash_to (h : IsDisk p X w D) (B : Option Addr) (d n : Nat) (ks : List Bool) (hn : n = ks.length) (hk : RVs p w B (ks.map Value.bool)) (hkl : ks.length ≤ 9223372036854775807) (hw : D.waits.length ≤ 100000) (D' : DS) (hD : dCrash D ks = D') :
    Calls Try.prog 11 #[.pointer (some ⟨p, 0, none⟩), .slice B n d] w fun e w' => e = .returned (.tuple #[]) ∧ IsDisk p X w' D' ∧ Fr p w w' := by
  subst hD hn
  exact dCrash_any h B d ks hk hkl hw
theorem dWaits_to (h : IsDisk p X w D) (n : Nat) (hn : D.waits.length = n) : Calls Try.prog 14 #[.pointer (some ⟨p, 0, none⟩)] w fun e w' => e = .returned (.int .i64 (n : Nat)) ∧ w = w' := by
  subst hn
  exact dWaits_any h
/-- Every sector is short. -/
def Short (D : DS) : Prop := ∀ x ∈ D.seen, x.length ≤ 140737488355328
/-- What Read gives: bytes of one's own, and an error's number. -/
def GivesRead (w : World) (b : List UInt8) (k : Int) (e : Ending) (w' : World) : Prop :=
  ∃ A c, e = .returned (.tuple #[.slice A b.length c, .int .i64 k]) ∧ SL w' A c b ∧ Bl w w' ∧ (∀ a, A = some a → w.heap.size ≤ a.block) ∧ (0 < b.length → w'.ownsRow w.heap.size 5 1 (.slice A b.length c) b.length (b.map vb))
theorem dRead_to (h : IsDisk p X w D) (at_ : Int) (hl : Short D) (b : List UInt8) (k : Int) (hb : bRead D at_ = b) (hk : eWrong D at_ = k) :
    Calls Try.prog 16 #[.pointer (some ⟨p, 0, none⟩), .int .i64 at_] w (GivesRead w b k) := by
  subst hb hk
  exact dRead_any h at_ hl
theorem IsDisk.sls (h : IsDisk p X w D) {w' : World} (hb : Bl w w') {A : Option Addr} {c : Nat} {l : List UInt8} (hs : SL w' A c l) (hn : ∀ a, A = some a → w.heap.size ≤ a.block) : SLs p w' A c l :=
  SLs.mk' hs fun b hA hlt => h.safe_new hb (by
    cases A with
    | none => simp at hA
    | some a => simp at hA; have := hn a rfl; omega) hlt
end

theorem short_fresh : Short DS.fresh := by
  intro x hx
  have := List.eq_of_mem_replicate hx
  subst this
  simp
theorem short_write {D : DS} (h : Short D) (at_ : Int) (l : List UInt8) : Short (dWrite D at_ l) := by
  unfold dWrite
  split
  · rename_i he
    obtain ⟨_, _, _, hl⟩ := eWrite_zero.1 he
    intro x hx
    rcases List.mem_or_eq_of_mem_set hx with h' | h'
    · exact h x h'
    · subst h'; omega
  · exact h
theorem short_sync {D : DS} (h : Short D) : Short (dSync D) := by
  unfold dSync; split <;> exact h
theorem short_up {D : DS} (h : Short D) : Short (dUp D) := h

/-- The new disk, beside what was there. -/
structure New (w w' : World) : Prop where
  bl : Bl w w'
  safe : ∀ b, b < w.heap.size → Safe w.heap.size w' b
theorem New.fr {w w1 w2 : World} (h : New w w1) (hf : Fr w.heap.size w1 w2) : New w w2 :=
  ⟨hf.below h.bl h.safe, fun b hb => hf.safe b (h.safe b hb)⟩
theorem New.sls {w w1 : World} (h : New w w1) {A : Option Addr} {c : Nat} {l : List UInt8} (hs : SL w A c l) : SLs w.heap.size w1 A c l := by
  refine ⟨hs.step h.bl, fun a ha hn => ?_⟩
  obtain ⟨ad, e, hb, _⟩ := hs.rb hn
  rw [ha] at e
  cases e
  exact h.safe _ hb
theorem dNew_to (X : Nat → Prop) (w : World) : Calls Try.prog 8 #[] w fun e w' => e = .returned (.pointer (some ⟨w.heap.size, 0, none⟩)) ∧ IsDisk w.heap.size X w' DS.fresh ∧ New w w' :=
  (dNew_any X w).mono fun e w' ⟨a, b, c, d⟩ => ⟨a, b, ⟨c, d⟩⟩
end Go.Proofs.Ytebillkojmafoaa
