/- The contracts of save and disk on a good disk, as the laws use them. -/
import Derived.Test.YtebillkojmafoaaSave10
namespace Go.Proofs.Ytebillkojmafoaa
open Go.RowKit
set_option linter.unusedVariables false

theorem run_waits {D : DS} {n a : Nat} {b b' : List UInt8} (h : Good D n a b) (hn : n < 2 ^ 63) (hb : b'.length ≤ 1984) {j : Nat} (hj : j ≤ many b' + 3) : (runS (lastD D) b' D j).waits.length ≤ 100000 ∧ (runS (lastD D) b' D j).down = false := by
  have ha := next_lt (b' := b') h
  rcases Nat.lt_or_ge (many b') j with h1 | h1
  · rcases Nat.lt_or_ge (many b' + 1) j with h2 | h2
    · rcases Nat.lt_or_ge (many b' + 2) j with h3 | h3
      · obtain rfl : j = many b' + 3 := by omega
        have g := run_whole (b' := b') h hn hb
        rw [g.calm.waits]; exact ⟨by simp, g.calm.down⟩
      · obtain rfl : j = many b' + 2 := by omega
        rw [run_commit h hn hb]; exact ⟨by simp, rfl⟩
    · obtain rfl : j = many b' + 1 := by omega
      have g := (mid_sync (b' := b') h hb).1
      rw [g.calm.waits]; exact ⟨by simp, g.calm.down⟩
  · have m := runS_parts h.calm ha hb j h1
    rw [m.cnt]
    exact ⟨by unfold many at h1; omega, m.down⟩
theorem crash_down {D : DS} (ks : List Bool) : (dCrash D ks).down = true := by
  unfold dCrash; split
  · assumption
  · rfl
theorem wrong_down {D : DS} (h : D.down = true) : eWrong D 0 = 10 := by unfold eWrong; rw [if_pos h]
theorem load_down {D : DS} (h : D.down = true) : eLoad D = 10 ∧ bLoad D = [] := by
  have e : eLoad D = 10 := by unfold eLoad; rw [wrong_down h]; simp
  exact ⟨e, by unfold bLoad; rw [e]; simp⟩

section
variable {p : Nat} {X : Nat → Prop} {w : World} {D : DS} {n a : Nat} {b : List UInt8}
/-- Saved whole. -/
theorem sv_whole (h : IsDisk p X w D) (hX : ∀ x, w.heap.size ≤ x → X x) (g : Good D n a b) (hn : n < 2 ^ 63) (A : Option Addr) (cap len : Nat) (b' : List UInt8) (hlen : len = b'.length) (hs : SLs p w A cap b') (hb : b'.length ≤ 1984) (stop : Int)
    (hstop : stop < 0 ∨ ((many b' + 3 : Nat) : Int) ≤ stop) (q : Int) (hq : ((many b' + 3 : Nat) : Int) = q) :
    Calls Try.prog 9 #[.pointer (some ⟨p, 0, none⟩), .slice A len cap, .int .i64 stop] w fun e w' => e = .returned (.tuple #[.int .i64 q, .int .i64 0]) ∧ (∃ D' a', IsDisk p X w' D' ∧ Good D' (n + 1) a' b') ∧ Fr p w w' := by
  obtain ⟨h1, h2, a', h3⟩ := save_whole g hn hb hstop
  exact (save_to h hX g.calm (g.n_lt hn) A cap len b' hlen hs hb stop q 0 _ (by rw [h1, hq]) h2 rfl).mono fun e w' ⟨he, hd, hf⟩ => ⟨he, ⟨_, a', hd, h3⟩, hf⟩
/-- Stopped. -/
theorem sv_part (h : IsDisk p X w D) (hX : ∀ x, w.heap.size ≤ x → X x) (g : Good D n a b) (hn : n < 2 ^ 63) (A : Option Addr) (cap len : Nat) (b' : List UInt8) (hlen : len = b'.length) (hs : SLs p w A cap b') (hb : b'.length ≤ 1984) (stop : Int) (j : Nat)
    (hj : j < many b' + 3) (hstop : stop = (j : Int)) :
    Calls Try.prog 9 #[.pointer (some ⟨p, 0, none⟩), .slice A len cap, .int .i64 stop] w fun e w' => e = .returned (.tuple #[.int .i64 stop, .int .i64 9]) ∧ IsDisk p X w' (runS (lastD D) b' D j) ∧ Fr p w w' := by
  subst hstop
  obtain ⟨h1, h2, h3⟩ := save_part (b' := b') g hb hj
  exact save_to h hX g.calm (g.n_lt hn) A cap len b' hlen hs hb _ _ 9 _ (by rw [h1]) h2 h3
/-- Loaded. -/
theorem ld_good (h : IsDisk p X w D) (g : Good D n a b) (hn : n ≠ 0) : Calls Try.prog 10 #[.pointer (some ⟨p, 0, none⟩)] w (GivesLoad w b 0) := by
  obtain ⟨h1, h2, _⟩ := load_good g
  exact load_any h g.calm.le b 0 (h2 hn) (by rw [h1, if_neg hn])
theorem ld_none (h : IsDisk p X w D) (g : Good D n a b) (hn : n = 0) : Calls Try.prog 10 #[.pointer (some ⟨p, 0, none⟩)] w (GivesLoad w [] 9) := by
  obtain ⟨h1, _, h2⟩ := load_good g
  exact load_any h g.calm.le [] 9 (h2 hn) (by rw [h1, if_pos hn])
theorem ld_down (h : IsDisk p X w D) (hd : D.down = true) (hle : ∀ x ∈ D.seen, x.length ≤ 64) : Calls Try.prog 10 #[.pointer (some ⟨p, 0, none⟩)] w (GivesLoad w [] 10) :=
  load_any h hle [] 10 (load_down hd).2 (load_down hd).1
theorem IsDisk.own_sl (h : IsDisk p X w D) {w' : World} (hb : Bl w w') {A : Option Addr} {c : Nat} {l : List UInt8} (hs : SL w' A c l) (hn : 0 < l.length → ∀ a, A = some a → w.heap.size ≤ a.block) : SLs p w' A c l :=
  ⟨hs, fun a ha hl => h.safe_new hb (hn hl a ha) (by
    obtain ⟨ad, e, hlt, _⟩ := hs.rb hl
    rw [ha] at e
    cases e
    exact hlt)⟩
/-- A crash. -/
theorem cr_to (h : IsDisk p X w D) (hw : D.waits.length ≤ 100000) (B : Option Addr) (d len : Nat) (ks : List Bool) (hlen : len = ks.length) (hk : RVs p w B (ks.map Value.bool)) (hkl : ks.length ≤ 9223372036854775807) :
    Calls Try.prog 11 #[.pointer (some ⟨p, 0, none⟩), .slice B len d] w fun e w' => e = .returned (.tuple #[]) ∧ IsDisk p X w' (dCrash D ks) ∧ Fr p w w' :=
  dCrash_to h B d len ks hlen hk hkl hw _ rfl
theorem up_to (ks : List Bool) (h : IsDisk p X w (dCrash D ks)) : Calls Try.prog 15 #[.pointer (some ⟨p, 0, none⟩)] w fun e w' => e = .returned (.tuple #[]) ∧ IsDisk p X w' (dBack D ks) ∧ Fr p w w' :=
  dUp_to h _ rfl
end
end Go.Proofs.Ytebillkojmafoaa
