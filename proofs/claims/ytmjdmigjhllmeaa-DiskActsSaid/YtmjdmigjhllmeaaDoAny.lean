/- The contract of ratchetref24.Do, for any act; and that what the two disks are stays alike. -/
import Derived.Test.YtmjdmigjhllmeaaDo4
namespace Go.Proofs.Ytmjdmigjhllmeaa
open Go.RowKit
set_option linter.unusedVariables false

theorem layK_append : ∀ (ws vs : List (Nat × List UInt8)) (l : List (List UInt8)), layK l (ws ++ vs) (List.replicate (ws ++ vs).length true) = layK (layK l ws (List.replicate ws.length true)) vs (List.replicate vs.length true)
  | [], vs, l => by simp [layK]
  | x :: ws, vs, l => by
    simp only [List.cons_append, List.length_cons, List.replicate_succ, layK, if_true]
    exact layK_append ws vs _

/-- What every disk is; what is read is what is there with all that waits. -/
structure Twin (D : DS) : Prop where
  tidy : Tidy D
  lay : layK D.there D.waits (List.replicate D.waits.length true) = D.seen
theorem twin_fresh : Twin DS.fresh := ⟨tidy_fresh, rfl⟩
theorem twin_act {D : DS} (h : Twin D) (x : ActP) : Twin (actD D x) := by
  refine ⟨tidy_act h.tidy x, ?_⟩
  unfold actD
  split
  · unfold dWrite
    split
    · show layK D.there (D.waits ++ [(x.at_.toNat, x.b)]) (List.replicate (D.waits ++ [(x.at_.toNat, x.b)]).length true) = D.seen.set x.at_.toNat x.b
      rw [layK_append, h.lay]; rfl
    · exact h.lay
  · split
    · unfold dSync; split
      · exact h.lay
      · rfl
    · split
      · unfold dCrash; split
        · exact h.lay
        · rfl
      · split
        · exact h.lay
        · exact h.lay

section
variable {p : Nat} {X N : Nat → Prop} {w : World} {D0 : DS}
theorem GivesDo.to {D' D'' : DS} {b : List UInt8} {k : Int} {e : Ending} {w' : World} (h : GivesDo p N w D' b k e w') (h1 : D'.there = D''.there) (h2 : D'.waits = D''.waits) (h3 : D'.down = D''.down) : GivesDo p N w D'' b k e w' := by
  obtain ⟨rs, A, c, B, d, he, hr, hB⟩ := h
  refine ⟨rs, A, c, B, d, by rw [he, h2, h3], ⟨hr.lr, by rw [← h1]; exact hr.et, by rw [← h2]; exact hr.pw, by rw [← h2]; exact hr.cap⟩, hB⟩

theorem do_any (h : IsDisk p X w D0) {D : DS} {rs : List Value} {A : Option Addr} {c : Nat} (hr : RD p N w D rs A c) (ht : Twin D) (hwl : D.waits.length ≤ 100000) (x : ActP) (h0 : 0 ≤ x.kind) (h4 : x.kind ≤ 4) {B K : Option Addr} {bc d : Nat}
    (hs : SL w B bc x.b) (hk : RVs p w K (x.keep.map Value.bool)) (hkl : x.keep.length ≤ 9223372036854775807) (n m : Nat) (hn : n = x.keep.length) (hm : m = x.b.length) (b : List UInt8) (k : Int) (D' : DS) (hb : actB D x = b) (hk' : actE D x = k) (hD : actD D x = D') :
    Calls Try.prog 12 #[.agg (rdc rs (.slice A D.waits.length c) D.down).toArray, .agg #[.int .i64 x.kind, .int .i64 x.at_, .slice B m bc, .slice K n d]] w (GivesDo p N w D' b k) := by
  subst hb hk' hD hn hm
  obtain ⟨kind, at_, l, ks⟩ := x
  simp only [actB, actE, actD] at *
  have hw1 : ∀ x ∈ D.waits, x.1 < 64 := fun x hx => (ht.tidy.bw x hx).1
  by_cases k4 : kind = 4
  · subst k4
    simp only [show ¬ ((4 : Int) = 0) by decide, show ¬ ((4 : Int) = 1) by decide, show ¬ ((4 : Int) = 2) by decide, show ¬ ((4 : Int) = 3) by decide, if_false, if_true]
    exact do_up h hr at_ B K _ _ d bc
  by_cases k3 : kind = 3
  · subst k3
    simp only [show ¬ ((3 : Int) = 0) by decide, show ¬ ((3 : Int) = 1) by decide, show ¬ ((3 : Int) = 2) by decide, if_false, if_true]
    by_cases hd : D.down = true
    · have : dCrash D ks = D := by unfold dCrash; rw [if_pos hd]
      rw [this]
      exact do_crash_down h hr hd at_ B K _ _ d bc
    · have hd' : D.down = false := by simpa using hd
      have : dCrash D ks = ⟨layK D.there D.waits ks, layK D.there D.waits ks, [], true⟩ := by unfold dCrash; rw [if_neg hd]
      rw [this]
      exact do_crash h hr hd' hw1 hwl at_ B K _ _ d bc ks rfl hk hkl
  by_cases hd : D.down = true
  · have e0 : (if kind = 0 then dWrite D at_ l else if kind = 1 then dSync D else if kind = 3 then dCrash D ks else if kind = 4 then dUp D else D) = D := by
      split
      · unfold dWrite eWrite; simp [hd]
      · split
        · unfold dSync; simp [hd]
        · first | rfl | rw [if_neg k3, if_neg k4] | simp [k3, k4]
    have e1 : (if kind = 0 then eWrite D at_ l else if kind = 1 then eSync D else if kind = 2 then eWrong D at_ else 0) = 10 := by
      split
      · unfold eWrite; simp [hd]
      · split
        · unfold eSync; simp [hd]
        · split
          · unfold eWrong; simp [hd]
          · omega
    have e2 : (if kind = 2 then bRead D at_ else []) = [] := by
      split
      · unfold bRead eWrong; simp [hd]
      · rfl
    rw [e0, e1, e2]
    exact do_down h hr hd kind k4 k3 at_ B K _ _ d bc
  have hd' : D.down = false := by simpa using hd
  by_cases k1 : kind = 1
  · subst k1
    simp only [show ¬ ((1 : Int) = 0) by decide, show ¬ ((1 : Int) = 2) by decide, if_false, if_true]
    have e : eSync D = 0 := by unfold eSync; rw [if_neg hd]
    rw [e]
    refine (do_sync h hr hd' hw1 hwl at_ B K _ _ d bc).mono fun e w' g => g.to ?_ ?_ ?_ <;> unfold dSync <;> rw [if_neg hd]
    · exact ht.lay
    · exact hd'.symm
  by_cases h1 : at_ < 0 ∨ 64 ≤ at_
  · have hw : eWrong D at_ = 1 := by unfold eWrong; rw [if_neg hd, if_pos h1]
    have e0 : (if kind = 0 then dWrite D at_ l else if kind = 1 then dSync D else if kind = 3 then dCrash D ks else if kind = 4 then dUp D else D) = D := by
      split
      · unfold dWrite eWrite; simp [hd, h1]
      · first | rfl | rw [if_neg k1, if_neg k3, if_neg k4] | simp [k1, k3, k4]
    have e1 : (if kind = 0 then eWrite D at_ l else if kind = 1 then eSync D else if kind = 2 then eWrong D at_ else 0) = 1 := by
      split
      · unfold eWrite; simp [hd, h1]
      · first | (rw [if_neg k1]; split; exact hw; omega) | (simp [k1]; split; exact hw; omega) | (split; exact hw; omega)
    have e2 : (if kind = 2 then bRead D at_ else []) = [] := by
      split
      · unfold bRead; rw [if_neg (by omega)]
      · rfl
    rw [e0, e1, e2]
    by_cases h2 : at_ < 0
    · exact do_range_lo h hr hd' kind k4 k3 k1 at_ B K _ _ d bc h2
    · exact do_range_hi h hr hd' kind k4 k3 k1 at_ B K _ _ d bc h2 (by omega)
  by_cases k2 : kind = 2
  · subst k2
    simp only [show ¬ ((2 : Int) = 0) by decide, show ¬ ((2 : Int) = 1) by decide, show ¬ ((2 : Int) = 3) by decide, show ¬ ((2 : Int) = 4) by decide, if_false, if_true]
    have hw : eWrong D at_ = 0 := eWrong_zero.2 ⟨hd', by omega, by omega⟩
    rw [hw]
    obtain ⟨i, rfl⟩ := Int.eq_ofNat_of_zero_le (show 0 ≤ at_ by omega)
    exact do_read h hr hd' hw1 hwl i (by omega) ht.tidy.lt B K _ _ d bc _ (by unfold bRead; rw [if_pos hw, ht.lay]; simp)
  obtain rfl : kind = 0 := by omega
  simp only [show ¬ ((0 : Int) = 2) by decide, if_false, if_true]
  by_cases hl : 64 < l.length
  · have e : eWrite D at_ l = 6 := by unfold eWrite; rw [if_neg hd, if_neg h1, if_pos hl]
    have e0 : dWrite D at_ l = D := by unfold dWrite; rw [if_neg (by omega)]
    rw [e, e0]
    exact do_large h hr hd' 0 (by decide) (by decide) (by decide) (by decide) at_ B K _ _ d bc (by omega) (by omega) hl
  · have e : eWrite D at_ l = 0 := by unfold eWrite; rw [if_neg hd, if_neg h1, if_neg hl]
    have e0 : dWrite D at_ l = { D with seen := D.seen.set at_.toNat l, waits := D.waits ++ [(at_.toNat, l)] } := by unfold dWrite; rw [if_pos e]
    rw [e, e0]
    obtain ⟨i, rfl⟩ := Int.eq_ofNat_of_zero_le (show 0 ≤ at_ by omega)
    refine (do_write h hr hd' hwl i (by omega) B K _ d bc l hs (by omega)).mono fun e w' g => g.to rfl ?_ rfl
    simp
end
end Go.Proofs.Ytmjdmigjhllmeaa
