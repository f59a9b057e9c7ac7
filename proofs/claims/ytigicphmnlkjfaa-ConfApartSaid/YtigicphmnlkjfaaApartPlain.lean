/- APART: a Conf's bytes tell it; plain. -/
import Derived.Test.YtigicphmnlkjfaaBytesPlain
namespace Go.Proofs.Ytigicphmnlkjfaa
open Go.RowKit
set_option linter.unusedVariables false
set_option linter.unusedSimpArgs false

theorem u8_lt {n : Nat} (h : n < 256) : (UInt8.ofNat n).toNat = n := by simp only [UInt8.toNat_ofNat']; omega
/-- A number's bytes tell where they end. -/
theorem enc_inj : ∀ (n m : Nat) (r s : List UInt8), enc n ++ r = enc m ++ s → n = m ∧ r = s := by
  intro n
  induction n using Nat.strongRecOn with
  | ind n ih =>
    intro m r s h
    by_cases hn : n < 128
    · by_cases hm : m < 128
      · rw [enc_lt hn, enc_lt hm] at h
        simp only [List.cons_append, List.nil_append, List.cons.injEq] at h
        have h1 := congrArg UInt8.toNat h.1
        rw [u8_lt (by omega), u8_lt (by omega)] at h1
        exact ⟨h1, h.2⟩
      · rw [enc_lt hn, enc_ge (by omega)] at h
        simp only [List.cons_append, List.nil_append, List.cons.injEq] at h
        have h1 := congrArg UInt8.toNat h.1
        rw [u8_lt (by omega), u8_lt (by omega)] at h1
        omega
    · by_cases hm : m < 128
      · rw [enc_ge (by omega), enc_lt hm] at h
        simp only [List.cons_append, List.nil_append, List.cons.injEq] at h
        have h1 := congrArg UInt8.toNat h.1
        rw [u8_lt (by omega), u8_lt (by omega)] at h1
        omega
      · rw [enc_ge (n := n) (by omega), enc_ge (n := m) (by omega)] at h
        simp only [List.cons_append, List.cons.injEq] at h
        have h1 := congrArg UInt8.toNat h.1
        rw [u8_lt (by omega), u8_lt (by omega)] at h1
        obtain ⟨h2, h3⟩ := ih (n / 128) (by omega) (m / 128) r s h.2
        exact ⟨by omega, h3⟩
theorem zig_inj {n m : Int} (h : zig n = zig m) : n = m := by
  unfold zig at h
  split at h <;> split at h <;> omega
theorem encNs_inj : ∀ (l k : List Int) (r s : List UInt8), l.length = k.length → encNs l ++ r = encNs k ++ s → l = k ∧ r = s
  | [], [], r, s, _, h => ⟨rfl, by simpa [encNs] using h⟩
  | [], _ :: _, _, _, hl, _ => by simp at hl
  | _ :: _, [], _, _, hl, _ => by simp at hl
  | a :: l, b :: k, r, s, hl, h => by
    have h' : enc (zig a) ++ (encNs l ++ r) = enc (zig b) ++ (encNs k ++ s) := by simpa [encNs] using h
    obtain ⟨h1, h2⟩ := enc_inj _ _ _ _ h'
    obtain ⟨h3, h4⟩ := encNs_inj l k r s (by simpa using hl) h2
    exact ⟨by rw [zig_inj h1, h3], h4⟩
theorem prm_inj (p q : ParamP) (r s : List UInt8) (h : prmE p ++ r = prmE q ++ s) : p = q ∧ r = s := by
  unfold prmE at h
  rw [List.append_assoc, List.append_assoc, List.append_assoc, List.append_assoc] at h
  obtain ⟨h1, h2⟩ := enc_inj _ _ _ _ h
  obtain ⟨h3, h4⟩ := List.append_inj h2 h1
  obtain ⟨h5, h6⟩ := encNs_inj [p.rows, p.cols] [q.rows, q.cols] _ _ rfl h4
  obtain ⟨n, a, b⟩ := p
  obtain ⟨n', a', b'⟩ := q
  simp only [List.cons.injEq, and_true] at h5 h3
  refine ⟨?_, h6⟩
  rw [ParamP.mk.injEq]
  exact ⟨ByteArray.ext (Array.toList_inj.1 h3), h5.1, h5.2⟩
theorem prms_inj : ∀ (l k : List ParamP) (r s : List UInt8), l.length = k.length → prmsE l ++ r = prmsE k ++ s → l = k ∧ r = s
  | [], [], r, s, _, h => ⟨rfl, by simpa [prmsE] using h⟩
  | [], _ :: _, _, _, hl, _ => by simp at hl
  | _ :: _, [], _, _, hl, _ => by simp at hl
  | a :: l, b :: k, r, s, hl, h => by
    have h' : prmE a ++ (prmsE l ++ r) = prmE b ++ (prmsE k ++ s) := by simpa [prmsE] using h
    obtain ⟨h1, h2⟩ := prm_inj _ _ _ _ h'
    obtain ⟨h3, h4⟩ := prms_inj l k r s (by simpa using hl) h2
    exact ⟨by rw [h1, h3], h4⟩
theorem flag_inj {a b : Bool} (h : flagN a = flagN b) : a = b := by cases a <;> cases b <;> simp [flagN] at h <;> rfl
theorem group_inj (g k : GroupP) (r s : List UInt8) (h : groupE g ++ r = groupE k ++ s) : g = k ∧ r = s := by
  unfold groupE at h
  rw [List.append_assoc, List.append_assoc, List.append_assoc, List.append_assoc] at h
  obtain ⟨h1, h2⟩ := encNs_inj (optNs g.opt) (optNs k.opt) _ _ rfl h
  obtain ⟨h3, h4⟩ := encNs_inj _ _ _ _ (by simp [schedNs]) h2
  have h5 := List.append_inj h3 (by simp [schedNs])
  have hl : g.params.length = k.params.length := by have := h5.2; simp at this; omega
  obtain ⟨h6, h7⟩ := prms_inj _ _ _ _ hl h4
  obtain ⟨o, c, p⟩ := g
  obtain ⟨o', c', p'⟩ := k
  cases o; cases o'; cases c; cases c'
  simp only [optNs, schedNs, List.cons.injEq, and_true] at h1 h5
  refine ⟨?_, h7⟩
  simp only [GroupP.mk.injEq, OptP.mk.injEq, SchedP.mk.injEq]
  obtain ⟨a1, a2, a3, a4, a5, a6, a7, a8, a9, a10, a11, a12, a13, a14⟩ := h1
  exact ⟨⟨a1, a2, a3, a4, flag_inj a5, a6, a7, a8, a9, a10, flag_inj a11, a12, a13, a14⟩, h5.1, h6⟩
theorem groups_inj : ∀ (l k : List GroupP) (r s : List UInt8), l.length = k.length → groupsE l ++ r = groupsE k ++ s → l = k ∧ r = s
  | [], [], r, s, _, h => ⟨rfl, by simpa [groupsE] using h⟩
  | [], _ :: _, _, _, hl, _ => by simp at hl
  | _ :: _, [], _, _, hl, _ => by simp at hl
  | a :: l, b :: k, r, s, hl, h => by
    have h' : groupE a ++ (groupsE l ++ r) = groupE b ++ (groupsE k ++ s) := by simpa [groupsE] using h
    obtain ⟨h1, h2⟩ := group_inj _ _ _ _ h'
    obtain ⟨h3, h4⟩ := groups_inj l k r s (by simpa using hl) h2
    exact ⟨by rw [h1, h3], h4⟩
theorem confE_inj {x y : ConfP} (h : confE x = confE y) : x = y := by
  unfold confE headE at h
  simp only [List.append_assoc] at h
  obtain ⟨h1, h⟩ := encNs_inj [x.f, x.clip] [y.f, y.clip] _ _ rfl h
  obtain ⟨h2, h⟩ := encNs_inj (keepNs x.k0) (keepNs y.k0) _ _ rfl h
  obtain ⟨h3, h⟩ := encNs_inj (keepNs x.k1) (keepNs y.k1) _ _ rfl h
  obtain ⟨h4, h⟩ := encNs_inj [(x.groups.length : Int)] [(y.groups.length : Int)] _ _ rfl h
  have hl : x.groups.length = y.groups.length := by simp at h4; omega
  obtain ⟨h5, _⟩ := groups_inj x.groups y.groups [] [] hl (by simpa using h)
  obtain ⟨f, cl, k0, k1, gs⟩ := x
  obtain ⟨f', cl', l0, l1, hs⟩ := y
  cases k0; cases k1; cases l0; cases l1
  simp only [keepNs, List.cons.injEq, and_true] at h1 h2 h3 h5
  simp only [ConfP.mk.injEq, KeepP.mk.injEq]
  exact ⟨h1.1, h1.2, h2, h3, h5⟩
end Go.Proofs.Ytigicphmnlkjfaa
