/- PackRows' walk. -/
import Derived.Test.YtbpmccikkijbmaaUni13
namespace Go.Proofs.Ytbpmccikkijbmaa
open Go.RowKit
set_option linter.unusedVariables false

theorem dRow_len (l : List UInt8) (m : Int) : (dRow l m).1.length ≤ l.length ∧ (dRow l m).2.1.length ≤ l.length := by
  unfold dRow
  rcases hd : dec l with _ | ⟨n, r⟩
  · simp
  · have := dec_len hd
    simp only
    split
    · simp
    · split
      · simp
      · simp only [List.length_take, List.length_drop]; omega

set_option maxRecDepth 100000 in
set_option maxHeartbeats 2000000 in
theorem packRows_walk (A D : Option Addr) (c d : Nat) (l k : List UInt8) (m : Int) (w : World) (h : SL w A c l) (hk : SL w D d k) (hl : l.length ≤ maxLen) (hkl : k.length ≤ maxLen) (hm : (Lit.int .i64 m).wf = true) :
    Calls Try.prog 4 #[.slice A l.length c, .slice D k.length d, .int .i64 m] w fun e w' => e = .returned (.bool true) ∧ Bl w w' := by
  unfold maxLen at hl hkl
  by_cases hlen : 1000 < l.length
  · clear h hk
    go_enter Try.func4, Try.ntmps4
    go_wp2_with fail
    refine (alive13_sl _).mono ?_
    rintro e w1 ⟨rfl, b⟩
    have bb := b; clear b
    go_wp2
    go_ret
    exact ⟨rfl, bb⟩
  by_cases hlen2 : 1000 < k.length
  · clear h hk
    go_enter Try.func4, Try.ntmps4
    go_wp2_with fail
    refine (alive13_sl _).mono ?_
    rintro e w1 ⟨rfl, b⟩
    have bb := b; clear b
    go_wp2
    go_ret
    exact ⟨rfl, bb⟩
  · have HM := Lib.hid hm
    obtain ⟨x, hx⟩ : ∃ x, x = l ++ (enc k.length ++ k) := ⟨_, rfl⟩
    have hxl : Hid (x.length ≤ 9223372036854775807) := by subst hx; simp only [Hid, List.length_append]; have := enc_len10 (n := k.length) (by omega); omega
    obtain ⟨p, q, z, hpq⟩ : ∃ p q z, dRow l m = (p, q, z) := ⟨_, _, _, rfl⟩
    have hpl : Hid (p.length ≤ 9223372036854775807 ∧ q.length ≤ 9223372036854775807) := by
      have := dRow_len l m
      rw [hpq] at this
      simp only [Hid] at this ⊢
      omega
    have hL : Hid (l.length + k.length ≤ 140737488355000) := by simp only [Hid]; omega
    have hL2 : Hid (l.length ≤ 140737488355328) := by simp only [Hid]; omega
    have h1 := Lib.hid (takeRow_sl (w := w) h m hL2.out HM.out)
    rw [hpq] at h1
    have h2 := fun (w : World) (h : SL w A c l) => Lib.hid (rtakeRow_sl (w := w) h m hL2.out HM.out)
    rw [hpq] at h2
    have H2 := Lib.hid h2
    have HX := Lib.hid hx
    clear hx hm hl hkl h2 hpq
    go_enter Try.func4, Try.ntmps4
    go_wp2_with fail
    refine (h1.out).mono ?_
    rintro e w1 ⟨A1, c1, A2, c2, rfl, s1, s2, b⟩
    replace h := h.step b; replace hk := hk.step b; have bb := b; clear b
    go_wp2_with fail
    refine ((H2.out _ h).out).mono ?_
    rintro e w2 ⟨A3, c3, A4, c4, rfl, s3, s4, b⟩
    replace h := h.step b; replace hk := hk.step b; replace s1 := s1.step b; replace s2 := s2.step b; replace bb := bb.trans b; clear b
    go_wp2_with fail
    refine (alive13_sl _).mono ?_
    rintro e w3 ⟨rfl, b⟩
    replace h := h.step b; replace hk := hk.step b; replace s1 := s1.step b; replace s2 := s2.step b; replace s3 := s3.step b; replace s4 := s4.step b; replace bb := bb.trans b; clear b
    go_wp2_with fail
    refine (putRow_sl h hk x HX.out hL.out).mono ?_
    rintro e w4 ⟨A5, c5, rfl, s5, _, b⟩
    replace h := h.step b; replace hk := hk.step b; replace s1 := s1.step b; replace s2 := s2.step b; replace s3 := s3.step b; replace s4 := s4.step b; replace bb := bb.trans b; clear b
    go_wp2_with fail
    refine (rputRow_sl h hk x HX.out hL.out).mono ?_
    rintro e w5 ⟨A6, c6, rfl, s6, _, b⟩
    replace h := h.step b; replace hk := hk.step b; replace s1 := s1.step b; replace s2 := s2.step b; replace s3 := s3.step b; replace s4 := s4.step b; replace s5 := s5.step b; replace bb := bb.trans b; clear b
    go_wp2_with fail
    refine (same_sl s5 s6 hxl.out).mono ?_
    rintro e w6 ⟨rfl, b⟩
    clear s5 s6 h hk
    replace s1 := s1.step b; replace s2 := s2.step b; replace s3 := s3.step b; replace s4 := s4.step b; replace bb := bb.trans b; clear b
    go_wp2_with fail
    refine (same_sl s1 s3 hpl.out.1).mono ?_
    rintro e w7 ⟨rfl, b⟩
    clear s1 s3
    replace s2 := s2.step b; replace s4 := s4.step b; replace bb := bb.trans b; clear b
    go_wp2_with fail
    refine (same_sl s2 s4 hpl.out.2).mono ?_
    rintro e w8 ⟨rfl, b⟩
    clear s2 s4
    replace bb := bb.trans b; clear b
    go_wp2
    go_ret
    exact ⟨rfl, bb⟩
end Go.Proofs.Ytbpmccikkijbmaa
