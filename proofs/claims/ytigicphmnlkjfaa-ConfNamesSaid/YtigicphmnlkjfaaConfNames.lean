/- The walk of ConfNames. (Printed by wip/gen_names.py.) -/
import Derived.Test.YtigicphmnlkjfaaAlive21
import Derived.Test.YtigicphmnlkjfaaNamesPlain
import Derived.Deep.RegionHeld3
import Derived.Deep.MidRow
namespace Go.Proofs.Ytigicphmnlkjfaa
open Go.RowKit
set_option linter.unusedVariables false
set_option linter.unusedSimpArgs false

set_option maxRecDepth 100000 in
set_option maxHeartbeats 8000000 in
theorem confNames_L {w : World} (s : ByteArray) (hs : s.size ≤ 60) (c : UInt8) (cn : Nat) (hcn : c.toNat = cn) (hk : 97 ≤ cn ∧ cn ≤ 122) (hc : cn < 256) :
    Calls Try.prog 7 #[.string s, .int .u8 cn] w fun e w' => e = .returned (.bool true) ∧ Bl w w' := by
  have hstr := fun n fr => str_one w c 5 n fr
  have hmay : okc 1 c ↔ True := iff_of_true (by unfold okc; omega) trivial
  rw [hcn] at hstr
  have hsz1 : (⟨#[c]⟩ : ByteArray).size = 1 := rfl
  have hpush : (s ++ ⟨#[c]⟩ : ByteArray).size = s.size + 1 := by rw [ByteArray.size_append]; rfl
  obtain ⟨z, hz⟩ : ∃ z : ByteArray, z = ⟨#[c]⟩ := ⟨_, rfl⟩
  rw [← hz] at hstr hsz1 hpush
  have hS60 : (s.size : Int) ≤ 60 := by omega
  obtain ⟨nb, hnb⟩ : ∃ nb, nb = decide (NameP s) := ⟨_, rfl⟩
  obtain ⟨nt, hnt⟩ : ∃ nt, nt = decide (NameP (s ++ z)) := ⟨_, rfl⟩
  have HN := Lib.hid (fun w' => isName_to s nb hnb w' (by omega))
  have HT := Lib.hid (fun w' => isName_to (s ++ z) nt hnt w' (by omega))
  have hpu : 0 < s.size → (NameP (s ++ z) ↔ NameP s ∧ okc 1 c ∧ s.size < 20) := fun h => by rw [hz]; exact nameP_push s c h
  have i0 : (97 : Int) ≤ (cn : Int) := by first | omega | (simp; omega) | (rw [beq_eq_false_iff_ne]; omega)
  have i1 : (cn : Int) ≤ 122 := by first | omega | (simp; omega) | (rw [beq_eq_false_iff_ne]; omega)
  by_cases h0 : s.size = 0
  · have j0 : ¬ (0 : Int) < (s.size : Int) := by omega
    have j1 : ((s.size : Int) == 0) = true := by rw [h0]; rfl
    have hF : nb = false := by rw [hnb, decide_eq_false_iff_not]; intro h; have := h.1; omega
    subst hF
    clear hpu hnb hnt hz hk hcn hmay HT
    go_enter Try.func7, Try.ntmps7
    go_wp2_with fail
    refine (alive21 _).mono ?_
    rintro e w1 ⟨rfl, b1⟩
    have HB1 := Lib.hid ((Bl.alloc _ _).trans b1)
    clear b1
    go_wp2_with fail
    refine (HN.out _).mono ?_
    rintro e w2 ⟨rfl, b2⟩
    have HB2 := Lib.hid (HB1.out.trans b2)
    clear b2 HB1
    go_wp2_with fail
    go_ret
    exact ⟨rfl, HB2.out⟩
  have j0 : (0 : Int) < (s.size : Int) := by omega
  have j1 : ((s.size : Int) == 0) = false := by rw [beq_eq_false_iff_ne]; omega
  have hpu := hpu (by omega)
  have hfirst : nb = true → 97 ≤ (s[0]).toNat ∧ (s[0]).toNat ≤ 122 := fun h => by
    obtain ⟨_, h⟩ := nameP_first (s := s) (of_decide_eq_true (by rw [← hnb]; exact h))
    exact h
  cases nb
  · have hT : nt = false := by
      rw [hnt, decide_eq_false_iff_not]
      intro h
      exact of_decide_eq_false hnb.symm (hpu.1 h).1
    subst hT
    clear hpu hnb hnt hz hk hcn hmay hfirst
    by_cases k1 : 97 ≤ (s[0]).toNat
    · have q1 : (97 : Int) ≤ ((s[0]).toNat : Int) := by omega
      by_cases k2 : (s[0]).toNat ≤ 122
      · have q2 : ((s[0]).toNat : Int) ≤ 122 := by omega
        go_enter Try.func7, Try.ntmps7
        go_wp2_with fail
        refine (alive21 _).mono ?_
        rintro e w1 ⟨rfl, b1⟩
        have HB1 := Lib.hid ((Bl.alloc _ _).trans b1)
        clear b1
        go_wp2_with fail
        refine (HN.out _).mono ?_
        rintro e w2 ⟨rfl, b2⟩
        have HB2 := Lib.hid (HB1.out.trans b2)
        clear b2 HB1
        go_wp2_with fail
        refine (HT.out _).mono ?_
        rintro e w3 ⟨rfl, b3⟩
        have HB3 := Lib.hid (HB2.out.trans b3)
        clear b3 HB2
        go_wp2_with fail
        refine (HN.out _).mono ?_
        rintro e w4 ⟨rfl, b4⟩
        have HB4 := Lib.hid (HB3.out.trans b4)
        clear b4 HB3
        go_wp2_with fail
        go_ret
        exact ⟨rfl, HB4.out⟩
      · have q2 : ¬ ((s[0]).toNat : Int) ≤ 122 := by omega
        go_enter Try.func7, Try.ntmps7
        go_wp2_with fail
        refine (alive21 _).mono ?_
        rintro e w1 ⟨rfl, b1⟩
        have HB1 := Lib.hid ((Bl.alloc _ _).trans b1)
        clear b1
        go_wp2_with fail
        refine (HN.out _).mono ?_
        rintro e w2 ⟨rfl, b2⟩
        have HB2 := Lib.hid (HB1.out.trans b2)
        clear b2 HB1
        go_wp2_with fail
        refine (HT.out _).mono ?_
        rintro e w3 ⟨rfl, b3⟩
        have HB3 := Lib.hid (HB2.out.trans b3)
        clear b3 HB2
        go_wp2_with fail
        refine (HN.out _).mono ?_
        rintro e w4 ⟨rfl, b4⟩
        have HB4 := Lib.hid (HB3.out.trans b4)
        clear b4 HB3
        go_wp2_with fail
        go_ret
        exact ⟨rfl, HB4.out⟩
    · have q1 : ¬ (97 : Int) ≤ ((s[0]).toNat : Int) := by omega
      go_enter Try.func7, Try.ntmps7
      go_wp2_with fail
      refine (alive21 _).mono ?_
      rintro e w1 ⟨rfl, b1⟩
      have HB1 := Lib.hid ((Bl.alloc _ _).trans b1)
      clear b1
      go_wp2_with fail
      refine (HN.out _).mono ?_
      rintro e w2 ⟨rfl, b2⟩
      have HB2 := Lib.hid (HB1.out.trans b2)
      clear b2 HB1
      go_wp2_with fail
      refine (HT.out _).mono ?_
      rintro e w3 ⟨rfl, b3⟩
      have HB3 := Lib.hid (HB2.out.trans b3)
      clear b3 HB2
      go_wp2_with fail
      refine (HN.out _).mono ?_
      rintro e w4 ⟨rfl, b4⟩
      have HB4 := Lib.hid (HB3.out.trans b4)
      clear b4 HB3
      go_wp2_with fail
      go_ret
      exact ⟨rfl, HB4.out⟩
  · have q1 : (97 : Int) ≤ ((s[0]).toNat : Int) := by have := hfirst rfl; omega
    have q2 : ((s[0]).toNat : Int) ≤ 122 := by have := hfirst rfl; omega
    have hP : NameP s := of_decide_eq_true hnb.symm
    have q3 : (s.size : Int) ≤ 20 := by have := hP.1; omega
    by_cases k3 : s.size < 20
    · have q4 : (s.size : Int) < 20 := by omega
      have hT : nt = true := by rw [hnt, decide_eq_true_iff]; exact hpu.2 ⟨hP, hmay.2 trivial, k3⟩
      subst hT
      clear hpu hnb hnt hz hk hcn hmay hfirst hP
      go_enter Try.func7, Try.ntmps7
      go_wp2_with fail
      refine (alive21 _).mono ?_
      rintro e w1 ⟨rfl, b1⟩
      have HB1 := Lib.hid ((Bl.alloc _ _).trans b1)
      clear b1
      go_wp2_with fail
      refine (HN.out _).mono ?_
      rintro e w2 ⟨rfl, b2⟩
      have HB2 := Lib.hid (HB1.out.trans b2)
      clear b2 HB1
      go_wp2_with fail
      refine (HT.out _).mono ?_
      rintro e w3 ⟨rfl, b3⟩
      have HB3 := Lib.hid (HB2.out.trans b3)
      clear b3 HB2
      go_wp2_with fail
      refine (HN.out _).mono ?_
      rintro e w4 ⟨rfl, b4⟩
      have HB4 := Lib.hid (HB3.out.trans b4)
      clear b4 HB3
      go_wp2_with fail
      go_ret
      exact ⟨rfl, HB4.out⟩
    · have q4 : ¬ (s.size : Int) < 20 := by omega
      have hT : nt = false := by
        rw [hnt, decide_eq_false_iff_not]
        intro h
        exact k3 (hpu.1 h).2.2
      subst hT
      clear hpu hnb hnt hz hk hcn hmay hfirst hP
      go_enter Try.func7, Try.ntmps7
      go_wp2_with fail
      refine (alive21 _).mono ?_
      rintro e w1 ⟨rfl, b1⟩
      have HB1 := Lib.hid ((Bl.alloc _ _).trans b1)
      clear b1
      go_wp2_with fail
      refine (HN.out _).mono ?_
      rintro e w2 ⟨rfl, b2⟩
      have HB2 := Lib.hid (HB1.out.trans b2)
      clear b2 HB1
      go_wp2_with fail
      refine (HT.out _).mono ?_
      rintro e w3 ⟨rfl, b3⟩
      have HB3 := Lib.hid (HB2.out.trans b3)
      clear b3 HB2
      go_wp2_with fail
      refine (HN.out _).mono ?_
      rintro e w4 ⟨rfl, b4⟩
      have HB4 := Lib.hid (HB3.out.trans b4)
      clear b4 HB3
      go_wp2_with fail
      go_ret
      exact ⟨congrArg (fun b => Ending.returned (Value.bool b)) (show (!decide ((s.size : Int) < 20)) = true by rw [decide_eq_false (by omega)]; rfl), HB4.out⟩

set_option maxRecDepth 100000 in
set_option maxHeartbeats 8000000 in
theorem confNames_D {w : World} (s : ByteArray) (hs : s.size ≤ 60) (c : UInt8) (cn : Nat) (hcn : c.toNat = cn) (hk : 48 ≤ cn ∧ cn ≤ 57) (hc : cn < 256) :
    Calls Try.prog 7 #[.string s, .int .u8 cn] w fun e w' => e = .returned (.bool true) ∧ Bl w w' := by
  have hstr := fun n fr => str_one w c 5 n fr
  have hmay : okc 1 c ↔ True := iff_of_true (by unfold okc; omega) trivial
  rw [hcn] at hstr
  have hsz1 : (⟨#[c]⟩ : ByteArray).size = 1 := rfl
  have hpush : (s ++ ⟨#[c]⟩ : ByteArray).size = s.size + 1 := by rw [ByteArray.size_append]; rfl
  obtain ⟨z, hz⟩ : ∃ z : ByteArray, z = ⟨#[c]⟩ := ⟨_, rfl⟩
  rw [← hz] at hstr hsz1 hpush
  have hS60 : (s.size : Int) ≤ 60 := by omega
  obtain ⟨nb, hnb⟩ : ∃ nb, nb = decide (NameP s) := ⟨_, rfl⟩
  obtain ⟨nt, hnt⟩ : ∃ nt, nt = decide (NameP (s ++ z)) := ⟨_, rfl⟩
  have HN := Lib.hid (fun w' => isName_to s nb hnb w' (by omega))
  have HT := Lib.hid (fun w' => isName_to (s ++ z) nt hnt w' (by omega))
  have hpu : 0 < s.size → (NameP (s ++ z) ↔ NameP s ∧ okc 1 c ∧ s.size < 20) := fun h => by rw [hz]; exact nameP_push s c h
  have i0 : ¬ (97 : Int) ≤ (cn : Int) := by first | omega | (simp; omega) | (rw [beq_eq_false_iff_ne]; omega)
  have i1 : (48 : Int) ≤ (cn : Int) := by first | omega | (simp; omega) | (rw [beq_eq_false_iff_ne]; omega)
  have i2 : (cn : Int) ≤ 57 := by first | omega | (simp; omega) | (rw [beq_eq_false_iff_ne]; omega)
  by_cases h0 : s.size = 0
  · have j0 : ¬ (0 : Int) < (s.size : Int) := by omega
    have j1 : ((s.size : Int) == 0) = true := by rw [h0]; rfl
    have hF : nb = false := by rw [hnb, decide_eq_false_iff_not]; intro h; have := h.1; omega
    subst hF
    clear hpu hnb hnt hz hk hcn hmay HT
    go_enter Try.func7, Try.ntmps7
    go_wp2_with fail
    refine (alive21 _).mono ?_
    rintro e w1 ⟨rfl, b1⟩
    have HB1 := Lib.hid ((Bl.alloc _ _).trans b1)
    clear b1
    go_wp2_with fail
    refine (HN.out _).mono ?_
    rintro e w2 ⟨rfl, b2⟩
    have HB2 := Lib.hid (HB1.out.trans b2)
    clear b2 HB1
    go_wp2_with fail
    go_ret
    exact ⟨rfl, HB2.out⟩
  have j0 : (0 : Int) < (s.size : Int) := by omega
  have j1 : ((s.size : Int) == 0) = false := by rw [beq_eq_false_iff_ne]; omega
  have hpu := hpu (by omega)
  have hfirst : nb = true → 97 ≤ (s[0]).toNat ∧ (s[0]).toNat ≤ 122 := fun h => by
    obtain ⟨_, h⟩ := nameP_first (s := s) (of_decide_eq_true (by rw [← hnb]; exact h))
    exact h
  cases nb
  · have hT : nt = false := by
      rw [hnt, decide_eq_false_iff_not]
      intro h
      exact of_decide_eq_false hnb.symm (hpu.1 h).1
    subst hT
    clear hpu hnb hnt hz hk hcn hmay hfirst
    by_cases k1 : 97 ≤ (s[0]).toNat
    · have q1 : (97 : Int) ≤ ((s[0]).toNat : Int) := by omega
      by_cases k2 : (s[0]).toNat ≤ 122
      · have q2 : ((s[0]).toNat : Int) ≤ 122 := by omega
        go_enter Try.func7, Try.ntmps7
        go_wp2_with fail
        refine (alive21 _).mono ?_
        rintro e w1 ⟨rfl, b1⟩
        have HB1 := Lib.hid ((Bl.alloc _ _).trans b1)
        clear b1
        go_wp2_with fail
        refine (HN.out _).mono ?_
        rintro e w2 ⟨rfl, b2⟩
        have HB2 := Lib.hid (HB1.out.trans b2)
        clear b2 HB1
        go_wp2_with fail
        refine (HT.out _).mono ?_
        rintro e w3 ⟨rfl, b3⟩
        have HB3 := Lib.hid (HB2.out.trans b3)
        clear b3 HB2
        go_wp2_with fail
        refine (HN.out _).mono ?_
        rintro e w4 ⟨rfl, b4⟩
        have HB4 := Lib.hid (HB3.out.trans b4)
        clear b4 HB3
        go_wp2_with fail
        go_ret
        exact ⟨rfl, HB4.out⟩
      · have q2 : ¬ ((s[0]).toNat : Int) ≤ 122 := by omega
        go_enter Try.func7, Try.ntmps7
        go_wp2_with fail
        refine (alive21 _).mono ?_
        rintro e w1 ⟨rfl, b1⟩
        have HB1 := Lib.hid ((Bl.alloc _ _).trans b1)
        clear b1
        go_wp2_with fail
        refine (HN.out _).mono ?_
        rintro e w2 ⟨rfl, b2⟩
        have HB2 := Lib.hid (HB1.out.trans b2)
        clear b2 HB1
        go_wp2_with fail
        refine (HT.out _).mono ?_
        rintro e w3 ⟨rfl, b3⟩
        have HB3 := Lib.hid (HB2.out.trans b3)
        clear b3 HB2
        go_wp2_with fail
        refine (HN.out _).mono ?_
        rintro e w4 ⟨rfl, b4⟩
        have HB4 := Lib.hid (HB3.out.trans b4)
        clear b4 HB3
        go_wp2_with fail
        go_ret
        exact ⟨rfl, HB4.out⟩
    · have q1 : ¬ (97 : Int) ≤ ((s[0]).toNat : Int) := by omega
      go_enter Try.func7, Try.ntmps7
      go_wp2_with fail
      refine (alive21 _).mono ?_
      rintro e w1 ⟨rfl, b1⟩
      have HB1 := Lib.hid ((Bl.alloc _ _).trans b1)
      clear b1
      go_wp2_with fail
      refine (HN.out _).mono ?_
      rintro e w2 ⟨rfl, b2⟩
      have HB2 := Lib.hid (HB1.out.trans b2)
      clear b2 HB1
      go_wp2_with fail
      refine (HT.out _).mono ?_
      rintro e w3 ⟨rfl, b3⟩
      have HB3 := Lib.hid (HB2.out.trans b3)
      clear b3 HB2
      go_wp2_with fail
      refine (HN.out _).mono ?_
      rintro e w4 ⟨rfl, b4⟩
      have HB4 := Lib.hid (HB3.out.trans b4)
      clear b4 HB3
      go_wp2_with fail
      go_ret
      exact ⟨rfl, HB4.out⟩
  · have q1 : (97 : Int) ≤ ((s[0]).toNat : Int) := by have := hfirst rfl; omega
    have q2 : ((s[0]).toNat : Int) ≤ 122 := by have := hfirst rfl; omega
    have hP : NameP s := of_decide_eq_true hnb.symm
    have q3 : (s.size : Int) ≤ 20 := by have := hP.1; omega
    by_cases k3 : s.size < 20
    · have q4 : (s.size : Int) < 20 := by omega
      have hT : nt = true := by rw [hnt, decide_eq_true_iff]; exact hpu.2 ⟨hP, hmay.2 trivial, k3⟩
      subst hT
      clear hpu hnb hnt hz hk hcn hmay hfirst hP
      go_enter Try.func7, Try.ntmps7
      go_wp2_with fail
      refine (alive21 _).mono ?_
      rintro e w1 ⟨rfl, b1⟩
      have HB1 := Lib.hid ((Bl.alloc _ _).trans b1)
      clear b1
      go_wp2_with fail
      refine (HN.out _).mono ?_
      rintro e w2 ⟨rfl, b2⟩
      have HB2 := Lib.hid (HB1.out.trans b2)
      clear b2 HB1
      go_wp2_with fail
      refine (HT.out _).mono ?_
      rintro e w3 ⟨rfl, b3⟩
      have HB3 := Lib.hid (HB2.out.trans b3)
      clear b3 HB2
      go_wp2_with fail
      refine (HN.out _).mono ?_
      rintro e w4 ⟨rfl, b4⟩
      have HB4 := Lib.hid (HB3.out.trans b4)
      clear b4 HB3
      go_wp2_with fail
      go_ret
      exact ⟨rfl, HB4.out⟩
    · have q4 : ¬ (s.size : Int) < 20 := by omega
      have hT : nt = false := by
        rw [hnt, decide_eq_false_iff_not]
        intro h
        exact k3 (hpu.1 h).2.2
      subst hT
      clear hpu hnb hnt hz hk hcn hmay hfirst hP
      go_enter Try.func7, Try.ntmps7
      go_wp2_with fail
      refine (alive21 _).mono ?_
      rintro e w1 ⟨rfl, b1⟩
      have HB1 := Lib.hid ((Bl.alloc _ _).trans b1)
      clear b1
      go_wp2_with fail
      refine (HN.out _).mono ?_
      rintro e w2 ⟨rfl, b2⟩
      have HB2 := Lib.hid (HB1.out.trans b2)
      clear b2 HB1
      go_wp2_with fail
      refine (HT.out _).mono ?_
      rintro e w3 ⟨rfl, b3⟩
      have HB3 := Lib.hid (HB2.out.trans b3)
      clear b3 HB2
      go_wp2_with fail
      refine (HN.out _).mono ?_
      rintro e w4 ⟨rfl, b4⟩
      have HB4 := Lib.hid (HB3.out.trans b4)
      clear b4 HB3
      go_wp2_with fail
      go_ret
      exact ⟨congrArg (fun b => Ending.returned (Value.bool b)) (show (!decide ((s.size : Int) < 20)) = true by rw [decide_eq_false (by omega)]; rfl), HB4.out⟩

set_option maxRecDepth 100000 in
set_option maxHeartbeats 8000000 in
theorem confNames_U {w : World} (s : ByteArray) (hs : s.size ≤ 60) (c : UInt8) (cn : Nat) (hcn : c.toNat = cn) (hk : cn = 95) (hc : cn < 256) :
    Calls Try.prog 7 #[.string s, .int .u8 cn] w fun e w' => e = .returned (.bool true) ∧ Bl w w' := by
  have hstr := fun n fr => str_one w c 5 n fr
  have hmay : okc 1 c ↔ True := iff_of_true (by unfold okc; omega) trivial
  rw [hcn] at hstr
  have hsz1 : (⟨#[c]⟩ : ByteArray).size = 1 := rfl
  have hpush : (s ++ ⟨#[c]⟩ : ByteArray).size = s.size + 1 := by rw [ByteArray.size_append]; rfl
  obtain ⟨z, hz⟩ : ∃ z : ByteArray, z = ⟨#[c]⟩ := ⟨_, rfl⟩
  rw [← hz] at hstr hsz1 hpush
  have hS60 : (s.size : Int) ≤ 60 := by omega
  obtain ⟨nb, hnb⟩ : ∃ nb, nb = decide (NameP s) := ⟨_, rfl⟩
  obtain ⟨nt, hnt⟩ : ∃ nt, nt = decide (NameP (s ++ z)) := ⟨_, rfl⟩
  have HN := Lib.hid (fun w' => isName_to s nb hnb w' (by omega))
  have HT := Lib.hid (fun w' => isName_to (s ++ z) nt hnt w' (by omega))
  have hpu : 0 < s.size → (NameP (s ++ z) ↔ NameP s ∧ okc 1 c ∧ s.size < 20) := fun h => by rw [hz]; exact nameP_push s c h
  have i0 : ¬ (97 : Int) ≤ (cn : Int) := by first | omega | (simp; omega) | (rw [beq_eq_false_iff_ne]; omega)
  have i1 : (48 : Int) ≤ (cn : Int) := by first | omega | (simp; omega) | (rw [beq_eq_false_iff_ne]; omega)
  have i2 : ¬ (cn : Int) ≤ 57 := by first | omega | (simp; omega) | (rw [beq_eq_false_iff_ne]; omega)
  have i3 : ((cn : Int) == 95) = true := by first | omega | (simp; omega) | (rw [beq_eq_false_iff_ne]; omega)
  by_cases h0 : s.size = 0
  · have j0 : ¬ (0 : Int) < (s.size : Int) := by omega
    have j1 : ((s.size : Int) == 0) = true := by rw [h0]; rfl
    have hF : nb = false := by rw [hnb, decide_eq_false_iff_not]; intro h; have := h.1; omega
    subst hF
    clear hpu hnb hnt hz hk hcn hmay HT
    go_enter Try.func7, Try.ntmps7
    go_wp2_with fail
    refine (alive21 _).mono ?_
    rintro e w1 ⟨rfl, b1⟩
    have HB1 := Lib.hid ((Bl.alloc _ _).trans b1)
    clear b1
    go_wp2_with fail
    refine (HN.out _).mono ?_
    rintro e w2 ⟨rfl, b2⟩
    have HB2 := Lib.hid (HB1.out.trans b2)
    clear b2 HB1
    go_wp2_with fail
    go_ret
    exact ⟨rfl, HB2.out⟩
  have j0 : (0 : Int) < (s.size : Int) := by omega
  have j1 : ((s.size : Int) == 0) = false := by rw [beq_eq_false_iff_ne]; omega
  have hpu := hpu (by omega)
  have hfirst : nb = true → 97 ≤ (s[0]).toNat ∧ (s[0]).toNat ≤ 122 := fun h => by
    obtain ⟨_, h⟩ := nameP_first (s := s) (of_decide_eq_true (by rw [← hnb]; exact h))
    exact h
  cases nb
  · have hT : nt = false := by
      rw [hnt, decide_eq_false_iff_not]
      intro h
      exact of_decide_eq_false hnb.symm (hpu.1 h).1
    subst hT
    clear hpu hnb hnt hz hk hcn hmay hfirst
    by_cases k1 : 97 ≤ (s[0]).toNat
    · have q1 : (97 : Int) ≤ ((s[0]).toNat : Int) := by omega
      by_cases k2 : (s[0]).toNat ≤ 122
      · have q2 : ((s[0]).toNat : Int) ≤ 122 := by omega
        go_enter Try.func7, Try.ntmps7
        go_wp2_with fail
        refine (alive21 _).mono ?_
        rintro e w1 ⟨rfl, b1⟩
        have HB1 := Lib.hid ((Bl.alloc _ _).trans b1)
        clear b1
        go_wp2_with fail
        refine (HN.out _).mono ?_
        rintro e w2 ⟨rfl, b2⟩
        have HB2 := Lib.hid (HB1.out.trans b2)
        clear b2 HB1
        go_wp2_with fail
        refine (HT.out _).mono ?_
        rintro e w3 ⟨rfl, b3⟩
        have HB3 := Lib.hid (HB2.out.trans b3)
        clear b3 HB2
        go_wp2_with fail
        refine (HN.out _).mono ?_
        rintro e w4 ⟨rfl, b4⟩
        have HB4 := Lib.hid (HB3.out.trans b4)
        clear b4 HB3
        go_wp2_with fail
        go_ret
        exact ⟨rfl, HB4.out⟩
      · have q2 : ¬ ((s[0]).toNat : Int) ≤ 122 := by omega
        go_enter Try.func7, Try.ntmps7
        go_wp2_with fail
        refine (alive21 _).mono ?_
        rintro e w1 ⟨rfl, b1⟩
        have HB1 := Lib.hid ((Bl.alloc _ _).trans b1)
        clear b1
        go_wp2_with fail
        refine (HN.out _).mono ?_
        rintro e w2 ⟨rfl, b2⟩
        have HB2 := Lib.hid (HB1.out.trans b2)
        clear b2 HB1
        go_wp2_with fail
        refine (HT.out _).mono ?_
        rintro e w3 ⟨rfl, b3⟩
        have HB3 := Lib.hid (HB2.out.trans b3)
        clear b3 HB2
        go_wp2_with fail
        refine (HN.out _).mono ?_
        rintro e w4 ⟨rfl, b4⟩
        have HB4 := Lib.hid (HB3.out.trans b4)
        clear b4 HB3
        go_wp2_with fail
        go_ret
        exact ⟨rfl, HB4.out⟩
    · have q1 : ¬ (97 : Int) ≤ ((s[0]).toNat : Int) := by omega
      go_enter Try.func7, Try.ntmps7
      go_wp2_with fail
      refine (alive21 _).mono ?_
      rintro e w1 ⟨rfl, b1⟩
      have HB1 := Lib.hid ((Bl.alloc _ _).trans b1)
      clear b1
      go_wp2_with fail
      refine (HN.out _).mono ?_
      rintro e w2 ⟨rfl, b2⟩
      have HB2 := Lib.hid (HB1.out.trans b2)
      clear b2 HB1
      go_wp2_with fail
      refine (HT.out _).mono ?_
      rintro e w3 ⟨rfl, b3⟩
      have HB3 := Lib.hid (HB2.out.trans b3)
      clear b3 HB2
      go_wp2_with fail
      refine (HN.out _).mono ?_
      rintro e w4 ⟨rfl, b4⟩
      have HB4 := Lib.hid (HB3.out.trans b4)
      clear b4 HB3
      go_wp2_with fail
      go_ret
      exact ⟨rfl, HB4.out⟩
  · have q1 : (97 : Int) ≤ ((s[0]).toNat : Int) := by have := hfirst rfl; omega
    have q2 : ((s[0]).toNat : Int) ≤ 122 := by have := hfirst rfl; omega
    have hP : NameP s := of_decide_eq_true hnb.symm
    have q3 : (s.size : Int) ≤ 20 := by have := hP.1; omega
    by_cases k3 : s.size < 20
    · have q4 : (s.size : Int) < 20 := by omega
      have hT : nt = true := by rw [hnt, decide_eq_true_iff]; exact hpu.2 ⟨hP, hmay.2 trivial, k3⟩
      subst hT
      clear hpu hnb hnt hz hk hcn hmay hfirst hP
      go_enter Try.func7, Try.ntmps7
      go_wp2_with fail
      refine (alive21 _).mono ?_
      rintro e w1 ⟨rfl, b1⟩
      have HB1 := Lib.hid ((Bl.alloc _ _).trans b1)
      clear b1
      go_wp2_with fail
      refine (HN.out _).mono ?_
      rintro e w2 ⟨rfl, b2⟩
      have HB2 := Lib.hid (HB1.out.trans b2)
      clear b2 HB1
      go_wp2_with fail
      refine (HT.out _).mono ?_
      rintro e w3 ⟨rfl, b3⟩
      have HB3 := Lib.hid (HB2.out.trans b3)
      clear b3 HB2
      go_wp2_with fail
      refine (HN.out _).mono ?_
      rintro e w4 ⟨rfl, b4⟩
      have HB4 := Lib.hid (HB3.out.trans b4)
      clear b4 HB3
      go_wp2_with fail
      go_ret
      exact ⟨rfl, HB4.out⟩
    · have q4 : ¬ (s.size : Int) < 20 := by omega
      have hT : nt = false := by
        rw [hnt, decide_eq_false_iff_not]
        intro h
        exact k3 (hpu.1 h).2.2
      subst hT
      clear hpu hnb hnt hz hk hcn hmay hfirst hP
      go_enter Try.func7, Try.ntmps7
      go_wp2_with fail
      refine (alive21 _).mono ?_
      rintro e w1 ⟨rfl, b1⟩
      have HB1 := Lib.hid ((Bl.alloc _ _).trans b1)
      clear b1
      go_wp2_with fail
      refine (HN.out _).mono ?_
      rintro e w2 ⟨rfl, b2⟩
      have HB2 := Lib.hid (HB1.out.trans b2)
      clear b2 HB1
      go_wp2_with fail
      refine (HT.out _).mono ?_
      rintro e w3 ⟨rfl, b3⟩
      have HB3 := Lib.hid (HB2.out.trans b3)
      clear b3 HB2
      go_wp2_with fail
      refine (HN.out _).mono ?_
      rintro e w4 ⟨rfl, b4⟩
      have HB4 := Lib.hid (HB3.out.trans b4)
      clear b4 HB3
      go_wp2_with fail
      go_ret
      exact ⟨congrArg (fun b => Ending.returned (Value.bool b)) (show (!decide ((s.size : Int) < 20)) = true by rw [decide_eq_false (by omega)]; rfl), HB4.out⟩

set_option maxRecDepth 100000 in
set_option maxHeartbeats 8000000 in
theorem confNames_A {w : World} (s : ByteArray) (hs : s.size ≤ 60) (c : UInt8) (cn : Nat) (hcn : c.toNat = cn) (hk : cn < 48) (hc : cn < 256) :
    Calls Try.prog 7 #[.string s, .int .u8 cn] w fun e w' => e = .returned (.bool true) ∧ Bl w w' := by
  have hstr := fun n fr => str_one w c 5 n fr
  have hmay : okc 1 c ↔ False := iff_of_false (by unfold okc; omega) id
  rw [hcn] at hstr
  have hsz1 : (⟨#[c]⟩ : ByteArray).size = 1 := rfl
  have hpush : (s ++ ⟨#[c]⟩ : ByteArray).size = s.size + 1 := by rw [ByteArray.size_append]; rfl
  obtain ⟨z, hz⟩ : ∃ z : ByteArray, z = ⟨#[c]⟩ := ⟨_, rfl⟩
  rw [← hz] at hstr hsz1 hpush
  have hS60 : (s.size : Int) ≤ 60 := by omega
  obtain ⟨nb, hnb⟩ : ∃ nb, nb = decide (NameP s) := ⟨_, rfl⟩
  obtain ⟨nt, hnt⟩ : ∃ nt, nt = decide (NameP (s ++ z)) := ⟨_, rfl⟩
  have HN := Lib.hid (fun w' => isName_to s nb hnb w' (by omega))
  have HT := Lib.hid (fun w' => isName_to (s ++ z) nt hnt w' (by omega))
  have hpu : 0 < s.size → (NameP (s ++ z) ↔ NameP s ∧ okc 1 c ∧ s.size < 20) := fun h => by rw [hz]; exact nameP_push s c h
  have i0 : ¬ (97 : Int) ≤ (cn : Int) := by first | omega | (simp; omega) | (rw [beq_eq_false_iff_ne]; omega)
  have i1 : ¬ (48 : Int) ≤ (cn : Int) := by first | omega | (simp; omega) | (rw [beq_eq_false_iff_ne]; omega)
  have i2 : ((cn : Int) == 95) = false := by first | omega | (simp; omega) | (rw [beq_eq_false_iff_ne]; omega)
  by_cases h0 : s.size = 0
  · have j0 : ¬ (0 : Int) < (s.size : Int) := by omega
    have j1 : ((s.size : Int) == 0) = true := by rw [h0]; rfl
    have hF : nb = false := by rw [hnb, decide_eq_false_iff_not]; intro h; have := h.1; omega
    subst hF
    clear hpu hnb hnt hz hk hcn hmay HT
    go_enter Try.func7, Try.ntmps7
    go_wp2_with fail
    refine (alive21 _).mono ?_
    rintro e w1 ⟨rfl, b1⟩
    have HB1 := Lib.hid ((Bl.alloc _ _).trans b1)
    clear b1
    go_wp2_with fail
    refine (HN.out _).mono ?_
    rintro e w2 ⟨rfl, b2⟩
    have HB2 := Lib.hid (HB1.out.trans b2)
    clear b2 HB1
    go_wp2_with fail
    go_ret
    exact ⟨rfl, HB2.out⟩
  have j0 : (0 : Int) < (s.size : Int) := by omega
  have j1 : ((s.size : Int) == 0) = false := by rw [beq_eq_false_iff_ne]; omega
  have hpu := hpu (by omega)
  have hfirst : nb = true → 97 ≤ (s[0]).toNat ∧ (s[0]).toNat ≤ 122 := fun h => by
    obtain ⟨_, h⟩ := nameP_first (s := s) (of_decide_eq_true (by rw [← hnb]; exact h))
    exact h
  cases nb
  · have hT : nt = false := by
      rw [hnt, decide_eq_false_iff_not]
      intro h
      exact of_decide_eq_false hnb.symm (hpu.1 h).1
    subst hT
    clear hpu hnb hnt hz hk hcn hmay hfirst
    by_cases k1 : 97 ≤ (s[0]).toNat
    · have q1 : (97 : Int) ≤ ((s[0]).toNat : Int) := by omega
      by_cases k2 : (s[0]).toNat ≤ 122
      · have q2 : ((s[0]).toNat : Int) ≤ 122 := by omega
        go_enter Try.func7, Try.ntmps7
        go_wp2_with fail
        refine (alive21 _).mono ?_
        rintro e w1 ⟨rfl, b1⟩
        have HB1 := Lib.hid ((Bl.alloc _ _).trans b1)
        clear b1
        go_wp2_with fail
        refine (HN.out _).mono ?_
        rintro e w2 ⟨rfl, b2⟩
        have HB2 := Lib.hid (HB1.out.trans b2)
        clear b2 HB1
        go_wp2_with fail
        refine (HT.out _).mono ?_
        rintro e w3 ⟨rfl, b3⟩
        have HB3 := Lib.hid (HB2.out.trans b3)
        clear b3 HB2
        go_wp2_with fail
        refine (HN.out _).mono ?_
        rintro e w4 ⟨rfl, b4⟩
        have HB4 := Lib.hid (HB3.out.trans b4)
        clear b4 HB3
        go_wp2_with fail
        go_ret
        exact ⟨rfl, HB4.out⟩
      · have q2 : ¬ ((s[0]).toNat : Int) ≤ 122 := by omega
        go_enter Try.func7, Try.ntmps7
        go_wp2_with fail
        refine (alive21 _).mono ?_
        rintro e w1 ⟨rfl, b1⟩
        have HB1 := Lib.hid ((Bl.alloc _ _).trans b1)
        clear b1
        go_wp2_with fail
        refine (HN.out _).mono ?_
        rintro e w2 ⟨rfl, b2⟩
        have HB2 := Lib.hid (HB1.out.trans b2)
        clear b2 HB1
        go_wp2_with fail
        refine (HT.out _).mono ?_
        rintro e w3 ⟨rfl, b3⟩
        have HB3 := Lib.hid (HB2.out.trans b3)
        clear b3 HB2
        go_wp2_with fail
        refine (HN.out _).mono ?_
        rintro e w4 ⟨rfl, b4⟩
        have HB4 := Lib.hid (HB3.out.trans b4)
        clear b4 HB3
        go_wp2_with fail
        go_ret
        exact ⟨rfl, HB4.out⟩
    · have q1 : ¬ (97 : Int) ≤ ((s[0]).toNat : Int) := by omega
      go_enter Try.func7, Try.ntmps7
      go_wp2_with fail
      refine (alive21 _).mono ?_
      rintro e w1 ⟨rfl, b1⟩
      have HB1 := Lib.hid ((Bl.alloc _ _).trans b1)
      clear b1
      go_wp2_with fail
      refine (HN.out _).mono ?_
      rintro e w2 ⟨rfl, b2⟩
      have HB2 := Lib.hid (HB1.out.trans b2)
      clear b2 HB1
      go_wp2_with fail
      refine (HT.out _).mono ?_
      rintro e w3 ⟨rfl, b3⟩
      have HB3 := Lib.hid (HB2.out.trans b3)
      clear b3 HB2
      go_wp2_with fail
      refine (HN.out _).mono ?_
      rintro e w4 ⟨rfl, b4⟩
      have HB4 := Lib.hid (HB3.out.trans b4)
      clear b4 HB3
      go_wp2_with fail
      go_ret
      exact ⟨rfl, HB4.out⟩
  · have q1 : (97 : Int) ≤ ((s[0]).toNat : Int) := by have := hfirst rfl; omega
    have q2 : ((s[0]).toNat : Int) ≤ 122 := by have := hfirst rfl; omega
    have hP : NameP s := of_decide_eq_true hnb.symm
    have q3 : (s.size : Int) ≤ 20 := by have := hP.1; omega
    have hT : nt = false := by
      rw [hnt, decide_eq_false_iff_not]
      intro h
      exact hmay.1 (hpu.1 h).2.1
    subst hT
    clear hpu hnb hnt hz hk hcn hmay hfirst hP
    go_enter Try.func7, Try.ntmps7
    go_wp2_with fail
    refine (alive21 _).mono ?_
    rintro e w1 ⟨rfl, b1⟩
    have HB1 := Lib.hid ((Bl.alloc _ _).trans b1)
    clear b1
    go_wp2_with fail
    refine (HN.out _).mono ?_
    rintro e w2 ⟨rfl, b2⟩
    have HB2 := Lib.hid (HB1.out.trans b2)
    clear b2 HB1
    go_wp2_with fail
    refine (HT.out _).mono ?_
    rintro e w3 ⟨rfl, b3⟩
    have HB3 := Lib.hid (HB2.out.trans b3)
    clear b3 HB2
    go_wp2_with fail
    refine (HN.out _).mono ?_
    rintro e w4 ⟨rfl, b4⟩
    have HB4 := Lib.hid (HB3.out.trans b4)
    clear b4 HB3
    go_wp2_with fail
    go_ret
    exact ⟨rfl, HB4.out⟩

set_option maxRecDepth 100000 in
set_option maxHeartbeats 8000000 in
theorem confNames_B {w : World} (s : ByteArray) (hs : s.size ≤ 60) (c : UInt8) (cn : Nat) (hcn : c.toNat = cn) (hk : 58 ≤ cn ∧ cn ≤ 96 ∧ cn ≠ 95) (hc : cn < 256) :
    Calls Try.prog 7 #[.string s, .int .u8 cn] w fun e w' => e = .returned (.bool true) ∧ Bl w w' := by
  have hstr := fun n fr => str_one w c 5 n fr
  have hmay : okc 1 c ↔ False := iff_of_false (by unfold okc; omega) id
  rw [hcn] at hstr
  have hsz1 : (⟨#[c]⟩ : ByteArray).size = 1 := rfl
  have hpush : (s ++ ⟨#[c]⟩ : ByteArray).size = s.size + 1 := by rw [ByteArray.size_append]; rfl
  obtain ⟨z, hz⟩ : ∃ z : ByteArray, z = ⟨#[c]⟩ := ⟨_, rfl⟩
  rw [← hz] at hstr hsz1 hpush
  have hS60 : (s.size : Int) ≤ 60 := by omega
  obtain ⟨nb, hnb⟩ : ∃ nb, nb = decide (NameP s) := ⟨_, rfl⟩
  obtain ⟨nt, hnt⟩ : ∃ nt, nt = decide (NameP (s ++ z)) := ⟨_, rfl⟩
  have HN := Lib.hid (fun w' => isName_to s nb hnb w' (by omega))
  have HT := Lib.hid (fun w' => isName_to (s ++ z) nt hnt w' (by omega))
  have hpu : 0 < s.size → (NameP (s ++ z) ↔ NameP s ∧ okc 1 c ∧ s.size < 20) := fun h => by rw [hz]; exact nameP_push s c h
  have i0 : ¬ (97 : Int) ≤ (cn : Int) := by first | omega | (simp; omega) | (rw [beq_eq_false_iff_ne]; omega)
  have i1 : (48 : Int) ≤ (cn : Int) := by first | omega | (simp; omega) | (rw [beq_eq_false_iff_ne]; omega)
  have i2 : ¬ (cn : Int) ≤ 57 := by first | omega | (simp; omega) | (rw [beq_eq_false_iff_ne]; omega)
  have i3 : ((cn : Int) == 95) = false := by first | omega | (simp; omega) | (rw [beq_eq_false_iff_ne]; omega)
  by_cases h0 : s.size = 0
  · have j0 : ¬ (0 : Int) < (s.size : Int) := by omega
    have j1 : ((s.size : Int) == 0) = true := by rw [h0]; rfl
    have hF : nb = false := by rw [hnb, decide_eq_false_iff_not]; intro h; have := h.1; omega
    subst hF
    clear hpu hnb hnt hz hk hcn hmay HT
    go_enter Try.func7, Try.ntmps7
    go_wp2_with fail
    refine (alive21 _).mono ?_
    rintro e w1 ⟨rfl, b1⟩
    have HB1 := Lib.hid ((Bl.alloc _ _).trans b1)
    clear b1
    go_wp2_with fail
    refine (HN.out _).mono ?_
    rintro e w2 ⟨rfl, b2⟩
    have HB2 := Lib.hid (HB1.out.trans b2)
    clear b2 HB1
    go_wp2_with fail
    go_ret
    exact ⟨rfl, HB2.out⟩
  have j0 : (0 : Int) < (s.size : Int) := by omega
  have j1 : ((s.size : Int) == 0) = false := by rw [beq_eq_false_iff_ne]; omega
  have hpu := hpu (by omega)
  have hfirst : nb = true → 97 ≤ (s[0]).toNat ∧ (s[0]).toNat ≤ 122 := fun h => by
    obtain ⟨_, h⟩ := nameP_first (s := s) (of_decide_eq_true (by rw [← hnb]; exact h))
    exact h
  cases nb
  · have hT : nt = false := by
      rw [hnt, decide_eq_false_iff_not]
      intro h
      exact of_decide_eq_false hnb.symm (hpu.1 h).1
    subst hT
    clear hpu hnb hnt hz hk hcn hmay hfirst
    by_cases k1 : 97 ≤ (s[0]).toNat
    · have q1 : (97 : Int) ≤ ((s[0]).toNat : Int) := by omega
      by_cases k2 : (s[0]).toNat ≤ 122
      · have q2 : ((s[0]).toNat : Int) ≤ 122 := by omega
        go_enter Try.func7, Try.ntmps7
        go_wp2_with fail
        refine (alive21 _).mono ?_
        rintro e w1 ⟨rfl, b1⟩
        have HB1 := Lib.hid ((Bl.alloc _ _).trans b1)
        clear b1
        go_wp2_with fail
        refine (HN.out _).mono ?_
        rintro e w2 ⟨rfl, b2⟩
        have HB2 := Lib.hid (HB1.out.trans b2)
        clear b2 HB1
        go_wp2_with fail
        refine (HT.out _).mono ?_
        rintro e w3 ⟨rfl, b3⟩
        have HB3 := Lib.hid (HB2.out.trans b3)
        clear b3 HB2
        go_wp2_with fail
        refine (HN.out _).mono ?_
        rintro e w4 ⟨rfl, b4⟩
        have HB4 := Lib.hid (HB3.out.trans b4)
        clear b4 HB3
        go_wp2_with fail
        go_ret
        exact ⟨rfl, HB4.out⟩
      · have q2 : ¬ ((s[0]).toNat : Int) ≤ 122 := by omega
        go_enter Try.func7, Try.ntmps7
        go_wp2_with fail
        refine (alive21 _).mono ?_
        rintro e w1 ⟨rfl, b1⟩
        have HB1 := Lib.hid ((Bl.alloc _ _).trans b1)
        clear b1
        go_wp2_with fail
        refine (HN.out _).mono ?_
        rintro e w2 ⟨rfl, b2⟩
        have HB2 := Lib.hid (HB1.out.trans b2)
        clear b2 HB1
        go_wp2_with fail
        refine (HT.out _).mono ?_
        rintro e w3 ⟨rfl, b3⟩
        have HB3 := Lib.hid (HB2.out.trans b3)
        clear b3 HB2
        go_wp2_with fail
        refine (HN.out _).mono ?_
        rintro e w4 ⟨rfl, b4⟩
        have HB4 := Lib.hid (HB3.out.trans b4)
        clear b4 HB3
        go_wp2_with fail
        go_ret
        exact ⟨rfl, HB4.out⟩
    · have q1 : ¬ (97 : Int) ≤ ((s[0]).toNat : Int) := by omega
      go_enter Try.func7, Try.ntmps7
      go_wp2_with fail
      refine (alive21 _).mono ?_
      rintro e w1 ⟨rfl, b1⟩
      have HB1 := Lib.hid ((Bl.alloc _ _).trans b1)
      clear b1
      go_wp2_with fail
      refine (HN.out _).mono ?_
      rintro e w2 ⟨rfl, b2⟩
      have HB2 := Lib.hid (HB1.out.trans b2)
      clear b2 HB1
      go_wp2_with fail
      refine (HT.out _).mono ?_
      rintro e w3 ⟨rfl, b3⟩
      have HB3 := Lib.hid (HB2.out.trans b3)
      clear b3 HB2
      go_wp2_with fail
      refine (HN.out _).mono ?_
      rintro e w4 ⟨rfl, b4⟩
      have HB4 := Lib.hid (HB3.out.trans b4)
      clear b4 HB3
      go_wp2_with fail
      go_ret
      exact ⟨rfl, HB4.out⟩
  · have q1 : (97 : Int) ≤ ((s[0]).toNat : Int) := by have := hfirst rfl; omega
    have q2 : ((s[0]).toNat : Int) ≤ 122 := by have := hfirst rfl; omega
    have hP : NameP s := of_decide_eq_true hnb.symm
    have q3 : (s.size : Int) ≤ 20 := by have := hP.1; omega
    have hT : nt = false := by
      rw [hnt, decide_eq_false_iff_not]
      intro h
      exact hmay.1 (hpu.1 h).2.1
    subst hT
    clear hpu hnb hnt hz hk hcn hmay hfirst hP
    go_enter Try.func7, Try.ntmps7
    go_wp2_with fail
    refine (alive21 _).mono ?_
    rintro e w1 ⟨rfl, b1⟩
    have HB1 := Lib.hid ((Bl.alloc _ _).trans b1)
    clear b1
    go_wp2_with fail
    refine (HN.out _).mono ?_
    rintro e w2 ⟨rfl, b2⟩
    have HB2 := Lib.hid (HB1.out.trans b2)
    clear b2 HB1
    go_wp2_with fail
    refine (HT.out _).mono ?_
    rintro e w3 ⟨rfl, b3⟩
    have HB3 := Lib.hid (HB2.out.trans b3)
    clear b3 HB2
    go_wp2_with fail
    refine (HN.out _).mono ?_
    rintro e w4 ⟨rfl, b4⟩
    have HB4 := Lib.hid (HB3.out.trans b4)
    clear b4 HB3
    go_wp2_with fail
    go_ret
    exact ⟨rfl, HB4.out⟩

set_option maxRecDepth 100000 in
set_option maxHeartbeats 8000000 in
theorem confNames_E {w : World} (s : ByteArray) (hs : s.size ≤ 60) (c : UInt8) (cn : Nat) (hcn : c.toNat = cn) (hk : 123 ≤ cn) (hc : cn < 256) :
    Calls Try.prog 7 #[.string s, .int .u8 cn] w fun e w' => e = .returned (.bool true) ∧ Bl w w' := by
  have hstr := fun n fr => str_one w c 5 n fr
  have hmay : okc 1 c ↔ False := iff_of_false (by unfold okc; omega) id
  rw [hcn] at hstr
  have hsz1 : (⟨#[c]⟩ : ByteArray).size = 1 := rfl
  have hpush : (s ++ ⟨#[c]⟩ : ByteArray).size = s.size + 1 := by rw [ByteArray.size_append]; rfl
  obtain ⟨z, hz⟩ : ∃ z : ByteArray, z = ⟨#[c]⟩ := ⟨_, rfl⟩
  rw [← hz] at hstr hsz1 hpush
  have hS60 : (s.size : Int) ≤ 60 := by omega
  obtain ⟨nb, hnb⟩ : ∃ nb, nb = decide (NameP s) := ⟨_, rfl⟩
  obtain ⟨nt, hnt⟩ : ∃ nt, nt = decide (NameP (s ++ z)) := ⟨_, rfl⟩
  have HN := Lib.hid (fun w' => isName_to s nb hnb w' (by omega))
  have HT := Lib.hid (fun w' => isName_to (s ++ z) nt hnt w' (by omega))
  have hpu : 0 < s.size → (NameP (s ++ z) ↔ NameP s ∧ okc 1 c ∧ s.size < 20) := fun h => by rw [hz]; exact nameP_push s c h
  have i0 : (97 : Int) ≤ (cn : Int) := by first | omega | (simp; omega) | (rw [beq_eq_false_iff_ne]; omega)
  have i1 : ¬ (cn : Int) ≤ 122 := by first | omega | (simp; omega) | (rw [beq_eq_false_iff_ne]; omega)
  have i2 : (48 : Int) ≤ (cn : Int) := by first | omega | (simp; omega) | (rw [beq_eq_false_iff_ne]; omega)
  have i3 : ¬ (cn : Int) ≤ 57 := by first | omega | (simp; omega) | (rw [beq_eq_false_iff_ne]; omega)
  have i4 : ((cn : Int) == 95) = false := by first | omega | (simp; omega) | (rw [beq_eq_false_iff_ne]; omega)
  by_cases h0 : s.size = 0
  · have j0 : ¬ (0 : Int) < (s.size : Int) := by omega
    have j1 : ((s.size : Int) == 0) = true := by rw [h0]; rfl
    have hF : nb = false := by rw [hnb, decide_eq_false_iff_not]; intro h; have := h.1; omega
    subst hF
    clear hpu hnb hnt hz hk hcn hmay HT
    go_enter Try.func7, Try.ntmps7
    go_wp2_with fail
    refine (alive21 _).mono ?_
    rintro e w1 ⟨rfl, b1⟩
    have HB1 := Lib.hid ((Bl.alloc _ _).trans b1)
    clear b1
    go_wp2_with fail
    refine (HN.out _).mono ?_
    rintro e w2 ⟨rfl, b2⟩
    have HB2 := Lib.hid (HB1.out.trans b2)
    clear b2 HB1
    go_wp2_with fail
    go_ret
    exact ⟨rfl, HB2.out⟩
  have j0 : (0 : Int) < (s.size : Int) := by omega
  have j1 : ((s.size : Int) == 0) = false := by rw [beq_eq_false_iff_ne]; omega
  have hpu := hpu (by omega)
  have hfirst : nb = true → 97 ≤ (s[0]).toNat ∧ (s[0]).toNat ≤ 122 := fun h => by
    obtain ⟨_, h⟩ := nameP_first (s := s) (of_decide_eq_true (by rw [← hnb]; exact h))
    exact h
  cases nb
  · have hT : nt = false := by
      rw [hnt, decide_eq_false_iff_not]
      intro h
      exact of_decide_eq_false hnb.symm (hpu.1 h).1
    subst hT
    clear hpu hnb hnt hz hk hcn hmay hfirst
    by_cases k1 : 97 ≤ (s[0]).toNat
    · have q1 : (97 : Int) ≤ ((s[0]).toNat : Int) := by omega
      by_cases k2 : (s[0]).toNat ≤ 122
      · have q2 : ((s[0]).toNat : Int) ≤ 122 := by omega
        go_enter Try.func7, Try.ntmps7
        go_wp2_with fail
        refine (alive21 _).mono ?_
        rintro e w1 ⟨rfl, b1⟩
        have HB1 := Lib.hid ((Bl.alloc _ _).trans b1)
        clear b1
        go_wp2_with fail
        refine (HN.out _).mono ?_
        rintro e w2 ⟨rfl, b2⟩
        have HB2 := Lib.hid (HB1.out.trans b2)
        clear b2 HB1
        go_wp2_with fail
        refine (HT.out _).mono ?_
        rintro e w3 ⟨rfl, b3⟩
        have HB3 := Lib.hid (HB2.out.trans b3)
        clear b3 HB2
        go_wp2_with fail
        refine (HN.out _).mono ?_
        rintro e w4 ⟨rfl, b4⟩
        have HB4 := Lib.hid (HB3.out.trans b4)
        clear b4 HB3
        go_wp2_with fail
        go_ret
        exact ⟨rfl, HB4.out⟩
      · have q2 : ¬ ((s[0]).toNat : Int) ≤ 122 := by omega
        go_enter Try.func7, Try.ntmps7
        go_wp2_with fail
        refine (alive21 _).mono ?_
        rintro e w1 ⟨rfl, b1⟩
        have HB1 := Lib.hid ((Bl.alloc _ _).trans b1)
        clear b1
        go_wp2_with fail
        refine (HN.out _).mono ?_
        rintro e w2 ⟨rfl, b2⟩
        have HB2 := Lib.hid (HB1.out.trans b2)
        clear b2 HB1
        go_wp2_with fail
        refine (HT.out _).mono ?_
        rintro e w3 ⟨rfl, b3⟩
        have HB3 := Lib.hid (HB2.out.trans b3)
        clear b3 HB2
        go_wp2_with fail
        refine (HN.out _).mono ?_
        rintro e w4 ⟨rfl, b4⟩
        have HB4 := Lib.hid (HB3.out.trans b4)
        clear b4 HB3
        go_wp2_with fail
        go_ret
        exact ⟨rfl, HB4.out⟩
    · have q1 : ¬ (97 : Int) ≤ ((s[0]).toNat : Int) := by omega
      go_enter Try.func7, Try.ntmps7
      go_wp2_with fail
      refine (alive21 _).mono ?_
      rintro e w1 ⟨rfl, b1⟩
      have HB1 := Lib.hid ((Bl.alloc _ _).trans b1)
      clear b1
      go_wp2_with fail
      refine (HN.out _).mono ?_
      rintro e w2 ⟨rfl, b2⟩
      have HB2 := Lib.hid (HB1.out.trans b2)
      clear b2 HB1
      go_wp2_with fail
      refine (HT.out _).mono ?_
      rintro e w3 ⟨rfl, b3⟩
      have HB3 := Lib.hid (HB2.out.trans b3)
      clear b3 HB2
      go_wp2_with fail
      refine (HN.out _).mono ?_
      rintro e w4 ⟨rfl, b4⟩
      have HB4 := Lib.hid (HB3.out.trans b4)
      clear b4 HB3
      go_wp2_with fail
      go_ret
      exact ⟨rfl, HB4.out⟩
  · have q1 : (97 : Int) ≤ ((s[0]).toNat : Int) := by have := hfirst rfl; omega
    have q2 : ((s[0]).toNat : Int) ≤ 122 := by have := hfirst rfl; omega
    have hP : NameP s := of_decide_eq_true hnb.symm
    have q3 : (s.size : Int) ≤ 20 := by have := hP.1; omega
    have hT : nt = false := by
      rw [hnt, decide_eq_false_iff_not]
      intro h
      exact hmay.1 (hpu.1 h).2.1
    subst hT
    clear hpu hnb hnt hz hk hcn hmay hfirst hP
    go_enter Try.func7, Try.ntmps7
    go_wp2_with fail
    refine (alive21 _).mono ?_
    rintro e w1 ⟨rfl, b1⟩
    have HB1 := Lib.hid ((Bl.alloc _ _).trans b1)
    clear b1
    go_wp2_with fail
    refine (HN.out _).mono ?_
    rintro e w2 ⟨rfl, b2⟩
    have HB2 := Lib.hid (HB1.out.trans b2)
    clear b2 HB1
    go_wp2_with fail
    refine (HT.out _).mono ?_
    rintro e w3 ⟨rfl, b3⟩
    have HB3 := Lib.hid (HB2.out.trans b3)
    clear b3 HB2
    go_wp2_with fail
    refine (HN.out _).mono ?_
    rintro e w4 ⟨rfl, b4⟩
    have HB4 := Lib.hid (HB3.out.trans b4)
    clear b4 HB3
    go_wp2_with fail
    go_ret
    exact ⟨rfl, HB4.out⟩

set_option maxRecDepth 100000 in
set_option maxHeartbeats 8000000 in
theorem confNames_walk {w : World} (s : ByteArray) (hs : s.size ≤ 9223372036854775807) (c : UInt8) :
    Calls Try.prog 7 #[.string s, .int .u8 c.toNat] w fun e w' => e = .returned (.bool true) ∧ Bl w w' := by
  have hc : c.toNat < 256 := c.toNat_lt
  by_cases h60 : 60 < (s.size : Int)
  · go_enter Try.func7, Try.ntmps7
    go_wp2_with fail
    refine (alive21 _).mono ?_
    rintro e w2 ⟨rfl, b2⟩
    have HB2 := Lib.hid b2
    clear b2
    go_wp2
    go_ret
    exact ⟨rfl, HB2.out⟩
  have h60' : s.size ≤ 60 := by omega
  by_cases q1 : 97 ≤ c.toNat ∧ c.toNat ≤ 122
  · exact confNames_L s h60' c _ rfl q1 hc
  by_cases q2 : 48 ≤ c.toNat ∧ c.toNat ≤ 57
  · exact confNames_D s h60' c _ rfl q2 hc
  by_cases q3 : c.toNat = 95
  · exact confNames_U s h60' c _ rfl q3 hc
  by_cases q4 : c.toNat < 48
  · exact confNames_A s h60' c _ rfl q4 hc
  by_cases q5 : 123 ≤ c.toNat
  · exact confNames_E s h60' c _ rfl q5 hc
  exact confNames_B s h60' c _ rfl (by omega) hc
end Go.Proofs.Ytigicphmnlkjfaa
