/- The contract of ratchetref21.Check. (Printed by wip/gen_rcheck.py.) -/
import Derived.Test.YtigicphmnlkjfaaCheck
import Derived.Test.YtigicphmnlkjfaaRWrong
namespace Go.Proofs.Ytigicphmnlkjfaa
open Go.RowKit
set_option linter.unusedVariables false
set_option linter.unusedSimpArgs false

set_option maxRecDepth 100000 in
set_option maxHeartbeats 4000000 in
theorem rcheck_any {w : World} {A : Option Addr} {c : Nat} {x : ConfP} (h : CF w A c x) (hf : fewC x = true) :
    Calls Try.prog 11 #[x.v A c] w fun e w' => e = .returned (tripV (checkC x)) ∧ Bl w w' := by
  obtain ⟨t, ht⟩ : ∃ t, t = checkC x := ⟨_, rfl⟩
  rw [← ht]
  have HT := Lib.hid ht
  have HX := Lib.hid h
  have HF := Lib.hid hf
  have hl10 : x.groups.length ≤ 10 := by
    have := hf
    simp only [fewC, decide_eq_true_eq] at this
    exact this.1
  obtain ⟨cv, hcv⟩ : ∃ cv, cv = x.cs A c := ⟨_, rfl⟩
  have hcl : cv.length = 11 := by rw [hcv]; rfl
  have HV : Hid (x.v A c = .agg cv.toArray) := Lib.hid (by rw [hcv]; rfl)
  rw [HV.out]
  have hk := Blk.new w 27 cv.toArray
  have HK := Lib.hid hk
  have hb := Bl.alloc w (.cells cv.toArray 27)
  have HB := Lib.hid hb
  have n0 : cv[0]? = some (.int .i64 x.f) := by rw [hcv]; rfl
  have n1 : cv[1]? = some (.int .i64 x.clip) := by rw [hcv]; rfl
  have n10 : cv[10]? = some (.slice A x.groups.length c) := by rw [hcv]; rfl
  have c0 := hk.cell 0; have c1 := hk.cell 1
  rw [List.getElem?_toArray] at c0 c1
  rw [n0] at c0
  rw [n1] at c1
  have N0 := Lib.hid n0; have N10 := Lib.hid n10
  have hr2 : ∀ (j : Nat) (v : Value), (x.k0.cs ++ x.k1.cs)[j]? = some v → cv[2 + j]? = some v := fun j v hv => by
    have hj : j < 8 := (List.getElem?_eq_some_iff.1 hv).1
    rw [hcv, ConfP.cs, show 2 + j = j + 1 + 1 by omega, List.getElem?_cons_succ, List.getElem?_cons_succ, ← List.append_assoc, List.getElem?_append_left (by show j < 8; exact hj)]
    exact hv
  have HR2 : Hid ((w.alloc (.cells cv.toArray 27)).rangeAt w.heap.size 2 (x.k0.cs ++ x.k1.cs)) := Lib.hid fun j v hv => by
    rw [hk.cell, List.getElem?_toArray]; exact hr2 j v hv
  have HCV := Lib.hid hcv
  have HCL := Lib.hid hcl
  clear hcv ht h hf hk hb n0 n1 n10 hr2 hcl
  obtain ⟨f, clip, K0, K1, gs⟩ := x
  simp only at hl10 c0 c1 N0 N10 HR2
  have hk0r : (w.alloc (.cells cv.toArray 27)).rangeAt w.heap.size 2 K0.cs := fun j v hv => HR2.out j v (by rw [List.getElem?_append_left (List.getElem?_eq_some_iff.1 hv).1]; exact hv)
  have hk1r : (w.alloc (.cells cv.toArray 27)).rangeAt w.heap.size 6 K1.cs := fun j v hv => by
    have := HR2.out (4 + j) v (by rw [List.getElem?_append_right (by show 4 ≤ 4 + j; omega), show 4 + j - K0.cs.length = j from by show 4 + j - 4 = j; omega]; exact hv)
    rwa [show 2 + (4 + j) = 6 + j by omega] at this
  have HK0 := Lib.hid hk0r; have HK1 := Lib.hid hk1r
  clear hk0r hk1r
  go_enter Try.func11, Try.ntmps11
  by_cases q1 : 0 ≤ f ∧ f ≤ 40
  rotate_left
  · have HO : Hid (t = (1, 0, 1)) := Lib.hid (by rw [HT.out, checkC, if_pos q1])
    by_cases q0 : f < 0
    · go_wp2
      go_ret3
      exact ⟨trip_ret HO.out, HB.out⟩
    · have q2 : 40 < f := by omega
      go_wp2
      go_ret3
      exact ⟨trip_ret HO.out, HB.out⟩
  have i1 : ¬ f < 0 := by omega
  have i2 : ¬ 40 < f := by omega
  by_cases q2 : clip < 0
  · have HO : Hid (t = (2, 0, 1)) := Lib.hid (by rw [HT.out, checkC, if_neg (by simpa using q1), if_pos q2])
    go_wp2
    go_ret3
    exact ⟨trip_ret HO.out, HB.out⟩
  have HT2 : Hid (t = if keepB K0 true = false then (3, 0, 1)
      else if keepB K1 false = false then (3, 1, 1)
      else if ¬ (1 ≤ gs.length ∧ gs.length ≤ 8) then (4, 0, 1)
      else if 0 ≤ oddF f 0 gs then (5, oddF f 0 gs, 1)
      else if 0 ≤ badP (flatP gs) then (6, badP (flatP gs), 1)
      else (0, 0, 0)) := Lib.hid (by rw [HT.out, checkC, if_neg (by simpa using q1), if_neg q2])
  clear HT q1
  have HT3 : Hid (keepB K0 true = true → keepB K1 false = true → t = if ¬ (1 ≤ gs.length ∧ gs.length ≤ 8) then (4, 0, 1)
      else if 0 ≤ oddF f 0 gs then (5, oddF f 0 gs, 1)
      else if 0 ≤ badP (flatP gs) then (6, badP (flatP gs), 1)
      else (0, 0, 0)) := Lib.hid fun h0 h1 => by rw [HT2.out, if_neg (by rw [h0]; simp), if_neg (by rw [h1]; simp)]
  have HE0 : Hid (keepB K0 true = false → t = (3, 0, 1)) := Lib.hid fun h0 => by rw [HT2.out, if_pos h0]
  have HE1 : Hid (keepB K0 true = true → keepB K1 false = false → t = (3, 1, 1)) := Lib.hid fun h0 h1 => by rw [HT2.out, if_neg (by rw [h0]; simp), if_pos h1]
  clear HT2 HR2
  go_wp2
  clear c0 c1 i1 i2 q2
  go_loopw [5] (fun i wr => ∃ k : Nat, k ≤ 2 ∧ i = .int .i64 k ∧ Hid (1 ≤ k → keepB K0 true = true) ∧ Hid (2 ≤ k → keepB K1 false = true) ∧ Hid (Blk wr w.heap.size 27 cv.toArray) ∧ Hid (wr.rangeAt w.heap.size 2 K0.cs) ∧ Hid (wr.rangeAt w.heap.size 6 K1.cs) ∧ Hid (Bl w wr)) (fun i _ => 2 - (intOf i).toNat)
  case atStart => exact ⟨0, Nat.zero_le _, rfl, Lib.hid (fun h => absurd h (by omega)), Lib.hid (fun h => absurd h (by omega)), HK, HK0, HK1, HB⟩
  case round =>
    clear HK HB HK0 HK1
    obtain ⟨k, hk, rfl, HP0, HP1, HK, HK0, HK1, HB⟩ := hrel
    have hk3 : k = 0 ∨ k = 1 ∨ k = 2 := by omega
    rcases hk3 with rfl | rfl | rfl
    · go_wp2_with (first
        | (refine wpList_load_mid rfl 23 (.tmp 26) rfl w.heap.size 2 rfl (K0.cs) _ HK0.out Try.underlying23 rfl k_size ?_)
        | fail)
      by_cases m1 : mayB K0 = true
      rotate_left
      · have m1' : mayB K0 = false := by simpa using m1
        have HF1 : Hid (t = (3, 0, 1)) := Lib.hid (HE0.out (by rw [keepB, m1']; rfl))
        refine (rmay_to K0.kind K0.size K0.small K0.out false m1'.symm _).mono ?_
        rintro e w2 ⟨rfl, b2⟩
        have HB2 := Lib.hid (HB.out.trans b2)
        clear b2
        go_wp2
        go_ret3
        exact ⟨trip_ret HF1.out, HB2.out⟩
      refine (rmay_to K0.kind K0.size K0.small K0.out true m1.symm _).mono ?_
      rintro e w2 ⟨rfl, b2⟩
      have HB2 := Lib.hid (HB.out.trans b2)
      have HKK := Lib.hid (HK.out.below b2 HK.out.lt)
      have HL0 := Lib.hid (rangeAt_step HK0.out HK.out.lt b2)
      have HL1 := Lib.hid (rangeAt_step HK1.out HK.out.lt b2)
      have c0 := HL0.out 0 (.int .i64 K0.kind) rfl
      simp only [Nat.add_zero] at c0
      clear b2 HK HB HK0 HK1
      by_cases s1 : signB K0.kind = true
      · have HG1 := Lib.hid (show keepB K0 true = true by rw [keepB, m1, s1]; rfl)
        clear m1
        go_wp2_with fail
        refine (rsigned_to K0.kind true (by rw [← s1]; rfl) _).mono ?_
        rintro e w3 ⟨rfl, rfl⟩
        go_wp2
        go_roundw
        case rel => exact ⟨1, by omega, by go_num, Lib.hid (fun _ => HG1.out), Lib.hid (fun h => absurd h (by omega)), HKK, HL0, HL1, HB2⟩
        case measure => simp [intOf]
      have s2 : signB K0.kind = false := by simpa using s1
      clear s1
      · have HF1 : Hid (t = (3, 0, 1)) := Lib.hid (HE0.out (by rw [keepB, m1, s2]; rfl))
        clear m1
        go_wp2_with fail
        refine (rsigned_to K0.kind false (by rw [← s2]; rfl) _).mono ?_
        rintro e w3 ⟨rfl, rfl⟩
        go_wp2
        go_ret3
        exact ⟨trip_ret HF1.out, HB2.out⟩
    · go_wp2_with (first
        | (refine wpList_load_mid rfl 23 (.tmp 26) rfl w.heap.size 6 rfl (K1.cs) _ HK1.out Try.underlying23 rfl k_size ?_)
        | fail)
      by_cases m1 : mayB K1 = true
      rotate_left
      · have m1' : mayB K1 = false := by simpa using m1
        have HF1 : Hid (t = (3, 1, 1)) := Lib.hid (HE1.out (HP0.out (by omega)) (by rw [keepB, m1']; rfl))
        refine (rmay_to K1.kind K1.size K1.small K1.out false m1'.symm _).mono ?_
        rintro e w2 ⟨rfl, b2⟩
        have HB2 := Lib.hid (HB.out.trans b2)
        clear b2
        go_wp2
        go_ret3
        exact ⟨trip_ret HF1.out, HB2.out⟩
      refine (rmay_to K1.kind K1.size K1.small K1.out true m1.symm _).mono ?_
      rintro e w2 ⟨rfl, b2⟩
      have HB2 := Lib.hid (HB.out.trans b2)
      have HKK := Lib.hid (HK.out.below b2 HK.out.lt)
      have HL0 := Lib.hid (rangeAt_step HK0.out HK.out.lt b2)
      have HL1 := Lib.hid (rangeAt_step HK1.out HK.out.lt b2)
      have c0 := HL1.out 0 (.int .i64 K1.kind) rfl
      simp only [Nat.add_zero] at c0
      clear b2 HK HB HK0 HK1
      by_cases s1 : signB K1.kind = true
      · have HF1 : Hid (t = (3, 1, 1)) := Lib.hid (HE1.out (HP0.out (by omega)) (by rw [keepB, m1, s1]; rfl))
        clear m1
        go_wp2_with fail
        refine (rsigned_to K1.kind true (by rw [← s1]; rfl) _).mono ?_
        rintro e w3 ⟨rfl, rfl⟩
        go_wp2
        go_ret3
        exact ⟨trip_ret HF1.out, HB2.out⟩
      have s2 : signB K1.kind = false := by simpa using s1
      clear s1
      · have HG1 := Lib.hid (show keepB K1 false = true by rw [keepB, m1, s2]; rfl)
        clear m1
        go_wp2_with fail
        refine (rsigned_to K1.kind false (by rw [← s2]; rfl) _).mono ?_
        rintro e w3 ⟨rfl, rfl⟩
        go_wp2
        go_roundw
        case rel => exact ⟨2, by omega, by go_num, Lib.hid (fun _ => HP0.out (by omega)), Lib.hid (fun _ => HG1.out), HKK, HL0, HL1, HB2⟩
        case measure => simp [intOf]
    · have HT4 := Lib.hid (HT3.out (HP0.out (by omega)) (HP1.out (by omega)))
      have d10 := HK.out.cell 10; have d0 := HK.out.cell 0
      rw [List.getElem?_toArray] at d10 d0
      rw [N10.out] at d10
      rw [N0.out] at d0
      clear HT3 HE0 HE1 HP0 HP1 HK0 HK1
      by_cases q4 : 1 ≤ gs.length ∧ gs.length ≤ 8
      rotate_left
      · have HO : Hid (t = (4, 0, 1)) := Lib.hid (by rw [HT4.out, if_pos q4])
        by_cases q5 : (gs.length : Int) < 1
        · go_wp2
          go_ret3
          exact ⟨trip_ret HO.out, HB.out⟩
        · have q6 : 8 < (gs.length : Int) := by omega
          go_wp2
          go_ret3
          exact ⟨trip_ret HO.out, HB.out⟩
      obtain ⟨r, hr⟩ : ∃ r, r = oddF f 0 gs := ⟨_, rfl⟩
      have HT5 : Hid (t = if 0 ≤ r then (5, r, 1)
        else if 0 ≤ badP (flatP gs) then (6, badP (flatP gs), 1)
        else (0, 0, 0)) := Lib.hid (by rw [HT4.out, if_neg (by omega), hr])
      have HR : Hid (r = oddF f 0 (gs.drop 0)) := Lib.hid hr
      have q5 : ¬ (gs.length : Int) < 1 := by omega
      have q6 : ¬ 8 < (gs.length : Int) := by omega
      clear HT4 hr q4
      go_wp2
      clear d10 d0 q5 q6
      go_loopw [6] (fun i wr => ∃ k : Nat, k ≤ gs.length ∧ i = .int .i64 k ∧ Hid (r = oddF f k (gs.drop k)) ∧ Hid (Blk wr w.heap.size 27 cv.toArray) ∧ Hid (Bl w wr)) (fun i _ => gs.length - (intOf i).toNat)
      case atStart => exact ⟨0, Nat.zero_le _, rfl, HR, HK, HB⟩
      case round =>
        clear HK HB HR
        obtain ⟨k, hk, rfl, HR, HK, HB⟩ := hrel
        have d10 := HK.out.cell 10; have d0 := HK.out.cell 0
        rw [List.getElem?_toArray] at d10 d0
        rw [N10.out] at d10
        rw [N0.out] at d0
        have hsl := HK.out.lt
        have hsn : w.heap.size ≠ wr.heap.size := by omega
        by_cases hlt : k < gs.length
        · obtain ⟨g, o, P, d, rfl, hs, hc, hp, hcap⟩ := (show Groups wr A gs from HX.out.gs.step HB.out).at_ hlt
          have HR2 : Hid (r = oddF f k (gs[k] :: gs.drop (k + 1))) := Lib.hid (by rw [HR.out, ← List.drop_eq_getElem_cons hlt])
          obtain ⟨x, hx⟩ : ∃ x, x = gs[k] := ⟨_, rfl⟩
          rw [← hx] at hc HR2
          have h10 : x.params.length ≤ 10 := by
            have := HF.out
            simp only [fewC, decide_eq_true_eq] at this
            rw [hx]; exact few_params this.2 hlt
          obtain ⟨us, hus⟩ : ∃ us, us = x.cs P d := ⟨_, rfl⟩
          obtain ⟨os, hos⟩ : ∃ os, os = x.opt.cs := ⟨_, rfl⟩
          obtain ⟨ss, hss⟩ : ∃ ss, ss = x.sched.cs := ⟨_, rfl⟩
          have hol : os.length = 14 := by rw [hos]; rfl
          have hsl' : ss.length = 8 := by rw [hss]; rfl
          have hlen : us.length = 23 := by rw [hus]; rfl
          have h22 : us[22]? = some (.slice P x.params.length d) := by rw [hus]; rfl
          have hone : us.toArray.all (·.oneCell') = true := by rw [hus]; exact GroupP.cs_one _ _ _
          rw [← hus] at hc
          obtain ⟨hk1, hb1⟩ := grp_copied wr us
          have hr := hk1.rangeL
          have ho := hr; rw [hus] at ho
          have hs' := range_sched ho
          replace ho := range_opt ho
          rw [← hus, ← hos] at ho
          rw [← hus, ← hss] at hs'
          have HO1 := Lib.hid ho
          have HS1 := Lib.hid hs'
          have HRg := Lib.hid hc
          have HK1 := Lib.hid hk1
          have HB2 := Lib.hid (HB.out.trans hb1)
          have HKc := Lib.hid (HK.out.below hb1 HK.out.lt)
          have e0 : ((wr.alloc (.cells zg.toArray 54)).setRow wr.heap.size us.toArray).cell? ⟨w.heap.size, 0, none⟩ = some (.int .i64 f) := by
            rw [HKc.out.cell 0, List.getElem?_toArray, N0.out]
          have HZ := Lib.hid (Blk.new wr 54 zg.toArray)
          have hz := zero_g
          have HL := Lib.hid hlen; have HO := Lib.hid hone; have HOL := Lib.hid hol; have HSL := Lib.hid hsl'
          have H22 := Lib.hid h22
          have HOS := Lib.hid hos; have HSS := Lib.hid hss
          clear hp hk1 hb1 hc hus hlen hone hol hsl' hos hss ho hs' hr h22 HR HK HB hx hcap
          by_cases q1 : optB x.opt f = true
          rotate_left
          · have q1' : optB x.opt f = false := by simpa using q1
            have HF1 : Hid (r = k) := Lib.hid (by rw [HR2.out]; exact oddF_bad (by rw [groupB, q1']; rfl) _ _)
            have HO2 : Hid (t = (5, (k : Int), 1)) := Lib.hid (by rw [HT5.out, HF1.out, if_pos (by omega)])
            have H1 := Lib.hid (fun w => ropt_to x.opt f false q1'.symm w)
            rw [← HOS.out] at H1
            clear q1 q1'
            go_wp2_with (first
            | (refine wpList_load_mid rfl 54 (.tmp 62) rfl g (o + k * 23) rfl us _ HRg.out Try.underlying54 rfl (by rw [HL.out]; exact g_size) ?_)
            | (refine wpList_store_row rfl 54 (.tmp 7) (.tmp 63) rfl wr.heap.size us.toArray rfl rfl 54 zg.toArray HZ.out (by simpa [HL.out] using g_size) (by simp [HL.out, zg]) HO.out ?_)
            | (refine wpList_load_mid rfl 49 (.tmp 64) rfl wr.heap.size 0 rfl os _ HO1.out Try.underlying49 rfl (by rw [HOL.out]; exact o_size) ?_)
            | fail)
            refine (H1.out _).mono ?_
            rintro e w2 ⟨rfl, b2⟩
            have HB3 := Lib.hid (HB2.out.trans b2)
            clear b2 d10 d0 e0
            go_wp2
            go_ret3
            exact ⟨trip_ret HO2.out, HB3.out⟩
          have H1 := Lib.hid (fun w => ropt_to x.opt f true q1.symm w)
          rw [← HOS.out] at H1
          go_wp2_with (first
            | (refine wpList_load_mid rfl 54 (.tmp 62) rfl g (o + k * 23) rfl us _ HRg.out Try.underlying54 rfl (by rw [HL.out]; exact g_size) ?_)
            | (refine wpList_store_row rfl 54 (.tmp 7) (.tmp 63) rfl wr.heap.size us.toArray rfl rfl 54 zg.toArray HZ.out (by simpa [HL.out] using g_size) (by simp [HL.out, zg]) HO.out ?_)
            | (refine wpList_load_mid rfl 49 (.tmp 64) rfl wr.heap.size 0 rfl os _ HO1.out Try.underlying49 rfl (by rw [HOL.out]; exact o_size) ?_)
            | fail)
          refine (H1.out _).mono ?_
          rintro e w2 ⟨rfl, b2⟩
          have HB3 := Lib.hid (HB2.out.trans b2)
          have HS2 := Lib.hid (rangeAt_step HS1.out HK1.out.lt b2)
          have HK2 := Lib.hid (HK1.out.below b2 HK1.out.lt)
          have HKc2 := Lib.hid (HKc.out.below b2 HKc.out.lt)
          have f0 := HKc2.out.cell 0
          rw [List.getElem?_toArray, N0.out] at f0
          have f22 := HK2.out.cell 22
          rw [List.getElem?_toArray, H22.out] at f22
          clear b2 d10 d0 e0 HO1 HS1 HK1 HKc HRg HZ hz H1 HB2
          by_cases q2 : schedB x.sched f = true
          rotate_left
          · have q2' : schedB x.sched f = false := by simpa using q2
            have HF1 : Hid (r = k) := Lib.hid (by rw [HR2.out]; exact oddF_bad (by rw [groupB, q1, q2']; rfl) _ _)
            have HO2 : Hid (t = (5, (k : Int), 1)) := Lib.hid (by rw [HT5.out, HF1.out, if_pos (by omega)])
            have H2 := Lib.hid (fun w => rsched_to x.sched f false q2'.symm w)
            rw [← HSS.out] at H2
            clear q1 q2 q2'
            go_wp2_with (first
            | (refine wpList_load_midg (by rfl) 51 (.tmp 71) rfl wr.heap.size (0 + 14) rfl ss _ HS2.out Try.underlying51 rfl (by rw [HSL.out]; exact s_size) ?_)
            | fail)
            refine (H2.out _).mono ?_
            rintro e w3 ⟨rfl, b3⟩
            have HB4 := Lib.hid (HB3.out.trans b3)
            clear b3 f0 f22
            go_wp2
            go_ret3
            exact ⟨trip_ret HO2.out, HB4.out⟩
          have H2 := Lib.hid (fun w => rsched_to x.sched f true q2.symm w)
          rw [← HSS.out] at H2
          have HQ := Lib.hid (And.intro q1 q2)
          clear q1 q2
          go_wp2_with (first
            | (refine wpList_load_midg (by rfl) 51 (.tmp 71) rfl wr.heap.size (0 + 14) rfl ss _ HS2.out Try.underlying51 rfl (by rw [HSL.out]; exact s_size) ?_)
            | fail)
          refine (H2.out _).mono ?_
          rintro e w3 ⟨rfl, b3⟩
          have HB4 := Lib.hid (HB3.out.trans b3)
          have HK4 := Lib.hid (HKc2.out.below b3 HKc2.out.lt)
          have g22 := (Bl.cell b3 (p := ⟨wr.heap.size, 22, none⟩) HK2.out.lt).trans f22
          clear b3 f0 f22 HS2 HK2 HKc2 H2
          by_cases q3 : 1 ≤ x.params.length ∧ x.params.length ≤ 8
          rotate_left
          · have HF1 : Hid (r = k) := Lib.hid (by rw [HR2.out]; exact oddF_bad (by rw [groupB, HQ.out.1, HQ.out.2, decide_eq_false q3]; rfl) _ _)
            have HO2 : Hid (t = (5, (k : Int), 1)) := Lib.hid (by rw [HT5.out, HF1.out, if_pos (by omega)])
            by_cases q5 : (x.params.length : Int) < 1
            · go_wp2
              go_ret3
              exact ⟨trip_ret HO2.out, HB4.out⟩
            · have q6 : 8 < (x.params.length : Int) := by omega
              go_wp2
              go_ret3
              exact ⟨trip_ret HO2.out, HB4.out⟩
          have HR5 : Hid (r = oddF f (k + 1) (gs.drop (k + 1))) := Lib.hid (by rw [HR2.out]; exact oddF_good (by rw [groupB, HQ.out.1, HQ.out.2, decide_eq_true q3]; rfl) _ _)
          have q5 : ¬ (x.params.length : Int) < 1 := by omega
          have q6 : ¬ 8 < (x.params.length : Int) := by omega
          clear HR2 HQ q3
          go_wp2
          go_roundw
          case rel => exact ⟨k + 1, by omega, by go_num, HR5, HK4, HB4⟩
          case measure => simp [intOf]; omega
        · have HR2 : Hid (r = -1) := Lib.hid (by rw [HR.out, List.drop_eq_nil_of_le (by omega)]; rfl)
          have HT6 : Hid (t = if 0 ≤ badP (flatP gs) then (6, badP (flatP gs), 1) else (0, 0, 0)) := Lib.hid (by rw [HT5.out, HR2.out, if_neg (by omega)])
          have HRg := Lib.hid HK.out.rangeL
          have HW := rParams_any (HX.out.step HB.out) HF.out
          rw [HV.out] at HW
          simp only at HW
          have HWW := Lib.hid HW
          have hfl : (flatP gs).length ≤ 1000 := by
            have := HF.out
            simp only [fewC, decide_eq_true_eq] at this
            have h2 := flatP_le this.2 gs.length
            rw [List.take_of_length_le (Nat.le_refl _)] at h2
            omega
          have hfo : ∀ p ∈ flatP gs, p.ok := fun p hp => by
            obtain ⟨g, hg, hp⟩ := List.mem_flatMap.1 hp
            exact (HX.out.ok.2.2.2.2.1 g hg).2.2.1 p hp
          have HFO := Lib.hid hfo
          clear HR HT5 HW hfo
          go_wp2_with (first
            | (refine wpList_load_mid rfl 27 (.tmp 1) rfl w.heap.size 0 rfl cv _ HRg.out Try.underlying27 rfl (by rw [HCL.out]; exact c_size) ?_)
            | fail)
          refine HWW.out.mono ?_
          rintro e w5 ⟨A5, c5, rfl, hp5, b5⟩
          have HB5 := Lib.hid (HB.out.trans b5)
          have HPP := Lib.hid (rparams_any (c := c5) hp5 HFO.out hfl)
          clear b5 HWW hp5 d10 d0
          go_wp2_with fail
          refine HPP.out.mono ?_
          rintro e w6 ⟨rfl, b6⟩
          have HB6 := Lib.hid (HB5.out.trans b6)
          clear b6 HPP
          generalize badP (flatP gs) = s at HT6
          by_cases q6 : 0 ≤ s
          · have HO : Hid (t = (6, s, 1)) := Lib.hid (by rw [HT6.out, if_pos q6])
            go_wp2
            go_ret3
            exact ⟨trip_ret HO.out, HB6.out⟩
          have HO : Hid (t = (0, 0, 0)) := Lib.hid (by rw [HT6.out, if_neg q6])
          clear HT6
          go_wp2
          go_ret3
          exact ⟨trip_ret HO.out, HB6.out⟩
end Go.Proofs.Ytigicphmnlkjfaa
