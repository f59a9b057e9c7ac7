/- The walk of ConfLess. (Printed by wip/gen_less.py.) -/
import Derived.Test.YtigicphmnlkjfaaAlive21
import Derived.Test.YtigicphmnlkjfaaFew21
import Derived.Test.YtigicphmnlkjfaaLessMore
namespace Go.Proofs.Ytigicphmnlkjfaa
open Go.RowKit
set_option linter.unusedVariables false
set_option linter.unusedSimpArgs false

set_option maxRecDepth 100000 in
set_option maxHeartbeats 8000000 in
theorem confLess_walk {w : World} {A : Option Addr} {c : Nat} {x : ConfP} (h : CF w A c x) :
    Calls Try.prog 6 #[x.v A c] w fun e w' => e = .returned (.bool true) ∧ Bl w w' := by
  have H0 := Lib.hid h
  obtain ⟨cv, hcv⟩ : ∃ cv, cv = x.cs A c := ⟨_, rfl⟩
  have HCV := Lib.hid hcv
  have HV : Hid (x.v A c = .agg cv.toArray) := Lib.hid (by rw [hcv]; rfl)
  have HCL : Hid (cv.length = 11) := Lib.hid (by rw [hcv]; rfl)
  have HO1 : Hid (cv.toArray.all (·.oneCell') = true) := Lib.hid (by rw [hcv]; simp [ConfP.cs, KeepP.cs, Value.oneCell'])
  obtain ⟨n, hn⟩ : ∃ n, n = x.groups.length := ⟨_, rfl⟩
  have H10 : Hid (cv[10]? = some (.slice A n c)) := Lib.hid (by rw [hcv, hn]; rfl)
  have HN := Lib.hid hn
  have HB := Lib.hid (Bl.alloc w (.cells cv.toArray 27))
  have HK1 := Lib.hid (Blk.new w 27 cv.toArray)
  obtain ⟨n1, hn1⟩ : ∃ n1, n1 = w.heap.size := ⟨_, rfl⟩
  have hfew := few_any (h.step HB.out)
  rw [HV.out] at hfew ⊢
  have HFew := Lib.hid hfew
  clear hcv hn h hfew
  go_enter Try.func6, Try.ntmps6
  go_wp2_with (first
    | ((with_reducible refine at_load 27 (.tmp 1) ?_); refine wpList_load_mid rfl 27 (.tmp 1) rfl w.heap.size 0 rfl cv _ HK1.out.rangeL Try.underlying27 rfl (by rw [HCL.out]; exact c_size) ?_; try simp only [Act.put, List.setIfInBounds_toArray, List.set_cons_zero, List.set_cons_succ])
    | fail)
  refine HFew.out.mono ?_
  rintro e w1 ⟨rfl, b1⟩
  have HB1 := Lib.hid (HB.out.trans b1)
  have HK1a := Lib.hid (HK1.out.below b1 HK1.out.lt)
  clear b1 HFew HB HK1
  by_cases q : fewC x = true
  rotate_left
  · have q' : fewC x = false := by simpa using q
    rw [q']
    go_wp2_with fail
    refine (alive21 _).mono ?_
    rintro e w2 ⟨rfl, b2⟩
    have HB2 := Lib.hid (HB1.out.trans b2)
    clear b2
    go_wp2_with fail
    go_ret
    exact ⟨rfl, HB2.out⟩
  rw [q]
  obtain ⟨p, a, e, ht⟩ : ∃ p a e, checkC x = (p, a, e) := ⟨_, _, _, rfl⟩
  have h1 := check_trip (H0.out.step HB1.out) q p a e ht
  rw [HV.out] at h1
  have H1 := Lib.hid h1
  clear h1
  go_wp2_with (first
    | ((with_reducible refine at_load 27 (.tmp 1) ?_); refine wpList_load_mid rfl 27 (.tmp 1) rfl w.heap.size 0 rfl cv _ HK1a.out.rangeL Try.underlying27 rfl (by rw [HCL.out]; exact c_size) ?_; try simp only [Act.put, List.setIfInBounds_toArray, List.set_cons_zero, List.set_cons_succ])
    | fail)
  refine H1.out.mono ?_
  rintro e2 w2 ⟨rfl, b2⟩
  have HB2 := Lib.hid (HB1.out.trans b2)
  have HK1b := Lib.hid (HK1a.out.below b2 HK1a.out.lt)
  clear b2 HB1 HK1a H1
  by_cases he : e = 0
  rotate_left
  · obtain rfl : e = 1 := by have := check_one (x := x) (by rw [ht]; exact he); rw [ht] at this; exact this
    clear ht he
    go_wp2_with fail
    refine (alive21 _).mono ?_
    rintro e w3 ⟨rfl, b3⟩
    have HB3 := Lib.hid (HB2.out.trans b3)
    clear b3
    go_wp2_with fail
    go_ret
    exact ⟨rfl, HB3.out⟩
  subst he
  have hfine : Fine x := check_zero (by rw [ht])
  have HFI := Lib.hid hfine
  obtain ⟨m, hm⟩ : ∃ m, x.groups.length = m + 1 := ⟨x.groups.length - 1, by have := hfine.2.2.2.2.1; omega⟩
  have HM := Lib.hid hm
  have hnm : n = m + 1 := by rw [HN.out, hm]
  have hm8 : m ≤ 7 := by have := hfine.2.2.2.2.1; omega
  obtain ⟨ga, oa, hA, hga, hgr⟩ := H0.out.gs (by omega)
  subst hA
  obtain ⟨g, hg⟩ : ∃ g, x.groups[m]? = some g := ⟨x.groups[m]'(by omega), List.getElem?_eq_getElem (by omega)⟩
  obtain ⟨hgl, hge⟩ := List.getElem?_eq_some_iff.1 hg
  obtain ⟨P, cp, hgu, hgp, hgc⟩ := hgr m hgl
  rw [hge] at hgu hgp hgc
  have hgmem : g ∈ x.groups := List.mem_of_getElem? hg
  have hgB := hfine.2.2.2.2.2.1 g hgmem
  simp only [groupB, Bool.and_eq_true, decide_eq_true_eq] at hgB
  obtain ⟨k, hk⟩ : ∃ k, k = g.params.length := ⟨_, rfl⟩
  obtain ⟨r, hr⟩ : ∃ r, g.params.length = r + 1 := ⟨g.params.length - 1, by omega⟩
  have hkr : k = r + 1 := by omega
  have hr7 : r ≤ 7 := by omega
  obtain ⟨gp, op, hP, hgpB, hpr⟩ := hgp (by omega)
  subst hP
  have hokx := H0.out.ok
  have hokg : g.ok := hokx.2.2.2.2.1 g hgmem
  obtain ⟨L, hL, hrc, hGP⟩ := H0.out.gs.ga
  have hLl : L.length = m + 1 := by rw [← hm, ← hL]; simp
  have hccap : m + 1 ≤ c := by have := H0.out.cap; omega
  obtain ⟨us, hus⟩ : ∃ us, us = g.cs (some ⟨gp, op, none⟩) cp := ⟨_, rfl⟩
  have HUS := Lib.hid hus
  have HUL : Hid (us.length = 23) := Lib.hid (by rw [hus]; rfl)
  have HUO : Hid (us.toArray.all (·.oneCell') = true) := Lib.hid (by rw [hus]; exact GroupP.cs_one _ _ _)
  have HU22 : Hid (us[22]? = some (.slice (some ⟨gp, op, none⟩) k cp)) := Lib.hid (by rw [hus, hk]; rfl)
  rw [← hus] at hgu
  have HGU := Lib.hid hgu; have HGP := Lib.hid hgp; have HGC := Lib.hid hgc; have HG := Lib.hid hg; have HR := Lib.hid hr
  have HL := Lib.hid hL; have HRC := Lib.hid hrc; have HGPA := Lib.hid hGP; have HOK := Lib.hid hokx; have HOG := Lib.hid hokg; have HKL := Lib.hid hk
  have HPR := Lib.hid hpr
  have HGM := Lib.hid hgmem
  clear hgu hgp hgc hg hr hL hrc hGP hokx hokg hus hgr hge hgl hgmem hgB hfine hm hpr ht hk
  have i1 : (n : Int) - 1 = m := by omega
  have i2 : (m : Int) ≤ (c : Int) := by omega
  have i3 : IntKind.i64.wrap (m : Int) = m := wrap_small (by omega)
  have i4 : (m : Int) < (n : Int) := by omega
  have j1 : (k : Int) - 1 = r := by omega
  have j3 : IntKind.i64.wrap (r : Int) = r := wrap_small (by omega)
  have hk0 : 0 < k := by omega
  have hk8 : k ≤ 8 := by omega
  have HNM := Lib.hid hnm
  have HKR := Lib.hid hkr
  clear hnm hkr
  have hz := zero_c
  have hzg := zero_g
  have c10 : w2.cell? ⟨w.heap.size, 10, none⟩ = some (.slice (some ⟨ga, oa, none⟩) n c) := by rw [HK1b.out.cell, List.getElem?_toArray]; exact H10.out
  go_wp2_with (first
    | ((with_reducible refine at_load 27 (.tmp 1) ?_); refine RowKit.Hid.out ?_)
    | fail)
  refine Lib.hid ?_
  refine wpList_load_mid rfl 27 (.tmp 1) rfl w.heap.size 0 rfl cv _ HK1b.out.rangeL Try.underlying27 rfl (by rw [HCL.out]; exact c_size) ?_; try simp only [Act.put, List.setIfInBounds_toArray, List.set_cons_zero, List.set_cons_succ]
  have HZ := Lib.hid (Blk.new w2 27 zc.toArray)
  go_wp2_with (first
    | ((with_reducible refine at_store 27 (.tmp 7) (.tmp 42) ?_); refine wpList_store_row rfl 27 (.tmp 7) (.tmp 42) rfl w2.heap.size cv.toArray rfl rfl 27 zc.toArray HZ.out (by simpa [HCL.out] using c_size) (by simp [HCL.out, zc]) HO1.out ?_; try simp only [Act.put, List.setIfInBounds_toArray, List.set_cons_zero, List.set_cons_succ])
    | ((with_reducible refine at_load 27 (.tmp 1) ?_); refine RowKit.Hid.out ?_)
    | fail)
  refine Lib.hid ?_
  have s12 : w.heap.size < w2.heap.size := HK1b.out.lt
  obtain ⟨k7, b3⟩ := conf_copied w2 cv
  clear HZ c10
  generalize (w2.alloc (.cells zc.toArray 27)).setRow w2.heap.size cv.toArray = w3 at *
  generalize w2.heap.size = n7 at *
  have HB3 := Lib.hid (HB2.out.trans b3)
  have HK1c := Lib.hid (HK1b.out.below b3 HK1b.out.lt)
  have HK7 := Lib.hid k7
  have s7 : n7 < w3.heap.size := k7.lt
  clear b3 k7 HB2 HK1b
  refine wpList_load_mid rfl 27 (.tmp 1) rfl w.heap.size 0 rfl cv _ HK1c.out.rangeL Try.underlying27 rfl (by rw [HCL.out]; exact c_size) ?_; try simp only [Act.put, List.setIfInBounds_toArray, List.set_cons_zero, List.set_cons_succ]
  have HZ := Lib.hid (Blk.new w3 27 zc.toArray)
  go_wp2_with (first
    | ((with_reducible refine at_store 27 (.tmp 8) (.tmp 43) ?_); refine wpList_store_row rfl 27 (.tmp 8) (.tmp 43) rfl w3.heap.size cv.toArray rfl rfl 27 zc.toArray HZ.out (by simpa [HCL.out] using c_size) (by simp [HCL.out, zc]) HO1.out ?_; try simp only [Act.put, List.setIfInBounds_toArray, List.set_cons_zero, List.set_cons_succ])
    | ((with_reducible refine at_load 25 (.tmp 44) ?_); refine RowKit.Hid.out ?_)
    | fail)
  refine Lib.hid ?_
  obtain ⟨k8, b4⟩ := conf_copied w3 cv
  clear HZ
  generalize (w3.alloc (.cells zc.toArray 27)).setRow w3.heap.size cv.toArray = w4 at *
  have HK7b := Lib.hid (HK7.out.below b4 HK7.out.lt)
  have HK1d := Lib.hid (HK1c.out.below b4 HK1c.out.lt)
  generalize w3.heap.size = n8 at *
  have HB4 := Lib.hid (HB3.out.trans b4)
  have HK8 := Lib.hid k8
  have s8 : n8 < w4.heap.size := k8.lt
  have c10 : w4.cell? ⟨w.heap.size, 10, none⟩ = some (.slice (some ⟨ga, oa, none⟩) n c) := by rw [HK1d.out.cell, List.getElem?_toArray]; exact H10.out
  clear b4 k8 HB3 HK1c HK7
  go_wp2_with (first
    | ((with_reducible refine at_store 25 (.tmp 49) (.tmp 48) ?_); refine wpList_store1 rfl 25 (.tmp 49) (.tmp 48) rfl n7 10 (.slice (some ⟨ga, oa, none⟩) m c) rfl rfl (HK7b.out.some_ (by simp [HCL.out])) (HK7b.out.frozen 10) gs_one rfl rfl ?_; try simp only [Act.put, List.setIfInBounds_toArray, List.set_cons_zero, List.set_cons_succ])
    | ((with_reducible refine at_load 27 (.tmp 7) ?_); refine RowKit.Hid.out ?_)
    | fail)
  refine Lib.hid ?_
  obtain ⟨cv1, hcv1⟩ : ∃ cv1, cv1 = (lessG x m).cs (some ⟨ga, oa, none⟩) c := ⟨_, rfl⟩
  have HCV1 := Lib.hid hcv1
  have e7 : cv.toArray.setIfInBounds 10 (.slice (some ⟨ga, oa, none⟩) m c) = cv1.toArray := by
    rw [HCV.out, hcv1]
    exact conf_set x (x.groups.take m) _ _ c c m (by rw [List.length_take, HM.out]; omega)
  have HK7c := Lib.hid (HK7b.out.set_ 10 (.slice (some ⟨ga, oa, none⟩) m c))
  rw [e7] at HK7c
  have HK1e := Lib.hid (HK1d.out.far (p := ⟨n7, 10, none⟩) (show w.heap.size ≠ n7 by omega) (.slice (some ⟨ga, oa, none⟩) m c))
  have HK8b := Lib.hid (HK8.out.far (p := ⟨n7, 10, none⟩) (show n8 ≠ n7 by omega) (.slice (some ⟨ga, oa, none⟩) m c))
  have HB5 := Lib.hid (bl_set HB4.out (show w.heap.size ≤ n7 by omega) 10 (.slice (some ⟨ga, oa, none⟩) m c))
  have z5 := sz_set w4 n7 10 (.slice (some ⟨ga, oa, none⟩) m c)
  clear e7 c10 HK7b HK1d HK8 HB4
  generalize w4.setCell ⟨n7, 10, none⟩ (.slice (some ⟨ga, oa, none⟩) m c) = w5 at *
  rw [← z5] at s8
  clear z5
  have HV1 : Hid ((lessG x m).v (some ⟨ga, oa, none⟩) c = .agg cv1.toArray) := Lib.hid (by rw [hcv1]; rfl)
  have HCL1 : Hid (cv1.length = 11) := Lib.hid (by rw [hcv1]; rfl)
  clear hcv1
  obtain ⟨p1, a1, e1, ht1⟩ : ∃ p a e, checkC (lessG x m) = (p, a, e) := ⟨_, _, _, rfl⟩
  have HE1 : Hid ((m = 0 ∧ e1 = 1) ∨ (m ≠ 0 ∧ e1 = 0)) := Lib.hid (by
    have hl := less_fine HFI.out HM.out
    by_cases h0 : m = 0
    · left
      have := not_fine_check (x := lessG x m) (fun h => hl.1 h h0)
      rw [ht1] at this
      exact ⟨h0, this⟩
    · right
      have := fine_check (hl.2 h0)
      rw [ht1] at this
      injection this with _ t; injection t with _ t
      exact ⟨h0, t⟩)
  have h2 := check_trip (CF.less (H0.out.step HB5.out) m) (few_less q m) p1 a1 e1 ht1
  rw [HV1.out] at h2
  have H2 := Lib.hid h2
  clear h2 ht1
  refine wpList_load_mid rfl 27 (.tmp 7) rfl n7 0 rfl cv1 _ HK7c.out.rangeL Try.underlying27 rfl (by rw [HCL1.out]; exact c_size) ?_; try simp only [Act.put, List.setIfInBounds_toArray, List.set_cons_zero, List.set_cons_succ]
  go_wp2_with fail
  refine H2.out.mono ?_
  rintro e w6 ⟨rfl, b6⟩
  have HB6 := Lib.hid (HB5.out.trans b6)
  have HK1f := Lib.hid (HK1e.out.below b6 HK1e.out.lt)
  have HK7d := Lib.hid (HK7c.out.below b6 HK7c.out.lt)
  have HK8c := Lib.hid (HK8b.out.below b6 HK8b.out.lt)
  have s8' : n8 < w6.heap.size := HK8c.out.lt
  have c10 : w6.cell? ⟨w.heap.size, 10, none⟩ = some (.slice (some ⟨ga, oa, none⟩) n c) := by rw [HK1f.out.cell, List.getElem?_toArray]; exact H10.out
  clear b6 HB5 HK1e HK7c HK8b H2 s8
  go_wp2_with (first
    | ((with_reducible refine at_load 54 (.tmp 60) ?_); refine RowKit.Hid.out ?_)
    | fail)
  refine Lib.hid ?_
  refine wpList_load_mid rfl 54 (.tmp 60) rfl ga (oa + m * 23) rfl us _ (rangeAt_step HGU.out hga HB6.out) Try.underlying54 rfl (by rw [HUL.out]; exact g_size) ?_; try simp only [Act.put, List.setIfInBounds_toArray, List.set_cons_zero, List.set_cons_succ]
  have HZ := Lib.hid (Blk.new w6 54 zg.toArray)
  go_wp2_with (first
    | ((with_reducible refine at_store 54 (.tmp 12) (.tmp 61) ?_); refine wpList_store_row rfl 54 (.tmp 12) (.tmp 61) rfl w6.heap.size us.toArray rfl rfl 54 zg.toArray HZ.out (by simpa [HUL.out] using g_size) (by simp [HUL.out, zg]) HUO.out ?_; try simp only [Act.put, List.setIfInBounds_toArray, List.set_cons_zero, List.set_cons_succ])
    | ((with_reducible refine at_load 52 (.tmp 62) ?_); refine RowKit.Hid.out ?_)
    | fail)
  refine Lib.hid ?_
  obtain ⟨k12, b7⟩ := grp_copied w6 us
  clear HZ c10
  generalize (w6.alloc (.cells zg.toArray 54)).setRow w6.heap.size us.toArray = w7 at *
  have HK1g := Lib.hid (HK1f.out.below b7 HK1f.out.lt)
  have HK7e := Lib.hid (HK7d.out.below b7 HK7d.out.lt)
  have HK8d := Lib.hid (HK8c.out.below b7 HK8c.out.lt)
  have HB7 := Lib.hid (HB6.out.trans b7)
  clear b7 HB6 HK1f HK7d HK8c
  generalize w6.heap.size = n12 at *
  have HK12 := Lib.hid k12
  have s12' : n12 < w7.heap.size := k12.lt
  have c22 : w7.cell? ⟨n12, 22, none⟩ = some (.slice (some ⟨gp, op, none⟩) k cp) := by rw [HK12.out.cell, List.getElem?_toArray]; exact HU22.out
  clear k12
  go_wp2_with (first
    | ((with_reducible refine at_load 54 (.tmp 12) ?_); refine RowKit.Hid.out ?_)
    | fail)
  refine Lib.hid ?_
  refine wpList_load_mid rfl 54 (.tmp 12) rfl n12 0 rfl us _ HK12.out.rangeL Try.underlying54 rfl (by rw [HUL.out]; exact g_size) ?_; try simp only [Act.put, List.setIfInBounds_toArray, List.set_cons_zero, List.set_cons_succ]
  have HZ := Lib.hid (Blk.new w7 54 zg.toArray)
  go_wp2_with (first
    | ((with_reducible refine at_store 54 (.tmp 14) (.tmp 65) ?_); refine wpList_store_row rfl 54 (.tmp 14) (.tmp 65) rfl w7.heap.size us.toArray rfl rfl 54 zg.toArray HZ.out (by simpa [HUL.out] using g_size) (by simp [HUL.out, zg]) HUO.out ?_; try simp only [Act.put, List.setIfInBounds_toArray, List.set_cons_zero, List.set_cons_succ])
    | ((with_reducible refine at_load 54 (.tmp 12) ?_); refine RowKit.Hid.out ?_)
    | fail)
  refine Lib.hid ?_
  obtain ⟨k14, b8⟩ := grp_copied w7 us
  clear HZ c22
  generalize (w7.alloc (.cells zg.toArray 54)).setRow w7.heap.size us.toArray = w8 at *
  have HK1h := Lib.hid (HK1g.out.below b8 HK1g.out.lt)
  have HK7f := Lib.hid (HK7e.out.below b8 HK7e.out.lt)
  have HK8e := Lib.hid (HK8d.out.below b8 HK8d.out.lt)
  have HK12b := Lib.hid (HK12.out.below b8 HK12.out.lt)
  have HB8 := Lib.hid (HB7.out.trans b8)
  clear b8 HB7 HK1g HK7e HK8d HK12
  generalize w7.heap.size = n14 at *
  have HK14 := Lib.hid k14
  have s14 : n14 < w8.heap.size := k14.lt
  clear k14
  refine wpList_load_mid rfl 54 (.tmp 12) rfl n12 0 rfl us _ HK12b.out.rangeL Try.underlying54 rfl (by rw [HUL.out]; exact g_size) ?_; try simp only [Act.put, List.setIfInBounds_toArray, List.set_cons_zero, List.set_cons_succ]
  have HZ := Lib.hid (Blk.new w8 54 zg.toArray)
  go_wp2_with (first
    | ((with_reducible refine at_store 54 (.tmp 15) (.tmp 66) ?_); refine wpList_store_row rfl 54 (.tmp 15) (.tmp 66) rfl w8.heap.size us.toArray rfl rfl 54 zg.toArray HZ.out (by simpa [HUL.out] using g_size) (by simp [HUL.out, zg]) HUO.out ?_; try simp only [Act.put, List.setIfInBounds_toArray, List.set_cons_zero, List.set_cons_succ])
    | ((with_reducible refine at_load 52 (.tmp 67) ?_); refine RowKit.Hid.out ?_)
    | fail)
  refine Lib.hid ?_
  obtain ⟨k15, b9⟩ := grp_copied w8 us
  clear HZ
  generalize (w8.alloc (.cells zg.toArray 54)).setRow w8.heap.size us.toArray = w9 at *
  have HK1i := Lib.hid (HK1h.out.below b9 HK1h.out.lt)
  have HK7g := Lib.hid (HK7f.out.below b9 HK7f.out.lt)
  have HK8f := Lib.hid (HK8e.out.below b9 HK8e.out.lt)
  have HK12c := Lib.hid (HK12b.out.below b9 HK12b.out.lt)
  have HK14b := Lib.hid (HK14.out.below b9 HK14.out.lt)
  have HB9 := Lib.hid (HB8.out.trans b9)
  clear b9 HB8 HK1h HK7f HK8e HK12b HK14
  generalize w8.heap.size = n15 at *
  have HK15 := Lib.hid k15
  have s15 : n15 < w9.heap.size := k15.lt
  clear k15
  have c22 : w9.cell? ⟨n12, 22, none⟩ = some (.slice (some ⟨gp, op, none⟩) k cp) := by rw [HK12c.out.cell, List.getElem?_toArray]; exact HU22.out
  have i5 : (r : Int) ≤ (cp : Int) := by have := HGC.out; have := HR.out; omega
  go_wp2_with (first
    | ((with_reducible refine at_store 52 (.tmp 72) (.tmp 71) ?_); refine wpList_store1 rfl 52 (.tmp 72) (.tmp 71) rfl n14 22 (.slice (some ⟨gp, op, none⟩) r cp) rfl rfl (HK14b.out.some_ (by simp [HUL.out])) (HK14b.out.frozen 22) ps_one rfl rfl ?_; try simp only [Act.put, List.setIfInBounds_toArray, List.set_cons_zero, List.set_cons_succ])
    | fail)
  -- the shorter group
  obtain ⟨sc, hsc⟩ : ∃ sc, sc = (({ g with params := g.params.take r } : GroupP).cs (some ⟨gp, op, none⟩) cp) := ⟨_, rfl⟩
  have HSC := Lib.hid hsc
  have HSL : Hid (sc.length = 23) := Lib.hid (by rw [hsc]; rfl)
  have HSO : Hid (sc.toArray.all (·.oneCell') = true) := Lib.hid (by rw [hsc]; exact GroupP.cs_one _ _ _)
  have e14 : us.toArray.setIfInBounds 22 (.slice (some ⟨gp, op, none⟩) r cp) = sc.toArray := by
    rw [HUS.out, hsc]
    exact grp_set g (g.params.take r) _ _ cp cp r (by rw [List.length_take, HR.out]; omega)
  clear hsc
  have HK14c := Lib.hid (HK14b.out.set_ 22 (.slice (some ⟨gp, op, none⟩) r cp))
  rw [e14] at HK14c
  have HK1j := Lib.hid (HK1i.out.far (p := ⟨n14, 22, none⟩) (show w.heap.size ≠ n14 by omega) (.slice (some ⟨gp, op, none⟩) r cp))
  have HK7h := Lib.hid (HK7g.out.far (p := ⟨n14, 22, none⟩) (show n7 ≠ n14 by omega) (.slice (some ⟨gp, op, none⟩) r cp))
  have HK8g := Lib.hid (HK8f.out.far (p := ⟨n14, 22, none⟩) (show n8 ≠ n14 by omega) (.slice (some ⟨gp, op, none⟩) r cp))
  have HK12d := Lib.hid (HK12c.out.far (p := ⟨n14, 22, none⟩) (show n12 ≠ n14 by omega) (.slice (some ⟨gp, op, none⟩) r cp))
  have HK15b := Lib.hid (HK15.out.far (p := ⟨n14, 22, none⟩) (show n15 ≠ n14 by omega) (.slice (some ⟨gp, op, none⟩) r cp))
  have HB10 := Lib.hid (bl_set HB9.out (show w.heap.size ≤ n14 by omega) 22 (.slice (some ⟨gp, op, none⟩) r cp))
  have z10 := sz_set w9 n14 22 (.slice (some ⟨gp, op, none⟩) r cp)
  clear e14 c22 HK1i HK7g HK8f HK12c HK14b HK15 HB9
  generalize w9.setCell ⟨n14, 22, none⟩ (.slice (some ⟨gp, op, none⟩) r cp) = w10 at *
  rw [← z10] at s15
  clear z10
  obtain ⟨p0, hp0⟩ : ∃ p0, g.params[0]? = some p0 := ⟨g.params[0]'(by rw [HR.out]; omega), List.getElem?_eq_getElem (by rw [HR.out]; omega)⟩
  have HP0 := Lib.hid hp0
  have q22 : w10.cell? ⟨n12, 22, none⟩ = some (.slice (some ⟨gp, op, none⟩) k cp) := by rw [HK12d.out.cell, List.getElem?_toArray]; exact HU22.out
  have hB10s := HB10.out.size
  refine reg16 w10 n12 n15 gp op k cp (prmCs g.params) p0.cs us.toArray _ (by omega) (by omega) (by omega) (by omega) (by omega) q22 ((HGP.out.step HB10.out).first hp0) rfl (fun u hu => by simp [ParamP.cs] at hu; rcases hu with rfl | rfl | rfl <;> rfl) (HGP.out.step HB10.out).rc (by rw [prmCs_len, HKL.out]) (prmCs_one _) (by omega) HK15b.out (by simp [HUL.out]) (fun A2 c2 W v73 v76 v81 bW hrc hat hc2 => ?_)
  dsimp only
  -- the longer group
  have hpl : (g.params ++ [p0]).length = 0 + k + 1 := by rw [List.length_append, ← HKL.out]; simp
  obtain ⟨lc, hlc⟩ : ∃ lc, lc = (({ g with params := g.params ++ [p0] } : GroupP).cs A2 c2) := ⟨_, rfl⟩
  have HLC := Lib.hid hlc
  have HLL : Hid (lc.length = 23) := Lib.hid (by rw [hlc]; rfl)
  have HLO : Hid (lc.toArray.all (·.oneCell') = true) := Lib.hid (by rw [hlc]; exact GroupP.cs_one _ _ _)
  have e15 : us.toArray.setIfInBounds 22 (.slice A2 (0 + k + 1) c2) = lc.toArray := by
    rw [HUS.out, hlc]
    exact grp_set g (g.params ++ [p0]) _ _ cp c2 _ hpl
  clear hlc
  have HPL := Lib.hid hpl
  have HK15c := Lib.hid ((HK15b.out.below bW HK15b.out.lt).set_ 22 (.slice A2 (0 + k + 1) c2))
  rw [e15] at HK15c
  have HK1k := Lib.hid ((HK1j.out.below bW HK1j.out.lt).far (p := ⟨n15, 22, none⟩) (show w.heap.size ≠ n15 by omega) (.slice A2 (0 + k + 1) c2))
  have HK7i := Lib.hid ((HK7h.out.below bW HK7h.out.lt).far (p := ⟨n15, 22, none⟩) (show n7 ≠ n15 by omega) (.slice A2 (0 + k + 1) c2))
  have HK8h := Lib.hid ((HK8g.out.below bW HK8g.out.lt).far (p := ⟨n15, 22, none⟩) (show n8 ≠ n15 by omega) (.slice A2 (0 + k + 1) c2))
  have HK14d := Lib.hid ((HK14c.out.below bW HK14c.out.lt).far (p := ⟨n15, 22, none⟩) (show n14 ≠ n15 by omega) (.slice A2 (0 + k + 1) c2))
  have HB11 := Lib.hid (bl_set (HB10.out.trans bW) (show w.heap.size ≤ n15 by omega) 22 (.slice A2 (0 + k + 1) c2))
  have HQ11 := Lib.hid (hrc.set_ (n := n15) (fun ad e => by have := hat ad e; omega) 22 (.slice A2 (0 + k + 1) c2))
  rw [← prmCs_snoc] at HQ11
  have HAT := Lib.hid hat
  have z11 := sz_set W n15 22 (.slice A2 (0 + k + 1) c2)
  have bWs := bW.size
  clear e15 q22 HK1j HK7h HK8g HK12d HK14c HK15b HB10 hrc hat bW hp0 hpl
  generalize W.setCell ⟨n15, 22, none⟩ (.slice A2 (0 + k + 1) c2) = w11 at *
  have s11 : n15 < w11.heap.size := HK15c.out.lt
  have x10 : Hid (∀ ad, A2 = some ad → n15 < ad.block) := Lib.hid (fun ad e => by have := HAT.out ad e; omega)
  clear HAT z11 bWs s15
  have HRCm : Hid (RC w (some ⟨ga, oa, none⟩) (gaCs (L.take m))) := Lib.hid (by
    have := HRC.out
    rw [← List.take_append_drop m L, gaCs_append] at this
    exact this.front)
  have lm : (L.take m).length = m := by rw [List.length_take]; omega
  have q1 : w11.cell? ⟨w.heap.size, 10, none⟩ = some (.slice (some ⟨ga, oa, none⟩) n c) := by rw [HK1k.out.cell, List.getElem?_toArray]; exact H10.out
  go_wp2_with fail
  refine reg17 w11 w.heap.size n14 n7 ga oa n m c (gaCs (L.take m)) sc cv1.toArray _ (by omega) (by omega) (by omega) (by omega) HNM.out (by omega) q1 HK14d.out.rangeL HSL.out (fun u hu => Array.all_eq_true_iff_forall_mem.1 HSO.out u (by simpa using hu)) (HRCm.out.below HB11.out) (by rw [gaCs_len, lm]) (gaCs_one _) (by omega) HK7i.out (by simp [HCL1.out]) (fun A3 c3 W v84 v90 v92 bW hrc hat hc3 => ?_)
  dsimp only
  obtain ⟨cv2, hcv2⟩ : ∃ cv2, cv2 = (lastG x m (g.params.take r) g).cs A3 c3 := ⟨_, rfl⟩
  have e7 : cv1.toArray.setIfInBounds 10 (.slice A3 (0 + m + 1) c3) = cv2.toArray := by
    rw [HCV1.out, hcv2]
    exact conf_set (lessG x m) (x.groups.take m ++ [{ g with params := g.params.take r }]) _ A3 c c3 (0 + m + 1) (by rw [List.length_append, List.length_take, HM.out, List.length_singleton]; omega)
  have HV2 : Hid ((lastG x m (g.params.take r) g).v A3 c3 = .agg cv2.toArray) := Lib.hid (by rw [hcv2]; rfl)
  have HCL2 : Hid (cv2.length = 11) := Lib.hid (by rw [hcv2]; rfl)
  clear hcv2
  have HK7j := Lib.hid ((HK7i.out.below bW HK7i.out.lt).set_ 10 (.slice A3 (0 + m + 1) c3))
  rw [e7] at HK7j
  have HK1l := Lib.hid ((HK1k.out.below bW HK1k.out.lt).far (p := ⟨n7, 10, none⟩) (show w.heap.size ≠ n7 by omega) (.slice A3 (0 + m + 1) c3))
  have HK8i := Lib.hid ((HK8h.out.below bW HK8h.out.lt).far (p := ⟨n7, 10, none⟩) (show n8 ≠ n7 by omega) (.slice A3 (0 + m + 1) c3))
  have HK15d := Lib.hid ((HK15c.out.below bW HK15c.out.lt).far (p := ⟨n7, 10, none⟩) (show n15 ≠ n7 by omega) (.slice A3 (0 + m + 1) c3))
  have HB12 := Lib.hid (bl_set (HB11.out.trans bW) (show w.heap.size ≤ n7 by omega) 10 (.slice A3 (0 + m + 1) c3))
  have HR12 := Lib.hid (hrc.set_ (n := n7) (fun ad e => by have := hat ad e; omega) 10 (.slice A3 (0 + m + 1) c3))
  have HQ12 := Lib.hid ((HQ11.out.below bW).set_ (n := n7) (fun ad e => by have := x10.out ad e; omega) 10 (.slice A3 (0 + m + 1) c3))
  have x11 : Hid (∀ ad, A3 = some ad → n15 < ad.block) := Lib.hid (fun ad e => by have := hat ad e; omega)
  clear e7 q1 HK1k HK7i HK8h HK14d HK15c HB11 HQ11 hrc hat bW
  generalize W.setCell ⟨n7, 10, none⟩ (.slice A3 (0 + m + 1) c3) = w12 at *
  have s12'' : n15 < w12.heap.size := HK15d.out.lt
  have q1 : w12.cell? ⟨w.heap.size, 10, none⟩ = some (.slice (some ⟨ga, oa, none⟩) n c) := by rw [HK1l.out.cell, List.getElem?_toArray]; exact H10.out
  go_wp2_with fail
  refine reg18 w12 w.heap.size n15 n8 ga oa n m c (gaCs (L.take m)) lc cv.toArray _ (by omega) (by omega) (by omega) (by omega) HNM.out (by omega) q1 HK15d.out.rangeL HLL.out (fun u hu => Array.all_eq_true_iff_forall_mem.1 HLO.out u (by simpa using hu)) (HRCm.out.below HB12.out) (by rw [gaCs_len, lm]) (gaCs_one _) (by omega) HK8i.out (by simp [HCL.out]) (fun A4 c4 W v95 v101 v103 bW hrc hat hc4 => ?_)
  dsimp only
  obtain ⟨cv3, hcv3⟩ : ∃ cv3, cv3 = (lastG x m (g.params ++ [p0]) g).cs A4 c4 := ⟨_, rfl⟩
  have e8 : cv.toArray.setIfInBounds 10 (.slice A4 (0 + m + 1) c4) = cv3.toArray := by
    rw [HCV.out, hcv3]
    exact conf_set x (x.groups.take m ++ [{ g with params := g.params ++ [p0] }]) _ A4 c c4 (0 + m + 1) (by rw [List.length_append, List.length_take, HM.out, List.length_singleton]; omega)
  have HV3 : Hid ((lastG x m (g.params ++ [p0]) g).v A4 c4 = .agg cv3.toArray) := Lib.hid (by rw [hcv3]; rfl)
  have HCL3 : Hid (cv3.length = 11) := Lib.hid (by rw [hcv3]; rfl)
  clear hcv3
  have HK8j := Lib.hid ((HK8i.out.below bW HK8i.out.lt).set_ 10 (.slice A4 (0 + m + 1) c4))
  rw [e8] at HK8j
  have HK7k := Lib.hid ((HK7j.out.below bW HK7j.out.lt).far (p := ⟨n8, 10, none⟩) (show n7 ≠ n8 by omega) (.slice A4 (0 + m + 1) c4))
  have HB13 := Lib.hid (bl_set (HB12.out.trans bW) (show w.heap.size ≤ n8 by omega) 10 (.slice A4 (0 + m + 1) c4))
  have HS13 := Lib.hid (hrc.set_ (n := n8) (fun ad e => by have := hat ad e; omega) 10 (.slice A4 (0 + m + 1) c4))
  have HR13 := Lib.hid ((HR12.out.below bW).set_ (n := n8) (fun ad e => by have := x11.out ad e; omega) 10 (.slice A4 (0 + m + 1) c4))
  have HQ13 := Lib.hid ((HQ12.out.below bW).set_ (n := n8) (fun ad e => by have := x10.out ad e; omega) 10 (.slice A4 (0 + m + 1) c4))
  clear e8 q1 HK1l HK7j HK8i HK15d HB12 HQ12 HR12 hrc hat bW
  generalize W.setCell ⟨n8, 10, none⟩ (.slice A4 (0 + m + 1) c4) = w13 at *
  have hr8 : r ≤ 7 := hr7
  have HC2 : Hid (CF w13 A3 c3 (lastG x m (g.params.take r) g)) := Lib.hid (CF.last (P := some ⟨gp, op, none⟩) (cp := cp) HL.out (by rw [← HSC.out]; exact HR13.out) (HGPA.out.step HB13.out) ((HGP.out.step HB13.out).take r) (by rw [List.length_take]; have := HGC.out; omega) (by omega)
    (ok_last HOK.out HM.out HOG.out (by rw [List.length_take]; omega) (fun p hp => HOG.out.2.2.1 p (List.mem_of_mem_take hp))))
  have hp0m : p0 ∈ g.params := List.mem_of_getElem? HP0.out
  have HC3 : Hid (CF w13 A4 c4 (lastG x m (g.params ++ [p0]) g)) := Lib.hid (CF.last (P := A2) (cp := c2) HL.out (by rw [← HLC.out]; exact HS13.out) (HGPA.out.step HB13.out) (Params.of_rc HQ13.out) (by rw [HPL.out]; omega) (by omega)
    (ok_last HOK.out HM.out HOG.out (by rw [HPL.out]; omega) (fun p hp => by
      rcases List.mem_append.1 hp with hp | hp
      · exact HOG.out.2.2.1 p hp
      · obtain rfl := List.mem_singleton.1 hp
        exact HOG.out.2.2.1 _ hp0m)))
  have hfw := (few_parts q).2 g HGM.out
  have HF2 := few_last (x := x) q HM.out (g := g) (ps := g.params.take r) (by rw [List.length_take]; omega) (fun p hp => hfw.2 p (List.mem_of_mem_take hp))
  have HF3 := few_last (x := x) q HM.out (g := g) (ps := g.params ++ [p0]) (by rw [HPL.out]; omega) (fun p hp => by
      rcases List.mem_append.1 hp with hp | hp
      · exact hfw.2 p hp
      · obtain rfl := List.mem_singleton.1 hp
        exact hfw.2 _ hp0m)
  obtain ⟨p2, a2, e2, ht2⟩ : ∃ p a e, checkC (lastG x m (g.params.take r) g) = (p, a, e) := ⟨_, _, _, rfl⟩
  have HE2 : Hid ((r = 0 ∧ e2 = 1) ∨ (r ≠ 0 ∧ e2 = 0)) := Lib.hid (by
    have hl := shorter_fine HFI.out HM.out HG.out HR.out
    by_cases h0 : r = 0
    · left
      have := not_fine_check (fun h => hl.1 h h0)
      rw [ht2] at this
      exact ⟨h0, this⟩
    · right
      have := fine_check (hl.2 h0)
      rw [ht2] at this
      injection this with _ t; injection t with _ t
      exact ⟨h0, t⟩)
  obtain ⟨p3, a3, e3, ht3⟩ : ∃ p a e, checkC (lastG x m (g.params ++ [p0]) g) = (p, a, e) := ⟨_, _, _, rfl⟩
  have HE3 : Hid (e3 = 1 ∧ (p3 = 5 ∨ p3 = 6)) := Lib.hid (by
    have := longer_check HFI.out HM.out HG.out HP0.out (q := r)
    rw [ht3] at this
    exact this)
  have h2 := check_trip HC2.out HF2 p2 a2 e2 ht2
  rw [HV2.out] at h2
  have H2 := Lib.hid h2
  have HT3 := Lib.hid ht3
  have HF3 := Lib.hid HF3
  clear h2 ht2 ht3 hfw hp0m HF2 HC2 HR13 HS13 HQ13
  go_wp2_with (first
    | ((with_reducible refine at_load 27 (.tmp 7) ?_); refine wpList_load_mid rfl 27 (.tmp 7) rfl n7 0 rfl cv2 _ HK7k.out.rangeL Try.underlying27 rfl (by rw [HCL2.out]; exact c_size) ?_; try simp only [Act.put, List.setIfInBounds_toArray, List.set_cons_zero, List.set_cons_succ])
    | fail)
  refine H2.out.mono ?_
  rintro e w14 ⟨rfl, b14⟩
  have HB14 := Lib.hid (HB13.out.trans b14)
  have HK8k := Lib.hid (HK8j.out.below b14 HK8j.out.lt)
  have h3 := check_trip (HC3.out.step b14) HF3.out p3 a3 e3 HT3.out
  rw [HV3.out] at h3
  have H3 := Lib.hid h3
  clear b14 HB13 HK8j HK7k H2 HC3 h3
  go_wp2_with (first
    | ((with_reducible refine at_load 27 (.tmp 8) ?_); refine wpList_load_mid rfl 27 (.tmp 8) rfl n8 0 rfl cv3 _ HK8k.out.rangeL Try.underlying27 rfl (by rw [HCL3.out]; exact c_size) ?_; try simp only [Act.put, List.setIfInBounds_toArray, List.set_cons_zero, List.set_cons_succ])
    | fail)
  refine H3.out.mono ?_
  rintro e w15 ⟨rfl, b15⟩
  have HB15 := Lib.hid (HB14.out.trans b15)
  obtain ⟨rfl, hp3⟩ := HE3.out
  have he1 := HE1.out
  have he2 := HE2.out
  clear b15 HB14 HK8k H3 HE1 HE2 HE3 HT3 HF3
  clear hz hzg
  rcases he1 with ⟨hm0, rfl⟩ | ⟨hm0, rfl⟩ <;> rcases he2 with ⟨hr0, rfl⟩ | ⟨hr0, rfl⟩ <;> rcases hp3 with rfl | rfl
  · have y1 : ¬ (1 : Int) < (n : Int) := by have := HNM.out; omega
    have y2 : ¬ (1 : Int) < (k : Int) := by have := HKR.out; omega
    go_wp2_with fail
    refine (alive21 _).mono ?_
    rintro e w16 ⟨rfl, b16⟩
    have HB16 := Lib.hid (HB15.out.trans b16)
    clear b16
    go_wp2_with fail
    go_ret
    exact ⟨congrArg (fun b => Ending.returned (Value.bool b)) (show ((!decide ((1 : Int) < (n : Int))) && (!decide ((1 : Int) < (k : Int)))) = true by rw [decide_eq_false (by omega), decide_eq_false (by omega)]; rfl), HB16.out⟩
  · have y1 : ¬ (1 : Int) < (n : Int) := by have := HNM.out; omega
    have y2 : ¬ (1 : Int) < (k : Int) := by have := HKR.out; omega
    go_wp2_with fail
    refine (alive21 _).mono ?_
    rintro e w16 ⟨rfl, b16⟩
    have HB16 := Lib.hid (HB15.out.trans b16)
    clear b16
    go_wp2_with fail
    go_ret
    exact ⟨congrArg (fun b => Ending.returned (Value.bool b)) (show ((!decide ((1 : Int) < (n : Int))) && (!decide ((1 : Int) < (k : Int)))) = true by rw [decide_eq_false (by omega), decide_eq_false (by omega)]; rfl), HB16.out⟩
  · have y1 : ¬ (1 : Int) < (n : Int) := by have := HNM.out; omega
    have y2 : (1 : Int) < (k : Int) := by have := HKR.out; omega
    go_wp2_with fail
    refine (alive21 _).mono ?_
    rintro e w16 ⟨rfl, b16⟩
    have HB16 := Lib.hid (HB15.out.trans b16)
    clear b16
    go_wp2_with fail
    go_ret
    exact ⟨congrArg (fun b => Ending.returned (Value.bool b)) (show (!decide ((1 : Int) < (n : Int))) = true by rw [decide_eq_false (by omega)]; rfl), HB16.out⟩
  · have y1 : ¬ (1 : Int) < (n : Int) := by have := HNM.out; omega
    have y2 : (1 : Int) < (k : Int) := by have := HKR.out; omega
    go_wp2_with fail
    refine (alive21 _).mono ?_
    rintro e w16 ⟨rfl, b16⟩
    have HB16 := Lib.hid (HB15.out.trans b16)
    clear b16
    go_wp2_with fail
    go_ret
    exact ⟨congrArg (fun b => Ending.returned (Value.bool b)) (show (!decide ((1 : Int) < (n : Int))) = true by rw [decide_eq_false (by omega)]; rfl), HB16.out⟩
  · have y1 : (1 : Int) < (n : Int) := by have := HNM.out; omega
    have y2 : ¬ (1 : Int) < (k : Int) := by have := HKR.out; omega
    go_wp2_with fail
    refine (alive21 _).mono ?_
    rintro e w16 ⟨rfl, b16⟩
    have HB16 := Lib.hid (HB15.out.trans b16)
    clear b16
    go_wp2_with fail
    go_ret
    exact ⟨congrArg (fun b => Ending.returned (Value.bool b)) (show (!decide ((1 : Int) < (k : Int))) = true by rw [decide_eq_false (by omega)]; rfl), HB16.out⟩
  · have y1 : (1 : Int) < (n : Int) := by have := HNM.out; omega
    have y2 : ¬ (1 : Int) < (k : Int) := by have := HKR.out; omega
    go_wp2_with fail
    refine (alive21 _).mono ?_
    rintro e w16 ⟨rfl, b16⟩
    have HB16 := Lib.hid (HB15.out.trans b16)
    clear b16
    go_wp2_with fail
    go_ret
    exact ⟨congrArg (fun b => Ending.returned (Value.bool b)) (show (!decide ((1 : Int) < (k : Int))) = true by rw [decide_eq_false (by omega)]; rfl), HB16.out⟩
  · have y1 : (1 : Int) < (n : Int) := by have := HNM.out; omega
    have y2 : (1 : Int) < (k : Int) := by have := HKR.out; omega
    go_wp2_with fail
    refine (alive21 _).mono ?_
    rintro e w16 ⟨rfl, b16⟩
    have HB16 := Lib.hid (HB15.out.trans b16)
    clear b16
    go_wp2_with fail
    go_ret
    exact ⟨rfl, HB16.out⟩
  · have y1 : (1 : Int) < (n : Int) := by have := HNM.out; omega
    have y2 : (1 : Int) < (k : Int) := by have := HKR.out; omega
    go_wp2_with fail
    refine (alive21 _).mono ?_
    rintro e w16 ⟨rfl, b16⟩
    have HB16 := Lib.hid (HB15.out.trans b16)
    clear b16
    go_wp2_with fail
    go_ret
    exact ⟨rfl, HB16.out⟩
end Go.Proofs.Ytigicphmnlkjfaa
