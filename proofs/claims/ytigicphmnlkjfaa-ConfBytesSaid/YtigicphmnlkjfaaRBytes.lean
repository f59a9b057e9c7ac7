/- The contract of ratchetref21.Bytes. (Printed by wip/gen_rbytes.py.) -/
import Derived.Test.YtigicphmnlkjfaaBytes
import Derived.Test.YtigicphmnlkjfaaRGroup
import Derived.Test.YtigicphmnlkjfaaCrc21
namespace Go.Proofs.Ytigicphmnlkjfaa
open Go.RowKit
set_option linter.unusedVariables false
set_option linter.unusedSimpArgs false

set_option maxRecDepth 100000 in
set_option maxHeartbeats 4000000 in
theorem rbytes_any {w : World} {A : Option Addr} {c : Nat} {x : ConfP} (h : CF w A c x) (hf : fewC x = true) :
    Calls Try.prog 18 #[x.v A c] w (GivesB w (confE x)) := by
  obtain ⟨t, ht⟩ : ∃ t, t = confE x := ⟨_, rfl⟩
  rw [← ht]
  have HT := Lib.hid ht
  have HX := Lib.hid h
  have HF := Lib.hid hf
  have hl10 : x.groups.length ≤ 10 := by
    have := hf
    simp only [fewC, decide_eq_true_eq] at this
    exact this.1
  obtain ⟨cv, hcv⟩ : ∃ cv, cv = x.cs A c := ⟨_, rfl⟩
  have hcl : cv.length = 11 := by rw [hcv]; rfl
  have HV : Hid (x.v A c = .agg cv.toArray) := Lib.hid (by rw [hcv]; rfl)
  rw [HV.out]
  have hk := Blk.new w 27 cv.toArray
  have HK := Lib.hid hk
  have hb := Bl.alloc w (.cells cv.toArray 27)
  have HB := Lib.hid hb
  have n0 : cv[0]? = some (.int .i64 x.f) := by rw [hcv]; rfl
  have n1 : cv[1]? = some (.int .i64 x.clip) := by rw [hcv]; rfl
  have n10 : cv[10]? = some (.slice A x.groups.length c) := by rw [hcv]; rfl
  have c0 := hk.cell 0; have c1 := hk.cell 1
  rw [List.getElem?_toArray] at c0 c1
  rw [n0] at c0
  rw [n1] at c1
  have N0 := Lib.hid n0; have N10 := Lib.hid n10
  have hr2 : ∀ (j : Nat) (v : Value), (x.k0.cs ++ x.k1.cs)[j]? = some v → cv[2 + j]? = some v := fun j v hv => by
    have hj : j < 8 := (List.getElem?_eq_some_iff.1 hv).1
    rw [hcv, ConfP.cs, show 2 + j = j + 1 + 1 by omega, List.getElem?_cons_succ, List.getElem?_cons_succ, ← List.append_assoc, List.getElem?_append_left (by show j < 8; exact hj)]
    exact hv
  have HR2 : Hid ((w.alloc (.cells cv.toArray 27)).rangeAt w.heap.size 2 (x.k0.cs ++ x.k1.cs)) := Lib.hid fun j v hv => by
    rw [hk.cell, List.getElem?_toArray]; exact hr2 j v hv
  have HCV := Lib.hid hcv
  have HCL := Lib.hid hcl
  clear hcv ht h hf hk hb n0 n1 n10 hr2 hcl
  obtain ⟨f, clip, K0, K1, gs⟩ := x
  simp only at hl10 c0 c1 N0 N10 HR2
  have hfl : I64 f ∧ I64 clip := ⟨HX.out.ok.1, HX.out.ok.2.1⟩
  have HFL := Lib.hid hfl
  have hk0r : (w.alloc (.cells cv.toArray 27)).rangeAt w.heap.size 2 K0.cs := fun j v hv => HR2.out j v (by rw [List.getElem?_append_left (List.getElem?_eq_some_iff.1 hv).1]; exact hv)
  have hk1r : (w.alloc (.cells cv.toArray 27)).rangeAt w.heap.size 6 K1.cs := fun j v hv => by
    have := HR2.out (4 + j) v (by rw [List.getElem?_append_right (by show 4 ≤ 4 + j; omega), show 4 + j - K0.cs.length = j from by show 4 + j - 4 = j; omega]; exact hv)
    rwa [show 2 + (4 + j) = 6 + j by omega] at this
  have HK0 := Lib.hid hk0r; have HK1 := Lib.hid hk1r
  clear hfl hk0r hk1r
  have hrv := RV.new (w.alloc (.cells cv.toArray 27)) 2 [.int .i64 f, .int .i64 clip] _ rfl
  rw [show (w.alloc (.cells cv.toArray 27)).heap.size = w.heap.size + 1 from by simp] at hrv
  have HRV := Lib.hid hrv
  clear hrv
  go_enter Try.func18, Try.ntmps18
  go_wp2_with fail
  refine (ints_any (SL.nil_ _) (by simp) 2 [f, clip] HRV.out (by
    intro n hn
    simp only [List.mem_cons, List.not_mem_nil, or_false] at hn
    rcases hn with rfl | rfl
    · exact HFL.out.1
    · exact HFL.out.2) (by simp) (headT ⟨f, clip, K0, K1, gs⟩ 0) (by simp [headT])).mono ?_
  rintro e w1 ⟨A1, cc1, rfl, hs1, b1⟩
  have hbn := (Bl.alloc (w.alloc (.cells cv.toArray 27)) (.cells #[.int .i64 f, .int .i64 clip] 2)).trans b1
  have HB1 := Lib.hid (HB.out.trans hbn)
  have HKc := Lib.hid (HK.out.below hbn HK.out.lt)
  have HL0 := Lib.hid (rangeAt_step HK0.out HK.out.lt hbn)
  have HL1 := Lib.hid (rangeAt_step HK1.out HK.out.lt hbn)
  have HS1 := Lib.hid hs1
  have hl1 : (headT ⟨f, clip, K0, K1, gs⟩ 0).length ≤ 20 := encNs_le (l := [f, clip]) (by
    intro n hn
    simp only [List.mem_cons, List.not_mem_nil, or_false] at hn
    rcases hn with rfl | rfl
    · exact HFL.out.1
    · exact HFL.out.2)
  clear c0 c1 hs1 b1 hbn HR2 HK HB HK0 HK1
  go_wp2
  go_loopw [3, 4] (fun b i wr => ∃ (k : Nat) (A' : Option Addr) (c' : Nat) (y : List UInt8), k ≤ 2 ∧ i = .int .i64 k ∧ b = .slice A' y.length c' ∧ y.length ≤ 20 + k * 40 ∧ Hid (y = headT ⟨f, clip, K0, K1, gs⟩ k) ∧ Hid (SL wr A' c' y) ∧ Hid (Blk wr w.heap.size 27 cv.toArray) ∧ Hid (wr.rangeAt w.heap.size 2 K0.cs) ∧ Hid (wr.rangeAt w.heap.size 6 K1.cs) ∧ Hid (Bl w wr)) (fun _ i _ => 2 - (intOf i).toNat)
  case atStart => exact ⟨0, A1, cc1, _, Nat.zero_le _, rfl, rfl, by omega, Lib.hid rfl, HS1, HKc, HL0, HL1, HB1⟩
  case round =>
    clear HS1 HKc HB1 HL0 HL1 hl1
    obtain ⟨k, A', c', y, hk, rfl, rfl, hyl, HY, HS, HK, HR0, HR1, HB⟩ := hrel
    have hk3 : k = 0 ∨ k = 1 ∨ k = 2 := by omega
    rcases hk3 with rfl | rfl | rfl
    · have hz := zero_k
      obtain ⟨hk1, hb1⟩ := keep_copied wr K0.cs
      have c_0 := (hk1.cell 0).trans (show _ = some (Value.int .i64  K0.kind) from rfl)
      have c_1 := (hk1.cell 1).trans (show _ = some (Value.int .i64  K0.size) from rfl)
      have c_2 := (hk1.cell 2).trans (show _ = some (Value.int .i64  K0.small) from rfl)
      have c_3 := (hk1.cell 3).trans (show _ = some (Value.int .i64  K0.out) from rfl)
      have HZ := Lib.hid (Blk.new wr 23 zk.toArray)
      have HO : Hid ((K0.cs).toArray.all (·.oneCell') = true) := Lib.hid (by simp [KeepP.cs, Value.oneCell'])
      have HB1 := Lib.hid (HB.out.trans hb1)
      have HK1 := Lib.hid (HK.out.below hb1 HK.out.lt)
      have HM0 := Lib.hid (rangeAt_step HR0.out HK.out.lt hb1)
      have HM1 := Lib.hid (rangeAt_step HR1.out HK.out.lt hb1)
      have HS1 := Lib.hid (HS.out.step hb1)
      clear hb1 hk1 HB HK HS
      go_wp2_with (first
        | (refine wpList_load_mid rfl 23 (.tmp 19) rfl w.heap.size 2 rfl (K0.cs) _ HR0.out Try.underlying23 rfl k_size ?_)
        | (refine wpList_store_row rfl 23 (.tmp 5) (.tmp 20) rfl wr.heap.size (K0.cs).toArray rfl rfl 23 zk.toArray HZ.out k_size rfl HO.out ?_; generalize ((wr.alloc (.cells zk.toArray 23)).setRow wr.heap.size (K0.cs).toArray) = W1 at *)
        | fail)
      clear hz HZ HO c_0 c_1 c_2 c_3 HR0 HR1
      have hb2 := Bl.alloc W1 (.cells #[.int .i64 K0.kind, .int .i64 K0.size, .int .i64 K0.small, .int .i64 K0.out] 2)
      refine (ints_any (HS1.out.step hb2) (by omega) 4 [K0.kind, K0.size, K0.small, K0.out] (RV.new _ _ _ _ rfl) (keepNs_ok HX.out.ok.2.2.1) (by simp) (headT ⟨f, clip, K0, K1, gs⟩ 1) (by rw [HY.out]; simp [headT, keepNs])).mono ?_
      rintro e w2 ⟨A2, c2, rfl, hs2, b2⟩
      have HS2 := Lib.hid hs2
      have hbb := hb2.trans b2
      have HB2 := Lib.hid (HB1.out.trans hbb)
      have HK2 := Lib.hid (HK1.out.below hbb HK1.out.lt)
      have HN0 := Lib.hid (rangeAt_step HM0.out HK1.out.lt hbb)
      have HN1 := Lib.hid (rangeAt_step HM1.out HK1.out.lt hbb)
      have hle : (headT ⟨f, clip, K0, K1, gs⟩ 1).length ≤ 20 + 1 * 40 := by
        have h1 := encNs_le (keepNs_ok HX.out.ok.2.2.1)
        have h2 := congrArg List.length HY.out
        have e1 : (keepNs K0).length = 4 := rfl
        simp only [headT, List.length_append] at h1 h2 ⊢
        omega
      have HLE := Lib.hid hle
      clear hs2 b2 hb2 hbb HS1 HB1 HK1 HM0 HM1 HY hle
      go_wp2
      go_roundw
      case rel => exact ⟨1, A2, c2, _, by omega, by go_num, rfl, HLE.out, Lib.hid rfl, HS2, HK2, HN0, HN1, HB2⟩
      case measure => simp [intOf]
    · have hz := zero_k
      obtain ⟨hk1, hb1⟩ := keep_copied wr K1.cs
      have c_0 := (hk1.cell 0).trans (show _ = some (Value.int .i64  K1.kind) from rfl)
      have c_1 := (hk1.cell 1).trans (show _ = some (Value.int .i64  K1.size) from rfl)
      have c_2 := (hk1.cell 2).trans (show _ = some (Value.int .i64  K1.small) from rfl)
      have c_3 := (hk1.cell 3).trans (show _ = some (Value.int .i64  K1.out) from rfl)
      have HZ := Lib.hid (Blk.new wr 23 zk.toArray)
      have HO : Hid ((K1.cs).toArray.all (·.oneCell') = true) := Lib.hid (by simp [KeepP.cs, Value.oneCell'])
      have HB1 := Lib.hid (HB.out.trans hb1)
      have HK1 := Lib.hid (HK.out.below hb1 HK.out.lt)
      have HM0 := Lib.hid (rangeAt_step HR0.out HK.out.lt hb1)
      have HM1 := Lib.hid (rangeAt_step HR1.out HK.out.lt hb1)
      have HS1 := Lib.hid (HS.out.step hb1)
      clear hb1 hk1 HB HK HS
      go_wp2_with (first
        | (refine wpList_load_mid rfl 23 (.tmp 19) rfl w.heap.size 6 rfl (K1.cs) _ HR1.out Try.underlying23 rfl k_size ?_)
        | (refine wpList_store_row rfl 23 (.tmp 5) (.tmp 20) rfl wr.heap.size (K1.cs).toArray rfl rfl 23 zk.toArray HZ.out k_size rfl HO.out ?_; generalize ((wr.alloc (.cells zk.toArray 23)).setRow wr.heap.size (K1.cs).toArray) = W1 at *)
        | fail)
      clear hz HZ HO c_0 c_1 c_2 c_3 HR0 HR1
      have hb2 := Bl.alloc W1 (.cells #[.int .i64 K1.kind, .int .i64 K1.size, .int .i64 K1.small, .int .i64 K1.out] 2)
      refine (ints_any (HS1.out.step hb2) (by omega) 4 [K1.kind, K1.size, K1.small, K1.out] (RV.new _ _ _ _ rfl) (keepNs_ok HX.out.ok.2.2.2.1) (by simp) (headT ⟨f, clip, K0, K1, gs⟩ 2) (by rw [HY.out]; simp [headT, keepNs])).mono ?_
      rintro e w2 ⟨A2, c2, rfl, hs2, b2⟩
      have HS2 := Lib.hid hs2
      have hbb := hb2.trans b2
      have HB2 := Lib.hid (HB1.out.trans hbb)
      have HK2 := Lib.hid (HK1.out.below hbb HK1.out.lt)
      have HN0 := Lib.hid (rangeAt_step HM0.out HK1.out.lt hbb)
      have HN1 := Lib.hid (rangeAt_step HM1.out HK1.out.lt hbb)
      have hle : (headT ⟨f, clip, K0, K1, gs⟩ 2).length ≤ 20 + 2 * 40 := by
        have h1 := encNs_le (keepNs_ok HX.out.ok.2.2.2.1)
        have h2 := congrArg List.length HY.out
        have e1 : (keepNs K1).length = 4 := rfl
        simp only [headT, List.length_append] at h1 h2 ⊢
        omega
      have HLE := Lib.hid hle
      clear hs2 b2 hb2 hbb HS1 HB1 HK1 HM0 HM1 HY hle
      go_wp2
      go_roundw
      case rel => exact ⟨2, A2, c2, _, by omega, by go_num, rfl, HLE.out, Lib.hid rfl, HS2, HK2, HN0, HN1, HB2⟩
      case measure => simp [intOf]
    · have d10 := HK.out.cell 10
      rw [List.getElem?_toArray, N10.out] at d10
      clear HR0 HR1
      go_wp2_with fail
      have hb2 := Bl.alloc wr (.cells #[.int .i64 (gs.length : Nat)] 2)
      refine (ints_any (HS.out.step hb2) (by omega) 1 [(gs.length : Nat)] (RV.new _ _ _ _ rfl) (by
        intro y hy
        simp only [List.mem_cons, List.not_mem_nil, or_false] at hy
        subst hy
        exact nat_ok (by omega)) (by simp) (headE ⟨f, clip, K0, K1, gs⟩) (by rw [← headT_end, HY.out])).mono ?_
      rintro e w2 ⟨A2, c2, rfl, hs2, b2⟩
      have HB2 := Lib.hid ((HB.out.trans hb2).trans b2)
      have HK2 := Lib.hid ((HK.out.below hb2 HK.out.lt).below b2 (Nat.lt_of_lt_of_le HK.out.lt hb2.size))
      have HS2 : Hid (SL w2 A2 c2 (headE ⟨f, clip, K0, K1, gs⟩ ++ groupsE (gs.take 0))) := Lib.hid (by simpa [groupsE] using hs2)
      have HL2 : Hid ((headE ⟨f, clip, K0, K1, gs⟩ ++ groupsE (gs.take 0)).length ≤ 110 + 0 * 1000) := Lib.hid (by simpa [groupsE] using headE_le HX.out.ok hl10)
      have HE2 : Hid (∀ (A2 : Option Addr) (c2 : Nat), Value.slice A2 (headE ⟨f, clip, K0, K1, gs⟩).length c2 = .slice A2 (headE ⟨f, clip, K0, K1, gs⟩ ++ groupsE (gs.take 0)).length c2) := Lib.hid (fun _ _ => by simp [groupsE])
      clear hs2 b2 hb2 HS HB HK HY hyl d10
      go_wp2
      go_loopw [3, 6] (fun b i wr => ∃ (k : Nat) (A' : Option Addr) (c' : Nat) (y : List UInt8), k ≤ gs.length ∧ i = .int .i64 k ∧ b = .slice A' y.length c' ∧ y.length ≤ 110 + k * 1000 ∧ Hid (y = headE ⟨f, clip, K0, K1, gs⟩ ++ groupsE (gs.take k)) ∧ Hid (SL wr A' c' y) ∧ Hid (Blk wr w.heap.size 27 cv.toArray) ∧ Hid (Bl w wr)) (fun _ i _ => gs.length - (intOf i).toNat)
      case atStart => exact ⟨0, A2, c2, _, Nat.zero_le _, rfl, HE2.out _ _, HL2.out, Lib.hid rfl, HS2, HK2, HB2⟩
      case round =>
        clear HS2 HB2 HK2 HL2 HE2
        obtain ⟨k, A', c', y, hk, rfl, rfl, hyl, HY, HS, HK, HB⟩ := hrel
        have d10 := HK.out.cell 10
        rw [List.getElem?_toArray, N10.out] at d10
        by_cases hlt : k < gs.length
        · obtain ⟨g, o, P, d, rfl, hs, hc, hp, hcap⟩ := (show Groups wr A gs from HX.out.gs.step HB.out).at_ hlt
          have hgok := HX.out.ok.2.2.2.2.1 _ (List.getElem_mem hlt)
          have hgf := (few_parts HF.out).2 _ (List.getElem_mem hlt)
          replace hgok : (gs[k]).ok := hgok
          replace hgf : fewG (gs[k]) := hgf
          have HTK := Lib.hid (groupsE_take gs k hlt)
          generalize gs[k] = x at hc hp hcap hgok hgf HTK
          obtain ⟨z, hz⟩ : ∃ z, z = y ++ groupE x := ⟨_, rfl⟩
          have HZ : Hid (z = headE ⟨f, clip, K0, K1, gs⟩ ++ groupsE (gs.take (k + 1))) := Lib.hid (by rw [hz, HY.out, HTK.out, List.append_assoc])
          have hzl : z.length ≤ 110 + (k + 1) * 1000 := by
            have := groupE_le hgok hgf
            rw [hz, List.length_append]; omega
          have HG := Lib.hid (rgroup_any HS.out (by omega) x P d hp hgok hgf z hz)
          obtain ⟨us, hus⟩ : ∃ us, us = x.cs P d := ⟨_, rfl⟩
          have hlen : us.length = 23 := by rw [hus]; rfl
          rw [← hus] at hc HG
          have HRg := Lib.hid hc
          have HL := Lib.hid hlen
          clear hp hc hus hlen hz hgok hgf HTK HY
          go_wp2_with (first
            | (refine wpList_load_mid rfl 54 (.tmp 49) rfl g (o + k * 23) rfl us _ HRg.out Try.underlying54 rfl (by rw [HL.out]; exact g_size) ?_)
            | fail)
          refine HG.out.mono ?_
          rintro e w6 ⟨A6, c6, rfl, hs6, b6⟩
          have HS6 := Lib.hid hs6
          have HB6 := Lib.hid (HB.out.trans b6)
          have HK6 := Lib.hid (HK.out.below b6 HK.out.lt)
          clear hs6 b6 HS HB HK HG HRg HL d10
          go_wp2
          go_roundw
          case rel => exact ⟨k + 1, A6, c6, z, by omega, by go_num, rfl, hzl, HZ, HS6, HK6, HB6⟩
          case measure => simp [intOf]; omega
        · have HO : Hid (GivesB w t (.returned (.slice A' y.length c')) wr) := Lib.hid (by
            have e : y = t := by rw [HT.out, HY.out, List.take_of_length_le (by omega)]; rfl
            rw [e] at HS ⊢
            exact ⟨A', c', rfl, HS.out, HB.out⟩)
          clear HS HY HB HK
          go_wp2
          go_ret
          exact HO.out

set_option maxRecDepth 100000 in
set_option maxHeartbeats 1000000 in
theorem digest_any {w : World} {A : Option Addr} {c : Nat} {x : ConfP} (h : CF w A c x) (hf : fewC x = true) (n : Nat) (hn : n = crcOf (confE x)) :
    Calls Try.prog 19 #[x.v A c] w fun e w' => e = .returned (.int .u32 n) ∧ Bl w w' := by
  obtain ⟨cv, hcv⟩ : ∃ cv, cv = x.cs A c := ⟨_, rfl⟩
  have hcl : cv.length = 11 := by rw [hcv]; rfl
  have HV : Hid (x.v A c = .agg cv.toArray) := Lib.hid (by rw [hcv]; rfl)
  have hb := Bl.alloc w (.cells cv.toArray 27)
  have HRg := Lib.hid (Blk.new w 27 cv.toArray).rangeL
  have HBy := Lib.hid (bytes_any (h.step hb) hf)
  rw [HV.out] at HBy ⊢
  have HN := Lib.hid hn
  have HL : Hid ((confE x).length ≤ 20000) := Lib.hid (confE_le h.ok hf)
  have HB := Lib.hid hb
  have HCL := Lib.hid hcl
  clear hcv hcl hb hn h hf
  go_enter Try.func19, Try.ntmps19
  go_wp2_with (first
    | (refine wpList_load_mid rfl 27 (.tmp 1) rfl w.heap.size 0 rfl cv _ HRg.out Try.underlying27 rfl (by rw [HCL.out]; exact c_size) ?_)
    | fail)
  refine HBy.out.mono ?_
  rintro e w1 ⟨A1, c1, rfl, hs1, b1⟩
  have HS1 := Lib.hid hs1
  have HB1 := Lib.hid (HB.out.trans b1)
  clear hs1 b1 HBy HRg HB
  go_wp2_with fail
  refine (of_sl HS1.out n HN.out (by have := HL.out; omega)).mono ?_
  rintro e w2 ⟨rfl, b2⟩
  have HB2 := Lib.hid (HB1.out.trans b2)
  clear b2
  go_wp2
  go_ret
  exact ⟨rfl, HB2.out⟩

set_option maxRecDepth 100000 in
set_option maxHeartbeats 1000000 in
theorem rdigest_any {w : World} {A : Option Addr} {c : Nat} {x : ConfP} (h : CF w A c x) (hf : fewC x = true) (n : Nat) (hn : n = crcOf (confE x)) :
    Calls Try.prog 20 #[x.v A c] w fun e w' => e = .returned (.int .u32 n) ∧ Bl w w' := by
  obtain ⟨cv, hcv⟩ : ∃ cv, cv = x.cs A c := ⟨_, rfl⟩
  have hcl : cv.length = 11 := by rw [hcv]; rfl
  have HV : Hid (x.v A c = .agg cv.toArray) := Lib.hid (by rw [hcv]; rfl)
  have hb := Bl.alloc w (.cells cv.toArray 27)
  have HRg := Lib.hid (Blk.new w 27 cv.toArray).rangeL
  have HBy := Lib.hid (rbytes_any (h.step hb) hf)
  rw [HV.out] at HBy ⊢
  have HN := Lib.hid hn
  have HL : Hid ((confE x).length ≤ 20000) := Lib.hid (confE_le h.ok hf)
  have HB := Lib.hid hb
  have HCL := Lib.hid hcl
  clear hcv hcl hb hn h hf
  go_enter Try.func20, Try.ntmps20
  go_wp2_with (first
    | (refine wpList_load_mid rfl 27 (.tmp 1) rfl w.heap.size 0 rfl cv _ HRg.out Try.underlying27 rfl (by rw [HCL.out]; exact c_size) ?_)
    | fail)
  refine HBy.out.mono ?_
  rintro e w1 ⟨A1, c1, rfl, hs1, b1⟩
  have HS1 := Lib.hid hs1
  have HB1 := Lib.hid (HB.out.trans b1)
  clear hs1 b1 HBy HRg HB
  go_wp2_with fail
  refine (rof_sl HS1.out n HN.out (by have := HL.out; omega)).mono ?_
  rintro e w2 ⟨rfl, b2⟩
  have HB2 := Lib.hid (b2 ▸ HB1.out)
  clear b2
  go_wp2
  go_ret
  exact ⟨rfl, HB2.out⟩

end Go.Proofs.Ytigicphmnlkjfaa
