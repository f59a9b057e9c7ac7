/- The contract of conf.Bytes. (Printed by wip/gen_bytes.py.) -/
import Derived.Test.YtigicphmnlkjfaaBytesPlain
import Derived.Test.YtigicphmnlkjfaaSplitC
namespace Go.Proofs.Ytigicphmnlkjfaa
open Go.RowKit
set_option linter.unusedVariables false
set_option linter.unusedSimpArgs false

def headT (x : ConfP) : Nat → List UInt8
  | 0 => encNs [x.f, x.clip]
  | 1 => encNs [x.f, x.clip] ++ encNs (keepNs x.k0)
  | _ => encNs [x.f, x.clip] ++ encNs (keepNs x.k0) ++ encNs (keepNs x.k1)
theorem headT_end (x : ConfP) : headT x 2 ++ encNs [(x.groups.length : Int)] = headE x := by simp [headT, headE, List.append_assoc]
theorem ok_its {its : List It} {ns : List Int} (h : ∀ n ∈ ns, I64 n) (hi : ∀ y ∈ its, (∃ n, n ∈ ns ∧ (y = .int n ∨ y = .i64 n)) ∨ ∃ b, y = .flag b) : ∀ y ∈ its, y.ok := fun y hy => by
  rcases hi y hy with ⟨n, hn, rfl | rfl⟩ | ⟨b, rfl⟩
  · exact h n hn
  · exact h n hn
  · trivial
theorem ok_opt {o : OptP} (h : o.ok) : ∀ y ∈ ([.int o.kind, .i64 o.ml, .i64 o.mm, .i64 o.mw, .flag o.nest, .i64 o.al, .i64 o.b1, .i64 o.b2, .i64 o.ae, .i64 o.aw, .flag o.apart, .i64 o.dl, .i64 o.de, .i64 o.dd] : List It), y.ok := ok_its (optNs_ok h) (by
  intro y hy
  simp only [List.mem_cons, List.not_mem_nil, or_false] at hy
  rcases hy with rfl | rfl | rfl | rfl | rfl | rfl | rfl | rfl | rfl | rfl | rfl | rfl | rfl | rfl <;> first | exact .inl ⟨_, by simp [optNs], .inl rfl⟩ | exact .inl ⟨_, by simp [optNs], .inr rfl⟩ | exact .inr ⟨_, rfl⟩)
theorem ok_sched {s : SchedP} (h : s.ok) (n : Nat) (hn : n ≤ 1000) : ∀ y ∈ ([.int s.skind, .i64 s.base, .i64 s.rate, .i64 s.fin, .int s.warm, .int s.every, .int s.last, .int s.pow, .int (n : Int)] : List It), y.ok := ok_its (ns := schedNs s ++ [(n : Int)]) (by
    intro m hm
    rcases List.mem_append.1 hm with hm | hm
    · exact schedNs_ok h m hm
    · simp at hm; subst hm; exact nat_ok hn) (by
  intro y hy
  simp only [List.mem_cons, List.not_mem_nil, or_false] at hy
  rcases hy with rfl | rfl | rfl | rfl | rfl | rfl | rfl | rfl | rfl <;> first | exact .inl ⟨_, by simp [schedNs], .inl rfl⟩ | exact .inl ⟨_, by simp [schedNs], .inr rfl⟩)
theorem ok_keep {k : KeepP} (h : k.ok) : ∀ y ∈ ([.int k.kind, .int k.size, .int k.small, .i64 k.out] : List It), y.ok := ok_its (keepNs_ok h) (by
  intro y hy
  simp only [List.mem_cons, List.not_mem_nil, or_false] at hy
  rcases hy with rfl | rfl | rfl | rfl <;> first | exact .inl ⟨_, by simp [keepNs], .inl rfl⟩ | exact .inl ⟨_, by simp [keepNs], .inr rfl⟩)

set_option maxRecDepth 100000 in
set_option maxHeartbeats 4000000 in
theorem bytes_any {w : World} {A : Option Addr} {c : Nat} {x : ConfP} (h : CF w A c x) (hf : fewC x = true) :
    Calls Try.prog 17 #[x.v A c] w (GivesB w (confE x)) := by
  obtain ⟨t, ht⟩ : ∃ t, t = confE x := ⟨_, rfl⟩
  rw [← ht]
  have HT := Lib.hid ht
  have HX := Lib.hid h
  have HF := Lib.hid hf
  have hl10 : x.groups.length ≤ 10 := by
    have := hf
    simp only [fewC, decide_eq_true_eq] at this
    exact this.1
  obtain ⟨cv, hcv⟩ : ∃ cv, cv = x.cs A c := ⟨_, rfl⟩
  have hcl : cv.length = 11 := by rw [hcv]; rfl
  have HV : Hid (x.v A c = .agg cv.toArray) := Lib.hid (by rw [hcv]; rfl)
  rw [HV.out]
  have hk := Blk.new w 27 cv.toArray
  have HK := Lib.hid hk
  have hb := Bl.alloc w (.cells cv.toArray 27)
  have HB := Lib.hid hb
  have n0 : cv[0]? = some (.int .i64 x.f) := by rw [hcv]; rfl
  have n1 : cv[1]? = some (.int .i64 x.clip) := by rw [hcv]; rfl
  have n10 : cv[10]? = some (.slice A x.groups.length c) := by rw [hcv]; rfl
  have c0 := hk.cell 0; have c1 := hk.cell 1
  rw [List.getElem?_toArray] at c0 c1
  rw [n0] at c0
  rw [n1] at c1
  have N0 := Lib.hid n0; have N10 := Lib.hid n10
  have hr2 : ∀ (j : Nat) (v : Value), (x.k0.cs ++ x.k1.cs)[j]? = some v → cv[2 + j]? = some v := fun j v hv => by
    have hj : j < 8 := (List.getElem?_eq_some_iff.1 hv).1
    rw [hcv, ConfP.cs, show 2 + j = j + 1 + 1 by omega, List.getElem?_cons_succ, List.getElem?_cons_succ, ← List.append_assoc, List.getElem?_append_left (by show j < 8; exact hj)]
    exact hv
  have HR2 : Hid ((w.alloc (.cells cv.toArray 27)).rangeAt w.heap.size 2 (x.k0.cs ++ x.k1.cs)) := Lib.hid fun j v hv => by
    rw [hk.cell, List.getElem?_toArray]; exact hr2 j v hv
  have HCV := Lib.hid hcv
  have HCL := Lib.hid hcl
  clear hcv ht h hf hk hb n0 n1 n10 hr2 hcl
  obtain ⟨f, clip, K0, K1, gs⟩ := x
  simp only at hl10 c0 c1 N0 N10 HR2
  have hfl : I64 f ∧ I64 clip := ⟨HX.out.ok.1, HX.out.ok.2.1⟩
  have HFL := Lib.hid hfl
  clear hfl
  go_enter Try.func17, Try.ntmps17
  have hrv := RV.new (w.alloc (.cells cv.toArray 27)) 20 [.iface 3 (.int .i64 f), .iface 2 (.int .i64 clip)] _ rfl
  rw [show (w.alloc (.cells cv.toArray 27)).heap.size = w.heap.size + 1 from by simp] at hrv
  have HRV := Lib.hid hrv
  clear hrv
  go_wp2_with fail
  refine (laid_any (SL.nil_ _) (by simp) 2 [.int f, .i64 clip] HRV.out (by
    intro y hy
    simp only [List.mem_cons, List.not_mem_nil, or_false] at hy
    rcases hy with rfl | rfl
    · exact HFL.out.1
    · exact HFL.out.2) (by simp) (headT ⟨f, clip, K0, K1, gs⟩ 0) (by simp [headT, encIts, encNs, It.enc, optNs, schedNs, keepNs, flagN, prmE])).mono ?_
  rintro e w1 ⟨A1, cc1, rfl, hs1, b1⟩
  have hbn := (Bl.alloc (w.alloc (.cells cv.toArray 27)) (.cells #[.iface 3 (.int .i64 f), .iface 2 (.int .i64 clip)] 20)).trans b1
  have HB1 := Lib.hid (HB.out.trans hbn)
  have HK1 := Lib.hid (HK.out.below hbn HK.out.lt)
  have HR1 := Lib.hid (rangeAt_step HR2.out HK.out.lt hbn)
  have HS1 := Lib.hid hs1
  have hl1 : (headT ⟨f, clip, K0, K1, gs⟩ 0).length ≤ 20 := encNs_le (l := [f, clip]) (by
    intro n hn
    simp only [List.mem_cons, List.not_mem_nil, or_false] at hn
    rcases hn with rfl | rfl
    · exact HFL.out.1
    · exact HFL.out.2)
  clear c0 c1 hs1 b1 hbn HR2 HK HB
  go_wp2_with (first
    | (refine wpList_load_mid rfl 24 (.tmp 22) rfl w.heap.size 2 rfl (K0.cs ++ K1.cs) _ HR1.out Try.underlying24 rfl kk_size ?_)
    | fail)
  have ix0 := idx0 K0 K1
  have ix1 := idx1 K0 K1
  go_loopw [3, 24] (fun b i wr => ∃ (k : Nat) (A' : Option Addr) (c' : Nat) (y : List UInt8), k ≤ 2 ∧ i = .int .i64 k ∧ b = .slice A' y.length c' ∧ y.length ≤ 20 + k * 40 ∧ Hid (y = headT ⟨f, clip, K0, K1, gs⟩ k) ∧ Hid (SL wr A' c' y) ∧ Hid (Blk wr w.heap.size 27 cv.toArray) ∧ Hid (Bl w wr)) (fun _ i _ => 2 - (intOf i).toNat)
  case atStart => exact ⟨0, A1, cc1, _, Nat.zero_le _, rfl, rfl, by omega, Lib.hid rfl, HS1, HK1, HB1⟩
  case round =>
    clear HS1 HK1 HB1 HR1 hl1
    obtain ⟨k, A', c', y, hk, rfl, rfl, hyl, HY, HS, HK, HB⟩ := hrel
    have hz := zero_k
    have hk3 : k = 0 ∨ k = 1 ∨ k = 2 := by omega
    rcases hk3 with rfl | rfl | rfl
    · obtain ⟨hk1, hb1⟩ := keep_copied wr K0.cs
      have c_0 := (hk1.cell 0).trans (show _ = some (Value.int .i64  K0.kind) from rfl)
      have c_1 := (hk1.cell 1).trans (show _ = some (Value.int .i64  K0.size) from rfl)
      have c_2 := (hk1.cell 2).trans (show _ = some (Value.int .i64  K0.small) from rfl)
      have c_3 := (hk1.cell 3).trans (show _ = some (Value.int .i64  K0.out) from rfl)
      have HZ := Lib.hid (Blk.new wr 23 zk.toArray)
      have HO : Hid ((K0.cs).toArray.all (·.oneCell') = true) := Lib.hid (by simp [KeepP.cs, Value.oneCell'])
      have HB1 := Lib.hid (HB.out.trans hb1)
      have HK1 := Lib.hid (HK.out.below hb1 HK.out.lt)
      have HS1 := Lib.hid (HS.out.step hb1)
      clear hb1 hk1 HB HK HS
      go_wp2_with (first
        | (refine wpList_store_row rfl 23 (.tmp 5) (.tmp 26) rfl wr.heap.size (K0.cs).toArray rfl rfl 23 zk.toArray HZ.out k_size rfl HO.out ?_; generalize ((wr.alloc (.cells zk.toArray 23)).setRow wr.heap.size (K0.cs).toArray) = W1 at *)
        | fail)
      clear ix0 ix1 hz HZ HO c_0 c_1 c_2 c_3
      have hb2 := Bl.alloc W1 (.cells #[.iface 3 (.int .i64 K0.kind), .iface 3 (.int .i64 K0.size), .iface 3 (.int .i64 K0.small), .iface 2 (.int .i64 K0.out)] 20)
      refine (laid_any (HS1.out.step hb2) (by omega) 4 [.int K0.kind, .int K0.size, .int K0.small, .i64 K0.out] (RV.new _ _ _ _ rfl) (ok_keep HX.out.ok.2.2.1) (by simp) (headT ⟨f, clip, K0, K1, gs⟩ 1) (by rw [HY.out]; simp [headT, encIts, encNs, It.enc, keepNs])).mono ?_
      rintro e w2 ⟨A2, c2, rfl, hs2, b2⟩
      have HS2 := Lib.hid hs2
      have HB2 := Lib.hid ((HB1.out.trans hb2).trans b2)
      have HK2 := Lib.hid ((HK1.out.below hb2 HK1.out.lt).below b2 (Nat.lt_of_lt_of_le HK1.out.lt hb2.size))
      have hle : (headT ⟨f, clip, K0, K1, gs⟩ 1).length ≤ 20 + 1 * 40 := by
        have h1 := encNs_le (keepNs_ok HX.out.ok.2.2.1)
        have h2 := congrArg List.length HY.out
        have e1 : (keepNs K0).length = 4 := rfl
        simp only [headT, List.length_append] at h1 h2 ⊢
        omega
      have HLE := Lib.hid hle
      clear hs2 b2 hb2 HS1 HB1 HK1 HY hle
      go_wp2
      go_roundw
      case rel => exact ⟨1, A2, c2, _, by omega, by go_num, rfl, HLE.out, Lib.hid rfl, HS2, HK2, HB2⟩
      case measure => simp [intOf]
    · obtain ⟨hk1, hb1⟩ := keep_copied wr K1.cs
      have c_0 := (hk1.cell 0).trans (show _ = some (Value.int .i64  K1.kind) from rfl)
      have c_1 := (hk1.cell 1).trans (show _ = some (Value.int .i64  K1.size) from rfl)
      have c_2 := (hk1.cell 2).trans (show _ = some (Value.int .i64  K1.small) from rfl)
      have c_3 := (hk1.cell 3).trans (show _ = some (Value.int .i64  K1.out) from rfl)
      have HZ := Lib.hid (Blk.new wr 23 zk.toArray)
      have HO : Hid ((K1.cs).toArray.all (·.oneCell') = true) := Lib.hid (by simp [KeepP.cs, Value.oneCell'])
      have HB1 := Lib.hid (HB.out.trans hb1)
      have HK1 := Lib.hid (HK.out.below hb1 HK.out.lt)
      have HS1 := Lib.hid (HS.out.step hb1)
      clear hb1 hk1 HB HK HS
      go_wp2_with (first
        | (refine wpList_store_row rfl 23 (.tmp 5) (.tmp 26) rfl wr.heap.size (K1.cs).toArray rfl rfl 23 zk.toArray HZ.out k_size rfl HO.out ?_; generalize ((wr.alloc (.cells zk.toArray 23)).setRow wr.heap.size (K1.cs).toArray) = W1 at *)
        | fail)
      clear ix0 ix1 hz HZ HO c_0 c_1 c_2 c_3
      have hb2 := Bl.alloc W1 (.cells #[.iface 3 (.int .i64 K1.kind), .iface 3 (.int .i64 K1.size), .iface 3 (.int .i64 K1.small), .iface 2 (.int .i64 K1.out)] 20)
      refine (laid_any (HS1.out.step hb2) (by omega) 4 [.int K1.kind, .int K1.size, .int K1.small, .i64 K1.out] (RV.new _ _ _ _ rfl) (ok_keep HX.out.ok.2.2.2.1) (by simp) (headT ⟨f, clip, K0, K1, gs⟩ 2) (by rw [HY.out]; simp [headT, encIts, encNs, It.enc, keepNs])).mono ?_
      rintro e w2 ⟨A2, c2, rfl, hs2, b2⟩
      have HS2 := Lib.hid hs2
      have HB2 := Lib.hid ((HB1.out.trans hb2).trans b2)
      have HK2 := Lib.hid ((HK1.out.below hb2 HK1.out.lt).below b2 (Nat.lt_of_lt_of_le HK1.out.lt hb2.size))
      have hle : (headT ⟨f, clip, K0, K1, gs⟩ 2).length ≤ 20 + 2 * 40 := by
        have h1 := encNs_le (keepNs_ok HX.out.ok.2.2.2.1)
        have h2 := congrArg List.length HY.out
        have e1 : (keepNs K1).length = 4 := rfl
        simp only [headT, List.length_append] at h1 h2 ⊢
        omega
      have HLE := Lib.hid hle
      clear hs2 b2 hb2 HS1 HB1 HK1 HY hle
      go_wp2
      go_roundw
      case rel => exact ⟨2, A2, c2, _, by omega, by go_num, rfl, HLE.out, Lib.hid rfl, HS2, HK2, HB2⟩
      case measure => simp [intOf]
    · have d10 := HK.out.cell 10
      rw [List.getElem?_toArray, N10.out] at d10
      clear ix0 ix1 hz
      go_wp2_with fail
      have hb2 := Bl.alloc wr (.cells #[.iface 3 (.int .i64 (gs.length : Nat))] 20)
      refine (laid_any (HS.out.step hb2) (by omega) 1 [.int (gs.length : Nat)] (RV.new _ _ _ _ rfl) (by
        intro y hy
        simp only [List.mem_cons, List.not_mem_nil, or_false] at hy
        subst hy
        exact nat_ok (by omega)) (by simp) (headE ⟨f, clip, K0, K1, gs⟩) (by rw [← headT_end, HY.out]; simp [encIts, encNs, It.enc])).mono ?_
      rintro e w2 ⟨A2, c2, rfl, hs2, b2⟩
      have HB2 := Lib.hid ((HB.out.trans hb2).trans b2)
      have HK2 := Lib.hid ((HK.out.below hb2 HK.out.lt).below b2 (Nat.lt_of_lt_of_le HK.out.lt hb2.size))
      have HS2 : Hid (SL w2 A2 c2 (headE ⟨f, clip, K0, K1, gs⟩ ++ groupsE (gs.take 0))) := Lib.hid (by simpa [groupsE] using hs2)
      have HL2 : Hid ((headE ⟨f, clip, K0, K1, gs⟩ ++ groupsE (gs.take 0)).length ≤ 110 + 0 * 1000) := Lib.hid (by simpa [groupsE] using headE_le HX.out.ok hl10)
      have HE2 : Hid (∀ (A2 : Option Addr) (c2 : Nat), Value.slice A2 (headE ⟨f, clip, K0, K1, gs⟩).length c2 = .slice A2 (headE ⟨f, clip, K0, K1, gs⟩ ++ groupsE (gs.take 0)).length c2) := Lib.hid (fun _ _ => by simp [groupsE])
      have e10 := HK2.out.cell 10
      rw [List.getElem?_toArray, N10.out] at e10
      clear hs2 b2 hb2 HS HB HK HY hyl d10
      go_wp2
      clear e10
      go_loopw [3, 53] (fun b i wr => ∃ (k : Nat) (A' : Option Addr) (c' : Nat) (y : List UInt8), k ≤ gs.length ∧ i = .int .i64 k ∧ b = .slice A' y.length c' ∧ y.length ≤ 110 + k * 1000 ∧ Hid (y = headE ⟨f, clip, K0, K1, gs⟩ ++ groupsE (gs.take k)) ∧ Hid (SL wr A' c' y) ∧ Hid (Bl w wr)) (fun _ i _ => gs.length - (intOf i).toNat)
      case atStart => exact ⟨0, A2, c2, _, Nat.zero_le _, rfl, HE2.out _ _, HL2.out, Lib.hid rfl, HS2, HB2⟩
      case round =>
        clear HS2 HB2 HK2 HL2 HE2
        obtain ⟨k, A', c', y, hk, rfl, rfl, hyl, HY, HS, HB⟩ := hrel
        by_cases hlt : k < gs.length
        · obtain ⟨g, o, P, d, rfl, hs, hc, hp, hcap⟩ := (show Groups wr A gs from HX.out.gs.step HB.out).at_ hlt
          have hgok := HX.out.ok.2.2.2.2.1 _ (List.getElem_mem hlt)
          have hgf := (few_parts HF.out).2 _ (List.getElem_mem hlt)
          have HTK := Lib.hid (groupsE_take gs k hlt)
          replace hgok : (gs[k]).ok := hgok
          replace hgf : fewG (gs[k]) := hgf
          generalize gs[k] = x at hc hp hcap hgok hgf HTK
          have h10 := hgf.1
          obtain ⟨us, hus⟩ : ∃ us, us = x.cs P d := ⟨_, rfl⟩
          have hlen : us.length = 23 := by rw [hus]; rfl
          have h22 : us[22]? = some (.slice P x.params.length d) := by rw [hus]; rfl
          have h0 : us[0]? = some (.int .i64 x.opt.kind) := by rw [hus]; rfl
          have hone : us.toArray.all (·.oneCell') = true := by rw [hus]; exact GroupP.cs_one _ _ _
          rw [← hus] at hc
          obtain ⟨hk1, hb1⟩ := grp_copied wr us
          have hr := hk1.rangeL
          rw [hus] at hr
          have ho := range_opt hr
          have hs' := range_sched hr
          rw [← hus] at ho hs'
          have HM := Lib.hid (rangeAt_sub ho 1 4); have HA := Lib.hid (rangeAt_sub ho 5 6); have HD := Lib.hid (rangeAt_sub ho 11 3); have HSC := Lib.hid hs'
          have HRg := Lib.hid hc
          have HZ := Lib.hid (Blk.new wr 54 zg.toArray)
          have hz := zero_g
          have HL := Lib.hid hlen; have HO := Lib.hid hone
          have HB1 := Lib.hid (HB.out.trans hb1)
          have HK1 := Lib.hid hk1
          have HS1 := Lib.hid (HS.out.step hb1)
          have HP1 := Lib.hid (hp.step hb1)
          have H0 := Lib.hid h0; have H22 := Lib.hid h22
          clear hp hk1 hb1 hc hus hlen hone h22 h0 hr ho hs' HB HS hs
          go_wp2_with (first
            | (refine wpList_load_mid rfl 54 (.tmp 55) rfl g (o + k * 23) rfl us _ HRg.out Try.underlying54 rfl (by rw [HL.out]; exact g_size) ?_)
            | (refine wpList_store_row rfl 54 (.tmp 7) (.tmp 56) rfl wr.heap.size us.toArray rfl rfl 54 zg.toArray HZ.out (by simpa [HL.out] using g_size) (by simp [HL.out, zg]) HO.out ?_)
            | fail)
          clear HRg HZ hz HO HL
          generalize hbk : wr.heap.size = bk at *
          generalize ((wr.alloc (.cells zg.toArray 54)).setRow bk us.toArray) = W1 at *
          clear hbk
          simp only [Act.put]
          refine split_own W1 bk _ _ _ _ _ HK1.out.lt HM.out HA.out HD.out HSC.out rfl rfl rfl rfl (by simp [OptP.cs, Value.oneCell']) (by simp [OptP.cs, Value.oneCell']) (by simp [OptP.cs, Value.oneCell']) (by simp [SchedP.cs, Value.oneCell']) (fun b8 b9 b10 b11 W2 b2 k8 k9 k10 k11 => ?_)
          have HK2 := Lib.hid (HK1.out.below b2 HK1.out.lt)
          have HB2 := Lib.hid (HB1.out.trans b2)
          have HS2 := Lib.hid (HS1.out.step b2)
          have HP2 := Lib.hid (HP1.out.step b2)
          have m_0 := (k8.cell 0).trans (show _ = some (Value.int .i64  x.opt.ml) from rfl)
          have m_1 := (k8.cell 1).trans (show _ = some (Value.int .i64  x.opt.mm) from rfl)
          have m_2 := (k8.cell 2).trans (show _ = some (Value.int .i64  x.opt.mw) from rfl)
          have m_3 := (k8.cell 3).trans (show _ = some (Value.bool  x.opt.nest) from rfl)
          have a_0 := (k9.cell 0).trans (show _ = some (Value.int .i64  x.opt.al) from rfl)
          have a_1 := (k9.cell 1).trans (show _ = some (Value.int .i64  x.opt.b1) from rfl)
          have a_2 := (k9.cell 2).trans (show _ = some (Value.int .i64  x.opt.b2) from rfl)
          have a_3 := (k9.cell 3).trans (show _ = some (Value.int .i64  x.opt.ae) from rfl)
          have a_4 := (k9.cell 4).trans (show _ = some (Value.int .i64  x.opt.aw) from rfl)
          have a_5 := (k9.cell 5).trans (show _ = some (Value.bool  x.opt.apart) from rfl)
          have d_0 := (k10.cell 0).trans (show _ = some (Value.int .i64  x.opt.dl) from rfl)
          have d_1 := (k10.cell 1).trans (show _ = some (Value.int .i64  x.opt.de) from rfl)
          have d_2 := (k10.cell 2).trans (show _ = some (Value.int .i64  x.opt.dd) from rfl)
          have K11 := Lib.hid k11
          have g0 := HK2.out.cell 0
          rw [List.getElem?_toArray, H0.out] at g0
          clear b2 k8 k9 k10 k11 HK1 HB1 HS1 HP1 HM HA HD HSC
          dsimp only
          go_wp2_with fail
          have hb3 := Bl.alloc W2 (.cells #[.iface 3 (.int .i64 x.opt.kind), .iface 2 (.int .i64 x.opt.ml), .iface 2 (.int .i64 x.opt.mm), .iface 2 (.int .i64 x.opt.mw), .iface 4 (.bool x.opt.nest), .iface 2 (.int .i64 x.opt.al), .iface 2 (.int .i64 x.opt.b1), .iface 2 (.int .i64 x.opt.b2), .iface 2 (.int .i64 x.opt.ae), .iface 2 (.int .i64 x.opt.aw), .iface 4 (.bool x.opt.apart), .iface 2 (.int .i64 x.opt.dl), .iface 2 (.int .i64 x.opt.de), .iface 2 (.int .i64 x.opt.dd)] 20)
          refine (laid_any (HS2.out.step hb3) (by omega) 14 [.int x.opt.kind, .i64 x.opt.ml, .i64 x.opt.mm, .i64 x.opt.mw, .flag x.opt.nest, .i64 x.opt.al, .i64 x.opt.b1, .i64 x.opt.b2, .i64 x.opt.ae, .i64 x.opt.aw, .flag x.opt.apart, .i64 x.opt.dl, .i64 x.opt.de, .i64 x.opt.dd] (RV.new _ _ _ _ rfl) (ok_opt hgok.1) (by simp) (y ++ encNs (optNs x.opt)) (by simp [encIts, encNs, It.enc, optNs, schedNs, keepNs, flagN, prmE])).mono ?_
          rintro e w3 ⟨A3, c3, rfl, hs3, b3⟩
          obtain ⟨y3, hy3⟩ : ∃ y3, y3 = y ++ encNs (optNs x.opt) := ⟨_, rfl⟩
          have hy3l : y3.length ≤ y.length + 140 := by
            have h1 := encNs_le (optNs_ok hgok.1)
            have e1 : (optNs x.opt).length = 14 := rfl
            rw [hy3, List.length_append]
            omega
          rw [← hy3] at hs3 ⊢
          have HY3 := Lib.hid hy3
          have hbb := hb3.trans b3
          have HS3 := Lib.hid hs3
          have HB3 := Lib.hid (HB2.out.trans hbb)
          have HK3 := Lib.hid (HK2.out.below hbb HK2.out.lt)
          have HP3 := Lib.hid (HP2.out.step hbb)
          have k11' := K11.out.below hbb K11.out.lt
          have s_0 := (k11'.cell 0).trans (show _ = some (Value.int .i64  x.sched.skind) from rfl)
          have s_1 := (k11'.cell 1).trans (show _ = some (Value.int .i64  x.sched.base) from rfl)
          have s_2 := (k11'.cell 2).trans (show _ = some (Value.int .i64  x.sched.rate) from rfl)
          have s_3 := (k11'.cell 3).trans (show _ = some (Value.int .i64  x.sched.fin) from rfl)
          have s_4 := (k11'.cell 4).trans (show _ = some (Value.int .i64  x.sched.warm) from rfl)
          have s_5 := (k11'.cell 5).trans (show _ = some (Value.int .i64  x.sched.every) from rfl)
          have s_6 := (k11'.cell 6).trans (show _ = some (Value.int .i64  x.sched.last) from rfl)
          have s_7 := (k11'.cell 7).trans (show _ = some (Value.int .i64  x.sched.pow) from rfl)
          have g22 := HK3.out.cell 22
          rw [List.getElem?_toArray, H22.out] at g22
          clear hb3 b3 hbb hs3 hy3 k11' K11 HK2 HB2 HP2 HS2 g0 m_0 m_1 m_2 m_3 a_0 a_1 a_2 a_3 a_4 a_5 d_0 d_1 d_2
          go_wp2_with fail
          have hb4 := Bl.alloc w3 (.cells #[.iface 3 (.int .i64 x.sched.skind), .iface 2 (.int .i64 x.sched.base), .iface 2 (.int .i64 x.sched.rate), .iface 2 (.int .i64 x.sched.fin), .iface 3 (.int .i64 x.sched.warm), .iface 3 (.int .i64 x.sched.every), .iface 3 (.int .i64 x.sched.last), .iface 3 (.int .i64 x.sched.pow), .iface 3 (.int .i64 (x.params.length : Nat))] 20)
          refine (laid_any (HS3.out.step hb4) (by omega) 9 [.int x.sched.skind, .i64 x.sched.base, .i64 x.sched.rate, .i64 x.sched.fin, .int x.sched.warm, .int x.sched.every, .int x.sched.last, .int x.sched.pow, .int (x.params.length : Nat)] (RV.new _ _ _ _ rfl) (ok_sched hgok.2.1 _ (by omega)) (by simp) (y3 ++ encNs (schedNs x.sched ++ [(x.params.length : Int)])) (by simp [encIts, encNs, It.enc, optNs, schedNs, keepNs, flagN, prmE])).mono ?_
          rintro e w4 ⟨A4, c4, rfl, hs4, b4⟩
          obtain ⟨y4, hy4⟩ : ∃ y4, y4 = y3 ++ encNs (schedNs x.sched ++ [(x.params.length : Int)]) := ⟨_, rfl⟩
          have hy4l : y4.length ≤ y3.length + 90 := by
            have h1 := encNs_le (l := schedNs x.sched ++ [(x.params.length : Int)]) (by
              intro n hn
              rcases List.mem_append.1 hn with hn | hn
              · exact schedNs_ok hgok.2.1 n hn
              · simp at hn; subst hn; exact nat_ok (by omega))
            have e1 : (schedNs x.sched ++ [(x.params.length : Int)]).length = 9 := rfl
            rw [hy4, List.length_append]
            omega
          rw [← hy4] at hs4 ⊢
          have HY4 := Lib.hid hy4
          have hbb := hb4.trans b4
          have HS4 : Hid (SL w4 A4 c4 (y4 ++ prmsE (x.params.take 0))) := Lib.hid (by simpa [prmsE] using hs4)
          have HE4 : Hid (Value.slice A4 y4.length c4 = .slice A4 (y4 ++ prmsE (x.params.take 0)).length c4) := Lib.hid (by simp [prmsE])
          have HL4 : Hid ((y4 ++ prmsE (x.params.take 0)).length ≤ 340 + k * 1000 + 0 * 70) := Lib.hid (by simp [prmsE]; omega)
          have HB4 := Lib.hid (HB3.out.trans hbb)
          have HK4 := Lib.hid (HK3.out.below hbb HK3.out.lt)
          have HP4 := Lib.hid (HP3.out.step hbb)
          have e22 := HK4.out.cell 22
          rw [List.getElem?_toArray, H22.out] at e22
          clear hb4 b4 hbb hs4 hy4 HK3 HB3 HP3 HS3 g22 s_0 s_1 s_2 s_3 s_4 s_5 s_6 s_7
          go_wp2
          clear e22
          obtain ⟨ps, hps⟩ : ∃ ps, ps = x.params := ⟨_, rfl⟩
          have HPS := Lib.hid hps
          rw [← hps] at HP4 HS4 HE4 HL4 ⊢
          clear hps
          go_loopw [3, 148] (fun b i wr => ∃ (j : Nat) (A' : Option Addr) (c' : Nat) (z : List UInt8), j ≤ ps.length ∧ i = .int .i64 j ∧ b = .slice A' z.length c' ∧ z.length ≤ 340 + k * 1000 + j * 70 ∧ Hid (z = y4 ++ prmsE (ps.take j)) ∧ Hid (SL wr A' c' z) ∧ Hid (Bl w4 wr)) (fun _ i _ => ps.length - (intOf i).toNat)
          case atStart => exact ⟨0, A4, c4, _, Nat.zero_le _, rfl, HE4.out, HL4.out, Lib.hid rfl, HS4, Lib.hid (Bl.refl _)⟩
          case round =>
            clear HS4 HE4 HL4
            obtain ⟨j, A', c', z, hj, rfl, rfl, hzl, HZ, HS, HBj⟩ := hrel
            have hpl : ps.length ≤ 10 := by rw [HPS.out]; exact h10
            by_cases hjl : j < ps.length
            · obtain ⟨g2, o2, rfl, hrg⟩ := (HP4.out.step HBj.out).range hjl
              have hpok := hgok.2.2.1 ps[j] (by rw [← HPS.out]; exact List.getElem_mem hjl)
              have hp40 := hgf.2 ps[j] (by rw [← HPS.out]; exact List.getElem_mem hjl)
              have HTJ := Lib.hid (prmsE_take ps j hjl)
              generalize ps[j] = p at hrg hpok hp40 HTJ
              obtain ⟨nm, rows, cols⟩ := p
              obtain ⟨us2, hus2⟩ : ∃ us2, us2 = (ParamP.cs ⟨nm, rows, cols⟩) := ⟨_, rfl⟩
              have hlen : us2.length = 3 := by rw [hus2]; rfl
              have hone : us2.toArray.all (·.oneCell') = true := by rw [hus2]; simp [ParamP.cs, Value.oneCell']
              have h0 : us2[0]? = some (.string nm) := by rw [hus2]; rfl
              have h1 : us2[1]? = some (.int .i64 rows) := by rw [hus2]; rfl
              have h2 : us2[2]? = some (.int .i64 cols) := by rw [hus2]; rfl
              rw [← hus2] at hrg
              obtain ⟨hk1, hb1⟩ := prm_copied wr us2
              have p0 := hk1.cell 0; have p1 := hk1.cell 1; have p2 := hk1.cell 2
              rw [List.getElem?_toArray] at p0 p1 p2
              rw [h0] at p0
              rw [h1] at p1
              rw [h2] at p2
              have HRg := Lib.hid hrg
              have HZo := Lib.hid (Blk.new wr 56 zp.toArray)
              have hz := zero_p
              have HL := Lib.hid hlen
              have HO := Lib.hid hone
              have HB1 := Lib.hid (HBj.out.trans hb1)
              have HS1 := Lib.hid (HS.out.step hb1)
              clear hrg hk1 hb1 hus2 hlen hone h0 h1 h2 HS HBj
              go_wp2_with (first
                | (refine wpList_load_mid rfl 56 (.tmp 150) rfl g2 (o2 + j * 3) rfl us2 _ HRg.out Try.underlying56 rfl (by rw [HL.out]; exact p_size) ?_)
                | (refine wpList_store_row rfl 56 (.tmp 13) (.tmp 151) rfl wr.heap.size us2.toArray rfl rfl 56 zp.toArray HZo.out (by simpa [HL.out] using p_size) (by simp [HL.out, zp]) HO.out ?_; generalize ((wr.alloc (.cells zp.toArray 56)).setRow wr.heap.size us2.toArray) = W1 at *)
                | fail)
              have hb2 := Bl.alloc W1 (.cells #[.iface 9 (.string nm), .iface 3 (.int .i64 rows), .iface 3 (.int .i64 cols)] 20)
              refine (laid_any (HS1.out.step hb2) (by omega) 3 [.str nm, .int rows, .int cols] (RV.new _ _ _ _ rfl) (by
                intro u hu
                simp only [List.mem_cons, List.not_mem_nil, or_false] at hu
                rcases hu with rfl | rfl | rfl
                · show nm.size ≤ 1000
                  have : nm.size ≤ 40 := hp40
                  omega
                · exact hpok.1
                · exact hpok.2.1) (by simp) (z ++ prmE ⟨nm, rows, cols⟩) (by simp [encIts, encNs, It.enc, optNs, schedNs, keepNs, flagN, prmE])).mono ?_
              rintro e w6 ⟨A6, c6, rfl, hs6, b6⟩
              obtain ⟨z6, hz6⟩ : ∃ z6, z6 = z ++ prmE ⟨nm, rows, cols⟩ := ⟨_, rfl⟩
              rw [← hz6] at hs6 ⊢
              have HS6 := Lib.hid hs6
              have HB6 := Lib.hid ((HB1.out.trans hb2).trans b6)
              have HL6 : Hid (z6.length ≤ 340 + k * 1000 + (j + 1) * 70) := Lib.hid (by
                have := prmE_le hpok hp40
                rw [hz6, List.length_append]
                omega)
              have HZ6 : Hid (z6 = y4 ++ prmsE (ps.take (j + 1))) := Lib.hid (by rw [hz6, HZ.out, HTJ.out, List.append_assoc])
              clear hs6 b6 hb2 hz6 HS1 HB1 HZ HTJ p0 p1 p2 hz HRg HZo HO HL
              go_wp2
              go_roundw
              case rel => exact ⟨j + 1, A6, c6, _, by omega, by go_num, rfl, HL6.out, HZ6, HS6, HB6⟩
              case measure => simp [intOf]; omega
            · have HZ2 : Hid (z = headE ⟨f, clip, K0, K1, gs⟩ ++ groupsE (gs.take (k + 1))) := Lib.hid (by
                rw [HZ.out, List.take_of_length_le (by omega), HY4.out, HY3.out, HY.out, HTK.out, groupE, HPS.out]
                simp [List.append_assoc])
              have HB5 := Lib.hid (HB4.out.trans HBj.out)
              clear HZ HBj HY HTK
              go_wp2
              go_roundw
              case rel => exact ⟨k + 1, A', c', z, by omega, by go_num, rfl, by omega, HZ2, HS, HB5⟩
              case measure => simp [intOf]; omega
        · have HO : Hid (GivesB w t (.returned (.slice A' y.length c')) wr) := Lib.hid (by
            have e : y = t := by rw [HT.out, HY.out, List.take_of_length_le (by omega)]; rfl
            rw [e] at HS ⊢
            exact ⟨A', c', rfl, HS.out, HB.out⟩)
          clear HS HY HB
          go_wp2
          go_ret
          exact HO.out
end Go.Proofs.Ytigicphmnlkjfaa
