/- The contract of conf.wrong. -/
import Derived.Test.YtigicphmnlkjfaaWrongPlain
import Derived.Carry
namespace Go.Proofs.Ytigicphmnlkjfaa
open Go.RowKit
set_option linter.unusedVariables false

/-- Weights' zero value. -/
def zp : List Value := [.string .empty, .int .i64 0, .int .i64 0]
theorem zero_p (w : World) : (zeroValue 56).run Try.prog w = .ok (.agg zp.toArray) w := by kernel_rfl
theorem p_size : (Try.prog.info? 56).map (·.size) = some 3 := by kernel_rfl
/-- Weights, copied into a new block. -/
theorem prm_copied (w : World) (us : List Value) : Blk ((w.alloc (.cells zp.toArray 56)).setRow w.heap.size us.toArray) w.heap.size 56 us.toArray ∧ Bl w ((w.alloc (.cells zp.toArray 56)).setRow w.heap.size us.toArray) :=
  ⟨setRow_heap _ _ _ _ _ _ (Blk.new w 56 zp.toArray), below_setRow (Bl.alloc w _) (Nat.le_refl _) _⟩
def ParamP.cs (p : ParamP) : List Value := [.string p.name, .int .i64 p.rows, .int .i64 p.cols]
theorem Params.range {w : World} {A : Option Addr} {l : List ParamP} (h : Params w A l) {i : Nat} (hi : i < l.length) : ∃ g o, A = some ⟨g, o, none⟩ ∧ w.rangeAt g (o + i * 3) (l[i]).cs := by
  obtain ⟨g, o, e, h1, h2, h3⟩ := h.at_ hi
  refine ⟨g, o, e, fun j v hv => ?_⟩
  match j, hv with
  | 0, hv => cases hv; exact h1
  | 1, hv => cases hv; exact h2
  | 2, hv => cases hv; exact h3
theorem Bl.grown {w w1 w2 : World} {B : Nat} (hb : Bl w w1) (hg : w1.grownBy w2 (some B)) (hB : w.heap.size ≤ B) : Bl w w2 :=
  ⟨hg.os.trans hb.os, hg.tape.trans hb.tape, hg.output.trans hb.output, Nat.le_trans hb.size hg.size, fun j hj => (hg.block j (Nat.lt_of_lt_of_le hj hb.size) (fun e => by injection e with e; omega)).trans (hb.block j hj)⟩

set_option maxRecDepth 100000 in
set_option maxHeartbeats 4000000 in
theorem wrong_any {w : World} {A : Option Addr} {c : Nat} {x : ConfP} (h : CF w A c x) (hf : fewC x = true) :
    Calls Try.prog 30 #[x.v A c] w fun e w' => e = .returned (.int .i64 (badP (flatP x.groups))) ∧ Bl w w' := by
  obtain ⟨f, clip, ⟨k1, k2, k3, k4⟩, ⟨l1, l2, l3, l4⟩, gs⟩ := x
  simp only [fewC, decide_eq_true_eq] at hf
  obtain ⟨hl, hf⟩ := hf
  have HG := Lib.hid h.gs
  have HOK := Lib.hid h.ok.2.2.2.2.1
  have HF := Lib.hid hf
  simp only at HG HOK hl
  obtain ⟨r, hr⟩ : ∃ r, r = badP (flatP gs) := ⟨_, rfl⟩
  simp only
  rw [← hr]
  have HR : Hid (r = badF [] (flatP (gs.drop 0))) := Lib.hid hr
  clear h hf hr
  unfold ConfP.v
  have hmm := @run_makeMap Try.prog
  obtain ⟨cv, hcv⟩ : ∃ cv, cv = #[Value.int .i64 f, .int .i64 clip, .int .i64 k1, .int .i64 k2, .int .i64 k3, .int .i64 k4, .int .i64 l1, .int .i64 l2, .int .i64 l3, .int .i64 l4, .slice A gs.length c] := ⟨_, rfl⟩
  have hc10 : (w.alloc (.cells cv 27)).cell? ⟨w.heap.size, 10, none⟩ = some (.slice A gs.length c) := by
    rw [(Blk.new w 27 cv).cell 10, hcv]; rfl
  have hc10' : ((w.alloc (.cells cv 27)).alloc (.map #[] 0)).cell? ⟨w.heap.size, 10, none⟩ = some (.slice A gs.length c) := by
    rw [((Blk.new w 27 cv).alloc (.map #[] 0)).cell 10, hcv]; rfl
  have B0 := Lib.hid ((Bl.alloc w (.cells cv 27)).trans (Bl.alloc _ (.map #[] 0)))
  have S0 : Hid (Seen ((w.alloc (.cells cv 27)).alloc (.map #[] 0)) (w.heap.size + 1) []) := by
    have := Seen.made (w.alloc (.cells cv 27))
    rw [show (w.alloc (.cells cv 27)).heap.size = w.heap.size + 1 from by simp] at this
    exact Lib.hid this
  rw [← hcv]
  clear hcv
  go_enter Try.func30, Try.ntmps30
  go_wp2
  go_loopw [5, 6, 15] (fun a s i wr => ∃ (k : Nat) (m : Int) (pre : List ParamP), k ≤ gs.length ∧ i = .int .i64 k ∧ a = .int .i64 (pre.length : Nat) ∧ s = .int .i64 m ∧ pre.length ≤ k * 10 ∧ 0 ≤ m ∧ m ≤ 512 ∧ Hid (m = sumP pre) ∧ Hid (r = badF pre (flatP (gs.drop k))) ∧ Hid (Seen wr (w.heap.size + 1) pre) ∧ Hid (Bl w wr)) (fun _ _ i _ => gs.length - (intOf i).toNat)
  case atStart => exact ⟨0, 0, [], Nat.zero_le _, rfl, rfl, rfl, Nat.zero_le _, by omega, by omega, Lib.hid rfl, HR, S0, B0⟩
  case round =>
    clear B0 S0 HR hc10 hc10'
    obtain ⟨k, m, pre, hk, rfl, rfl, rfl, hpl, hm0, hm1, HM, HR, HS, HB⟩ := hrel
    by_cases hlt : k < gs.length
    · obtain ⟨g, o, P, d, rfl, hs, hc, hp, hcap⟩ := (HG.out.step HB.out).at_ hlt
      have h10 := few_params HF.out hlt
      have HP0 : Hid (Params w P gs[k].params) := by
        obtain ⟨g', o', P', d', e', _, hc', hp', _⟩ := HG.out.at_ hlt
        cases e'
        have e1 := rangeAt_step hc' (by assumption) HB.out 22 _ (GroupP.cs_params _ _ _)
        rw [hc 22 _ (GroupP.cs_params _ _ _)] at e1
        injection e1 with e1
        injection e1 with e1 e2 e3
        subst e1
        exact Lib.hid hp'
      have HPok := Lib.hid (HOK.out _ (List.getElem_mem hlt)).2.2.1
      have HRR : Hid (r = badF pre (gs[k].params.drop 0 ++ flatP (gs.drop (k + 1)))) := Lib.hid (by rw [HR.out, flatP_drop gs k hlt]; rfl)
      obtain ⟨us, hus⟩ : ∃ us, us = (gs[k]).cs P d := ⟨_, rfl⟩
      have hlen : us.length = 23 := by rw [hus]; rfl
      have h22 : us[22]? = some (.slice P gs[k].params.length d) := by rw [hus]; rfl
      have hone : us.toArray.all (·.oneCell') = true := by rw [hus]; exact GroupP.cs_one _ _ _
      rw [← hus] at hc
      obtain ⟨ps, hps⟩ : ∃ ps, ps = gs[k].params := ⟨_, rfl⟩
      rw [← hps] at h10 HP0 HPok HRR h22
      obtain ⟨hk1, hb1⟩ := grp_copied wr us
      have c22 := hk1.cell 22
      rw [List.getElem?_toArray, h22] at c22
      have HRg := Lib.hid hc
      have HB2 := Lib.hid (HB.out.trans hb1)
      have HS2 := Lib.hid (HS.out.bl hb1)
      have HZ := Lib.hid (Blk.new wr 54 zg.toArray)
      have hz := zero_g
      have HL := Lib.hid hlen
      have HO := Lib.hid hone
      clear hp HR HS HB hk1 hb1 hc hus h22 hlen hone hps
      go_wp2_with (first
        | (refine wpList_load_mid rfl 54 (.tmp 17) rfl g (o + k * 23) rfl us _ HRg.out Try.underlying54 rfl (by rw [HL.out]; exact g_size) ?_)
        | (refine wpList_store_row rfl 54 (.tmp 8) (.tmp 18) rfl wr.heap.size us.toArray rfl rfl 54 zg.toArray HZ.out (by simpa [HL.out] using g_size) (by simp [HL.out, zg]) HO.out ?_))
      clear HRg HZ hz HL HO c22
      generalize ((wr.alloc (.cells zg.toArray 54)).setRow wr.heap.size us.toArray) = wr0 at *
      go_loopw [5, 6, 22] (fun a s i wr => ∃ (j : Nat) (m : Int) (pre : List ParamP), j ≤ ps.length ∧ i = .int .i64 j ∧ a = .int .i64 (pre.length : Nat) ∧ s = .int .i64 m ∧ pre.length ≤ k * 10 + j ∧ 0 ≤ m ∧ m ≤ 512 ∧ Hid (m = sumP pre) ∧ Hid (r = badF pre (ps.drop j ++ flatP (gs.drop (k + 1)))) ∧ Hid (Seen wr (w.heap.size + 1) pre) ∧ Hid (Bl w wr)) (fun _ _ i _ => ps.length - (intOf i).toNat)
      case atStart => exact ⟨0, m, pre, Nat.zero_le _, rfl, rfl, rfl, by omega, hm0, hm1, HM, HRR, HS2, HB2⟩
      case round =>
        clear HM HRR HS2 HB2 hpl hm0 hm1
        obtain ⟨j, m, pre, hj, rfl, rfl, rfl, hpl, hm0, hm1, HM, HR, HS, HB⟩ := hrel
        by_cases hjl : j < ps.length
        · obtain ⟨g2, o2, rfl, hrg⟩ := (HP0.out.step HB.out).range hjl
          have hpok := HPok.out _ (List.getElem_mem hjl)
          obtain ⟨p, hp⟩ : ∃ p, p = ps[j] := ⟨_, rfl⟩
          rw [← hp] at hrg hpok
          have HD : Hid (ps.drop j = p :: ps.drop (j + 1)) := Lib.hid (by rw [hp]; exact List.drop_eq_getElem_cons hjl)
          have HR2 : Hid (r = badF pre (p :: (ps.drop (j + 1) ++ flatP (gs.drop (k + 1))))) := Lib.hid (by rw [HR.out, HD.out]; rfl)
          obtain ⟨nm, rows, cols⟩ := p
          have hsz : nm.size ≤ 9223372036854775807 := hpok.2.2
          obtain ⟨us2, hus2⟩ : ∃ us2, us2 = (ParamP.cs ⟨nm, rows, cols⟩) := ⟨_, rfl⟩
          have hlen : us2.length = 3 := by rw [hus2]; rfl
          have hone : us2.toArray.all (·.oneCell') = true := by rw [hus2]; simp [ParamP.cs, Value.oneCell']
          have h0 : us2[0]? = some (.string nm) := by rw [hus2]; rfl
          have h1 : us2[1]? = some (.int .i64 rows) := by rw [hus2]; rfl
          have h2 : us2[2]? = some (.int .i64 cols) := by rw [hus2]; rfl
          rw [← hus2] at hrg
          obtain ⟨hk1, hb1⟩ := prm_copied wr us2
          have c0 := hk1.cell 0
          rw [List.getElem?_toArray, h0] at c0
          have HRg := Lib.hid hrg
          have HZ := Lib.hid (Blk.new wr 56 zp.toArray)
          have hz := zero_p
          have HL := Lib.hid hlen
          have HO := Lib.hid hone
          have HB1 := Lib.hid hb1
          have HK1 := Lib.hid hk1
          have H0 := Lib.hid h0; have H1 := Lib.hid h1; have H2 := Lib.hid h2
          clear hrg hk1 hb1 hus2 hlen hone hp HR h0 h1 h2 HD
          go_wp2_with (first
            | (refine wpList_load_mid rfl 56 (.tmp 24) rfl g2 (o2 + j * 3) rfl us2 _ HRg.out Try.underlying56 rfl (by rw [HL.out]; exact p_size) ?_)
            | (refine wpList_store_row rfl 56 (.tmp 10) (.tmp 25) rfl wr.heap.size us2.toArray rfl rfl 56 zp.toArray HZ.out (by simpa [HL.out] using p_size) (by simp [HL.out, zp]) HO.out ?_)
            | fail)
          clear HZ HRg hz HO HL c0
          have HLt : Hid (w.heap.size + 1 < wr.heap.size) := by
            obtain ⟨D, ho, _⟩ := HS.out
            exact Lib.hid ho.lt
          generalize hW1 : ((wr.alloc (.cells zp.toArray 56)).setRow wr.heap.size us2.toArray) = W1 at *
          clear hW1
          by_cases q1 : NameP nm
          rotate_left
          · have HF1 : Hid (r = pre.length) := Lib.hid (by rw [HR2.out]; exact badF_bad (fun h => q1 h.1) _)
            refine (isName_to nm false (decide_eq_false q1).symm _ hsz).mono ?_
            rintro e w2 ⟨rfl, b2⟩
            have HB2 := Lib.hid ((HB.out.trans HB1.out).trans b2)
            clear b2
            go_wp2
            go_ret
            exact ⟨ret_i HF1.out, HB2.out⟩
          refine (isName_to nm true (decide_eq_true q1).symm _ hsz).mono ?_
          rintro e w2 ⟨rfl, b2⟩
          have HB2 := Lib.hid ((HB.out.trans HB1.out).trans b2)
          have hS2 := HS.out.bl (HB1.out.trans b2)
          have hk2 := HK1.out.below b2 HK1.out.lt
          have c0 := hk2.cell 0; have c1 := hk2.cell 1; have c2 := hk2.cell 2
          rw [List.getElem?_toArray] at c0 c1 c2
          rw [H0.out] at c0
          rw [H1.out] at c1
          rw [H2.out] at c2
          have hlk := hS2.look nm hsz
          have HS2 := Lib.hid hS2
          have HK2 := Lib.hid hk2
          have HS0 := Lib.hid hS2
          clear HS HB1 HK1 H0 b2 hS2 hk2
          by_cases q2 : ∃ q ∈ pre, q.name = nm
          · have HF1 : Hid (r = pre.length) := Lib.hid (by rw [HR2.out]; exact badF_bad (fun h => h.2.2.2.2 q2) _)
            rw [decide_eq_true q2] at hlk
            go_wp2
            go_ret
            exact ⟨ret_i HF1.out, HB2.out⟩
          rw [decide_eq_false q2] at hlk
          by_cases q3 : 1 ≤ rows ∧ rows ≤ 512
          rotate_left
          · have HF1 : Hid (r = pre.length) := Lib.hid (by rw [HR2.out]; exact badF_bad (fun h => q3 h.2.1) _)
            go_wp2_with fail
            refine (isSide_to rows false (decide_eq_false q3).symm _).mono ?_
            rintro e w3 ⟨rfl, rfl⟩
            go_wp2
            go_ret
            exact ⟨ret_i HF1.out, HB2.out⟩
          by_cases q4 : 1 ≤ cols ∧ cols ≤ 512
          rotate_left
          · have HF1 : Hid (r = pre.length) := Lib.hid (by rw [HR2.out]; exact badF_bad (fun h => q4 h.2.2.1) _)
            go_wp2_with fail
            refine (isSide_to rows true (decide_eq_true q3).symm _).mono ?_
            rintro e w3 ⟨rfl, rfl⟩
            go_wp2_with fail
            refine (isSide_to cols false (decide_eq_false q4).symm _).mono ?_
            rintro e w3 ⟨rfl, rfl⟩
            go_wp2
            go_ret
            exact ⟨ret_i HF1.out, HB2.out⟩
          obtain ⟨hp1, hp2⟩ := side_mul q3 q4
          obtain ⟨w4, hup, hS4, hg4⟩ := HS2.out.put ⟨nm, rows, cols⟩ hsz (by omega)
          simp only at hup
          have HB4 := Lib.hid (HB2.out.grown hg4 (by omega))
          have HS4 := Lib.hid hS4
          have hne : wr.heap.size ≠ w.heap.size + 1 := by have := HLt.out; omega
          have d1 : w4.cell? ⟨wr.heap.size, 1, none⟩ = some (.int .i64 rows) := (World.cell?_of_block (hg4.block _ HK2.out.lt (by simpa using hne))).trans c1
          have d2 : w4.cell? ⟨wr.heap.size, 2, none⟩ = some (.int .i64 cols) := (World.cell?_of_block (hg4.block _ HK2.out.lt (by simpa using hne))).trans c2
          have HQ := Lib.hid (And.intro q1 (And.intro q3 (And.intro q4 q2)))
          have HQ3 := Lib.hid q3; have HQ4 := Lib.hid q4
          clear hS4 hg4 HS2 HS0 HK2 HB2 q1 q2 q3 q4 hne
          go_wp2_with fail
          refine (isSide_to rows true (decide_eq_true HQ3.out).symm _).mono ?_
          rintro e w3 ⟨rfl, rfl⟩
          go_wp2_with fail
          refine (isSide_to cols true (decide_eq_true HQ4.out).symm _).mono ?_
          rintro e w3 ⟨rfl, rfl⟩
          by_cases q5 : 512 < m + rows * cols
          · have HF1 : Hid (r = pre.length) := Lib.hid (by rw [HR2.out]; exact badF_bad (fun h => by have := h.2.2.2.1; rw [← HM.out] at this; simp only at this; omega) _)
            go_wp2
            go_ret
            exact ⟨ret_i HF1.out, HB4.out⟩
          · have HR5 : Hid (r = badF (pre ++ [⟨nm, rows, cols⟩]) (ps.drop (j + 1) ++ flatP (gs.drop (k + 1)))) := Lib.hid (by rw [HR2.out]; exact badF_good ⟨HQ.out.1, HQ.out.2.1, HQ.out.2.2.1, by rw [← HM.out]; simp only; omega, HQ.out.2.2.2⟩ _)
            have HM5 : Hid (m + rows * cols = sumP (pre ++ [⟨nm, rows, cols⟩])) := Lib.hid (by rw [sumP_snoc, HM.out])
            clear HR2 HM HQ
            go_wp2
            go_roundw
            case rel => exact ⟨j + 1, m + rows * cols, pre ++ [⟨nm, rows, cols⟩], by omega, by go_num, by simp, by go_num, by simp; omega, by omega, by omega, HM5, HR5, HS4, HB4⟩
            case measure => simp [intOf]; omega
        · have HR2 : Hid (r = badF pre (flatP (gs.drop (k + 1)))) := Lib.hid (by rw [HR.out, List.drop_eq_nil_of_le (by omega), List.nil_append])
          clear HR
          go_wp2
          go_roundw
          case rel => exact ⟨k + 1, m, pre, by omega, by go_num, rfl, rfl, by omega, hm0, hm1, HM, HR2, HS, HB⟩
          case measure => simp [intOf]; omega
    · have HR2 : Hid (r = -1) := Lib.hid (by rw [HR.out, List.drop_eq_nil_of_le (by omega)]; rfl)
      clear HR HG HS
      go_wp2
      go_ret
      exact ⟨ret_i HR2.out, HB.out⟩
end Go.Proofs.Ytigicphmnlkjfaa
