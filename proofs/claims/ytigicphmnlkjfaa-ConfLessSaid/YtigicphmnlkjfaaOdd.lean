/- The contracts of conf.Check's function literal and slices.IndexFunc over it. -/
import Derived.Test.YtigicphmnlkjfaaSched
import Derived.Test.YtigicphmnlkjfaaMany
namespace Go.Proofs.Ytigicphmnlkjfaa
open Go.RowKit
set_option linter.unusedVariables false

/-- Is a group right? -/
def groupB (f : Int) (g : GroupP) : Bool := optB g.opt f && (schedB g.sched f && decide (1 ≤ g.params.length ∧ g.params.length ≤ 8))
/-- The first group that is not right. -/
def oddF (f : Int) (n : Nat) : List GroupP → Int
  | [] => -1
  | g :: r => if groupB f g = true then oddF f (n + 1) r else n
theorem oddF_good {f : Int} {g : GroupP} (h : groupB f g = true) (n : Nat) (r : List GroupP) : oddF f n (g :: r) = oddF f (n + 1) r := by rw [oddF, if_pos h]
theorem oddF_bad {f : Int} {g : GroupP} (h : groupB f g = false) (n : Nat) (r : List GroupP) : oddF f n (g :: r) = n := by rw [oddF, if_neg (by rw [h]; simp)]

theorem sched_to (s : SchedP) (f : Int) (b : Bool) (hb : b = schedB s f) (w : World) : Calls Try.prog 28 #[.agg s.cs.toArray, .int .i64 f] w fun e w' => e = .returned (.bool b) ∧ Bl w w' :=
  sched_right s.skind s.base s.rate s.fin s.warm s.every s.last s.pow f b hb w
theorem rsched_to (s : SchedP) (f : Int) (b : Bool) (hb : b = schedB s f) (w : World) : Calls Try.prog 34 #[.agg s.cs.toArray, .int .i64 f] w fun e w' => e = .returned (.bool b) ∧ Bl w w' :=
  rsched_right s.skind s.base s.rate s.fin s.warm s.every s.last s.pow f b hb w
theorem o_size : (Try.prog.info? 49).map (·.size) = some 14 := by kernel_rfl
theorem s_size : (Try.prog.info? 51).map (·.size) = some 8 := by kernel_rfl
theorem Blk.rangeL {w : World} {g : Nat} {t : TypeId} {us : List Value} (h : Blk w g t us.toArray) : w.rangeAt g 0 us := fun j v hv => by rw [h.cell, Nat.zero_add, List.getElem?_toArray]; exact hv
theorem range_opt {w : World} {g o : Nat} {x : GroupP} {A : Option Addr} {c : Nat} (h : w.rangeAt g o (x.cs A c)) : w.rangeAt g o x.opt.cs := fun j v hv => h j v (GroupP.cs_opt x A c j v hv)
theorem range_sched {w : World} {g o : Nat} {x : GroupP} {A : Option Addr} {c : Nat} (h : w.rangeAt g o (x.cs A c)) : w.rangeAt g (o + 14) x.sched.cs := fun j v hv => by rw [Nat.add_assoc]; exact h (14 + j) v (GroupP.cs_sched x A c j v hv)
theorem wpList_load_midg {P : Program} {ops : Array Oper} {rest : List Oper} {op : Oper} {a : Act} {w : World} {Q : Exit → Act → World → Prop} (hgd : Region.wanted op (yielded ops a.tmps) = true) (ty : TypeId) (x : Operand) (ho : op.op = .load ty x)
    (b o : Nat) (hx : a.eval x = .pointer (some ⟨b, o, none⟩)) (cs : List Value) (d : TypeDesc) (hc : w.rangeAt b o cs)
    (hu : P.underlying ty = some d) (hd : d.isRow = true) (hi : (P.info? ty).map (·.size) = some cs.length)
    (h : wpList P ops Q rest (a.put op.dst (.agg cs.toArray)) w) : wpList P ops Q (op :: rest) a w :=
  wpList_step fun K hK => by
    rw [if_pos hgd]
    exact wp_load_mid ty x ho b o hx cs d hc hu hd hi (hK _ _ h)
theorem ret_n {b v : Bool} (h : b = v) : Ending.returned (.bool v) = .returned (.bool b) := by rw [h]

set_option maxRecDepth 100000 in
set_option maxHeartbeats 2000000 in
theorem odd_to (x : GroupP) (P : Option Addr) (d : Nat) (f : Int) (B : Nat) (w : World) (hc : w.cell? ⟨B, 0, none⟩ = some (.int .i64 f)) (b : Bool) (hb : b = !groupB f x) :
    Calls Try.prog 26 #[.agg (x.cs P d).toArray, .pointer (some ⟨B, 0, none⟩)] w fun e w' => e = .returned (.bool b) ∧ Bl w w' := by
  have HB := Lib.hid hb
  have hBlt : B < w.heap.size := block_lt_of_cell hc
  have hBne : B ≠ w.heap.size := by omega
  obtain ⟨os, hos⟩ : ∃ os, os = x.opt.cs := ⟨_, rfl⟩
  obtain ⟨ss, hss⟩ : ∃ ss, ss = x.sched.cs := ⟨_, rfl⟩
  obtain ⟨us, hus⟩ : ∃ us, us = x.cs P d := ⟨_, rfl⟩
  have hk := Blk.new w 54 us.toArray
  have hr := hk.rangeL
  have ho := hr; rw [hus] at ho
  have hs := range_sched ho
  replace ho := range_opt ho
  rw [← hus, ← hos] at ho
  rw [← hus, ← hss] at hs
  have HOS := Lib.hid hos
  have HSS := Lib.hid hss
  have hol : os.length = 14 := by rw [hos]; rfl
  have hsl : ss.length = 8 := by rw [hss]; rfl
  have h22 : us[22]? = some (.slice P x.params.length d) := by rw [hus]; rfl
  have b1 := Bl.alloc w (.cells us.toArray 54)
  have HO := Lib.hid ho; have HS := Lib.hid hs; have HK := Lib.hid hk; have HB1 := Lib.hid b1; have H22 := Lib.hid h22
  have HOL := Lib.hid hol; have HSL := Lib.hid hsl
  have HC := Lib.hid hc
  rw [← hus]
  obtain ⟨n, hn⟩ : ∃ n, n = x.params.length := ⟨_, rfl⟩
  rw [← hn] at H22
  have HN := Lib.hid hn
  clear hb hos hss hus hr ho hs hol hsl h22 b1 hk hn
  go_enter Try.func26, Try.ntmps26
  by_cases q1 : optB x.opt f = true
  rotate_left
  · have q1' : optB x.opt f = false := by simpa using q1
    have HF : Hid (b = true) := Lib.hid (by rw [HB.out, groupB, q1']; rfl)
    have H1 := Lib.hid (fun w => opt_to x.opt f false q1'.symm w)
    rw [← HOS.out] at H1
    clear q1 q1'
    go_wp2_with (first
      | (refine wpList_load_mid rfl 49 (.tmp 4) rfl w.heap.size 0 rfl os _ HO.out Try.underlying49 rfl (by rw [HOL.out]; exact o_size) ?_)
      | fail)
    refine (H1.out _).mono ?_
    rintro e w1 ⟨rfl, b1⟩
    have HB2 := Lib.hid (HB1.out.trans b1)
    clear b1
    go_wp2
    go_ret
    exact ⟨ret_n HF.out, HB2.out⟩
  have H1 := Lib.hid (fun w => opt_to x.opt f true q1.symm w)
  rw [← HOS.out] at H1
  go_wp2_with (first
    | (refine wpList_load_mid rfl 49 (.tmp 4) rfl w.heap.size 0 rfl os _ HO.out Try.underlying49 rfl (by rw [HOL.out]; exact o_size) ?_)
    | fail)
  refine (H1.out _).mono ?_
  rintro e w1 ⟨rfl, b1⟩
  have HB2 := Lib.hid (HB1.out.trans b1)
  have HS1 := Lib.hid (rangeAt_step HS.out HK.out.lt b1)
  have hk1 := HK.out.below b1 HK.out.lt
  have c22 := hk1.cell 22
  rw [List.getElem?_toArray, H22.out] at c22
  have hc1 : w1.cell? ⟨B, 0, none⟩ = some (.int .i64 f) := (Bl.cell HB2.out hBlt).trans HC.out
  have HK1 := Lib.hid hk1
  clear b1 hk1 HS HO HK hc
  by_cases q2 : schedB x.sched f = true
  rotate_left
  · have q2' : schedB x.sched f = false := by simpa using q2
    have HF : Hid (b = true) := Lib.hid (by rw [HB.out, groupB, q1, q2']; rfl)
    have H2 := Lib.hid (fun w => sched_to x.sched f false q2'.symm w)
    rw [← HSS.out] at H2
    clear q1 q2 q2'
    go_wp2_with (first
      | (refine wpList_load_midg (by rfl) 51 (.tmp 11) rfl w.heap.size (0 + 14) rfl ss _ HS1.out Try.underlying51 rfl (by rw [HSL.out]; exact s_size) ?_)
      | fail)
    refine (H2.out _).mono ?_
    rintro e w2 ⟨rfl, b2⟩
    have HB3 := Lib.hid (HB2.out.trans b2)
    clear b2
    go_wp2
    go_ret
    exact ⟨ret_n HF.out, HB3.out⟩
  have H2 := Lib.hid (fun w => sched_to x.sched f true q2.symm w)
  rw [← HSS.out] at H2
  have HF : Hid (b = !decide (1 ≤ (n : Int) ∧ (n : Int) ≤ 8)) := Lib.hid (by
    rw [HB.out, groupB, q1, q2, ← HN.out]
    simp only [Bool.true_and]
    congr 1
    exact decide_eq_decide.2 (by omega))
  clear q1 q2
  go_wp2_with (first
    | (refine wpList_load_midg (by rfl) 51 (.tmp 11) rfl w.heap.size (0 + 14) rfl ss _ HS1.out Try.underlying51 rfl (by rw [HSL.out]; exact s_size) ?_)
    | fail)
  refine (H2.out _).mono ?_
  rintro e w2 ⟨rfl, b2⟩
  have HB3 := Lib.hid (HB2.out.trans b2)
  have d22 := (Bl.cell b2 (p := ⟨w.heap.size, 22, none⟩) HK1.out.lt).trans c22
  clear b2 c22 hc1
  go_wp2_with fail
  refine (isMany_to (n : Int) _ rfl _).mono ?_
  rintro e w3 ⟨rfl, rfl⟩
  go_wp2
  go_ret
  exact ⟨ret_n (by rw [HF.out, Bool.decide_and, Bool.not_and]), HB3.out⟩

/-- The function value of Check's literal. -/
def oddV (B : Nat) : Value := .func (.func 26) #[] #[.pointer (some ⟨B, 0, none⟩)]

set_option maxRecDepth 100000 in
set_option maxHeartbeats 2000000 in
theorem index_to {w : World} {A : Option Addr} {c : Nat} {gs : List GroupP} (h : Groups w A gs) (hl : gs.length ≤ 1000) (f : Int) (B : Nat) (hc : w.cell? ⟨B, 0, none⟩ = some (.int .i64 f)) :
    Calls Try.prog 29 #[.slice A gs.length c, .func (.func 26) #[] #[.pointer (some ⟨B, 0, none⟩)]] w fun e w' => e = .returned (.int .i64 (oddF f 0 gs)) ∧ Bl w w' := by
  have HG := Lib.hid h
  have HC := Lib.hid hc
  obtain ⟨r, hr⟩ : ∃ r, r = oddF f 0 gs := ⟨_, rfl⟩
  rw [← hr]
  have HR : Hid (r = oddF f 0 (gs.drop 0)) := Lib.hid hr
  have hBlt : B < w.heap.size := block_lt_of_cell hc
  clear h hr hc
  go_enter Try.func29, Try.ntmps29
  go_wp2
  go_loopw [8] (fun i wr => ∃ (k : Nat), k ≤ gs.length ∧ i = .int .i64 k ∧ Hid (r = oddF f k (gs.drop k)) ∧ Hid (Bl w wr)) (fun i _ => gs.length - (intOf i).toNat)
  case atStart => exact ⟨0, Nat.zero_le _, rfl, HR, Lib.hid (Bl.refl _)⟩
  case round =>
    clear HR
    obtain ⟨k, hk, rfl, HR, HB⟩ := hrel
    by_cases hlt : k < gs.length
    · obtain ⟨g, o, P, d, rfl, hs, hcc, hp, hcap⟩ := (HG.out.step HB.out).at_ hlt
      have hc1 : wr.cell? ⟨B, 0, none⟩ = some (.int .i64 f) := (Bl.cell HB.out hBlt).trans HC.out
      have HR2 : Hid (r = oddF f k (gs[k] :: gs.drop (k + 1))) := Lib.hid (by rw [HR.out, ← List.drop_eq_getElem_cons hlt])
      obtain ⟨us, hus⟩ : ∃ us, us = (gs[k]).cs P d := ⟨_, rfl⟩
      have hlen : us.length = 23 := by rw [hus]; rfl
      have HRg : Hid (wr.rangeAt g (o + k * 23) us) := Lib.hid (by rw [hus]; exact hcc)
      have HL := Lib.hid hlen
      by_cases q : groupB f gs[k] = true
      · have H1 := Lib.hid (odd_to gs[k] P d f B wr hc1 false (by rw [q]; rfl))
        rw [← hus] at H1
        have HR3 : Hid (r = oddF f (k + 1) (gs.drop (k + 1))) := Lib.hid (by rw [HR2.out]; exact oddF_good q _ _)
        clear hp hcc hus hlen q HR HR2 hc1
        go_wp2_with (first
          | (refine wpList_load_mid rfl 54 (.tmp 14) rfl g (o + k * 23) rfl us _ HRg.out Try.underlying54 rfl (by rw [HL.out]; exact g_size) ?_)
          | fail)
        refine H1.out.mono ?_
        rintro e w2 ⟨rfl, b2⟩
        have HB2 := Lib.hid (HB.out.trans b2)
        clear b2 H1 HB
        go_wp2
        go_roundw
        case rel => exact ⟨k + 1, by omega, by go_num, HR3, HB2⟩
        case measure => simp [intOf]; omega
      · have q' : groupB f gs[k] = false := by simpa using q
        have H1 := Lib.hid (odd_to gs[k] P d f B wr hc1 true (by rw [q']; rfl))
        rw [← hus] at H1
        have HR3 : Hid (r = k) := Lib.hid (by rw [HR2.out]; exact oddF_bad q' _ _)
        clear hp hcc hus hlen q q' HR HR2 hc1
        go_wp2_with (first
          | (refine wpList_load_mid rfl 54 (.tmp 14) rfl g (o + k * 23) rfl us _ HRg.out Try.underlying54 rfl (by rw [HL.out]; exact g_size) ?_)
          | fail)
        refine H1.out.mono ?_
        rintro e w2 ⟨rfl, b2⟩
        have HB2 := Lib.hid (HB.out.trans b2)
        clear b2 H1 HB
        go_wp2
        go_ret
        exact ⟨by rw [HR3.out]; rfl, HB2.out⟩
    · have HR2 : Hid (r = -1) := Lib.hid (by rw [HR.out, List.drop_eq_nil_of_le (by omega)]; rfl)
      clear HR HG
      go_wp2
      go_ret
      exact ⟨by rw [HR2.out]; rfl, HB.out⟩
end Go.Proofs.Ytigicphmnlkjfaa
