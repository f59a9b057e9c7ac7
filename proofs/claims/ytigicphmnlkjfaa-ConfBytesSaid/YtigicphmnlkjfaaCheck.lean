/- The contract of conf.Check. -/
import Derived.Test.YtigicphmnlkjfaaOdd
import Derived.Test.YtigicphmnlkjfaaWrong
namespace Go.Proofs.Ytigicphmnlkjfaa
open Go.RowKit
set_option linter.unusedVariables false
set_option linter.unusedSimpArgs false

def mayB (k : KeepP) : Bool := decide (0 ≤ k.kind ∧ k.kind ≤ 3 ∧ 1 ≤ k.size ∧ k.size ≤ 4096 ∧ 0 ≤ k.small ∧ 0 ≤ k.out)
def signB (n : Int) : Bool := decide (n = 0 ∨ n = 2)
def keepB (k : KeepP) (first : Bool) : Bool := mayB k && (signB k.kind == first)
/-- What is wrong with a Conf: the part, the place, the error. -/
def checkC (x : ConfP) : Int × Int × Int :=
  if ¬ (0 ≤ x.f ∧ x.f ≤ 40) then (1, 0, 1)
  else if x.clip < 0 then (2, 0, 1)
  else if keepB x.k0 true = false then (3, 0, 1)
  else if keepB x.k1 false = false then (3, 1, 1)
  else if ¬ (1 ≤ x.groups.length ∧ x.groups.length ≤ 8) then (4, 0, 1)
  else if 0 ≤ oddF x.f 0 x.groups then (5, oddF x.f 0 x.groups, 1)
  else if 0 ≤ badP (flatP x.groups) then (6, badP (flatP x.groups), 1)
  else (0, 0, 0)
def tripV (t : Int × Int × Int) : Value := .tuple #[.int .i64 t.1, .int .i64 t.2.1, .int .i64 t.2.2]
theorem trip_ret {t : Int × Int × Int} {a b e : Int} (h : t = (a, b, e)) : Ending.returned (.tuple #[.int .i64 a, .int .i64 b, .int .i64 e]) = .returned (tripV t) := by rw [h]; rfl

def KeepP.cs (k : KeepP) : List Value := [.int .i64 k.kind, .int .i64 k.size, .int .i64 k.small, .int .i64 k.out]
def zk : List Value := [.int .i64 0, .int .i64 0, .int .i64 0, .int .i64 0]
theorem zero_k (w : World) : (zeroValue 23).run Try.prog w = .ok (.agg zk.toArray) w := by kernel_rfl
theorem k_size : (Try.prog.info? 23).map (·.size) = some 4 := by kernel_rfl
theorem kk_size : (Try.prog.info? 24).map (·.size) = some 8 := by kernel_rfl
theorem c_size : (Try.prog.info? 27).map (·.size) = some 11 := by kernel_rfl
theorem keep_copied (w : World) (us : List Value) : Blk ((w.alloc (.cells zk.toArray 23)).setRow w.heap.size us.toArray) w.heap.size 23 us.toArray ∧ Bl w ((w.alloc (.cells zk.toArray 23)).setRow w.heap.size us.toArray) :=
  ⟨setRow_heap _ _ _ _ _ _ (Blk.new w 23 zk.toArray), below_setRow (Bl.alloc w _) (Nat.le_refl _) _⟩

def ConfP.cs (x : ConfP) (A : Option Addr) (c : Nat) : List Value := .int .i64 x.f :: .int .i64 x.clip :: (x.k0.cs ++ (x.k1.cs ++ [.slice A x.groups.length c]))
theorem ConfP.v_cs (x : ConfP) (A : Option Addr) (c : Nat) : x.v A c = .agg (x.cs A c).toArray := rfl

theorem idx0 (K0 K1 : KeepP) (w : World) : (Instr.index 24 (.agg (K0.cs ++ K1.cs).toArray) (.int .i64 0)).run Try.prog w = .ok (.agg K0.cs.toArray) w := by kernel_rfl
theorem idx1 (K0 K1 : KeepP) (w : World) : (Instr.index 24 (.agg (K0.cs ++ K1.cs).toArray) (.int .i64 1)).run Try.prog w = .ok (.agg K1.cs.toArray) w := by kernel_rfl

set_option maxRecDepth 100000 in
set_option maxHeartbeats 4000000 in
theorem check_any {w : World} {A : Option Addr} {c : Nat} {x : ConfP} (h : CF w A c x) (hf : fewC x = true) :
    Calls Try.prog 10 #[x.v A c] w fun e w' => e = .returned (tripV (checkC x)) ∧ Bl w w' := by
  obtain ⟨t, ht⟩ : ∃ t, t = checkC x := ⟨_, rfl⟩
  rw [← ht]
  have HT := Lib.hid ht
  have HX := Lib.hid h
  have HF := Lib.hid hf
  have hl10 : x.groups.length ≤ 10 := by
    have := hf
    simp only [fewC, decide_eq_true_eq] at this
    exact this.1
  obtain ⟨cv, hcv⟩ : ∃ cv, cv = x.cs A c := ⟨_, rfl⟩
  have hcl : cv.length = 11 := by rw [hcv]; rfl
  have HV : Hid (x.v A c = .agg cv.toArray) := Lib.hid (by rw [hcv]; rfl)
  rw [HV.out]
  have hk := Blk.new w 27 cv.toArray
  have HK := Lib.hid hk
  have hb := Bl.alloc w (.cells cv.toArray 27)
  have HB := Lib.hid hb
  have n0 : cv[0]? = some (.int .i64 x.f) := by rw [hcv]; rfl
  have n1 : cv[1]? = some (.int .i64 x.clip) := by rw [hcv]; rfl
  have n10 : cv[10]? = some (.slice A x.groups.length c) := by rw [hcv]; rfl
  have c0 := hk.cell 0; have c1 := hk.cell 1
  rw [List.getElem?_toArray] at c0 c1
  rw [n0] at c0
  rw [n1] at c1
  have N0 := Lib.hid n0; have N10 := Lib.hid n10
  have hr2 : ∀ (j : Nat) (v : Value), (x.k0.cs ++ x.k1.cs)[j]? = some v → cv[2 + j]? = some v := fun j v hv => by
    have hj : j < 8 := (List.getElem?_eq_some_iff.1 hv).1
    rw [hcv, ConfP.cs, show 2 + j = j + 1 + 1 by omega, List.getElem?_cons_succ, List.getElem?_cons_succ, ← List.append_assoc, List.getElem?_append_left (by show j < 8; exact hj)]
    exact hv
  have HR2 : Hid ((w.alloc (.cells cv.toArray 27)).rangeAt w.heap.size 2 (x.k0.cs ++ x.k1.cs)) := Lib.hid fun j v hv => by
    rw [hk.cell, List.getElem?_toArray]; exact hr2 j v hv
  have HCV := Lib.hid hcv
  have HCL := Lib.hid hcl
  clear hcv ht h hf hk hb n0 n1 n10 hr2 hcl
  obtain ⟨f, clip, K0, K1, gs⟩ := x
  simp only at hl10 c0 c1 N0 N10 HR2
  go_enter Try.func10, Try.ntmps10
  by_cases q1 : 0 ≤ f ∧ f ≤ 40
  rotate_left
  · have HO : Hid (t = (1, 0, 1)) := Lib.hid (by rw [HT.out, checkC, if_pos q1])
    by_cases q0 : f < 0
    · go_wp2
      go_ret3
      exact ⟨trip_ret HO.out, HB.out⟩
    · have q2 : 40 < f := by omega
      go_wp2
      go_ret3
      exact ⟨trip_ret HO.out, HB.out⟩
  have i1 : ¬ f < 0 := by omega
  have i2 : ¬ 40 < f := by omega
  by_cases q2 : clip < 0
  · have HO : Hid (t = (2, 0, 1)) := Lib.hid (by rw [HT.out, checkC, if_neg (by simpa using q1), if_pos q2])
    go_wp2
    go_ret3
    exact ⟨trip_ret HO.out, HB.out⟩
  have HT2 : Hid (t = if keepB K0 true = false then (3, 0, 1)
      else if keepB K1 false = false then (3, 1, 1)
      else if ¬ (1 ≤ gs.length ∧ gs.length ≤ 8) then (4, 0, 1)
      else if 0 ≤ oddF f 0 gs then (5, oddF f 0 gs, 1)
      else if 0 ≤ badP (flatP gs) then (6, badP (flatP gs), 1)
      else (0, 0, 0)) := Lib.hid (by rw [HT.out, checkC, if_neg (by simpa using q1), if_neg q2])
  clear HT q1
  go_wp2_with (first
    | (refine wpList_load_mid rfl 24 (.tmp 23) rfl w.heap.size 2 rfl (K0.cs ++ K1.cs) _ HR2.out Try.underlying24 rfl kk_size ?_)
    | fail)
  have HT3 : Hid (keepB K0 true = true → keepB K1 false = true → t = if ¬ (1 ≤ gs.length ∧ gs.length ≤ 8) then (4, 0, 1)
      else if 0 ≤ oddF f 0 gs then (5, oddF f 0 gs, 1)
      else if 0 ≤ badP (flatP gs) then (6, badP (flatP gs), 1)
      else (0, 0, 0)) := Lib.hid fun h0 h1 => by rw [HT2.out, if_neg (by rw [h0]; simp), if_neg (by rw [h1]; simp)]
  have HE0 : Hid (keepB K0 true = false → t = (3, 0, 1)) := Lib.hid fun h0 => by rw [HT2.out, if_pos h0]
  have HE1 : Hid (keepB K0 true = true → keepB K1 false = false → t = (3, 1, 1)) := Lib.hid fun h0 h1 => by rw [HT2.out, if_neg (by rw [h0]; simp), if_pos h1]
  clear HT2 HR2 c0 c1 i1 i2 q2
  have ix0 := idx0 K0 K1
  have ix1 := idx1 K0 K1
  go_loopw [25] (fun i wr => ∃ k : Nat, k ≤ 2 ∧ i = .int .i64 k ∧ Hid (1 ≤ k → keepB K0 true = true) ∧ Hid (2 ≤ k → keepB K1 false = true) ∧ Hid (Blk wr w.heap.size 27 cv.toArray) ∧ Hid (Bl w wr)) (fun i _ => 2 - (intOf i).toNat)
  case atStart => exact ⟨0, Nat.zero_le _, rfl, Lib.hid (fun h => absurd h (by omega)), Lib.hid (fun h => absurd h (by omega)), HK, HB⟩
  case round =>
    clear HK HB
    obtain ⟨k, hk, rfl, HP0, HP1, HK, HB⟩ := hrel
    have hz := zero_k
    have hk3 : k = 0 ∨ k = 1 ∨ k = 2 := by omega
    rcases hk3 with rfl | rfl | rfl
    · obtain ⟨hk1, hb1⟩ := keep_copied wr K0.cs
      have hr := hk1.rangeL
      have e0 : (K0.cs)[0]? = some (.int .i64 K0.kind) := rfl
      have c0 := hk1.cell 0
      rw [List.getElem?_toArray, e0] at c0
      have HZ := Lib.hid (Blk.new wr 23 zk.toArray)
      have HO : Hid ((K0.cs).toArray.all (·.oneCell') = true) := Lib.hid (by simp [KeepP.cs, Value.oneCell'])
      have HRg := Lib.hid hr
      have HB1 := Lib.hid hb1
      have HK1 := Lib.hid hk1
      clear hr hb1 hk1 e0 c0
      go_wp2_with (first
        | (refine wpList_store_row rfl 23 (.tmp 6) (.tmp 28) rfl wr.heap.size (K0.cs).toArray rfl rfl 23 zk.toArray HZ.out k_size rfl HO.out ?_)
        | (refine wpList_load_mid rfl 23 (.tmp 6) rfl wr.heap.size 0 rfl (K0.cs) _ HRg.out Try.underlying23 rfl k_size ?_)
        | fail)
      clear ix0 ix1 hz HRg HZ HO
      generalize ((wr.alloc (.cells zk.toArray 23)).setRow wr.heap.size (K0.cs).toArray) = W1 at *
      by_cases m1 : mayB K0 = true
      rotate_left
      · have m1' : mayB K0 = false := by simpa using m1
        have HF1 : Hid (t = (3, 0, 1)) := Lib.hid (HE0.out (by rw [keepB, m1']; rfl))
        refine (may_to K0.kind K0.size K0.small K0.out false m1'.symm _).mono ?_
        rintro e w2 ⟨rfl, b2⟩
        have HB2 := Lib.hid ((HB.out.trans HB1.out).trans b2)
        clear b2
        go_wp2
        go_ret3
        exact ⟨trip_ret HF1.out, HB2.out⟩
      refine (may_to K0.kind K0.size K0.small K0.out true m1.symm _).mono ?_
      rintro e w2 ⟨rfl, b2⟩
      have HB2 := Lib.hid ((HB.out.trans HB1.out).trans b2)
      have hk2 := HK1.out.below b2 HK1.out.lt
      have c0 := hk2.cell 0
      rw [List.getElem?_toArray, show (K0.cs)[0]? = some (.int .i64 K0.kind) from rfl] at c0
      have HKK : Hid (Blk w2 w.heap.size 27 cv.toArray) := Lib.hid ((HK.out.below HB1.out HK.out.lt).below b2 (Nat.lt_of_lt_of_le HK.out.lt HB1.out.size))
      clear b2 hk2 HK1 HK HB HB1
      by_cases s1 : signB K0.kind = true
      · have HG1 := Lib.hid (show keepB K0 true = true by rw [keepB, m1, s1]; rfl)
        clear m1
        go_wp2_with fail
        refine (signed_to K0.kind true (by rw [← s1]; rfl) _).mono ?_
        rintro e w3 ⟨rfl, rfl⟩
        go_wp2
        go_roundw
        case rel => exact ⟨1, by omega, by go_num, Lib.hid (fun _ => HG1.out), Lib.hid (fun h => absurd h (by omega)), HKK, HB2⟩
        case measure => simp [intOf]
      have s2 : signB K0.kind = false := by simpa using s1
      clear s1
      · have HF1 : Hid (t = (3, 0, 1)) := Lib.hid (HE0.out (by rw [keepB, m1, s2]; rfl))
        clear m1
        go_wp2_with fail
        refine (signed_to K0.kind false (by rw [← s2]; rfl) _).mono ?_
        rintro e w3 ⟨rfl, rfl⟩
        go_wp2
        go_ret3
        exact ⟨trip_ret HF1.out, HB2.out⟩
    · obtain ⟨hk1, hb1⟩ := keep_copied wr K1.cs
      have hr := hk1.rangeL
      have e0 : (K1.cs)[0]? = some (.int .i64 K1.kind) := rfl
      have c0 := hk1.cell 0
      rw [List.getElem?_toArray, e0] at c0
      have HZ := Lib.hid (Blk.new wr 23 zk.toArray)
      have HO : Hid ((K1.cs).toArray.all (·.oneCell') = true) := Lib.hid (by simp [KeepP.cs, Value.oneCell'])
      have HRg := Lib.hid hr
      have HB1 := Lib.hid hb1
      have HK1 := Lib.hid hk1
      clear hr hb1 hk1 e0 c0
      go_wp2_with (first
        | (refine wpList_store_row rfl 23 (.tmp 6) (.tmp 28) rfl wr.heap.size (K1.cs).toArray rfl rfl 23 zk.toArray HZ.out k_size rfl HO.out ?_)
        | (refine wpList_load_mid rfl 23 (.tmp 6) rfl wr.heap.size 0 rfl (K1.cs) _ HRg.out Try.underlying23 rfl k_size ?_)
        | fail)
      clear ix0 ix1 hz HRg HZ HO
      generalize ((wr.alloc (.cells zk.toArray 23)).setRow wr.heap.size (K1.cs).toArray) = W1 at *
      by_cases m1 : mayB K1 = true
      rotate_left
      · have m1' : mayB K1 = false := by simpa using m1
        have HF1 : Hid (t = (3, 1, 1)) := Lib.hid (HE1.out (HP0.out (by omega)) (by rw [keepB, m1']; rfl))
        refine (may_to K1.kind K1.size K1.small K1.out false m1'.symm _).mono ?_
        rintro e w2 ⟨rfl, b2⟩
        have HB2 := Lib.hid ((HB.out.trans HB1.out).trans b2)
        clear b2
        go_wp2
        go_ret3
        exact ⟨trip_ret HF1.out, HB2.out⟩
      refine (may_to K1.kind K1.size K1.small K1.out true m1.symm _).mono ?_
      rintro e w2 ⟨rfl, b2⟩
      have HB2 := Lib.hid ((HB.out.trans HB1.out).trans b2)
      have hk2 := HK1.out.below b2 HK1.out.lt
      have c0 := hk2.cell 0
      rw [List.getElem?_toArray, show (K1.cs)[0]? = some (.int .i64 K1.kind) from rfl] at c0
      have HKK : Hid (Blk w2 w.heap.size 27 cv.toArray) := Lib.hid ((HK.out.below HB1.out HK.out.lt).below b2 (Nat.lt_of_lt_of_le HK.out.lt HB1.out.size))
      clear b2 hk2 HK1 HK HB HB1
      by_cases s1 : signB K1.kind = true
      · have HF1 : Hid (t = (3, 1, 1)) := Lib.hid (HE1.out (HP0.out (by omega)) (by rw [keepB, m1, s1]; rfl))
        clear m1
        go_wp2_with fail
        refine (signed_to K1.kind true (by rw [← s1]; rfl) _).mono ?_
        rintro e w3 ⟨rfl, rfl⟩
        go_wp2
        go_ret3
        exact ⟨trip_ret HF1.out, HB2.out⟩
      have s2 : signB K1.kind = false := by simpa using s1
      clear s1
      · have HG1 := Lib.hid (show keepB K1 false = true by rw [keepB, m1, s2]; rfl)
        clear m1
        go_wp2_with fail
        refine (signed_to K1.kind false (by rw [← s2]; rfl) _).mono ?_
        rintro e w3 ⟨rfl, rfl⟩
        go_wp2
        go_roundw
        case rel => exact ⟨2, by omega, by go_num, Lib.hid (fun _ => HP0.out (by omega)), Lib.hid (fun _ => HG1.out), HKK, HB2⟩
        case measure => simp [intOf]
    · have HT4 := Lib.hid (HT3.out (HP0.out (by omega)) (HP1.out (by omega)))
      have d10 := HK.out.cell 10; have d0 := HK.out.cell 0
      rw [List.getElem?_toArray] at d10 d0
      rw [N10.out] at d10
      rw [N0.out] at d0
      clear HT3 HE0 HE1 ix0 ix1 hz HP0 HP1
      go_wp2_with fail
      by_cases q4 : 1 ≤ (gs.length : Int) ∧ (gs.length : Int) ≤ 8
      rotate_left
      · have HO : Hid (t = (4, 0, 1)) := Lib.hid (by rw [HT4.out, if_pos (by omega)])
        refine (isMany_to (gs.length : Int) false (decide_eq_false q4).symm _).mono ?_
        rintro e w3 ⟨rfl, rfl⟩
        go_wp2
        go_ret3
        exact ⟨trip_ret HO.out, HB.out⟩
      have HT5 : Hid (t = if 0 ≤ oddF f 0 gs then (5, oddF f 0 gs, 1)
        else if 0 ≤ badP (flatP gs) then (6, badP (flatP gs), 1)
        else (0, 0, 0)) := Lib.hid (by rw [HT4.out, if_neg (by omega)])
      clear HT4
      refine (isMany_to (gs.length : Int) true (decide_eq_true q4).symm _).mono ?_
      rintro e w3 ⟨rfl, rfl⟩
      have HI := Lib.hid (index_to (A := A) (c := c) (gs := gs) (HX.out.gs.step HB.out) (by show gs.length ≤ 1000; omega) f w.heap.size d0)
      clear q4
      go_wp2_with fail
      refine HI.out.mono ?_
      rintro e w4 ⟨rfl, b4⟩
      have HB4 := Lib.hid (HB.out.trans b4)
      have hk4 := HK.out.below b4 HK.out.lt
      have hr4 := hk4.rangeL
      have HRg := Lib.hid hr4
      have HW := wrong_any (HX.out.step HB4.out) HF.out
      rw [HV.out] at HW
      simp only at HW
      have HWW := Lib.hid HW
      clear b4 hk4 hr4 HI HK HB d10 d0 HW
      generalize oddF f 0 gs = r at HT5
      by_cases q5 : 0 ≤ r
      · have HO : Hid (t = (5, r, 1)) := Lib.hid (by rw [HT5.out, if_pos q5])
        simp only
        go_wp2
        go_ret3
        exact ⟨trip_ret HO.out, HB4.out⟩
      have HT6 : Hid (t = if 0 ≤ badP (flatP gs) then (6, badP (flatP gs), 1) else (0, 0, 0)) := Lib.hid (by rw [HT5.out, if_neg q5])
      clear HT5
      simp only
      go_wp2_with (first
        | (refine wpList_load_mid rfl 27 (.tmp 1) rfl w.heap.size 0 rfl cv _ HRg.out Try.underlying27 rfl (by rw [HCL.out]; exact c_size) ?_)
        | fail)
      refine HWW.out.mono ?_
      rintro e w5 ⟨rfl, b5⟩
      have HB5 := Lib.hid (HB4.out.trans b5)
      clear b5 HWW
      generalize badP (flatP gs) = s at HT6
      by_cases q6 : 0 ≤ s
      · have HO : Hid (t = (6, s, 1)) := Lib.hid (by rw [HT6.out, if_pos q6])
        go_wp2
        go_ret3
        exact ⟨trip_ret HO.out, HB5.out⟩
      have HO : Hid (t = (0, 0, 0)) := Lib.hid (by rw [HT6.out, if_neg q6])
      clear HT6
      go_wp2
      go_ret3
      exact ⟨trip_ret HO.out, HB5.out⟩
end Go.Proofs.Ytigicphmnlkjfaa
