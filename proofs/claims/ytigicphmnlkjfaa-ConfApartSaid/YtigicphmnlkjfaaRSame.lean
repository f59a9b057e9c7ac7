/- The contract of ratchetref21.Same: are two Confs the same? (Printed by wip/gen_rsame.py.) -/
import Derived.Test.YtigicphmnlkjfaaPair
import Derived.Test.YtigicphmnlkjfaaBytesPlain
namespace Go.Proofs.Ytigicphmnlkjfaa
open Go.RowKit
set_option linter.unusedVariables false
set_option linter.unusedSimpArgs false

/-- Two groups, the same. -/
theorem grp_eq {g h : GroupP} : g = h ↔ g.opt = h.opt ∧ g.sched = h.sched ∧ g.params = h.params := by
  cases g; cases h; simp
theorem lists_eq {α : Type} {l k : List α} (hl : l.length = k.length) (h : ∀ j, (a : j < l.length) → (b : j < k.length) → l[j] = k[j]) : l = k := List.ext_getElem hl h

set_option maxRecDepth 100000 in
set_option maxHeartbeats 8000000 in
theorem rsame_any {w : World} {A B : Option Addr} {c d : Nat} {x y : ConfP} (hx : CF w A c x) (hy : CF w B d y) (fx : fewC x = true) (fy : fewC y = true) (b : Bool) (hb : b = decide (x = y)) :
    Calls Try.prog 21 #[x.v A c, y.v B d] w fun e w' => e = .returned (.bool b) ∧ Bl w w' := by
  obtain ⟨lx, gfx⟩ := few_parts fx
  obtain ⟨ly, gfy⟩ := few_parts fy
  obtain ⟨f, cl, k0, k1, gs⟩ := x
  obtain ⟨f', cl', l0, l1, hs⟩ := y
  obtain ⟨If, Icl, ok0, ok1, okg, _⟩ := hx.ok
  obtain ⟨If', Icl', ol0, ol1, okh, _⟩ := hy.ok
  simp only at *
  have HB : Hid (b = decide (f = f' ∧ cl = cl' ∧ (k0 = l0 ∧ k1 = l1) ∧ gs = hs)) := Lib.hid (by rw [hb]; exact decide_eq_decide.2 (by simp [and_assoc]))
  have HGX : Hid (Groups w A gs) := hx.gs
  have HGY : Hid (Groups w B hs) := hy.gs
  have OKX := Lib.hid okg; have OKY := Lib.hid okh; have FX := Lib.hid gfx; have FY := Lib.hid gfy
  have K0 := Lib.hid ok0; have K1 := Lib.hid ok1; have L0 := Lib.hid ol0; have L1 := Lib.hid ol1
  obtain ⟨e3, he3⟩ : ∃ e3, e3 = decide (k0 = l0 ∧ k1 = l1) := ⟨_, rfl⟩
  have HK := Lib.hid (eq_keeps k0 k1 l0 l1 ok0 ok1 ol0 ol1 e3 he3)
  have HE3 := Lib.hid he3
  clear hb hx hy If Icl If' Icl' ok0 ok1 okg ol0 ol1 okh fx fy gfx gfy he3
  unfold ConfP.v
  simp only
  have hb1 := (Bl.alloc w (.cells #[.int .i64 f, .int .i64 cl, .int .i64 k0.kind, .int .i64 k0.size, .int .i64 k0.small, .int .i64 k0.out, .int .i64 k1.kind, .int .i64 k1.size, .int .i64 k1.small, .int .i64 k1.out, .slice A gs.length c] 27)).trans (Bl.alloc (w.alloc (.cells #[.int .i64 f, .int .i64 cl, .int .i64 k0.kind, .int .i64 k0.size, .int .i64 k0.small, .int .i64 k0.out, .int .i64 k1.kind, .int .i64 k1.size, .int .i64 k1.small, .int .i64 k1.out, .slice A gs.length c] 27)) (.cells #[.int .i64 f', .int .i64 cl', .int .i64 l0.kind, .int .i64 l0.size, .int .i64 l0.small, .int .i64 l0.out, .int .i64 l1.kind, .int .i64 l1.size, .int .i64 l1.small, .int .i64 l1.out, .slice B hs.length d] 27))
  have kx := (Blk.new w 27 #[.int .i64 f, .int .i64 cl, .int .i64 k0.kind, .int .i64 k0.size, .int .i64 k0.small, .int .i64 k0.out, .int .i64 k1.kind, .int .i64 k1.size, .int .i64 k1.small, .int .i64 k1.out, .slice A gs.length c]).alloc (.cells #[.int .i64 f', .int .i64 cl', .int .i64 l0.kind, .int .i64 l0.size, .int .i64 l0.small, .int .i64 l0.out, .int .i64 l1.kind, .int .i64 l1.size, .int .i64 l1.small, .int .i64 l1.out, .slice B hs.length d] 27)
  have ky := Blk.new (w.alloc (.cells #[.int .i64 f, .int .i64 cl, .int .i64 k0.kind, .int .i64 k0.size, .int .i64 k0.small, .int .i64 k0.out, .int .i64 k1.kind, .int .i64 k1.size, .int .i64 k1.small, .int .i64 k1.out, .slice A gs.length c] 27)) 27 #[.int .i64 f', .int .i64 cl', .int .i64 l0.kind, .int .i64 l0.size, .int .i64 l0.small, .int .i64 l0.out, .int .i64 l1.kind, .int .i64 l1.size, .int .i64 l1.small, .int .i64 l1.out, .slice B hs.length d]
  rw [show (w.alloc (.cells #[.int .i64 f, .int .i64 cl, .int .i64 k0.kind, .int .i64 k0.size, .int .i64 k0.small, .int .i64 k0.out, .int .i64 k1.kind, .int .i64 k1.size, .int .i64 k1.small, .int .i64 k1.out, .slice A gs.length c] 27)).heap.size = w.heap.size + 1 from by simp] at ky
  have HB1 := Lib.hid hb1
  have HX := Lib.hid ((kx.cell 10).trans (show _ = some (Value.slice A gs.length c) from rfl))
  have HY := Lib.hid ((ky.cell 10).trans (show _ = some (Value.slice B hs.length d) from rfl))
  have HLX := Lib.hid kx.lt; have HLY := Lib.hid ky.lt
  clear hb1 kx ky
  go_enter Try.func21, Try.ntmps21
  by_cases p1 : f = f'
  rotate_left
  · have HF : Hid (b = false) := Lib.hid (by rw [HB.out, decide_eq_false_iff_not]; exact fun h => p1 h.1)
    have p1' : (f == f') = false := by simpa using p1
    go_wp2_with fail
    go_ret
    exact ⟨ret_v HF.out, HB1.out⟩
  subst p1
  by_cases p2 : cl = cl'
  rotate_left
  · have HF : Hid (b = false) := Lib.hid (by rw [HB.out, decide_eq_false_iff_not]; exact fun h => p2 h.2.1)
    have p2' : (cl == cl') = false := by simpa using p2
    go_wp2_with fail
    go_ret
    exact ⟨ret_v HF.out, HB1.out⟩
  subst p2
  cases e3
  · have HF : Hid (b = false) := Lib.hid (by rw [HB.out, decide_eq_false_iff_not]; exact fun h => of_decide_eq_false HE3.out.symm h.2.2.1)
    clear HB HE3
    go_wp2_with (first
      | ((with_reducible refine at_bin .neq 24 24 (.tmp 23) (.tmp 25) ?_); refine wpList_neq_row 24 24 (.tmp 23) (.tmp 25) rfl ?_ #[.int .i64 k0.kind, .int .i64 k0.size, .int .i64 k0.small, .int .i64 k0.out, .int .i64 k1.kind, .int .i64 k1.size, .int .i64 k1.small, .int .i64 k1.out] #[.int .i64 l0.kind, .int .i64 l0.size, .int .i64 l0.small, .int .i64 l0.out, .int .i64 l1.kind, .int .i64 l1.size, .int .i64 l1.small, .int .i64 l1.out] ?_ ?_ g_keeps false (HK.out _) ?_; rfl; rfl; rfl)
      | fail)
    go_ret
    exact ⟨ret_v HF.out, HB1.out⟩
  obtain ⟨rfl, rfl⟩ := of_decide_eq_true HE3.out.symm
  replace HB : Hid (b = decide (gs = hs)) := Lib.hid (by rw [HB.out]; exact decide_eq_decide.2 (by simp))
  clear HE3
  by_cases p4 : gs.length = hs.length
  rotate_left
  · have HF : Hid (b = false) := Lib.hid (by rw [HB.out, decide_eq_false_iff_not]; exact fun h => p4 (by rw [h]))
    have p4' : ((gs.length : Int) == (hs.length : Int)) = false := by rw [beq_eq_false_iff_ne]; omega
    go_wp2_with (first
      | ((with_reducible refine at_bin .neq 24 24 (.tmp 23) (.tmp 25) ?_); refine wpList_neq_row 24 24 (.tmp 23) (.tmp 25) rfl ?_ #[.int .i64 k0.kind, .int .i64 k0.size, .int .i64 k0.small, .int .i64 k0.out, .int .i64 k1.kind, .int .i64 k1.size, .int .i64 k1.small, .int .i64 k1.out] #[.int .i64 k0.kind, .int .i64 k0.size, .int .i64 k0.small, .int .i64 k0.out, .int .i64 k1.kind, .int .i64 k1.size, .int .i64 k1.small, .int .i64 k1.out] ?_ ?_ g_keeps true (HK.out _) ?_; rfl; rfl; rfl)
      | fail)
    go_ret
    exact ⟨ret_v HF.out, HB1.out⟩
  have P4 := Lib.hid p4
  have p4' : ((gs.length : Int) != (hs.length : Int)) = false := by rw [bne_eq_false_iff_eq]; omega
  clear p4
  go_wp2_with (first
    | ((with_reducible refine at_bin .neq 24 24 (.tmp 23) (.tmp 25) ?_); refine wpList_neq_row 24 24 (.tmp 23) (.tmp 25) rfl ?_ #[.int .i64 k0.kind, .int .i64 k0.size, .int .i64 k0.small, .int .i64 k0.out, .int .i64 k1.kind, .int .i64 k1.size, .int .i64 k1.small, .int .i64 k1.out] #[.int .i64 k0.kind, .int .i64 k0.size, .int .i64 k0.small, .int .i64 k0.out, .int .i64 k1.kind, .int .i64 k1.size, .int .i64 k1.small, .int .i64 k1.out] ?_ ?_ g_keeps true (HK.out _) ?_; rfl; rfl; rfl)
    | fail)
  clear HK K0 K1 L0 L1 p4'
  go_loopw [5] (fun i wr => ∃ k : Nat, k ≤ gs.length ∧ i = .int .i64 k ∧ Hid (∀ j, (a : j < gs.length) → (b : j < hs.length) → j < k → gs[j] = hs[j]) ∧ Hid (Bl w wr) ∧ Hid (wr.cell? ⟨w.heap.size, 10, none⟩ = some (.slice A gs.length c)) ∧ Hid (wr.cell? ⟨w.heap.size + 1, 10, none⟩ = some (.slice B hs.length d)) ∧ Hid (w.heap.size + 1 < wr.heap.size)) (fun i _ => gs.length - (intOf i).toNat)
  case atStart => exact ⟨0, Nat.zero_le _, rfl, Lib.hid (fun j _ _ h => absurd h (by omega)), HB1, HX, HY, HLY⟩
  case round =>
    clear HB1 HX HY HLX HLY
    obtain ⟨k, hk, rfl, HS, HB1, HX, HY, HLT⟩ := hrel
    by_cases hlt : k < gs.length
    rotate_left
    · have HF : Hid (b = true) := Lib.hid (by
        rw [HB.out, decide_eq_true_iff]
        exact lists_eq P4.out (fun j a b' => HS.out j a b' (by omega)))
      have q1 := HX.out
      clear HS HGX HGY
      go_wp2_with fail
      go_ret
      exact ⟨ret_v HF.out, HB1.out⟩
    have hlt2 : k < hs.length := by have := P4.out; omega
    obtain ⟨g1, o1, P, cp, rfl, hg1, hu, hpx, _⟩ := (HGX.out.step HB1.out).at_ hlt
    obtain ⟨g2, o2, Q, cq, rfl, hg2, hv, hpy, _⟩ := (HGY.out.step HB1.out).at_ hlt2
    obtain ⟨x, hxe⟩ : ∃ x, x = gs[k] := ⟨_, rfl⟩
    obtain ⟨y, hye⟩ : ∃ y, y = hs[k] := ⟨_, rfl⟩
    rw [← hxe] at hu hpx; rw [← hye] at hv hpy
    have okx := OKX.out _ (List.getElem_mem hlt); have oky := OKY.out _ (List.getElem_mem hlt2)
    have fx := FX.out _ (List.getElem_mem hlt); have fy := FY.out _ (List.getElem_mem hlt2)
    rw [← hxe] at okx fx; rw [← hye] at oky fy
    have HF : x ≠ y → Hid (b = false) := fun hne => Lib.hid (by
      rw [HB.out, decide_eq_false_iff_not]
      intro h
      apply hne
      rw [hxe, hye]
      simp only [h])
    have HS2 : x = y → Hid (∀ j, (a : j < gs.length) → (b : j < hs.length) → j < k + 1 → gs[j] = hs[j]) := fun e => Lib.hid (fun j a b h => by
      by_cases hj : j < k
      · exact HS.out j a b hj
      · obtain rfl : j = k := by omega
        rw [← hxe, ← hye]; exact e)
    replace HF := Lib.hid HF
    have HF0 := HF
    replace HS2 := Lib.hid HS2
    clear HS hxe hye
    obtain ⟨us, hus⟩ : ∃ us, us = x.cs P cp := ⟨_, rfl⟩
    obtain ⟨vs, hvs⟩ : ∃ vs, vs = y.cs Q cq := ⟨_, rfl⟩
    rw [← hus] at hu; rw [← hvs] at hv
    have HU := Lib.hid hu; have HV := Lib.hid hv
    have lu : us.length = 23 := by rw [hus]; rfl
    have lv : vs.length = 23 := by rw [hvs]; rfl
    have ou : us.toArray.all (·.oneCell') = true := by rw [hus]; exact GroupP.cs_one _ _ _
    have ov : vs.toArray.all (·.oneCell') = true := by rw [hvs]; exact GroupP.cs_one _ _ _
    have HUS := Lib.hid hus; have HVS := Lib.hid hvs
    have LU := Lib.hid lu; have LV := Lib.hid lv; have OU := Lib.hid ou; have OV := Lib.hid ov
    have HPX := Lib.hid hpx; have HPY := Lib.hid hpy
    have OKx := Lib.hid okx; have OKy := Lib.hid oky; have Fx := Lib.hid fx; have Fy := Lib.hid fy
    have H1 := Lib.hid hg1; have H2 := Lib.hid hg2
    have q1 := HX.out
    clear hu hv lu lv ou ov hus hvs hpx hpy okx oky fx fy hg1 hg2 HGX HGY
    go_wp2_with fail
    have sz := HLT.out
    refine pair wr w.heap.size (w.heap.size + 1) g1 o1 g2 o2 gs.length hs.length c d k us vs _ (by omega) (by omega) H1.out H2.out hlt hlt2 HX.out HY.out HU.out HV.out LU.out LV.out OU.out OV.out (fun b6 b7 W2 b2 s6 s7 k6 k7 => ?_)
    dsimp only
    have HB2 := Lib.hid (HB1.out.trans b2)
    have r6 := k6.rangeL
    have r7 := k7.rangeL
    rw [HUS.out] at r6; rw [HVS.out] at r7
    have R6o := Lib.hid (range_opt r6); have R7o := Lib.hid (range_opt r7)
    have R6s := Lib.hid (range_sched r6); have R7s := Lib.hid (range_sched r7)
    have c6 : W2.cell? ⟨b6, 22, none⟩ = some (.slice P x.params.length cp) := (r6 22 _ rfl).symm ▸ rfl
    have c7 : W2.cell? ⟨b7, 22, none⟩ = some (.slice Q y.params.length cq) := (r7 22 _ rfl).symm ▸ rfl
    have HPX2 := Lib.hid (HPX.out.step b2); have HPY2 := Lib.hid (HPY.out.step b2)
    have HX2 := Lib.hid ((Bl.cell b2 (show w.heap.size < wr.heap.size by omega)).trans HX.out)
    have HY2 := Lib.hid ((Bl.cell b2 (show w.heap.size + 1 < wr.heap.size by omega)).trans HY.out)
    have HL2 : Hid (w.heap.size + 1 < W2.heap.size) := Lib.hid (Nat.lt_of_lt_of_le HLT.out b2.size)
    have l6 := k6.lt; have l7 := k7.lt
    clear r6 r7 HB1 b2 HU HV LU LV OU OV HPX HPY H1 H2 HX HY HLT HUS HVS k6 k7 sz q1
    obtain ⟨eo, heo⟩ : ∃ eo, eo = decide (x.opt = y.opt) := ⟨_, rfl⟩
    obtain ⟨es, hes⟩ : ∃ es, es = decide (x.sched = y.sched) := ⟨_, rfl⟩
    have EO := Lib.hid (eq_opt x.opt y.opt OKx.out.1 OKy.out.1 eo heo)
    have ES := Lib.hid (eq_sched x.sched y.sched OKx.out.2.1 OKy.out.2.1 es hes)
    have os6 : (x.opt.cs).length = 14 := rfl
    obtain ⟨ox, hox⟩ : ∃ ox, ox = x.opt.cs := ⟨_, rfl⟩
    obtain ⟨oy, hoy⟩ : ∃ oy, oy = y.opt.cs := ⟨_, rfl⟩
    obtain ⟨sx, hsx⟩ : ∃ sx, sx = x.sched.cs := ⟨_, rfl⟩
    obtain ⟨sy, hsy⟩ : ∃ sy, sy = y.sched.cs := ⟨_, rfl⟩
    have Lox : Hid (ox.length = 14) := Lib.hid (by rw [hox]; rfl)
    have Loy : Hid (oy.length = 14) := Lib.hid (by rw [hoy]; rfl)
    have Lsx : Hid (sx.length = 8) := Lib.hid (by rw [hsx]; rfl)
    have Lsy : Hid (sy.length = 8) := Lib.hid (by rw [hsy]; rfl)
    rw [← hox] at R6o EO; rw [← hoy] at R7o EO; rw [← hsx] at R6s ES; rw [← hsy] at R7s ES
    have HEO := Lib.hid heo; have HES := Lib.hid hes
    clear heo hes hox hoy hsx hsy os6
    by_cases pn : x.params.length = y.params.length
    rotate_left
    · have HFF := HF.out (fun e => pn (by rw [e]))
      have pn' : ((x.params.length : Int) == (y.params.length : Int)) = false := by rw [beq_eq_false_iff_ne]; omega
      clear HF HS2 HEO HES
      cases eo
      · go_wp2_with (first
          | ((with_reducible refine at_load 49 (.tmp 54) ?_); refine wpList_load_mid rfl 49 (.tmp 54) rfl b6 0 rfl ox _ R6o.out Try.underlying49 rfl (by rw [Lox.out]; exact o_size) ?_; try simp only [Act.put, List.setIfInBounds_toArray, List.set_cons_zero, List.set_cons_succ])
          | ((with_reducible refine at_load 49 (.tmp 56) ?_); refine wpList_load_mid rfl 49 (.tmp 56) rfl b7 0 rfl oy _ R7o.out Try.underlying49 rfl (by rw [Loy.out]; exact o_size) ?_; try simp only [Act.put, List.setIfInBounds_toArray, List.set_cons_zero, List.set_cons_succ])
          | ((with_reducible refine at_bin .neq 49 49 (.tmp 55) (.tmp 57) ?_); refine wpList_neq_row 49 49 (.tmp 55) (.tmp 57) rfl ?_ ox.toArray oy.toArray ?_ ?_ g_opt false (EO.out _) ?_; rfl; rfl; rfl; try simp only [Act.put, List.setIfInBounds_toArray, List.set_cons_zero, List.set_cons_succ])
          | fail)
        go_ret
        exact ⟨ret_v HFF.out, HB2.out⟩
      · cases es
        · go_wp2_with (first
            | ((with_reducible refine at_load 49 (.tmp 54) ?_); refine wpList_load_mid rfl 49 (.tmp 54) rfl b6 0 rfl ox _ R6o.out Try.underlying49 rfl (by rw [Lox.out]; exact o_size) ?_; try simp only [Act.put, List.setIfInBounds_toArray, List.set_cons_zero, List.set_cons_succ])
            | ((with_reducible refine at_load 49 (.tmp 56) ?_); refine wpList_load_mid rfl 49 (.tmp 56) rfl b7 0 rfl oy _ R7o.out Try.underlying49 rfl (by rw [Loy.out]; exact o_size) ?_; try simp only [Act.put, List.setIfInBounds_toArray, List.set_cons_zero, List.set_cons_succ])
            | ((with_reducible refine at_load 51 (.tmp 60) ?_); refine wpList_load_midg (by rfl) 51 (.tmp 60) rfl b6 14 rfl sx _ (by have := R6s.out; simpa using this) Try.underlying51 rfl (by rw [Lsx.out]; exact s_size) ?_; try simp only [Act.put, List.setIfInBounds_toArray, List.set_cons_zero, List.set_cons_succ])
            | ((with_reducible refine at_load 51 (.tmp 62) ?_); refine wpList_load_midg (by rfl) 51 (.tmp 62) rfl b7 14 rfl sy _ (by have := R7s.out; simpa using this) Try.underlying51 rfl (by rw [Lsy.out]; exact s_size) ?_; try simp only [Act.put, List.setIfInBounds_toArray, List.set_cons_zero, List.set_cons_succ])
            | ((with_reducible refine at_bin .neq 49 49 (.tmp 55) (.tmp 57) ?_); refine wpList_neq_row 49 49 (.tmp 55) (.tmp 57) rfl ?_ ox.toArray oy.toArray ?_ ?_ g_opt true (EO.out _) ?_; rfl; rfl; rfl; try simp only [Act.put, List.setIfInBounds_toArray, List.set_cons_zero, List.set_cons_succ])
            | ((with_reducible refine at_bin .neq 51 51 (.tmp 61) (.tmp 63) ?_); refine wpList_neq_row 51 51 (.tmp 61) (.tmp 63) rfl ?_ sx.toArray sy.toArray ?_ ?_ g_sched false (ES.out _) ?_; rfl; rfl; rfl; try simp only [Act.put, List.setIfInBounds_toArray, List.set_cons_zero, List.set_cons_succ])
            | fail)
          go_ret
          exact ⟨ret_v HFF.out, HB2.out⟩
        · go_wp2_with (first
            | ((with_reducible refine at_load 49 (.tmp 54) ?_); refine wpList_load_mid rfl 49 (.tmp 54) rfl b6 0 rfl ox _ R6o.out Try.underlying49 rfl (by rw [Lox.out]; exact o_size) ?_; try simp only [Act.put, List.setIfInBounds_toArray, List.set_cons_zero, List.set_cons_succ])
            | ((with_reducible refine at_load 49 (.tmp 56) ?_); refine wpList_load_mid rfl 49 (.tmp 56) rfl b7 0 rfl oy _ R7o.out Try.underlying49 rfl (by rw [Loy.out]; exact o_size) ?_; try simp only [Act.put, List.setIfInBounds_toArray, List.set_cons_zero, List.set_cons_succ])
            | ((with_reducible refine at_load 51 (.tmp 60) ?_); refine wpList_load_midg (by rfl) 51 (.tmp 60) rfl b6 14 rfl sx _ (by have := R6s.out; simpa using this) Try.underlying51 rfl (by rw [Lsx.out]; exact s_size) ?_; try simp only [Act.put, List.setIfInBounds_toArray, List.set_cons_zero, List.set_cons_succ])
            | ((with_reducible refine at_load 51 (.tmp 62) ?_); refine wpList_load_midg (by rfl) 51 (.tmp 62) rfl b7 14 rfl sy _ (by have := R7s.out; simpa using this) Try.underlying51 rfl (by rw [Lsy.out]; exact s_size) ?_; try simp only [Act.put, List.setIfInBounds_toArray, List.set_cons_zero, List.set_cons_succ])
            | ((with_reducible refine at_bin .neq 49 49 (.tmp 55) (.tmp 57) ?_); refine wpList_neq_row 49 49 (.tmp 55) (.tmp 57) rfl ?_ ox.toArray oy.toArray ?_ ?_ g_opt true (EO.out _) ?_; rfl; rfl; rfl; try simp only [Act.put, List.setIfInBounds_toArray, List.set_cons_zero, List.set_cons_succ])
            | ((with_reducible refine at_bin .neq 51 51 (.tmp 61) (.tmp 63) ?_); refine wpList_neq_row 51 51 (.tmp 61) (.tmp 63) rfl ?_ sx.toArray sy.toArray ?_ ?_ g_sched true (ES.out _) ?_; rfl; rfl; rfl; try simp only [Act.put, List.setIfInBounds_toArray, List.set_cons_zero, List.set_cons_succ])
            | fail)
          go_ret
          exact ⟨ret_v HFF.out, HB2.out⟩
    cases eo
    · have HFF := HF.out (fun e => of_decide_eq_false HEO.out.symm (by rw [e]))
      clear HF HS2 HEO HES
      go_wp2_with (first
        | ((with_reducible refine at_load 49 (.tmp 54) ?_); refine wpList_load_mid rfl 49 (.tmp 54) rfl b6 0 rfl ox _ R6o.out Try.underlying49 rfl (by rw [Lox.out]; exact o_size) ?_; try simp only [Act.put, List.setIfInBounds_toArray, List.set_cons_zero, List.set_cons_succ])
        | ((with_reducible refine at_load 49 (.tmp 56) ?_); refine wpList_load_mid rfl 49 (.tmp 56) rfl b7 0 rfl oy _ R7o.out Try.underlying49 rfl (by rw [Loy.out]; exact o_size) ?_; try simp only [Act.put, List.setIfInBounds_toArray, List.set_cons_zero, List.set_cons_succ])
        | ((with_reducible refine at_bin .neq 49 49 (.tmp 55) (.tmp 57) ?_); refine wpList_neq_row 49 49 (.tmp 55) (.tmp 57) rfl ?_ ox.toArray oy.toArray ?_ ?_ g_opt false (EO.out _) ?_; rfl; rfl; rfl; try simp only [Act.put, List.setIfInBounds_toArray, List.set_cons_zero, List.set_cons_succ])
        | fail)
      go_ret
      exact ⟨ret_v HFF.out, HB2.out⟩
    cases es
    · have HFF := HF.out (fun e => of_decide_eq_false HES.out.symm (by rw [e]))
      clear HF HS2 HEO HES
      go_wp2_with (first
        | ((with_reducible refine at_load 49 (.tmp 54) ?_); refine wpList_load_mid rfl 49 (.tmp 54) rfl b6 0 rfl ox _ R6o.out Try.underlying49 rfl (by rw [Lox.out]; exact o_size) ?_; try simp only [Act.put, List.setIfInBounds_toArray, List.set_cons_zero, List.set_cons_succ])
        | ((with_reducible refine at_load 49 (.tmp 56) ?_); refine wpList_load_mid rfl 49 (.tmp 56) rfl b7 0 rfl oy _ R7o.out Try.underlying49 rfl (by rw [Loy.out]; exact o_size) ?_; try simp only [Act.put, List.setIfInBounds_toArray, List.set_cons_zero, List.set_cons_succ])
        | ((with_reducible refine at_load 51 (.tmp 60) ?_); refine wpList_load_midg (by rfl) 51 (.tmp 60) rfl b6 14 rfl sx _ (by have := R6s.out; simpa using this) Try.underlying51 rfl (by rw [Lsx.out]; exact s_size) ?_; try simp only [Act.put, List.setIfInBounds_toArray, List.set_cons_zero, List.set_cons_succ])
        | ((with_reducible refine at_load 51 (.tmp 62) ?_); refine wpList_load_midg (by rfl) 51 (.tmp 62) rfl b7 14 rfl sy _ (by have := R7s.out; simpa using this) Try.underlying51 rfl (by rw [Lsy.out]; exact s_size) ?_; try simp only [Act.put, List.setIfInBounds_toArray, List.set_cons_zero, List.set_cons_succ])
        | ((with_reducible refine at_bin .neq 49 49 (.tmp 55) (.tmp 57) ?_); refine wpList_neq_row 49 49 (.tmp 55) (.tmp 57) rfl ?_ ox.toArray oy.toArray ?_ ?_ g_opt true (EO.out _) ?_; rfl; rfl; rfl; try simp only [Act.put, List.setIfInBounds_toArray, List.set_cons_zero, List.set_cons_succ])
        | ((with_reducible refine at_bin .neq 51 51 (.tmp 61) (.tmp 63) ?_); refine wpList_neq_row 51 51 (.tmp 61) (.tmp 63) rfl ?_ sx.toArray sy.toArray ?_ ?_ g_sched false (ES.out _) ?_; rfl; rfl; rfl; try simp only [Act.put, List.setIfInBounds_toArray, List.set_cons_zero, List.set_cons_succ])
        | fail)
      go_ret
      exact ⟨ret_v HFF.out, HB2.out⟩
    have eop := of_decide_eq_true HEO.out.symm
    have esp := of_decide_eq_true HES.out.symm
    have HXY : Hid (x = y ↔ x.params = y.params) := Lib.hid ⟨fun e => by rw [e], fun e => grp_eq.2 ⟨eop, esp, e⟩⟩
    clear eop esp HEO HES
    have pn' : ((x.params.length : Int) != (y.params.length : Int)) = false := by rw [bne_eq_false_iff_eq]; omega
    go_wp2_with (first
      | ((with_reducible refine at_load 49 (.tmp 54) ?_); refine wpList_load_mid rfl 49 (.tmp 54) rfl b6 0 rfl ox _ R6o.out Try.underlying49 rfl (by rw [Lox.out]; exact o_size) ?_; try simp only [Act.put, List.setIfInBounds_toArray, List.set_cons_zero, List.set_cons_succ])
      | ((with_reducible refine at_load 49 (.tmp 56) ?_); refine wpList_load_mid rfl 49 (.tmp 56) rfl b7 0 rfl oy _ R7o.out Try.underlying49 rfl (by rw [Loy.out]; exact o_size) ?_; try simp only [Act.put, List.setIfInBounds_toArray, List.set_cons_zero, List.set_cons_succ])
      | ((with_reducible refine at_load 51 (.tmp 60) ?_); refine wpList_load_midg (by rfl) 51 (.tmp 60) rfl b6 14 rfl sx _ (by have := R6s.out; simpa using this) Try.underlying51 rfl (by rw [Lsx.out]; exact s_size) ?_; try simp only [Act.put, List.setIfInBounds_toArray, List.set_cons_zero, List.set_cons_succ])
      | ((with_reducible refine at_load 51 (.tmp 62) ?_); refine wpList_load_midg (by rfl) 51 (.tmp 62) rfl b7 14 rfl sy _ (by have := R7s.out; simpa using this) Try.underlying51 rfl (by rw [Lsy.out]; exact s_size) ?_; try simp only [Act.put, List.setIfInBounds_toArray, List.set_cons_zero, List.set_cons_succ])
      | ((with_reducible refine at_bin .neq 49 49 (.tmp 55) (.tmp 57) ?_); refine wpList_neq_row 49 49 (.tmp 55) (.tmp 57) rfl ?_ ox.toArray oy.toArray ?_ ?_ g_opt true (EO.out _) ?_; rfl; rfl; rfl; try simp only [Act.put, List.setIfInBounds_toArray, List.set_cons_zero, List.set_cons_succ])
      | ((with_reducible refine at_bin .neq 51 51 (.tmp 61) (.tmp 63) ?_); refine wpList_neq_row 51 51 (.tmp 61) (.tmp 63) rfl ?_ sx.toArray sy.toArray ?_ ?_ g_sched true (ES.out _) ?_; rfl; rfl; rfl; try simp only [Act.put, List.setIfInBounds_toArray, List.set_cons_zero, List.set_cons_succ])
      | fail)
    clear HF EO ES R6o R7o R6s R7s Lox Loy Lsx Lsy pn'
    go_loopw [8] (fun j wr => ∃ m : Nat, m ≤ x.params.length ∧ j = .int .i64 m ∧ Hid (∀ n, (a : n < x.params.length) → (b : n < y.params.length) → n < m → x.params[n] = y.params[n]) ∧ Hid (Bl W2 wr)) (fun j _ => x.params.length - (intOf j).toNat)
    case atStart => exact ⟨0, Nat.zero_le _, rfl, Lib.hid (fun _ _ _ h => absurd h (by omega)), Lib.hid (Bl.refl _)⟩
    case round =>
      obtain ⟨m, hm, rfl, HT, HBr⟩ := hrel
      have c6r := (Bl.cell HBr.out (p := ⟨b6, 22, none⟩) l6).trans c6
      have c7r := (Bl.cell HBr.out (p := ⟨b7, 22, none⟩) l7).trans c7
      by_cases hml : m < x.params.length
      rotate_left
      · have HE : x = y := HXY.out.2 (lists_eq pn (fun n a b => HT.out n a b (by omega)))
        have HSn := HS2.out HE
        have HB3 := Lib.hid (HB2.out.trans HBr.out)
        have HX3 := Lib.hid ((Bl.cell HBr.out (p := ⟨w.heap.size, 10, none⟩) (show w.heap.size < W2.heap.size by have := HL2.out; omega)).trans HX2.out)
        have HY3 := Lib.hid ((Bl.cell HBr.out (p := ⟨w.heap.size + 1, 10, none⟩) (show w.heap.size + 1 < W2.heap.size by have := HL2.out; omega)).trans HY2.out)
        have HL3 : Hid (w.heap.size + 1 < wr.heap.size) := Lib.hid (Nat.lt_of_lt_of_le HL2.out HBr.out.size)
        clear HS2 HT HX2 HY2 HL2 HB2 HXY HE HPX2 HPY2
        go_wp2_with fail
        go_roundw
        case rel => exact ⟨k + 1, by omega, by go_num, HSn, HB3, HX3, HY3, HL3⟩
        case measure => simp [intOf]; omega
      have hml2 : m < y.params.length := by omega
      obtain ⟨g3, o3, rfl, hr3⟩ := (HPX2.out.step HBr.out).range hml
      obtain ⟨g4, o4, rfl, hr4⟩ := (HPY2.out.step HBr.out).range hml2
      have pl3 : g3 < wr.heap.size := block_lt_of_cell (hr3 0 _ rfl)
      have pl4 : g4 < wr.heap.size := block_lt_of_cell (hr4 0 _ rfl)
      obtain ⟨p, hp⟩ : ∃ p, p = x.params[m] := ⟨_, rfl⟩
      obtain ⟨q, hq⟩ : ∃ q, q = y.params[m] := ⟨_, rfl⟩
      have okp : p.ok := by rw [hp]; exact OKx.out.2.2.1 _ (List.getElem_mem hml)
      have okq : q.ok := by rw [hq]; exact OKy.out.2.2.1 _ (List.getElem_mem hml2)
      rw [← hp] at hr3; rw [← hq] at hr4
      obtain ⟨e, he⟩ : ∃ e, e = decide (p = q) := ⟨_, rfl⟩
      have HEq := eq_param p q okp okq e he
      have HNE : p ≠ q → Hid (b = false) := fun h => HF0.out (fun e => h (by rw [hp, hq]; simp only [e]))
      have HT2 : p = q → Hid (∀ n, (a : n < x.params.length) → (b : n < y.params.length) → n < m + 1 → x.params[n] = y.params[n]) := fun h => Lib.hid (fun n a b hn => by
        by_cases hj : n < m
        · exact HT.out n a b hj
        · obtain rfl : n = m := by omega
          rw [← hp, ← hq]; exact h)
      replace HNE := Lib.hid HNE; replace HT2 := Lib.hid HT2
      have lcp : p.cs.length = 3 := rfl
      have lcq : q.cs.length = 3 := rfl
      obtain ⟨pc, hpc⟩ : ∃ pc, pc = p.cs := ⟨_, rfl⟩
      obtain ⟨qc, hqc⟩ : ∃ qc, qc = q.cs := ⟨_, rfl⟩
      rw [← hpc] at hr3 HEq lcp; rw [← hqc] at hr4 HEq lcq
      have szb6 : b6 < wr.heap.size := Nat.lt_of_lt_of_le l6 HBr.out.size
      have szb7 : b7 < wr.heap.size := Nat.lt_of_lt_of_le l7 HBr.out.size
      have p10 : x.params.length ≤ 10 := Fx.out.1
      have i3 : (m : Int) < (x.params.length : Int) := by omega
      have i4 : (m : Int) < (y.params.length : Int) := by omega
      clear hp hq okp okq hpc hqc HT
      go_wp2_with fail
      have hC6 := fun w' (h : Bl wr w') => (Bl.cell h (p := ⟨b6, 22, none⟩) szb6).trans c6r
      have hC7 := fun w' (h : Bl wr w') => (Bl.cell h (p := ⟨b7, 22, none⟩) szb7).trans c7r
      replace hC6 := Lib.hid hC6; replace hC7 := Lib.hid hC7
      have hR3 := Lib.hid (fun w' (h : Bl wr w') => rangeAt_step hr3 pl3 h)
      have hR4 := Lib.hid (fun w' (h : Bl wr w') => rangeAt_step hr4 pl4 h)
      clear hr3 hr4 c6r c7r
      have HEH := Lib.hid HEq
      clear HEq
      have hdr : Bl wr wr.drew := Bl.drewN wr 1
      refine wp_region_noPanic ?_
      refine wp_region_held_drew (S := fun w' => Bl wr w') (by kernel_rfl) hdr (fun hHeld => ?_)

      refine wpAnyH_take (i := 0) (oi := { dst := some 82, op := Op.fieldAddr 54 (Operand.tmp 6) 2, type := 0, pos := "ref.go:197", after := #[], guard := none }) (v := ?_) rfl (by kernel_rfl) (by kernel_rfl) (by kernel_rfl) (fun _ _ _ h => h) (Or.inl ⟨by rfl, ?_⟩) hHeld ?_
      rotate_left
      · intro w' hSw
        go_simp
        try with_reducible rfl
      try simp only [Act.put, List.setIfInBounds_toArray, List.set_cons_zero, List.set_cons_succ]
      refine wpAnyH_take (i := 1) (oi := { dst := some 83, op := Op.load 52 (Operand.tmp 82), type := 52, pos := "ref.go:197", after := #[{ on := 0, ground := Ground.data }], guard := none }) (v := ?_) rfl (by kernel_rfl) (by kernel_rfl) (by kernel_rfl) (fun _ _ _ h => h) (Or.inl ⟨by rfl, ?_⟩) hHeld ?_
      rotate_left
      · intro w' hSw
        have tq := hC6.out w' hSw
        go_simp
        try with_reducible rfl
      try simp only [Act.put, List.setIfInBounds_toArray, List.set_cons_zero, List.set_cons_succ]
      refine wpAnyH_take (i := 2) (oi := { dst := some 84, op := Op.move (Operand.tmp 8), type := 3, pos := "ref.go:197", after := #[], guard := none }) (v := ?_) rfl (by kernel_rfl) (by kernel_rfl) (by kernel_rfl) (fun _ _ _ h => h) (Or.inl ⟨by rfl, ?_⟩) hHeld ?_
      rotate_left
      · intro w' hSw
        go_simp
        try with_reducible rfl
      try simp only [Act.put, List.setIfInBounds_toArray, List.set_cons_zero, List.set_cons_succ]
      refine wpAnyH_take (i := 3) (oi := { dst := some 85, op := Op.indexAddr 52 (Operand.tmp 83) (Operand.tmp 84), type := 0, pos := "ref.go:197", after := #[{ on := 1, ground := Ground.data }, { on := 2, ground := Ground.data }], guard := none }) (v := ?_) rfl (by kernel_rfl) (by kernel_rfl) (by kernel_rfl) (fun _ _ _ h => h) (Or.inl ⟨by rfl, ?_⟩) hHeld ?_
      rotate_left
      · intro w' hSw
        go_simp
        try with_reducible rfl
      try simp only [Act.put, List.setIfInBounds_toArray, List.set_cons_zero, List.set_cons_succ]
      refine wpAnyH_take (i := 4) (oi := { dst := some 86, op := Op.load 56 (Operand.tmp 85), type := 56, pos := "ref.go:197", after := #[{ on := 3, ground := Ground.data }], guard := none }) (v := .agg pc.toArray) rfl (by kernel_rfl) (by kernel_rfl) (by kernel_rfl) (fun _ _ _ h => h) (yieldsIf_load_mid (by rfl) 56 (.tmp 85) rfl g3 (o3 + m * 3) rfl pc _ hR3.out Try.underlying56 rfl (by rw [lcp]; exact p_size)) hHeld ?_
      try simp only [Act.put, List.setIfInBounds_toArray, List.set_cons_zero, List.set_cons_succ]
      refine wpAnyH_take (i := 5) (oi := { dst := some 87, op := Op.fieldAddr 54 (Operand.tmp 7) 2, type := 0, pos := "ref.go:197", after := #[], guard := none }) (v := ?_) rfl (by kernel_rfl) (by kernel_rfl) (by kernel_rfl) (fun _ _ _ h => h) (Or.inl ⟨by rfl, ?_⟩) hHeld ?_
      rotate_left
      · intro w' hSw
        go_simp
        try with_reducible rfl
      try simp only [Act.put, List.setIfInBounds_toArray, List.set_cons_zero, List.set_cons_succ]
      refine wpAnyH_take (i := 6) (oi := { dst := some 88, op := Op.load 52 (Operand.tmp 87), type := 52, pos := "ref.go:197", after := #[{ on := 5, ground := Ground.data }], guard := none }) (v := ?_) rfl (by kernel_rfl) (by kernel_rfl) (by kernel_rfl) (fun _ _ _ h => h) (Or.inl ⟨by rfl, ?_⟩) hHeld ?_
      rotate_left
      · intro w' hSw
        have tq := hC7.out w' hSw
        go_simp
        try with_reducible rfl
      try simp only [Act.put, List.setIfInBounds_toArray, List.set_cons_zero, List.set_cons_succ]
      refine wpAnyH_take (i := 7) (oi := { dst := some 89, op := Op.move (Operand.tmp 8), type := 3, pos := "ref.go:197", after := #[], guard := none }) (v := ?_) rfl (by kernel_rfl) (by kernel_rfl) (by kernel_rfl) (fun _ _ _ h => h) (Or.inl ⟨by rfl, ?_⟩) hHeld ?_
      rotate_left
      · intro w' hSw
        go_simp
        try with_reducible rfl
      try simp only [Act.put, List.setIfInBounds_toArray, List.set_cons_zero, List.set_cons_succ]
      refine wpAnyH_take (i := 8) (oi := { dst := some 90, op := Op.indexAddr 52 (Operand.tmp 88) (Operand.tmp 89), type := 0, pos := "ref.go:197", after := #[{ on := 6, ground := Ground.data }, { on := 7, ground := Ground.data }], guard := none }) (v := ?_) rfl (by kernel_rfl) (by kernel_rfl) (by kernel_rfl) (fun _ _ _ h => h) (Or.inl ⟨by rfl, ?_⟩) hHeld ?_
      rotate_left
      · intro w' hSw
        go_simp
        try with_reducible rfl
      try simp only [Act.put, List.setIfInBounds_toArray, List.set_cons_zero, List.set_cons_succ]
      refine wpAnyH_take (i := 9) (oi := { dst := some 91, op := Op.load 56 (Operand.tmp 90), type := 56, pos := "ref.go:197", after := #[{ on := 8, ground := Ground.data }], guard := none }) (v := .agg qc.toArray) rfl (by kernel_rfl) (by kernel_rfl) (by kernel_rfl) (fun _ _ _ h => h) (yieldsIf_load_mid (by rfl) 56 (.tmp 90) rfl g4 (o4 + m * 3) rfl qc _ hR4.out Try.underlying56 rfl (by rw [lcq]; exact p_size)) hHeld ?_
      try simp only [Act.put, List.setIfInBounds_toArray, List.set_cons_zero, List.set_cons_succ]
      refine wpAnyH_take (i := 10) (oi := { dst := some 92, op := Op.binOp BinOp.neq 56 (Operand.tmp 86) (Operand.tmp 91) 56, type := 4, pos := "ref.go:197", after := #[{ on := 4, ground := Ground.data }, { on := 9, ground := Ground.data }], guard := none }) (v := .bool (!e)) rfl (by kernel_rfl) (by kernel_rfl) (by kernel_rfl) (fun _ _ _ h => h) (yieldsIf_neq_row (by rfl) 56 56 (.tmp 86) (.tmp 91) rfl pc.toArray qc.toArray rfl rfl g_param e HEH.out) hHeld ?_
      try simp only [Act.put, List.setIfInBounds_toArray, List.set_cons_zero, List.set_cons_succ]
      refine wpAnyH_done (by kernel_rfl) ?_ _
      refine NoPanic.normal ?_
      have HB3 := Lib.hid (HB2.out.trans (HBr.out.trans hHeld))
      have HBn := Lib.hid (HBr.out.trans hHeld)
      cases e
      · have HFF := HNE.out (of_decide_eq_false he.symm)
        clear HNE HT2
        go_wp2_with fail
        go_ret
        exact ⟨ret_v HFF.out, HB3.out⟩
      have HTn := HT2.out (of_decide_eq_true he.symm)
      clear HNE HT2
      go_wp2_with fail
      go_roundw
      case rel => exact ⟨m + 1, by omega, by go_num, HTn, HBn⟩
      case measure => simp [intOf]; omega
end Go.Proofs.Ytigicphmnlkjfaa
