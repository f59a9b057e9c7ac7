/- The contract of ratchetref21.group. (Printed by wip/gen_rgroup.py.) -/
import Derived.Test.YtigicphmnlkjfaaBytesPlain
import Derived.Test.YtigicphmnlkjfaaSplitR
import Derived.StillTailTactics
namespace Go.Proofs.Ytigicphmnlkjfaa
open Go.RowKit
set_option linter.unusedVariables false
set_option linter.unusedSimpArgs false

theorem ok_sub {l k : List Int} (h : ∀ n ∈ l, I64 n) (hs : ∀ n ∈ k, n ∈ l) : ∀ n ∈ k, I64 n := fun n hn => h n (hs n hn)

set_option maxRecDepth 100000 in
set_option maxHeartbeats 4000000 in
theorem rgroup_any {w : World} {A : Option Addr} {c : Nat} {l : List UInt8} (h : SL w A c l) (hl : l.length ≤ 100000) (x : GroupP) (P : Option Addr) (d : Nat) (hp : Params w P x.params) (hgok : x.ok) (hgf : fewG x) (t : List UInt8) (ht : t = l ++ groupE x) :
    Calls Try.prog 40 #[.slice A l.length c, .agg (x.cs P d).toArray] w (GivesB w t) := by
  have HT := Lib.hid ht
  have h10 := hgf.1
  obtain ⟨us, hus⟩ : ∃ us, us = x.cs P d := ⟨_, rfl⟩
  have h22 : us[22]? = some (.slice P x.params.length d) := by rw [hus]; rfl
  have h0 : us[0]? = some (.int .i64 x.opt.kind) := by rw [hus]; rfl
  rw [← hus]
  have hk1 := Blk.new w 54 us.toArray
  have hb1 := Bl.alloc w (.cells us.toArray 54)
  have hr := hk1.rangeL
  rw [hus] at hr
  have ho := range_opt hr
  have hs' := range_sched hr
  rw [← hus] at ho hs'
  have HM := Lib.hid (rangeAt_sub ho 1 4); have HA := Lib.hid (rangeAt_sub ho 5 6); have HD := Lib.hid (rangeAt_sub ho 11 3); have HSC := Lib.hid hs'
  have HB1 := Lib.hid hb1
  have HK1 := Lib.hid hk1
  have HS1 := Lib.hid (h.step hb1)
  have HP1 := Lib.hid (hp.step hb1)
  have H0 := Lib.hid h0; have H22 := Lib.hid h22
  clear hp hk1 hb1 hus h22 h0 hr ho hs' ht h
  go_enter Try.func40, Try.ntmps40
  go_wp2
  generalize hbk : w.heap.size = bk at *
  generalize hW1 : w.alloc (.cells us.toArray 54) = W1 at *
  clear hW1 hbk
  refine split_ref W1 bk _ _ _ _ _ HK1.out.lt HM.out HA.out HD.out HSC.out rfl rfl rfl rfl (by simp [OptP.cs, Value.oneCell']) (by simp [OptP.cs, Value.oneCell']) (by simp [OptP.cs, Value.oneCell']) (by simp [SchedP.cs, Value.oneCell']) (fun b8 b9 b10 b11 W2 b2 k8 k9 k10 k11 => ?_)
  have HK2 := Lib.hid (HK1.out.below b2 HK1.out.lt)
  have HB2 := Lib.hid (HB1.out.trans b2)
  have HS2 := Lib.hid (HS1.out.step b2)
  have HP2 := Lib.hid (HP1.out.step b2)
  have m_0 := (k8.cell 0).trans (show _ = some (Value.int .i64  x.opt.ml) from rfl)
  have m_1 := (k8.cell 1).trans (show _ = some (Value.int .i64  x.opt.mm) from rfl)
  have m_2 := (k8.cell 2).trans (show _ = some (Value.int .i64  x.opt.mw) from rfl)
  have m_3 := (k8.cell 3).trans (show _ = some (Value.bool  x.opt.nest) from rfl)
  have K8 := Lib.hid k8; have K9 := Lib.hid k9; have K10 := Lib.hid k10; have K11 := Lib.hid k11
  have g0 := HK2.out.cell 0
  rw [List.getElem?_toArray, H0.out] at g0
  clear b2 k8 k9 k10 k11 HK1 HB1 HS1 HP1 HM HA HD HSC
  dsimp only
  go_wp2
  have hdr : Bl W2 W2.drew := Bl.drewN W2 1
  refine wp_region_noPanic ?_
  refine wp_region_held_drew (S := fun w' => Bl W2 w') (by kernel_rfl) hdr (fun hHeld => ?_)
  have HSd := Lib.hid (HS2.out.step hdr); have HBd := Lib.hid (HB2.out.trans hdr); have HKd := Lib.hid (HK2.out.below hdr HK2.out.lt); have HPd := Lib.hid (HP2.out.step hdr)
  have K9d := Lib.hid (K9.out.below hdr K9.out.lt)
  have K10d := Lib.hid (K10.out.below hdr K10.out.lt)
  have K11d := Lib.hid (K11.out.below hdr K11.out.lt)
  clear hdr
  generalize W2.drew = V2 at *
  refine wpAnyH_take (i := 0) (oi := { dst := some 22, op := Op.move (Operand.tmp 0), type := 37, pos := "ref.go:141", after := #[], guard := none }) (v := ?_) rfl (by kernel_rfl) (by kernel_rfl) (by kernel_rfl) (fun _ _ _ h => h) (Or.inl ⟨by rfl, ?_⟩) hHeld ?_
  rotate_left
  · intro w' hSw
    go_simp
    with_reducible rfl
  try simp only [Act.put, List.setIfInBounds_toArray, List.set_cons_zero, List.set_cons_succ]
  refine wpAnyH_take (i := 1) (oi := { dst := some 23, op := Op.fieldAddr 54 (Operand.tmp 3) 0, type := 0, pos := "ref.go:141", after := #[], guard := none }) (v := ?_) rfl (by kernel_rfl) (by kernel_rfl) (by kernel_rfl) (fun _ _ _ h => h) (Or.inl ⟨by rfl, ?_⟩) hHeld ?_
  rotate_left
  · intro w' hSw
    go_simp
    with_reducible rfl
  try simp only [Act.put, List.setIfInBounds_toArray, List.set_cons_zero, List.set_cons_succ]
  refine wpAnyH_take (i := 2) (oi := { dst := some 24, op := Op.fieldAddr 49 (Operand.tmp 23) 0, type := 0, pos := "ref.go:141", after := #[{ on := 1, ground := Ground.data }], guard := none }) (v := ?_) rfl (by kernel_rfl) (by kernel_rfl) (by kernel_rfl) (fun _ _ _ h => h) (Or.inl ⟨by rfl, ?_⟩) hHeld ?_
  rotate_left
  · intro w' hSw
    go_simp
    with_reducible rfl
  try simp only [Act.put, List.setIfInBounds_toArray, List.set_cons_zero, List.set_cons_succ]
  refine wpAnyH_take (i := 3) (oi := { dst := some 25, op := Op.load 3 (Operand.tmp 24), type := 3, pos := "ref.go:141", after := #[{ on := 2, ground := Ground.data }], guard := none }) (v := ?_) rfl (by kernel_rfl) (by kernel_rfl) (by kernel_rfl) (fun _ _ _ h => h) (Or.inl ⟨by rfl, ?_⟩) hHeld ?_
  rotate_left
  · intro w' hSw
    have tq := (Bl.cell hSw (p := ⟨bk, 0, none⟩) HK2.out.lt).trans g0
    go_simp
    with_reducible rfl
  try simp only [Act.put, List.setIfInBounds_toArray, List.set_cons_zero, List.set_cons_succ]
  refine wpAnyH_take (i := 4) (oi := { dst := some 26, op := Op.fieldAddr 43 (Operand.tmp 5) 0, type := 0, pos := "ref.go:141", after := #[], guard := none }) (v := ?_) rfl (by kernel_rfl) (by kernel_rfl) (by kernel_rfl) (fun _ _ _ h => h) (Or.inl ⟨by rfl, ?_⟩) hHeld ?_
  rotate_left
  · intro w' hSw
    go_simp
    with_reducible rfl
  try simp only [Act.put, List.setIfInBounds_toArray, List.set_cons_zero, List.set_cons_succ]
  refine wpAnyH_take (i := 5) (oi := { dst := some 27, op := Op.load 2 (Operand.tmp 26), type := 2, pos := "ref.go:141", after := #[{ on := 4, ground := Ground.data }], guard := none }) (v := ?_) rfl (by kernel_rfl) (by kernel_rfl) (by kernel_rfl) (fun _ _ _ h => h) (Or.inl ⟨by rfl, ?_⟩) hHeld ?_
  rotate_left
  · intro w' hSw
    have tq := (Bl.cell hSw (p := ⟨b8, 0, none⟩) K8.out.lt).trans m_0
    go_simp
    with_reducible rfl
  try simp only [Act.put, List.setIfInBounds_toArray, List.set_cons_zero, List.set_cons_succ]
  refine wpAnyH_take (i := 6) (oi := { dst := some 28, op := Op.fieldAddr 43 (Operand.tmp 5) 1, type := 0, pos := "ref.go:141", after := #[], guard := none }) (v := ?_) rfl (by kernel_rfl) (by kernel_rfl) (by kernel_rfl) (fun _ _ _ h => h) (Or.inl ⟨by rfl, ?_⟩) hHeld ?_
  rotate_left
  · intro w' hSw
    go_simp
    with_reducible rfl
  try simp only [Act.put, List.setIfInBounds_toArray, List.set_cons_zero, List.set_cons_succ]
  refine wpAnyH_take (i := 7) (oi := { dst := some 29, op := Op.load 2 (Operand.tmp 28), type := 2, pos := "ref.go:141", after := #[{ on := 6, ground := Ground.data }], guard := none }) (v := ?_) rfl (by kernel_rfl) (by kernel_rfl) (by kernel_rfl) (fun _ _ _ h => h) (Or.inl ⟨by rfl, ?_⟩) hHeld ?_
  rotate_left
  · intro w' hSw
    have tq := (Bl.cell hSw (p := ⟨b8, 1, none⟩) K8.out.lt).trans m_1
    go_simp
    with_reducible rfl
  try simp only [Act.put, List.setIfInBounds_toArray, List.set_cons_zero, List.set_cons_succ]
  refine wpAnyH_take (i := 8) (oi := { dst := some 30, op := Op.fieldAddr 43 (Operand.tmp 5) 2, type := 0, pos := "ref.go:141", after := #[], guard := none }) (v := ?_) rfl (by kernel_rfl) (by kernel_rfl) (by kernel_rfl) (fun _ _ _ h => h) (Or.inl ⟨by rfl, ?_⟩) hHeld ?_
  rotate_left
  · intro w' hSw
    go_simp
    with_reducible rfl
  try simp only [Act.put, List.setIfInBounds_toArray, List.set_cons_zero, List.set_cons_succ]
  refine wpAnyH_take (i := 9) (oi := { dst := some 31, op := Op.load 2 (Operand.tmp 30), type := 2, pos := "ref.go:141", after := #[{ on := 8, ground := Ground.data }], guard := none }) (v := ?_) rfl (by kernel_rfl) (by kernel_rfl) (by kernel_rfl) (fun _ _ _ h => h) (Or.inl ⟨by rfl, ?_⟩) hHeld ?_
  rotate_left
  · intro w' hSw
    have tq := (Bl.cell hSw (p := ⟨b8, 2, none⟩) K8.out.lt).trans m_2
    go_simp
    with_reducible rfl
  try simp only [Act.put, List.setIfInBounds_toArray, List.set_cons_zero, List.set_cons_succ]
  refine wpAnyH_take (i := 10) (oi := { dst := some 32, op := Op.fieldAddr 43 (Operand.tmp 5) 3, type := 0, pos := "ref.go:141", after := #[], guard := none }) (v := ?_) rfl (by kernel_rfl) (by kernel_rfl) (by kernel_rfl) (fun _ _ _ h => h) (Or.inl ⟨by rfl, ?_⟩) hHeld ?_
  rotate_left
  · intro w' hSw
    go_simp
    with_reducible rfl
  try simp only [Act.put, List.setIfInBounds_toArray, List.set_cons_zero, List.set_cons_succ]
  refine wpAnyH_take (i := 11) (oi := { dst := some 33, op := Op.load 4 (Operand.tmp 32), type := 4, pos := "ref.go:141", after := #[{ on := 10, ground := Ground.data }], guard := none }) (v := ?_) rfl (by kernel_rfl) (by kernel_rfl) (by kernel_rfl) (fun _ _ _ h => h) (Or.inl ⟨by rfl, ?_⟩) hHeld ?_
  rotate_left
  · intro w' hSw
    have tq := (Bl.cell hSw (p := ⟨b8, 3, none⟩) K8.out.lt).trans m_3
    go_simp
    with_reducible rfl
  try simp only [Act.put, List.setIfInBounds_toArray, List.set_cons_zero, List.set_cons_succ]
  refine wpAnyH_ready (rs := [12]) (by kernel_rfl) (by simp) ?_
  refine AllReadyH.cons (o := { dst := some 34, op := Op.call { callee := Callee.value (Operand.func 56), args := #[Operand.tmp 33], argTypes := #[4] }, type := 2, pos := "ref.go:141", after := #[{ on := 11, ground := Ground.data }], guard := none }) rfl (fun K hK => ?_) AllReadyH.nil
  go_simp
  refine (flag_to _ _).mono ?_
  rintro e w3 ⟨rfl, hw3⟩
  rw [hw3]
  clear hw3
  try go_wp2_with fail
  refine hK.out _ _ hHeld (fun hHeld => ?_)
  clear hK K
  try simp only [Act.put, List.setIfInBounds_toArray, List.set_cons_zero, List.set_cons_succ]
  refine wpAnyH_ready (rs := [13]) (by kernel_rfl) (by simp) ?_
  refine AllReadyH.cons (o := { dst := some 35, op := Op.buildSlice 70 5 #[(0, Operand.tmp 25), (1, Operand.tmp 27), (2, Operand.tmp 29), (3, Operand.tmp 31), (4, Operand.tmp 34)], type := 70, pos := "ref.go:141", after := #[{ on := 3, ground := Ground.data }, { on := 5, ground := Ground.data }, { on := 7, ground := Ground.data }, { on := 9, ground := Ground.data }, { on := 12, ground := Ground.data }], guard := none }) rfl (fun K hK => ?_) AllReadyH.nil
  go_simp
  have hb3 := Bl.alloc V2 (.cells #[.int .i64 x.opt.kind, .int .i64 x.opt.ml, .int .i64 x.opt.mm, .int .i64 x.opt.mw, .int .i64 (flagN x.opt.nest)] 2)
  refine hK.out _ _ (hHeld.trans hb3) (fun hHeld2 => ?_)
  clear hK K
  try simp only [Act.put, List.setIfInBounds_toArray, List.set_cons_zero, List.set_cons_succ]
  refine wpAnyH_ready (rs := [14]) (by kernel_rfl) (by simp) ?_
  refine AllReadyH.cons (o := { dst := some 36, op := Op.call { callee := Callee.value (Operand.func 39), args := #[Operand.tmp 22, Operand.tmp 35], argTypes := #[37, 70] }, type := 37, pos := "ref.go:141", after := #[{ on := 0, ground := Ground.data }, { on := 13, ground := Ground.data }, { on := 12, ground := Ground.chain }], guard := none }) rfl (fun K hK => ?_) AllReadyH.nil
  go_simp
  refine (ints_any (HSd.out.step hb3) (by omega) 5 [x.opt.kind, x.opt.ml, x.opt.mm, x.opt.mw, flagN x.opt.nest] (RV.new _ _ _ _ rfl) (ok_sub (optNs_ok hgok.1) (by simp [optNs])) (by simp) (l ++ encNs [x.opt.kind, x.opt.ml, x.opt.mm, x.opt.mw, flagN x.opt.nest]) rfl).mono ?_
  rintro e W3 ⟨A3, c3, rfl, hs3, b3⟩
  obtain ⟨y3, hy⟩ : ∃ y3, y3 = l ++ encNs [x.opt.kind, x.opt.ml, x.opt.mm, x.opt.mw, flagN x.opt.nest] := ⟨_, rfl⟩
  have hy3l : y3.length ≤ l.length + 50 := by
    have h1 := encNs_le (l := [x.opt.kind, x.opt.ml, x.opt.mm, x.opt.mw, flagN x.opt.nest]) (ok_sub (optNs_ok hgok.1) (by simp [optNs]))
    have e1 : ([x.opt.kind, x.opt.ml, x.opt.mm, x.opt.mw, flagN x.opt.nest] : List Int).length = 5 := rfl
    rw [hy, List.length_append]
    omega
  rw [← hy] at hs3 ⊢
  have HY3 := Lib.hid hy
  clear hy
  have hbb := hb3.trans b3
  have hHb := hHeld.trans hbb
  try go_wp2_with fail
  refine hK.out _ _ hHb (fun hHeld3 => ?_)
  clear hK K
  try simp only [Act.put, List.setIfInBounds_toArray, List.set_cons_zero, List.set_cons_succ]
  refine wpAnyH_take (i := 15) (oi := { dst := some 9, op := Op.assign (Operand.tmp 36), type := 37, pos := "ref.go:141", after := #[{ on := 14, ground := Ground.data }, { on := 14, ground := Ground.chain }, { on := 0, ground := Ground.phase }, { on := 1, ground := Ground.phase }, { on := 2, ground := Ground.phase }, { on := 3, ground := Ground.phase }, { on := 4, ground := Ground.phase }, { on := 5, ground := Ground.phase }, { on := 6, ground := Ground.phase }, { on := 7, ground := Ground.phase }, { on := 8, ground := Ground.phase }, { on := 9, ground := Ground.phase }, { on := 10, ground := Ground.phase }, { on := 11, ground := Ground.phase }, { on := 12, ground := Ground.phase }, { on := 13, ground := Ground.phase }, { on := 14, ground := Ground.phase }], guard := none }) (v := ?_) rfl (by kernel_rfl) (by kernel_rfl) (by kernel_rfl) (fun _ _ _ h => h) (Or.inl ⟨by rfl, ?_⟩) hHeld3 ?_
  rotate_left
  · intro w' hSw
    go_simp
    with_reducible rfl
  try simp only [Act.put, List.setIfInBounds_toArray, List.set_cons_zero, List.set_cons_succ]
  refine wpAnyH_done (by kernel_rfl) ?_ _
  refine NoPanic.normal ?_
  have HS3 := Lib.hid hs3
  have HB3 := Lib.hid (HBd.out.trans hbb)
  have HK3 := Lib.hid (HKd.out.below hbb HKd.out.lt)
  have HP3 := Lib.hid (HPd.out.step hbb)
  have K9 := Lib.hid (K9d.out.below hbb K9d.out.lt)
  have K10 := Lib.hid (K10d.out.below hbb K10d.out.lt)
  have K11 := Lib.hid (K11d.out.below hbb K11d.out.lt)
  clear hb3 b3 hbb hHb hs3 hHeld hHeld2 hHeld3 HSd HBd HKd HPd HS2 HB2 HK2 HP2 K9d K10d K11d
  clear g0 m_0 m_1 m_2 m_3
  have a_0 := (K9.out.cell 0).trans (show _ = some (Value.int .i64  x.opt.al) from rfl)
  have a_1 := (K9.out.cell 1).trans (show _ = some (Value.int .i64  x.opt.b1) from rfl)
  have a_2 := (K9.out.cell 2).trans (show _ = some (Value.int .i64  x.opt.b2) from rfl)
  have a_3 := (K9.out.cell 3).trans (show _ = some (Value.int .i64  x.opt.ae) from rfl)
  have a_4 := (K9.out.cell 4).trans (show _ = some (Value.int .i64  x.opt.aw) from rfl)
  have a_5 := (K9.out.cell 5).trans (show _ = some (Value.bool  x.opt.apart) from rfl)
  have d_0 := (K10.out.cell 0).trans (show _ = some (Value.int .i64  x.opt.dl) from rfl)
  have d_1 := (K10.out.cell 1).trans (show _ = some (Value.int .i64  x.opt.de) from rfl)
  have d_2 := (K10.out.cell 2).trans (show _ = some (Value.int .i64  x.opt.dd) from rfl)
  go_wp2
  have hdr : Bl W3 W3.drew := Bl.drewN W3 1
  refine wp_region_noPanic ?_
  refine wp_region_held_drew (S := fun w' => Bl W3 w') (by kernel_rfl) hdr (fun hHeld => ?_)
  have HSd := Lib.hid (HS3.out.step hdr); have HBd := Lib.hid (HB3.out.trans hdr); have HKd := Lib.hid (HK3.out.below hdr HK3.out.lt); have HPd := Lib.hid (HP3.out.step hdr)
  have K11d := Lib.hid (K11.out.below hdr K11.out.lt)
  clear hdr
  generalize W3.drew = V3 at *
  refine wpAnyH_take (i := 0) (oi := { dst := some 37, op := Op.move (Operand.tmp 9), type := 37, pos := "ref.go:142", after := #[], guard := none }) (v := ?_) rfl (by kernel_rfl) (by kernel_rfl) (by kernel_rfl) (fun _ _ _ h => h) (Or.inl ⟨by rfl, ?_⟩) hHeld ?_
  rotate_left
  · intro w' hSw
    go_simp
    with_reducible rfl
  try simp only [Act.put, List.setIfInBounds_toArray, List.set_cons_zero, List.set_cons_succ]
  refine wpAnyH_take (i := 1) (oi := { dst := some 38, op := Op.fieldAddr 45 (Operand.tmp 6) 0, type := 0, pos := "ref.go:142", after := #[], guard := none }) (v := ?_) rfl (by kernel_rfl) (by kernel_rfl) (by kernel_rfl) (fun _ _ _ h => h) (Or.inl ⟨by rfl, ?_⟩) hHeld ?_
  rotate_left
  · intro w' hSw
    go_simp
    with_reducible rfl
  try simp only [Act.put, List.setIfInBounds_toArray, List.set_cons_zero, List.set_cons_succ]
  refine wpAnyH_take (i := 2) (oi := { dst := some 39, op := Op.load 2 (Operand.tmp 38), type := 2, pos := "ref.go:142", after := #[{ on := 1, ground := Ground.data }], guard := none }) (v := ?_) rfl (by kernel_rfl) (by kernel_rfl) (by kernel_rfl) (fun _ _ _ h => h) (Or.inl ⟨by rfl, ?_⟩) hHeld ?_
  rotate_left
  · intro w' hSw
    have tq := (Bl.cell hSw (p := ⟨b9, 0, none⟩) K9.out.lt).trans a_0
    go_simp
    with_reducible rfl
  try simp only [Act.put, List.setIfInBounds_toArray, List.set_cons_zero, List.set_cons_succ]
  refine wpAnyH_take (i := 3) (oi := { dst := some 40, op := Op.fieldAddr 45 (Operand.tmp 6) 1, type := 0, pos := "ref.go:142", after := #[], guard := none }) (v := ?_) rfl (by kernel_rfl) (by kernel_rfl) (by kernel_rfl) (fun _ _ _ h => h) (Or.inl ⟨by rfl, ?_⟩) hHeld ?_
  rotate_left
  · intro w' hSw
    go_simp
    with_reducible rfl
  try simp only [Act.put, List.setIfInBounds_toArray, List.set_cons_zero, List.set_cons_succ]
  refine wpAnyH_take (i := 4) (oi := { dst := some 41, op := Op.load 2 (Operand.tmp 40), type := 2, pos := "ref.go:142", after := #[{ on := 3, ground := Ground.data }], guard := none }) (v := ?_) rfl (by kernel_rfl) (by kernel_rfl) (by kernel_rfl) (fun _ _ _ h => h) (Or.inl ⟨by rfl, ?_⟩) hHeld ?_
  rotate_left
  · intro w' hSw
    have tq := (Bl.cell hSw (p := ⟨b9, 1, none⟩) K9.out.lt).trans a_1
    go_simp
    with_reducible rfl
  try simp only [Act.put, List.setIfInBounds_toArray, List.set_cons_zero, List.set_cons_succ]
  refine wpAnyH_take (i := 5) (oi := { dst := some 42, op := Op.fieldAddr 45 (Operand.tmp 6) 2, type := 0, pos := "ref.go:142", after := #[], guard := none }) (v := ?_) rfl (by kernel_rfl) (by kernel_rfl) (by kernel_rfl) (fun _ _ _ h => h) (Or.inl ⟨by rfl, ?_⟩) hHeld ?_
  rotate_left
  · intro w' hSw
    go_simp
    with_reducible rfl
  try simp only [Act.put, List.setIfInBounds_toArray, List.set_cons_zero, List.set_cons_succ]
  refine wpAnyH_take (i := 6) (oi := { dst := some 43, op := Op.load 2 (Operand.tmp 42), type := 2, pos := "ref.go:142", after := #[{ on := 5, ground := Ground.data }], guard := none }) (v := ?_) rfl (by kernel_rfl) (by kernel_rfl) (by kernel_rfl) (fun _ _ _ h => h) (Or.inl ⟨by rfl, ?_⟩) hHeld ?_
  rotate_left
  · intro w' hSw
    have tq := (Bl.cell hSw (p := ⟨b9, 2, none⟩) K9.out.lt).trans a_2
    go_simp
    with_reducible rfl
  try simp only [Act.put, List.setIfInBounds_toArray, List.set_cons_zero, List.set_cons_succ]
  refine wpAnyH_take (i := 7) (oi := { dst := some 44, op := Op.fieldAddr 45 (Operand.tmp 6) 3, type := 0, pos := "ref.go:142", after := #[], guard := none }) (v := ?_) rfl (by kernel_rfl) (by kernel_rfl) (by kernel_rfl) (fun _ _ _ h => h) (Or.inl ⟨by rfl, ?_⟩) hHeld ?_
  rotate_left
  · intro w' hSw
    go_simp
    with_reducible rfl
  try simp only [Act.put, List.setIfInBounds_toArray, List.set_cons_zero, List.set_cons_succ]
  refine wpAnyH_take (i := 8) (oi := { dst := some 45, op := Op.load 2 (Operand.tmp 44), type := 2, pos := "ref.go:142", after := #[{ on := 7, ground := Ground.data }], guard := none }) (v := ?_) rfl (by kernel_rfl) (by kernel_rfl) (by kernel_rfl) (fun _ _ _ h => h) (Or.inl ⟨by rfl, ?_⟩) hHeld ?_
  rotate_left
  · intro w' hSw
    have tq := (Bl.cell hSw (p := ⟨b9, 3, none⟩) K9.out.lt).trans a_3
    go_simp
    with_reducible rfl
  try simp only [Act.put, List.setIfInBounds_toArray, List.set_cons_zero, List.set_cons_succ]
  refine wpAnyH_take (i := 9) (oi := { dst := some 46, op := Op.fieldAddr 45 (Operand.tmp 6) 4, type := 0, pos := "ref.go:142", after := #[], guard := none }) (v := ?_) rfl (by kernel_rfl) (by kernel_rfl) (by kernel_rfl) (fun _ _ _ h => h) (Or.inl ⟨by rfl, ?_⟩) hHeld ?_
  rotate_left
  · intro w' hSw
    go_simp
    with_reducible rfl
  try simp only [Act.put, List.setIfInBounds_toArray, List.set_cons_zero, List.set_cons_succ]
  refine wpAnyH_take (i := 10) (oi := { dst := some 47, op := Op.load 2 (Operand.tmp 46), type := 2, pos := "ref.go:142", after := #[{ on := 9, ground := Ground.data }], guard := none }) (v := ?_) rfl (by kernel_rfl) (by kernel_rfl) (by kernel_rfl) (fun _ _ _ h => h) (Or.inl ⟨by rfl, ?_⟩) hHeld ?_
  rotate_left
  · intro w' hSw
    have tq := (Bl.cell hSw (p := ⟨b9, 4, none⟩) K9.out.lt).trans a_4
    go_simp
    with_reducible rfl
  try simp only [Act.put, List.setIfInBounds_toArray, List.set_cons_zero, List.set_cons_succ]
  refine wpAnyH_take (i := 11) (oi := { dst := some 48, op := Op.fieldAddr 45 (Operand.tmp 6) 5, type := 0, pos := "ref.go:142", after := #[], guard := none }) (v := ?_) rfl (by kernel_rfl) (by kernel_rfl) (by kernel_rfl) (fun _ _ _ h => h) (Or.inl ⟨by rfl, ?_⟩) hHeld ?_
  rotate_left
  · intro w' hSw
    go_simp
    with_reducible rfl
  try simp only [Act.put, List.setIfInBounds_toArray, List.set_cons_zero, List.set_cons_succ]
  refine wpAnyH_take (i := 12) (oi := { dst := some 49, op := Op.load 4 (Operand.tmp 48), type := 4, pos := "ref.go:142", after := #[{ on := 11, ground := Ground.data }], guard := none }) (v := ?_) rfl (by kernel_rfl) (by kernel_rfl) (by kernel_rfl) (fun _ _ _ h => h) (Or.inl ⟨by rfl, ?_⟩) hHeld ?_
  rotate_left
  · intro w' hSw
    have tq := (Bl.cell hSw (p := ⟨b9, 5, none⟩) K9.out.lt).trans a_5
    go_simp
    with_reducible rfl
  try simp only [Act.put, List.setIfInBounds_toArray, List.set_cons_zero, List.set_cons_succ]
  refine wpAnyH_take (i := 14) (oi := { dst := some 51, op := Op.fieldAddr 47 (Operand.tmp 7) 0, type := 0, pos := "ref.go:142", after := #[], guard := none }) (v := ?_) rfl (by kernel_rfl) (by kernel_rfl) (by kernel_rfl) (fun _ _ _ h => h) (Or.inl ⟨by rfl, ?_⟩) hHeld ?_
  rotate_left
  · intro w' hSw
    go_simp
    with_reducible rfl
  try simp only [Act.put, List.setIfInBounds_toArray, List.set_cons_zero, List.set_cons_succ]
  refine wpAnyH_take (i := 15) (oi := { dst := some 52, op := Op.load 2 (Operand.tmp 51), type := 2, pos := "ref.go:142", after := #[{ on := 14, ground := Ground.data }], guard := none }) (v := ?_) rfl (by kernel_rfl) (by kernel_rfl) (by kernel_rfl) (fun _ _ _ h => h) (Or.inl ⟨by rfl, ?_⟩) hHeld ?_
  rotate_left
  · intro w' hSw
    have tq := (Bl.cell hSw (p := ⟨b10, 0, none⟩) K10.out.lt).trans d_0
    go_simp
    with_reducible rfl
  try simp only [Act.put, List.setIfInBounds_toArray, List.set_cons_zero, List.set_cons_succ]
  refine wpAnyH_take (i := 16) (oi := { dst := some 53, op := Op.fieldAddr 47 (Operand.tmp 7) 1, type := 0, pos := "ref.go:142", after := #[], guard := none }) (v := ?_) rfl (by kernel_rfl) (by kernel_rfl) (by kernel_rfl) (fun _ _ _ h => h) (Or.inl ⟨by rfl, ?_⟩) hHeld ?_
  rotate_left
  · intro w' hSw
    go_simp
    with_reducible rfl
  try simp only [Act.put, List.setIfInBounds_toArray, List.set_cons_zero, List.set_cons_succ]
  refine wpAnyH_take (i := 17) (oi := { dst := some 54, op := Op.load 2 (Operand.tmp 53), type := 2, pos := "ref.go:142", after := #[{ on := 16, ground := Ground.data }], guard := none }) (v := ?_) rfl (by kernel_rfl) (by kernel_rfl) (by kernel_rfl) (fun _ _ _ h => h) (Or.inl ⟨by rfl, ?_⟩) hHeld ?_
  rotate_left
  · intro w' hSw
    have tq := (Bl.cell hSw (p := ⟨b10, 1, none⟩) K10.out.lt).trans d_1
    go_simp
    with_reducible rfl
  try simp only [Act.put, List.setIfInBounds_toArray, List.set_cons_zero, List.set_cons_succ]
  refine wpAnyH_take (i := 18) (oi := { dst := some 55, op := Op.fieldAddr 47 (Operand.tmp 7) 2, type := 0, pos := "ref.go:142", after := #[], guard := none }) (v := ?_) rfl (by kernel_rfl) (by kernel_rfl) (by kernel_rfl) (fun _ _ _ h => h) (Or.inl ⟨by rfl, ?_⟩) hHeld ?_
  rotate_left
  · intro w' hSw
    go_simp
    with_reducible rfl
  try simp only [Act.put, List.setIfInBounds_toArray, List.set_cons_zero, List.set_cons_succ]
  refine wpAnyH_take (i := 19) (oi := { dst := some 56, op := Op.load 2 (Operand.tmp 55), type := 2, pos := "ref.go:142", after := #[{ on := 18, ground := Ground.data }], guard := none }) (v := ?_) rfl (by kernel_rfl) (by kernel_rfl) (by kernel_rfl) (fun _ _ _ h => h) (Or.inl ⟨by rfl, ?_⟩) hHeld ?_
  rotate_left
  · intro w' hSw
    have tq := (Bl.cell hSw (p := ⟨b10, 2, none⟩) K10.out.lt).trans d_2
    go_simp
    with_reducible rfl
  try simp only [Act.put, List.setIfInBounds_toArray, List.set_cons_zero, List.set_cons_succ]
  refine wpAnyH_ready (rs := [13]) (by kernel_rfl) (by simp) ?_
  refine AllReadyH.cons (o := { dst := some 50, op := Op.call { callee := Callee.value (Operand.func 56), args := #[Operand.tmp 49], argTypes := #[4] }, type := 2, pos := "ref.go:142", after := #[{ on := 12, ground := Ground.data }], guard := none }) rfl (fun K hK => ?_) AllReadyH.nil
  go_simp
  refine (flag_to _ _).mono ?_
  rintro e w3 ⟨rfl, hw3⟩
  rw [hw3]
  clear hw3
  try go_wp2_with fail
  refine hK.out _ _ hHeld (fun hHeld => ?_)
  clear hK K
  try simp only [Act.put, List.setIfInBounds_toArray, List.set_cons_zero, List.set_cons_succ]
  refine wpAnyH_ready (rs := [20]) (by kernel_rfl) (by simp) ?_
  refine AllReadyH.cons (o := { dst := some 57, op := Op.buildSlice 70 9 #[(0, Operand.tmp 39), (1, Operand.tmp 41), (2, Operand.tmp 43), (3, Operand.tmp 45), (4, Operand.tmp 47), (5, Operand.tmp 50), (6, Operand.tmp 52), (7, Operand.tmp 54), (8, Operand.tmp 56)], type := 70, pos := "ref.go:142", after := #[{ on := 2, ground := Ground.data }, { on := 4, ground := Ground.data }, { on := 6, ground := Ground.data }, { on := 8, ground := Ground.data }, { on := 10, ground := Ground.data }, { on := 13, ground := Ground.data }, { on := 15, ground := Ground.data }, { on := 17, ground := Ground.data }, { on := 19, ground := Ground.data }], guard := none }) rfl (fun K hK => ?_) AllReadyH.nil
  go_simp
  have hb3 := Bl.alloc V3 (.cells #[.int .i64 x.opt.al, .int .i64 x.opt.b1, .int .i64 x.opt.b2, .int .i64 x.opt.ae, .int .i64 x.opt.aw, .int .i64 (flagN x.opt.apart), .int .i64 x.opt.dl, .int .i64 x.opt.de, .int .i64 x.opt.dd] 2)
  refine hK.out _ _ (hHeld.trans hb3) (fun hHeld2 => ?_)
  clear hK K
  try simp only [Act.put, List.setIfInBounds_toArray, List.set_cons_zero, List.set_cons_succ]
  refine wpAnyH_ready (rs := [21]) (by kernel_rfl) (by simp) ?_
  refine AllReadyH.cons (o := { dst := some 58, op := Op.call { callee := Callee.value (Operand.func 39), args := #[Operand.tmp 37, Operand.tmp 57], argTypes := #[37, 70] }, type := 37, pos := "ref.go:142", after := #[{ on := 0, ground := Ground.data }, { on := 20, ground := Ground.data }, { on := 13, ground := Ground.chain }], guard := none }) rfl (fun K hK => ?_) AllReadyH.nil
  go_simp
  refine (ints_any (HSd.out.step hb3) (by omega) 9 [x.opt.al, x.opt.b1, x.opt.b2, x.opt.ae, x.opt.aw, flagN x.opt.apart, x.opt.dl, x.opt.de, x.opt.dd] (RV.new _ _ _ _ rfl) (ok_sub (optNs_ok hgok.1) (by simp [optNs])) (by simp) (y3 ++ encNs [x.opt.al, x.opt.b1, x.opt.b2, x.opt.ae, x.opt.aw, flagN x.opt.apart, x.opt.dl, x.opt.de, x.opt.dd]) rfl).mono ?_
  rintro e W4 ⟨A4, c4, rfl, hs3, b3⟩
  obtain ⟨y4, hy⟩ : ∃ y4, y4 = y3 ++ encNs [x.opt.al, x.opt.b1, x.opt.b2, x.opt.ae, x.opt.aw, flagN x.opt.apart, x.opt.dl, x.opt.de, x.opt.dd] := ⟨_, rfl⟩
  have hy4l : y4.length ≤ y3.length + 90 := by
    have h1 := encNs_le (l := [x.opt.al, x.opt.b1, x.opt.b2, x.opt.ae, x.opt.aw, flagN x.opt.apart, x.opt.dl, x.opt.de, x.opt.dd]) (ok_sub (optNs_ok hgok.1) (by simp [optNs]))
    have e1 : ([x.opt.al, x.opt.b1, x.opt.b2, x.opt.ae, x.opt.aw, flagN x.opt.apart, x.opt.dl, x.opt.de, x.opt.dd] : List Int).length = 9 := rfl
    rw [hy, List.length_append]
    omega
  rw [← hy] at hs3 ⊢
  have HY4 := Lib.hid hy
  clear hy
  have hbb := hb3.trans b3
  have hHb := hHeld.trans hbb
  try go_wp2_with fail
  refine hK.out _ _ hHb (fun hHeld3 => ?_)
  clear hK K
  try simp only [Act.put, List.setIfInBounds_toArray, List.set_cons_zero, List.set_cons_succ]
  refine wpAnyH_take (i := 22) (oi := { dst := some 9, op := Op.assign (Operand.tmp 58), type := 37, pos := "ref.go:142", after := #[{ on := 21, ground := Ground.data }, { on := 21, ground := Ground.chain }, { on := 0, ground := Ground.phase }, { on := 1, ground := Ground.phase }, { on := 2, ground := Ground.phase }, { on := 3, ground := Ground.phase }, { on := 4, ground := Ground.phase }, { on := 5, ground := Ground.phase }, { on := 6, ground := Ground.phase }, { on := 7, ground := Ground.phase }, { on := 8, ground := Ground.phase }, { on := 9, ground := Ground.phase }, { on := 10, ground := Ground.phase }, { on := 11, ground := Ground.phase }, { on := 12, ground := Ground.phase }, { on := 13, ground := Ground.phase }, { on := 14, ground := Ground.phase }, { on := 15, ground := Ground.phase }, { on := 16, ground := Ground.phase }, { on := 17, ground := Ground.phase }, { on := 18, ground := Ground.phase }, { on := 19, ground := Ground.phase }, { on := 20, ground := Ground.phase }, { on := 21, ground := Ground.phase }], guard := none }) (v := ?_) rfl (by kernel_rfl) (by kernel_rfl) (by kernel_rfl) (fun _ _ _ h => h) (Or.inl ⟨by rfl, ?_⟩) hHeld3 ?_
  rotate_left
  · intro w' hSw
    go_simp
    with_reducible rfl
  try simp only [Act.put, List.setIfInBounds_toArray, List.set_cons_zero, List.set_cons_succ]
  refine wpAnyH_done (by kernel_rfl) ?_ _
  refine NoPanic.normal ?_
  have HS4 := Lib.hid hs3
  have HB4 := Lib.hid (HBd.out.trans hbb)
  have HK4 := Lib.hid (HKd.out.below hbb HKd.out.lt)
  have HP4 := Lib.hid (HPd.out.step hbb)
  have K11 := Lib.hid (K11d.out.below hbb K11d.out.lt)
  clear hb3 b3 hbb hHb hs3 hHeld hHeld2 hHeld3 HSd HBd HKd HPd HS3 HB3 HK3 HP3 K11d
  clear K9 K10 a_0 a_1 a_2 a_3 a_4 a_5 d_0 d_1 d_2
  have s_0 := (K11.out.cell 0).trans (show _ = some (Value.int .i64  x.sched.skind) from rfl)
  have s_1 := (K11.out.cell 1).trans (show _ = some (Value.int .i64  x.sched.base) from rfl)
  have s_2 := (K11.out.cell 2).trans (show _ = some (Value.int .i64  x.sched.rate) from rfl)
  have s_3 := (K11.out.cell 3).trans (show _ = some (Value.int .i64  x.sched.fin) from rfl)
  have s_4 := (K11.out.cell 4).trans (show _ = some (Value.int .i64  x.sched.warm) from rfl)
  have s_5 := (K11.out.cell 5).trans (show _ = some (Value.int .i64  x.sched.every) from rfl)
  have s_6 := (K11.out.cell 6).trans (show _ = some (Value.int .i64  x.sched.last) from rfl)
  have s_7 := (K11.out.cell 7).trans (show _ = some (Value.int .i64  x.sched.pow) from rfl)
  have HSd := HS4; have HBd := HB4; have HKd := HK4; have HPd := HP4
  clear HS4 HB4 HK4 HP4 
  go_wp2_with fail
  clear K11 s_0 s_1 s_2 s_3 s_4 s_5 s_6 s_7
  have hb3 := Bl.alloc W4 (.cells #[.int .i64 x.sched.skind, .int .i64 x.sched.base, .int .i64 x.sched.rate, .int .i64 x.sched.fin, .int .i64 x.sched.warm, .int .i64 x.sched.every, .int .i64 x.sched.last, .int .i64 x.sched.pow] 2)
  refine (ints_any (HSd.out.step hb3) (by omega) 8 [x.sched.skind, x.sched.base, x.sched.rate, x.sched.fin, x.sched.warm, x.sched.every, x.sched.last, x.sched.pow] (RV.new _ _ _ _ rfl) (schedNs_ok hgok.2.1) (by simp) (y4 ++ encNs [x.sched.skind, x.sched.base, x.sched.rate, x.sched.fin, x.sched.warm, x.sched.every, x.sched.last, x.sched.pow]) rfl).mono ?_
  rintro e W5 ⟨A5, c5, rfl, hs3, b3⟩
  obtain ⟨y5, hy⟩ : ∃ y5, y5 = y4 ++ encNs [x.sched.skind, x.sched.base, x.sched.rate, x.sched.fin, x.sched.warm, x.sched.every, x.sched.last, x.sched.pow] := ⟨_, rfl⟩
  have hy5l : y5.length ≤ y4.length + 80 := by
    have h1 := encNs_le (l := [x.sched.skind, x.sched.base, x.sched.rate, x.sched.fin, x.sched.warm, x.sched.every, x.sched.last, x.sched.pow]) (schedNs_ok hgok.2.1)
    have e1 : ([x.sched.skind, x.sched.base, x.sched.rate, x.sched.fin, x.sched.warm, x.sched.every, x.sched.last, x.sched.pow] : List Int).length = 8 := rfl
    rw [hy, List.length_append]
    omega
  rw [← hy] at hs3 ⊢
  have HY5 := Lib.hid hy
  have hbb := hb3.trans b3
  have HS5 := Lib.hid hs3
  have HB5 := Lib.hid (HBd.out.trans hbb)
  have HK5 := Lib.hid (HKd.out.below hbb HKd.out.lt)
  have HP5 := Lib.hid (HPd.out.step hbb)
  clear hb3 b3 hbb hs3 hy HSd HBd HKd HPd 
  have g22 := HK5.out.cell 22
  rw [List.getElem?_toArray, H22.out] at g22
  have HSd := HS5; have HBd := HB5; have HKd := HK5; have HPd := HP5
  clear HS5 HB5 HK5 HP5 
  go_wp2_with fail
  clear g22
  have hb3 := Bl.alloc W5 (.cells #[.int .i64 (x.params.length : Nat)] 2)
  refine (ints_any (HSd.out.step hb3) (by omega) 1 [(x.params.length : Int)] (RV.new _ _ _ _ rfl) (by intro n hn; simp at hn; subst hn; exact nat_ok (by omega)) (by simp) (y5 ++ encNs [(x.params.length : Int)]) rfl).mono ?_
  rintro e W6 ⟨A6, c6, rfl, hs3, b3⟩
  obtain ⟨y6, hy⟩ : ∃ y6, y6 = y5 ++ encNs [(x.params.length : Int)] := ⟨_, rfl⟩
  have hy6l : y6.length ≤ y5.length + 10 := by
    have h1 := encNs_le (l := [(x.params.length : Int)]) (by intro n hn; simp at hn; subst hn; exact nat_ok (by omega))
    have e1 : ([(x.params.length : Int)] : List Int).length = 1 := rfl
    rw [hy, List.length_append]
    omega
  rw [← hy] at hs3 ⊢
  have HY6 := Lib.hid hy
  have hbb := hb3.trans b3
  have HS6 := Lib.hid hs3
  have HB6 := Lib.hid (HBd.out.trans hbb)
  have HK6 := Lib.hid (HKd.out.below hbb HKd.out.lt)
  have HP6 := Lib.hid (HPd.out.step hbb)
  clear hb3 b3 hbb hs3 hy HSd HBd HKd HPd 
  have HYA : Hid (y6 = l ++ (encNs (optNs x.opt) ++ encNs (schedNs x.sched ++ [(x.params.length : Int)]))) := Lib.hid (by
    rw [HY6.out, HY5.out, HY4.out, HY3.out]
    simp [encNs, optNs, schedNs, List.append_assoc])
  have HTT : Hid (t = y6 ++ prmsE x.params) := Lib.hid (by rw [HT.out, HYA.out, groupE]; simp [List.append_assoc])
  obtain ⟨ps, hps⟩ : ∃ ps, ps = x.params := ⟨_, rfl⟩
  have HPS := Lib.hid hps
  have e22 := HK6.out.cell 22
  rw [List.getElem?_toArray, H22.out] at e22
  have h22 : us[22]? = some (.slice P ps.length d) := by rw [hps]; exact H22.out
  have H22' := Lib.hid h22
  rw [← hps] at HP6 HTT h10 e22
  have hpok := hgok.2.2.1; have hp40 := hgf.2
  rw [← hps] at hpok hp40
  have HPOK := Lib.hid hpok; have HP40 := Lib.hid hp40
  have HS7 : Hid (SL W6 A6 c6 (y6 ++ prmsE (ps.take 0))) := Lib.hid (by simpa [prmsE] using HS6.out)
  have HE7 : Hid (Value.slice A6 y6.length c6 = .slice A6 (y6 ++ prmsE (ps.take 0)).length c6) := Lib.hid (by simp [prmsE])
  have HL7 : Hid ((y6 ++ prmsE (ps.take 0)).length ≤ 200000 + 0 * 70) := Lib.hid (by simp [prmsE]; omega)
  clear HY3 HY4 HY5 HY6 HYA HT hps H22 h22 HS6 H0 hpok hp40 hgok hgf
  go_wp2
  clear e22
  go_loopw [9, 10] (fun b i wr => ∃ (j : Nat) (A' : Option Addr) (c' : Nat) (z : List UInt8), j ≤ ps.length ∧ i = .int .i64 j ∧ b = .slice A' z.length c' ∧ z.length ≤ 200000 + j * 70 ∧ Hid (z = y6 ++ prmsE (ps.take j)) ∧ Hid (SL wr A' c' z) ∧ Hid (Bl W6 wr)) (fun _ i _ => ps.length - (intOf i).toNat)
  case atStart => exact ⟨0, A6, c6, _, Nat.zero_le _, rfl, HE7.out, HL7.out, Lib.hid rfl, HS7, Lib.hid (Bl.refl _)⟩
  case round =>
    clear HS7 HE7 HL7
    obtain ⟨j, A', c', z, hj, rfl, rfl, hzl, HZ, HS, HBj⟩ := hrel
    have f22 : wr.cell? ⟨bk, 22, none⟩ = some (.slice P ps.length d) := by
      rw [(HK6.out.below HBj.out HK6.out.lt).cell 22, List.getElem?_toArray, H22'.out]
    by_cases hjl : j < ps.length
    · obtain ⟨g2, o2, rfl, q0, q1, q2⟩ := (HP6.out.step HBj.out).at_ hjl
      have hpok := HPOK.out _ (List.getElem_mem hjl)
      have hp40 := HP40.out _ (List.getElem_mem hjl)
      have HTJ := Lib.hid (prmsE_take ps j hjl)
      generalize ps[j] = p at q0 q1 q2 hpok hp40 HTJ
      obtain ⟨nm, rows, cols⟩ := p
      simp only at q0 q1 q2
      have hnm40 : nm.size ≤ 40 := hp40
      have HPP := Lib.hid hpok
      have hb1 : Bl wr (wr.drew.alloc (.cells (bytesRow nm (grownCap wr nm.size 0 5)) 5 ((bytesRow nm (grownCap wr nm.size 0 5)).size, (bytesRow nm (grownCap wr nm.size 0 5)).size + 1))) := (Bl.drewN wr 1).trans (Bl.alloc _ _)
      obtain ⟨z1, hz1⟩ : ∃ z1, z1 = z ++ (enc nm.data.toList.length ++ nm.data.toList) := ⟨_, rfl⟩
      have HZ1 := Lib.hid hz1
      have hz1l : z1.length ≤ z.length + 50 := by
        have h1 := enc_len10 (n := nm.data.toList.length) (by rw [toNat_ba]; omega)
        rw [hz1, List.length_append, List.length_append, toNat_ba] at *
        omega
      have HPR := Lib.hid (rputRow_sl (HS.out.step hb1) (sl_row wr nm _ (grownCap_ge wr nm.size 0 5) _) z1 hz1 (by rw [toNat_ba]; omega))
      rw [toNat_ba] at HPR
      have hcv := conv_bytes wr nm
      have hb1' := Lib.hid hb1
      have Q1 := Lib.hid q1; have Q2 := Lib.hid q2
      clear hb1 hz1 q1 q2 hpok hp40
      go_wp2_with fail
      refine HPR.out.mono ?_
      rintro e w6 ⟨A6', c6', rfl, hs6, _, b6⟩
      have hbb := hb1'.out.trans b6
      have HBk := Lib.hid (HBj.out.trans hbb)
      have HS6 := Lib.hid hs6
      have r1 := (Bl.cell hbb (p := ⟨g2, o2 + j * 3 + 1, none⟩) (block_lt_of_cell Q1.out)).trans Q1.out
      have r2 := (Bl.cell hbb (p := ⟨g2, o2 + j * 3 + 2, none⟩) (block_lt_of_cell Q2.out)).trans Q2.out
      have r22 : w6.cell? ⟨bk, 22, none⟩ = some (.slice (some ⟨g2, o2, none⟩) ps.length d) := by
        rw [(HK6.out.below HBk.out HK6.out.lt).cell 22, List.getElem?_toArray, H22'.out]
      clear hs6 b6 hbb HPR hcv hb1' HS f22 q0
      go_wp2
      have HS2 := HS6; have HB2 := HBk; have HK2 := Lib.hid (HK6.out.below HBk.out HK6.out.lt); have HP2 := Lib.hid (HP6.out.step HBk.out)
      have hdr : Bl w6 w6.drew := Bl.drewN w6 1
      refine wp_region_noPanic ?_
      refine wp_region_held_drew (S := fun w' => Bl w6 w') (by kernel_rfl) hdr (fun hHeld => ?_)
      have HSd := Lib.hid (HS2.out.step hdr); have HBd := Lib.hid (HB2.out.trans hdr); have HKd := Lib.hid (HK2.out.below hdr HK2.out.lt); have HPd := Lib.hid (HP2.out.step hdr)
      clear hdr
      generalize w6.drew = V2 at *
      refine wpAnyH_take (i := 0) (oi := { dst := some 100, op := Op.move (Operand.tmp 9), type := 37, pos := "ref.go:147", after := #[], guard := none }) (v := ?_) rfl (by kernel_rfl) (by kernel_rfl) (by kernel_rfl) (fun _ _ _ h => h) (Or.inl ⟨by rfl, ?_⟩) hHeld ?_
      rotate_left
      · intro w' hSw
        go_simp
        with_reducible rfl
      try simp only [Act.put, List.setIfInBounds_toArray, List.set_cons_zero, List.set_cons_succ]
      refine wpAnyH_take (i := 1) (oi := { dst := some 101, op := Op.fieldAddr 54 (Operand.tmp 3) 2, type := 0, pos := "ref.go:147", after := #[], guard := none }) (v := ?_) rfl (by kernel_rfl) (by kernel_rfl) (by kernel_rfl) (fun _ _ _ h => h) (Or.inl ⟨by rfl, ?_⟩) hHeld ?_
      rotate_left
      · intro w' hSw
        go_simp
        with_reducible rfl
      try simp only [Act.put, List.setIfInBounds_toArray, List.set_cons_zero, List.set_cons_succ]
      refine wpAnyH_take (i := 2) (oi := { dst := some 102, op := Op.load 52 (Operand.tmp 101), type := 52, pos := "ref.go:147", after := #[{ on := 1, ground := Ground.data }], guard := none }) (v := ?_) rfl (by kernel_rfl) (by kernel_rfl) (by kernel_rfl) (fun _ _ _ h => h) (Or.inl ⟨by rfl, ?_⟩) hHeld ?_
      rotate_left
      · intro w' hSw
        have tq := (Bl.cell hSw (p := ⟨bk, 22, none⟩) HK2.out.lt).trans r22
        go_simp
        with_reducible rfl
      try simp only [Act.put, List.setIfInBounds_toArray, List.set_cons_zero, List.set_cons_succ]
      refine wpAnyH_take (i := 3) (oi := { dst := some 103, op := Op.move (Operand.tmp 10), type := 3, pos := "ref.go:147", after := #[], guard := none }) (v := ?_) rfl (by kernel_rfl) (by kernel_rfl) (by kernel_rfl) (fun _ _ _ h => h) (Or.inl ⟨by rfl, ?_⟩) hHeld ?_
      rotate_left
      · intro w' hSw
        go_simp
        with_reducible rfl
      try simp only [Act.put, List.setIfInBounds_toArray, List.set_cons_zero, List.set_cons_succ]
      refine wpAnyH_take (i := 4) (oi := { dst := some 104, op := Op.indexAddr 52 (Operand.tmp 102) (Operand.tmp 103), type := 0, pos := "ref.go:147", after := #[{ on := 2, ground := Ground.data }, { on := 3, ground := Ground.data }], guard := none }) (v := ?_) rfl (by kernel_rfl) (by kernel_rfl) (by kernel_rfl) (fun _ _ _ h => h) (Or.inl ⟨by rfl, ?_⟩) hHeld ?_
      rotate_left
      · intro w' hSw
        go_simp
        with_reducible rfl
      try simp only [Act.put, List.setIfInBounds_toArray, List.set_cons_zero, List.set_cons_succ]
      refine wpAnyH_take (i := 5) (oi := { dst := some 105, op := Op.fieldAddr 56 (Operand.tmp 104) 1, type := 0, pos := "ref.go:147", after := #[{ on := 4, ground := Ground.data }], guard := none }) (v := ?_) rfl (by kernel_rfl) (by kernel_rfl) (by kernel_rfl) (fun _ _ _ h => h) (Or.inl ⟨by rfl, ?_⟩) hHeld ?_
      rotate_left
      · intro w' hSw
        go_simp
        with_reducible rfl
      try simp only [Act.put, List.setIfInBounds_toArray, List.set_cons_zero, List.set_cons_succ]
      refine wpAnyH_take (i := 6) (oi := { dst := some 106, op := Op.load 3 (Operand.tmp 105), type := 3, pos := "ref.go:147", after := #[{ on := 5, ground := Ground.data }], guard := none }) (v := ?_) rfl (by kernel_rfl) (by kernel_rfl) (by kernel_rfl) (fun _ _ _ h => h) (Or.inl ⟨by rfl, ?_⟩) hHeld ?_
      rotate_left
      · intro w' hSw
        have tq := (Bl.cell hSw (p := ⟨g2, o2 + j * 3 + 1, none⟩) (block_lt_of_cell r1)).trans r1
        go_simp
        with_reducible rfl
      try simp only [Act.put, List.setIfInBounds_toArray, List.set_cons_zero, List.set_cons_succ]
      refine wpAnyH_take (i := 7) (oi := { dst := some 107, op := Op.fieldAddr 54 (Operand.tmp 3) 2, type := 0, pos := "ref.go:147", after := #[], guard := none }) (v := ?_) rfl (by kernel_rfl) (by kernel_rfl) (by kernel_rfl) (fun _ _ _ h => h) (Or.inl ⟨by rfl, ?_⟩) hHeld ?_
      rotate_left
      · intro w' hSw
        go_simp
        with_reducible rfl
      try simp only [Act.put, List.setIfInBounds_toArray, List.set_cons_zero, List.set_cons_succ]
      refine wpAnyH_take (i := 8) (oi := { dst := some 108, op := Op.load 52 (Operand.tmp 107), type := 52, pos := "ref.go:147", after := #[{ on := 7, ground := Ground.data }], guard := none }) (v := ?_) rfl (by kernel_rfl) (by kernel_rfl) (by kernel_rfl) (fun _ _ _ h => h) (Or.inl ⟨by rfl, ?_⟩) hHeld ?_
      rotate_left
      · intro w' hSw
        have tq := (Bl.cell hSw (p := ⟨bk, 22, none⟩) HK2.out.lt).trans r22
        go_simp
        with_reducible rfl
      try simp only [Act.put, List.setIfInBounds_toArray, List.set_cons_zero, List.set_cons_succ]
      refine wpAnyH_take (i := 9) (oi := { dst := some 109, op := Op.move (Operand.tmp 10), type := 3, pos := "ref.go:147", after := #[], guard := none }) (v := ?_) rfl (by kernel_rfl) (by kernel_rfl) (by kernel_rfl) (fun _ _ _ h => h) (Or.inl ⟨by rfl, ?_⟩) hHeld ?_
      rotate_left
      · intro w' hSw
        go_simp
        with_reducible rfl
      try simp only [Act.put, List.setIfInBounds_toArray, List.set_cons_zero, List.set_cons_succ]
      refine wpAnyH_take (i := 10) (oi := { dst := some 110, op := Op.indexAddr 52 (Operand.tmp 108) (Operand.tmp 109), type := 0, pos := "ref.go:147", after := #[{ on := 8, ground := Ground.data }, { on := 9, ground := Ground.data }], guard := none }) (v := ?_) rfl (by kernel_rfl) (by kernel_rfl) (by kernel_rfl) (fun _ _ _ h => h) (Or.inl ⟨by rfl, ?_⟩) hHeld ?_
      rotate_left
      · intro w' hSw
        go_simp
        with_reducible rfl
      try simp only [Act.put, List.setIfInBounds_toArray, List.set_cons_zero, List.set_cons_succ]
      refine wpAnyH_take (i := 11) (oi := { dst := some 111, op := Op.fieldAddr 56 (Operand.tmp 110) 2, type := 0, pos := "ref.go:147", after := #[{ on := 10, ground := Ground.data }], guard := none }) (v := ?_) rfl (by kernel_rfl) (by kernel_rfl) (by kernel_rfl) (fun _ _ _ h => h) (Or.inl ⟨by rfl, ?_⟩) hHeld ?_
      rotate_left
      · intro w' hSw
        go_simp
        with_reducible rfl
      try simp only [Act.put, List.setIfInBounds_toArray, List.set_cons_zero, List.set_cons_succ]
      refine wpAnyH_take (i := 12) (oi := { dst := some 112, op := Op.load 3 (Operand.tmp 111), type := 3, pos := "ref.go:147", after := #[{ on := 11, ground := Ground.data }], guard := none }) (v := ?_) rfl (by kernel_rfl) (by kernel_rfl) (by kernel_rfl) (fun _ _ _ h => h) (Or.inl ⟨by rfl, ?_⟩) hHeld ?_
      rotate_left
      · intro w' hSw
        have tq := (Bl.cell hSw (p := ⟨g2, o2 + j * 3 + 2, none⟩) (block_lt_of_cell r2)).trans r2
        go_simp
        with_reducible rfl
      try simp only [Act.put, List.setIfInBounds_toArray, List.set_cons_zero, List.set_cons_succ]
      refine wpAnyH_ready (rs := [13]) (by kernel_rfl) (by simp) ?_
      refine AllReadyH.cons (o := { dst := some 113, op := Op.buildSlice 70 2 #[(0, Operand.tmp 106), (1, Operand.tmp 112)], type := 70, pos := "ref.go:147", after := #[{ on := 6, ground := Ground.data }, { on := 12, ground := Ground.data }], guard := none }) rfl (fun K hK => ?_) AllReadyH.nil
      go_simp
      have hb3 := Bl.alloc V2 (.cells #[.int .i64 rows, .int .i64 cols] 2)
      refine hK.out _ _ (hHeld.trans hb3) (fun hHeld2 => ?_)
      clear hK K
      try simp only [Act.put, List.setIfInBounds_toArray, List.set_cons_zero, List.set_cons_succ]
      refine wpAnyH_ready (rs := [14]) (by kernel_rfl) (by simp) ?_
      refine AllReadyH.cons (o := { dst := some 114, op := Op.call { callee := Callee.value (Operand.func 39), args := #[Operand.tmp 100, Operand.tmp 113], argTypes := #[37, 70] }, type := 37, pos := "ref.go:147", after := #[{ on := 0, ground := Ground.data }, { on := 13, ground := Ground.data }], guard := none }) rfl (fun K hK => ?_) AllReadyH.nil
      go_simp
      refine (ints_any (HSd.out.step hb3) (by omega) 2 [rows, cols] (RV.new _ _ _ _ rfl) (by intro n hn; simp only [List.mem_cons, List.not_mem_nil, or_false] at hn; rcases hn with rfl | rfl; exact HPP.out.1; exact HPP.out.2.1) (by simp) (z1 ++ encNs [rows, cols]) rfl).mono ?_
      rintro e W8 ⟨A8, c8, rfl, hs3, b3⟩
      obtain ⟨y8, hy⟩ : ∃ y8, y8 = z1 ++ encNs [rows, cols] := ⟨_, rfl⟩
      have hy8l : y8.length ≤ z1.length + 20 := by
        have h1 := encNs_le (l := [rows, cols]) (by intro n hn; simp only [List.mem_cons, List.not_mem_nil, or_false] at hn; rcases hn with rfl | rfl; exact HPP.out.1; exact HPP.out.2.1)
        have e1 : ([rows, cols] : List Int).length = 2 := rfl
        rw [hy, List.length_append]
        omega
      rw [← hy] at hs3 ⊢
      have HY8 := Lib.hid hy
      clear hy
      have hbb := hb3.trans b3
      have hHb := hHeld.trans hbb
      try go_wp2_with fail
      refine hK.out _ _ hHb (fun hHeld3 => ?_)
      clear hK K
      try simp only [Act.put, List.setIfInBounds_toArray, List.set_cons_zero, List.set_cons_succ]
      refine wpAnyH_take (i := 15) (oi := { dst := some 9, op := Op.assign (Operand.tmp 114), type := 37, pos := "ref.go:147", after := #[{ on := 14, ground := Ground.data }, { on := 14, ground := Ground.chain }, { on := 0, ground := Ground.phase }, { on := 1, ground := Ground.phase }, { on := 2, ground := Ground.phase }, { on := 3, ground := Ground.phase }, { on := 4, ground := Ground.phase }, { on := 5, ground := Ground.phase }, { on := 6, ground := Ground.phase }, { on := 7, ground := Ground.phase }, { on := 8, ground := Ground.phase }, { on := 9, ground := Ground.phase }, { on := 10, ground := Ground.phase }, { on := 11, ground := Ground.phase }, { on := 12, ground := Ground.phase }, { on := 13, ground := Ground.phase }, { on := 14, ground := Ground.phase }], guard := none }) (v := ?_) rfl (by kernel_rfl) (by kernel_rfl) (by kernel_rfl) (fun _ _ _ h => h) (Or.inl ⟨by rfl, ?_⟩) hHeld3 ?_
      rotate_left
      · intro w' hSw
        go_simp
        with_reducible rfl
      try simp only [Act.put, List.setIfInBounds_toArray, List.set_cons_zero, List.set_cons_succ]
      refine wpAnyH_done (by kernel_rfl) ?_ _
      refine NoPanic.normal ?_
      have HS8 := Lib.hid hs3
      have HB8 := Lib.hid (HBd.out.trans hbb)
      have HK8 := Lib.hid (HKd.out.below hbb HKd.out.lt)
      have HP8 := Lib.hid (HPd.out.step hbb)
      clear hb3 b3 hbb hHb hs3 hHeld hHeld2 hHeld3 HSd HBd HKd HPd HS2 HB2 HK2 HP2 
      have HL8 : Hid (y8.length ≤ 200000 + (j + 1) * 70) := Lib.hid (by omega)
      have HZ8 : Hid (y8 = y6 ++ prmsE (ps.take (j + 1))) := Lib.hid (by rw [HY8.out, HZ1.out, HZ.out, HTJ.out]; simp [prmE, List.append_assoc])
      clear HY8 HZ1 HZ HTJ r1 r2 r22
      go_wp2
      go_roundw
      case rel => exact ⟨j + 1, A8, c8, _, by omega, by go_num, rfl, HL8.out, HZ8, HS8, HB8⟩
      case measure => simp [intOf]; omega
    · have HO : Hid (GivesB w t (.returned (.slice A' z.length c')) wr) := Lib.hid (by
        have e : z = t := by rw [HTT.out, HZ.out, List.take_of_length_le (by omega)]
        rw [e] at HS ⊢
        exact ⟨A', c', rfl, HS.out, HB6.out.trans HBj.out⟩)
      clear HS HZ HTT
      go_wp2
      go_ret
      exact HO.out
end Go.Proofs.Ytigicphmnlkjfaa
