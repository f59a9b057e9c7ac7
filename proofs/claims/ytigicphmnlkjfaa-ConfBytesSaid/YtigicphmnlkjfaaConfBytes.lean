/- The walk of ConfBytes. (Printed by wip/gen_law21.py.) -/
import Derived.Test.YtigicphmnlkjfaaAlive21
import Derived.Test.YtigicphmnlkjfaaFew21
import Derived.Deep.RegionHeld3
import Derived.Deep.MidRow
namespace Go.Proofs.Ytigicphmnlkjfaa
open Go.RowKit
set_option linter.unusedVariables false
set_option linter.unusedSimpArgs false

set_option maxRecDepth 100000 in
set_option maxHeartbeats 8000000 in
theorem confBytes_walk {w : World} {A : Option Addr} {c : Nat} {x : ConfP} (h : CF w A c x) :
    Calls Try.prog 4 #[x.v A c] w fun e w' => e = .returned (.bool true) ∧ Bl w w' := by
  obtain ⟨cv, hcv⟩ : ∃ cv, cv = x.cs A c := ⟨_, rfl⟩
  have HV : Hid (x.v A c = .agg cv.toArray) := Lib.hid (by rw [hcv]; rfl)
  have HCL : Hid (cv.length = 11) := Lib.hid (by rw [hcv]; rfl)
  have hb := Bl.alloc w (.cells cv.toArray 27)
  have hk := Blk.new w 27 cv.toArray
  have HB := Lib.hid hb
  have HRg := Lib.hid hk.rangeL
  have hlt : w.heap.size < (w.alloc (.cells cv.toArray 27)).heap.size := hk.lt
  have HLT := Lib.hid hlt
  have HCF := Lib.hid (h.step hb)
  have hfew := few_any (h.step hb)
  rw [HV.out] at hfew ⊢
  have HFew := Lib.hid hfew
  clear hcv hb hk h hfew hlt
  go_enter Try.func4, Try.ntmps4
  go_wp2_with (first
    | (refine wpList_load_mid rfl 27 (.tmp 1) rfl w.heap.size 0 rfl cv _ HRg.out Try.underlying27 rfl (by rw [HCL.out]; exact c_size) ?_)
    | fail)
  refine HFew.out.mono ?_
  rintro e w1 ⟨rfl, b1⟩
  have HB1 := Lib.hid (HB.out.trans b1)
  have HCF1 := Lib.hid (HCF.out.step b1)
  have HRg1 := Lib.hid (rangeAt_step HRg.out HLT.out b1)
  have hlt1 : w.heap.size < w1.heap.size := Nat.lt_of_lt_of_le HLT.out b1.size
  clear b1 HFew HB HRg HCF
  by_cases q : fewC x = true
  rotate_left
  · have q' : fewC x = false := by simpa using q
    rw [q']
    go_wp2_with fail
    refine (alive21 _).mono ?_
    rintro e w2 ⟨rfl, b2⟩
    have HB2 := Lib.hid (HB1.out.trans b2)
    clear b2
    go_wp2
    go_ret
    exact ⟨rfl, HB2.out⟩
  rw [q]
  have hRg : ∀ w', Bl w1 w' → w'.rangeAt w.heap.size 0 cv := fun w' h => rangeAt_step HRg1.out hlt1 h
  have hf : fewC x = true := by simpa using q
  have hBytes := fun w' (h : Bl w1 w') => bytes_any (HCF1.out.step h) hf
  have hRBytes := fun w' (h : Bl w1 w') => rbytes_any (HCF1.out.step h) hf
  have hDig := fun w' (h : Bl w1 w') n (hn : n = crcOf (confE x)) => digest_any (HCF1.out.step h) hf n hn
  have hRDig := fun w' (h : Bl w1 w') n (hn : n = crcOf (confE x)) => rdigest_any (HCF1.out.step h) hf n hn
  rw [HV.out] at hBytes hRBytes hDig hRDig
  obtain ⟨n, hn⟩ : ∃ n, n = crcOf (confE x) := ⟨_, rfl⟩
  have hyl2 : (confE x).length ≤ 20000 := confE_le HCF1.out.ok hf
  have HBytes := Lib.hid hBytes; have HRBytes := Lib.hid hRBytes
  have HDig := Lib.hid (fun w' h => hDig w' h n hn); have HRDig := Lib.hid (fun w' h => hRDig w' h n hn)
  clear hBytes hRBytes hDig hRDig hn
  go_wp2
  have hdr : Bl w1 w1.drew := Bl.drewN w1 1
  refine wp_region_noPanic ?_
  refine wp_region_held_drew (S := fun w' => Bl w1 w') (by kernel_rfl) hdr (fun hHeld => ?_)

  refine wpAnyH_ready (rs := [0]) (by kernel_rfl) (by simp) ?_
  refine AllReadyH.cons (o := { dst := some 7, op := Op.call { callee := Callee.value (Operand.func 9), args := #[], argTypes := #[] }, type := 4, pos := "law.go:35", after := #[], guard := none }) rfl (fun K hK => ?_) AllReadyH.nil
  go_simp
  refine (alive21 _).mono ?_
  rintro e v1 ⟨rfl, b⟩
  have hHb := hHeld.trans b
  try go_wp2_with fail
  refine hK.out _ _ hHb (fun hHeld => ?_)
  clear hK K
  clear hHb b
  try simp only [Act.put, List.setIfInBounds_toArray, List.set_cons_zero, List.set_cons_succ]
  refine wpAnyH_take (i := 1) (oi := { dst := some 8, op := Op.move (Operand.tmp 7), type := 4, pos := "law.go:35", after := #[{ on := 0, ground := Ground.data }, { on := 0, ground := Ground.chain }], guard := none }) (v := ?_) rfl (by kernel_rfl) (by kernel_rfl) (by kernel_rfl) (fun _ _ _ h => h) (Or.inl ⟨by rfl, ?_⟩) hHeld ?_
  rotate_left
  · intro w' hSw
    go_simp
    try with_reducible rfl
  try simp only [Act.put, List.setIfInBounds_toArray, List.set_cons_zero, List.set_cons_succ]
  refine wpAnyH_take (i := 2) (oi := { dst := some 9, op := Op.load 27 (Operand.tmp 1), type := 27, pos := "law.go:35", after := #[{ on := 1, ground := Ground.guard }], guard := some (1, true) }) (v := .agg cv.toArray) rfl (by kernel_rfl) (by kernel_rfl) (by kernel_rfl) (fun _ _ _ h => h) (yieldsIf_load_mid (by rfl) 27 (.tmp 1) rfl w.heap.size 0 rfl cv _ hRg Try.underlying27 rfl (by rw [HCL.out]; exact c_size)) hHeld ?_
  try simp only [Act.put, List.setIfInBounds_toArray, List.set_cons_zero, List.set_cons_succ]
  refine wpAnyH_take (i := 4) (oi := { dst := some 11, op := Op.load 27 (Operand.tmp 1), type := 27, pos := "law.go:35", after := #[{ on := 1, ground := Ground.guard }], guard := some (1, true) }) (v := .agg cv.toArray) rfl (by kernel_rfl) (by kernel_rfl) (by kernel_rfl) (fun _ _ _ h => h) (yieldsIf_load_mid (by rfl) 27 (.tmp 1) rfl w.heap.size 0 rfl cv _ hRg Try.underlying27 rfl (by rw [HCL.out]; exact c_size)) hHeld ?_
  try simp only [Act.put, List.setIfInBounds_toArray, List.set_cons_zero, List.set_cons_succ]
  refine wpAnyH_ready (rs := [3]) (by kernel_rfl) (by simp) ?_
  refine AllReadyH.cons (o := { dst := some 10, op := Op.call { callee := Callee.value (Operand.func 17), args := #[Operand.tmp 9], argTypes := #[27] }, type := 37, pos := "law.go:35", after := #[{ on := 2, ground := Ground.data }, { on := 1, ground := Ground.chain }, { on := 1, ground := Ground.guard }], guard := some (1, true) }) rfl (fun K hK => ?_) AllReadyH.nil
  go_simp
  refine (HBytes.out _ hHeld).mono ?_
  rintro e v2 ⟨A2, c2, rfl, hs2, b⟩
  have hHb := hHeld.trans b
  try go_wp2_with fail
  refine hK.out _ _ hHb (fun hHeld => ?_)
  clear hK K
  have HS2 := Lib.hid hs2
  clear hHb b hs2
  try simp only [Act.put, List.setIfInBounds_toArray, List.set_cons_zero, List.set_cons_succ]
  refine wpAnyH_ready (rs := [5]) (by kernel_rfl) (by simp) ?_
  refine AllReadyH.cons (o := { dst := some 12, op := Op.call { callee := Callee.value (Operand.func 18), args := #[Operand.tmp 11], argTypes := #[27] }, type := 37, pos := "law.go:35", after := #[{ on := 4, ground := Ground.data }, { on := 3, ground := Ground.chain }, { on := 1, ground := Ground.guard }], guard := some (1, true) }) rfl (fun K hK => ?_) AllReadyH.nil
  go_simp
  refine (HRBytes.out _ hHeld).mono ?_
  rintro e v3 ⟨A3, c3, rfl, hs3, b⟩
  have hHb := hHeld.trans b
  try go_wp2_with fail
  refine hK.out _ _ hHb (fun hHeld => ?_)
  clear hK K
  have HS3 := Lib.hid hs3
  replace HS2 := Lib.hid (HS2.out.step b)
  clear hHb b hs3
  try simp only [Act.put, List.setIfInBounds_toArray, List.set_cons_zero, List.set_cons_succ]
  refine wpAnyH_ready (rs := [6]) (by kernel_rfl) (by simp) ?_
  refine AllReadyH.cons (o := { dst := some 13, op := Op.call { callee := Callee.value (Operand.func 16), args := #[Operand.tmp 10, Operand.tmp 12], argTypes := #[37, 37] }, type := 4, pos := "law.go:35", after := #[{ on := 3, ground := Ground.data }, { on := 5, ground := Ground.data }, { on := 5, ground := Ground.chain }, { on := 1, ground := Ground.guard }], guard := some (1, true) }) rfl (fun K hK => ?_) AllReadyH.nil
  go_simp
  refine (same_sl HS2.out HS3.out (by omega)).mono ?_
  rintro e v4 ⟨rfl, b⟩
  have hHb := hHeld.trans b
  try go_wp2_with fail
  refine hK.out _ _ hHb (fun hHeld => ?_)
  clear hK K
  clear hHb b
  try simp only [Act.put, List.setIfInBounds_toArray, List.set_cons_zero, List.set_cons_succ]
  refine wpAnyH_take (i := 7) (oi := { dst := some 14, op := Op.pick (Operand.tmp 8) (Operand.tmp 13) (Operand.const (Value.bool false)), type := 4, pos := "law.go:35", after := #[{ on := 1, ground := Ground.data }, { on := 6, ground := Ground.data }], guard := none }) (v := ?_) rfl (by kernel_rfl) (by kernel_rfl) (by kernel_rfl) (fun _ _ _ h => h) (Or.inl ⟨by rfl, ?_⟩) hHeld ?_
  rotate_left
  · intro w' hSw
    go_simp
    try with_reducible rfl
  try simp only [Act.put, List.setIfInBounds_toArray, List.set_cons_zero, List.set_cons_succ]
  refine wpAnyH_take (i := 8) (oi := { dst := some 15, op := Op.move (Operand.tmp 14), type := 4, pos := "law.go:35", after := #[{ on := 7, ground := Ground.data }, { on := 6, ground := Ground.chain }], guard := none }) (v := ?_) rfl (by kernel_rfl) (by kernel_rfl) (by kernel_rfl) (fun _ _ _ h => h) (Or.inl ⟨by rfl, ?_⟩) hHeld ?_
  rotate_left
  · intro w' hSw
    go_simp
    try with_reducible rfl
  try simp only [Act.put, List.setIfInBounds_toArray, List.set_cons_zero, List.set_cons_succ]
  refine wpAnyH_take (i := 9) (oi := { dst := some 16, op := Op.load 27 (Operand.tmp 1), type := 27, pos := "law.go:35", after := #[{ on := 8, ground := Ground.guard }], guard := some (8, true) }) (v := .agg cv.toArray) rfl (by kernel_rfl) (by kernel_rfl) (by kernel_rfl) (fun _ _ _ h => h) (yieldsIf_load_mid (by rfl) 27 (.tmp 1) rfl w.heap.size 0 rfl cv _ hRg Try.underlying27 rfl (by rw [HCL.out]; exact c_size)) hHeld ?_
  try simp only [Act.put, List.setIfInBounds_toArray, List.set_cons_zero, List.set_cons_succ]
  refine wpAnyH_take (i := 11) (oi := { dst := some 18, op := Op.load 27 (Operand.tmp 1), type := 27, pos := "law.go:35", after := #[{ on := 8, ground := Ground.guard }], guard := some (8, true) }) (v := .agg cv.toArray) rfl (by kernel_rfl) (by kernel_rfl) (by kernel_rfl) (fun _ _ _ h => h) (yieldsIf_load_mid (by rfl) 27 (.tmp 1) rfl w.heap.size 0 rfl cv _ hRg Try.underlying27 rfl (by rw [HCL.out]; exact c_size)) hHeld ?_
  try simp only [Act.put, List.setIfInBounds_toArray, List.set_cons_zero, List.set_cons_succ]
  refine wpAnyH_ready (rs := [10]) (by kernel_rfl) (by simp) ?_
  refine AllReadyH.cons (o := { dst := some 17, op := Op.call { callee := Callee.value (Operand.func 19), args := #[Operand.tmp 16], argTypes := #[27] }, type := 39, pos := "law.go:35", after := #[{ on := 9, ground := Ground.data }, { on := 8, ground := Ground.chain }, { on := 8, ground := Ground.guard }], guard := some (8, true) }) rfl (fun K hK => ?_) AllReadyH.nil
  go_simp
  refine (HDig.out _ hHeld).mono ?_
  rintro e v5 ⟨rfl, b⟩
  have hHb := hHeld.trans b
  try go_wp2_with fail
  refine hK.out _ _ hHb (fun hHeld => ?_)
  clear hK K
  clear hHb b
  try simp only [Act.put, List.setIfInBounds_toArray, List.set_cons_zero, List.set_cons_succ]
  refine wpAnyH_ready (rs := [12]) (by kernel_rfl) (by simp) ?_
  refine AllReadyH.cons (o := { dst := some 19, op := Op.call { callee := Callee.value (Operand.func 20), args := #[Operand.tmp 18], argTypes := #[27] }, type := 39, pos := "law.go:35", after := #[{ on := 11, ground := Ground.data }, { on := 10, ground := Ground.chain }, { on := 8, ground := Ground.guard }], guard := some (8, true) }) rfl (fun K hK => ?_) AllReadyH.nil
  go_simp
  refine (HRDig.out _ hHeld).mono ?_
  rintro e v6 ⟨rfl, b⟩
  have hHb := hHeld.trans b
  try go_wp2_with fail
  refine hK.out _ _ hHb (fun hHeld => ?_)
  clear hK K
  clear hHb b
  try simp only [Act.put, List.setIfInBounds_toArray, List.set_cons_zero, List.set_cons_succ]
  refine wpAnyH_take (i := 13) (oi := { dst := some 20, op := Op.binOp BinOp.eql 39 (Operand.tmp 17) (Operand.tmp 19) 39, type := 4, pos := "law.go:35", after := #[{ on := 10, ground := Ground.data }, { on := 12, ground := Ground.data }, { on := 8, ground := Ground.guard }], guard := some (8, true) }) (v := ?_) rfl (by kernel_rfl) (by kernel_rfl) (by kernel_rfl) (fun _ _ _ h => h) (Or.inl ⟨by rfl, ?_⟩) hHeld ?_
  rotate_left
  · intro w' hSw
    go_simp
    try with_reducible rfl
  try simp only [Act.put, List.setIfInBounds_toArray, List.set_cons_zero, List.set_cons_succ]
  refine wpAnyH_take (i := 14) (oi := { dst := some 21, op := Op.pick (Operand.tmp 15) (Operand.tmp 20) (Operand.const (Value.bool false)), type := 4, pos := "law.go:35", after := #[{ on := 8, ground := Ground.data }, { on := 13, ground := Ground.data }], guard := none }) (v := ?_) rfl (by kernel_rfl) (by kernel_rfl) (by kernel_rfl) (fun _ _ _ h => h) (Or.inl ⟨by rfl, ?_⟩) hHeld ?_
  rotate_left
  · intro w' hSw
    go_simp
    try with_reducible rfl
  try simp only [Act.put, List.setIfInBounds_toArray, List.set_cons_zero, List.set_cons_succ]
  refine wpAnyH_take (i := 15) (oi := { dst := some 2, op := Op.assign (Operand.tmp 21), type := 4, pos := "law.go:35", after := #[{ on := 14, ground := Ground.data }, { on := 12, ground := Ground.chain }, { on := 0, ground := Ground.phase }, { on := 1, ground := Ground.phase }, { on := 2, ground := Ground.phase }, { on := 3, ground := Ground.phase }, { on := 4, ground := Ground.phase }, { on := 5, ground := Ground.phase }, { on := 6, ground := Ground.phase }, { on := 7, ground := Ground.phase }, { on := 8, ground := Ground.phase }, { on := 9, ground := Ground.phase }, { on := 10, ground := Ground.phase }, { on := 11, ground := Ground.phase }, { on := 12, ground := Ground.phase }, { on := 13, ground := Ground.phase }, { on := 14, ground := Ground.phase }], guard := none }) (v := ?_) rfl (by kernel_rfl) (by kernel_rfl) (by kernel_rfl) (fun _ _ _ h => h) (Or.inl ⟨by rfl, ?_⟩) hHeld ?_
  rotate_left
  · intro w' hSw
    go_simp
    try with_reducible rfl
  try simp only [Act.put, List.setIfInBounds_toArray, List.set_cons_zero, List.set_cons_succ]
  refine wpAnyH_done (by kernel_rfl) ?_ _
  refine NoPanic.normal ?_
  have HBe := Lib.hid (HB1.out.trans hHeld)
  go_wp2
  go_ret
  exact ⟨by simp, HBe.out⟩
end Go.Proofs.Ytigicphmnlkjfaa
