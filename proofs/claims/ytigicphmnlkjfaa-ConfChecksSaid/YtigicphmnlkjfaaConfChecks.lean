/- The walk of ConfChecks. (Printed by wip/gen_law21.py.) -/
import Derived.Test.YtigicphmnlkjfaaAlive21
import Derived.Test.YtigicphmnlkjfaaFew21
import Derived.Deep.RegionHeld3
import Derived.Deep.MidRow
namespace Go.Proofs.Ytigicphmnlkjfaa
open Go.RowKit
set_option linter.unusedVariables false
set_option linter.unusedSimpArgs false

set_option maxRecDepth 100000 in
set_option maxHeartbeats 8000000 in
theorem confChecks_walk {w : World} {A : Option Addr} {c : Nat} {x : ConfP} (h : CF w A c x) (s : ByteArray) (hs : s.size ≤ 9223372036854775807) :
    Calls Try.prog 3 #[x.v A c, .string s] w fun e w' => e = .returned (.bool true) ∧ Bl w w' := by
  obtain ⟨cv, hcv⟩ : ∃ cv, cv = x.cs A c := ⟨_, rfl⟩
  have HV : Hid (x.v A c = .agg cv.toArray) := Lib.hid (by rw [hcv]; rfl)
  have HCL : Hid (cv.length = 11) := Lib.hid (by rw [hcv]; rfl)
  have hb := Bl.alloc w (.cells cv.toArray 27)
  have hk := Blk.new w 27 cv.toArray
  have HB := Lib.hid hb
  have HRg := Lib.hid hk.rangeL
  have hlt : w.heap.size < (w.alloc (.cells cv.toArray 27)).heap.size := hk.lt
  have HLT := Lib.hid hlt
  have HCF := Lib.hid (h.step hb)
  have hfew := few_any (h.step hb)
  rw [HV.out] at hfew ⊢
  have HFew := Lib.hid hfew
  clear hcv hb hk h hfew hlt
  go_enter Try.func3, Try.ntmps3
  go_wp2_with (first
    | (refine wpList_load_mid rfl 27 (.tmp 2) rfl w.heap.size 0 rfl cv _ HRg.out Try.underlying27 rfl (by rw [HCL.out]; exact c_size) ?_)
    | fail)
  refine HFew.out.mono ?_
  rintro e w1 ⟨rfl, b1⟩
  have HB1 := Lib.hid (HB.out.trans b1)
  have HCF1 := Lib.hid (HCF.out.step b1)
  have HRg1 := Lib.hid (rangeAt_step HRg.out HLT.out b1)
  have hlt1 : w.heap.size < w1.heap.size := Nat.lt_of_lt_of_le HLT.out b1.size
  clear b1 HFew HB HRg HCF
  by_cases q : fewC x = true
  rotate_left
  · have q' : fewC x = false := by simpa using q
    rw [q']
    go_wp2_with fail
    refine (alive21 _).mono ?_
    rintro e w2 ⟨rfl, b2⟩
    have HB2 := Lib.hid (HB1.out.trans b2)
    clear b2
    go_wp2
    go_ret
    exact ⟨rfl, HB2.out⟩
  rw [q]
  by_cases h60 : 60 < (s.size : Int)
  · skip
    go_wp2_with fail
    refine (alive21 _).mono ?_
    rintro e w2 ⟨rfl, b2⟩
    have HB2 := Lib.hid (HB1.out.trans b2)
    clear b2
    go_wp2
    go_ret
    exact ⟨rfl, HB2.out⟩
  have hf : fewC x = true := by simpa using q
  obtain ⟨p, a, e, ht⟩ : ∃ p a e, checkC x = (p, a, e) := ⟨_, _, _, rfl⟩
  have h1 := check_trip HCF1.out hf p a e ht
  rw [HV.out] at h1
  have H1 := Lib.hid h1
  clear h1
  go_wp2_with (first
    | (refine wpList_load_mid rfl 27 (.tmp 2) rfl w.heap.size 0 rfl cv _ HRg1.out Try.underlying27 rfl (by rw [HCL.out]; exact c_size) ?_)
    | fail)
  refine H1.out.mono ?_
  rintro e2 w2 ⟨rfl, b2⟩
  have HB2 := Lib.hid (HB1.out.trans b2)
  have HCF2 := Lib.hid (HCF1.out.step b2)
  have HRg2 := Lib.hid (rangeAt_step HRg1.out hlt1 b2)
  have hlt2 : w.heap.size < w2.heap.size := Nat.lt_of_lt_of_le hlt1 b2.size
  have h2 := rcheck_trip HCF2.out hf p a e ht
  rw [HV.out] at h2
  have H2 := Lib.hid h2
  clear h2 b2 HB1 HCF1 HRg1 H1
  go_wp2_with (first
    | (refine wpList_load_mid rfl 27 (.tmp 2) rfl w.heap.size 0 rfl cv _ HRg2.out Try.underlying27 rfl (by rw [HCL.out]; exact c_size) ?_)
    | fail)
  refine H2.out.mono ?_
  rintro e3 w3 ⟨rfl, b3⟩
  have HB3 := Lib.hid (HB2.out.trans b3)
  have HCF3 := Lib.hid (HCF2.out.step b3)
  have HRg3 := Lib.hid (rangeAt_step HRg2.out hlt2 b3)
  have hlt3 : w.heap.size < w3.heap.size := Nat.lt_of_lt_of_le hlt2 b3.size
  clear b3 HB2 HCF2 HRg2 H2 ht
  go_wp2
  have hRg : ∀ w', Bl w3 w' → w'.rangeAt w.heap.size 0 cv := fun w' h => rangeAt_step HRg3.out hlt3 h
  have hM := fun w' (h : Bl w3 w') => many_any (HCF3.out.step h) hf
  have hRM := fun w' (h : Bl w3 w') => rmany_any (HCF3.out.step h) hf
  rw [HV.out] at hM hRM
  have HM := Lib.hid hM; have HRM := Lib.hid hRM
  have HN := Lib.hid (fun w' => isName_to s (decide (NameP s)) rfl w' hs)
  have HRN := Lib.hid (fun w' => risName_to s (decide (NameP s)) rfl w' hs)
  clear hM hRM
  generalize decide (NameP s) = nb at HN HRN
  have hdr : Bl w3 w3.drew := Bl.drewN w3 1
  refine wp_region_noPanic ?_
  refine wp_region_held_drew (S := fun w' => Bl w3 w') (by kernel_rfl) hdr (fun hHeld => ?_)

  refine wpAnyH_ready (rs := [0]) (by kernel_rfl) (by simp) ?_
  refine AllReadyH.cons (o := { dst := some 32, op := Op.call { callee := Callee.value (Operand.func 9), args := #[], argTypes := #[] }, type := 4, pos := "law.go:27", after := #[], guard := none }) rfl (fun K hK => ?_) AllReadyH.nil
  go_simp
  refine (alive21 _).mono ?_
  rintro e v1 ⟨rfl, b⟩
  have hHb := hHeld.trans b
  try go_wp2_with fail
  refine hK.out _ _ hHb (fun hHeld => ?_)
  clear hK K
  clear hHb b
  try simp only [Act.put, List.setIfInBounds_toArray, List.set_cons_zero, List.set_cons_succ]
  refine wpAnyH_take (i := 1) (oi := { dst := some 33, op := Op.move (Operand.tmp 32), type := 4, pos := "law.go:27", after := #[{ on := 0, ground := Ground.data }, { on := 0, ground := Ground.chain }], guard := none }) (v := ?_) rfl (by kernel_rfl) (by kernel_rfl) (by kernel_rfl) (fun _ _ _ h => h) (Or.inl ⟨by rfl, ?_⟩) hHeld ?_
  rotate_left
  · intro w' hSw
    go_simp
    try with_reducible rfl
  try simp only [Act.put, List.setIfInBounds_toArray, List.set_cons_zero, List.set_cons_succ]
  refine wpAnyH_take (i := 2) (oi := { dst := some 34, op := Op.move (Operand.tmp 5), type := 3, pos := "law.go:27", after := #[{ on := 1, ground := Ground.guard }], guard := some (1, true) }) (v := ?_) rfl (by kernel_rfl) (by kernel_rfl) (by kernel_rfl) (fun _ _ _ h => h) (Or.inl ⟨by rfl, ?_⟩) hHeld ?_
  rotate_left
  · intro w' hSw
    go_simp
    try with_reducible rfl
  try simp only [Act.put, List.setIfInBounds_toArray, List.set_cons_zero, List.set_cons_succ]
  refine wpAnyH_take (i := 3) (oi := { dst := some 35, op := Op.move (Operand.tmp 8), type := 3, pos := "law.go:27", after := #[{ on := 1, ground := Ground.guard }], guard := some (1, true) }) (v := ?_) rfl (by kernel_rfl) (by kernel_rfl) (by kernel_rfl) (fun _ _ _ h => h) (Or.inl ⟨by rfl, ?_⟩) hHeld ?_
  rotate_left
  · intro w' hSw
    go_simp
    try with_reducible rfl
  try simp only [Act.put, List.setIfInBounds_toArray, List.set_cons_zero, List.set_cons_succ]
  refine wpAnyH_take (i := 4) (oi := { dst := some 36, op := Op.binOp BinOp.eql 3 (Operand.tmp 34) (Operand.tmp 35) 3, type := 4, pos := "law.go:27", after := #[{ on := 2, ground := Ground.data }, { on := 3, ground := Ground.data }, { on := 1, ground := Ground.guard }], guard := some (1, true) }) (v := ?_) rfl (by kernel_rfl) (by kernel_rfl) (by kernel_rfl) (fun _ _ _ h => h) (Or.inl ⟨by rfl, ?_⟩) hHeld ?_
  rotate_left
  · intro w' hSw
    go_simp
    try with_reducible rfl
  try simp only [Act.put, List.setIfInBounds_toArray, List.set_cons_zero, List.set_cons_succ]
  refine wpAnyH_take (i := 5) (oi := { dst := some 37, op := Op.pick (Operand.tmp 33) (Operand.tmp 36) (Operand.const (Value.bool false)), type := 4, pos := "law.go:27", after := #[{ on := 1, ground := Ground.data }, { on := 4, ground := Ground.data }], guard := none }) (v := ?_) rfl (by kernel_rfl) (by kernel_rfl) (by kernel_rfl) (fun _ _ _ h => h) (Or.inl ⟨by rfl, ?_⟩) hHeld ?_
  rotate_left
  · intro w' hSw
    go_simp
    try with_reducible rfl
  try simp only [Act.put, List.setIfInBounds_toArray, List.set_cons_zero, List.set_cons_succ]
  refine wpAnyH_take (i := 6) (oi := { dst := some 38, op := Op.move (Operand.tmp 37), type := 4, pos := "law.go:27", after := #[{ on := 5, ground := Ground.data }, { on := 1, ground := Ground.chain }], guard := none }) (v := ?_) rfl (by kernel_rfl) (by kernel_rfl) (by kernel_rfl) (fun _ _ _ h => h) (Or.inl ⟨by rfl, ?_⟩) hHeld ?_
  rotate_left
  · intro w' hSw
    go_simp
    try with_reducible rfl
  try simp only [Act.put, List.setIfInBounds_toArray, List.set_cons_zero, List.set_cons_succ]
  refine wpAnyH_take (i := 7) (oi := { dst := some 39, op := Op.move (Operand.tmp 6), type := 3, pos := "law.go:27", after := #[{ on := 6, ground := Ground.guard }], guard := some (6, true) }) (v := ?_) rfl (by kernel_rfl) (by kernel_rfl) (by kernel_rfl) (fun _ _ _ h => h) (Or.inl ⟨by rfl, ?_⟩) hHeld ?_
  rotate_left
  · intro w' hSw
    go_simp
    try with_reducible rfl
  try simp only [Act.put, List.setIfInBounds_toArray, List.set_cons_zero, List.set_cons_succ]
  refine wpAnyH_take (i := 8) (oi := { dst := some 40, op := Op.move (Operand.tmp 9), type := 3, pos := "law.go:27", after := #[{ on := 6, ground := Ground.guard }], guard := some (6, true) }) (v := ?_) rfl (by kernel_rfl) (by kernel_rfl) (by kernel_rfl) (fun _ _ _ h => h) (Or.inl ⟨by rfl, ?_⟩) hHeld ?_
  rotate_left
  · intro w' hSw
    go_simp
    try with_reducible rfl
  try simp only [Act.put, List.setIfInBounds_toArray, List.set_cons_zero, List.set_cons_succ]
  refine wpAnyH_take (i := 9) (oi := { dst := some 41, op := Op.binOp BinOp.eql 3 (Operand.tmp 39) (Operand.tmp 40) 3, type := 4, pos := "law.go:27", after := #[{ on := 7, ground := Ground.data }, { on := 8, ground := Ground.data }, { on := 6, ground := Ground.guard }], guard := some (6, true) }) (v := ?_) rfl (by kernel_rfl) (by kernel_rfl) (by kernel_rfl) (fun _ _ _ h => h) (Or.inl ⟨by rfl, ?_⟩) hHeld ?_
  rotate_left
  · intro w' hSw
    go_simp
    try with_reducible rfl
  try simp only [Act.put, List.setIfInBounds_toArray, List.set_cons_zero, List.set_cons_succ]
  refine wpAnyH_take (i := 10) (oi := { dst := some 42, op := Op.pick (Operand.tmp 38) (Operand.tmp 41) (Operand.const (Value.bool false)), type := 4, pos := "law.go:27", after := #[{ on := 6, ground := Ground.data }, { on := 9, ground := Ground.data }], guard := none }) (v := ?_) rfl (by kernel_rfl) (by kernel_rfl) (by kernel_rfl) (fun _ _ _ h => h) (Or.inl ⟨by rfl, ?_⟩) hHeld ?_
  rotate_left
  · intro w' hSw
    go_simp
    try with_reducible rfl
  try simp only [Act.put, List.setIfInBounds_toArray, List.set_cons_zero, List.set_cons_succ]
  refine wpAnyH_take (i := 11) (oi := { dst := some 43, op := Op.move (Operand.tmp 42), type := 4, pos := "law.go:27", after := #[{ on := 10, ground := Ground.data }, { on := 6, ground := Ground.chain }], guard := none }) (v := ?_) rfl (by kernel_rfl) (by kernel_rfl) (by kernel_rfl) (fun _ _ _ h => h) (Or.inl ⟨by rfl, ?_⟩) hHeld ?_
  rotate_left
  · intro w' hSw
    go_simp
    try with_reducible rfl
  try simp only [Act.put, List.setIfInBounds_toArray, List.set_cons_zero, List.set_cons_succ]
  refine wpAnyH_take (i := 12) (oi := { dst := some 44, op := Op.move (Operand.tmp 7), type := 30, pos := "law.go:27", after := #[{ on := 11, ground := Ground.guard }], guard := some (11, true) }) (v := ?_) rfl (by kernel_rfl) (by kernel_rfl) (by kernel_rfl) (fun _ _ _ h => h) (Or.inl ⟨by rfl, ?_⟩) hHeld ?_
  rotate_left
  · intro w' hSw
    go_simp
    try with_reducible rfl
  try simp only [Act.put, List.setIfInBounds_toArray, List.set_cons_zero, List.set_cons_succ]
  refine wpAnyH_take (i := 13) (oi := { dst := some 45, op := Op.move (Operand.tmp 10), type := 30, pos := "law.go:27", after := #[{ on := 11, ground := Ground.guard }], guard := some (11, true) }) (v := ?_) rfl (by kernel_rfl) (by kernel_rfl) (by kernel_rfl) (fun _ _ _ h => h) (Or.inl ⟨by rfl, ?_⟩) hHeld ?_
  rotate_left
  · intro w' hSw
    go_simp
    try with_reducible rfl
  try simp only [Act.put, List.setIfInBounds_toArray, List.set_cons_zero, List.set_cons_succ]
  refine wpAnyH_take (i := 14) (oi := { dst := some 46, op := Op.binOp BinOp.eql 30 (Operand.tmp 44) (Operand.tmp 45) 30, type := 4, pos := "law.go:27", after := #[{ on := 12, ground := Ground.data }, { on := 13, ground := Ground.data }, { on := 11, ground := Ground.guard }], guard := some (11, true) }) (v := ?_) rfl (by kernel_rfl) (by kernel_rfl) (by kernel_rfl) (fun _ _ _ h => h) (Or.inl ⟨by rfl, ?_⟩) hHeld ?_
  rotate_left
  · intro w' hSw
    go_simp
    try with_reducible rfl
  try simp only [Act.put, List.setIfInBounds_toArray, List.set_cons_zero, List.set_cons_succ]
  refine wpAnyH_take (i := 15) (oi := { dst := some 47, op := Op.pick (Operand.tmp 43) (Operand.tmp 46) (Operand.const (Value.bool false)), type := 4, pos := "law.go:27", after := #[{ on := 11, ground := Ground.data }, { on := 14, ground := Ground.data }], guard := none }) (v := ?_) rfl (by kernel_rfl) (by kernel_rfl) (by kernel_rfl) (fun _ _ _ h => h) (Or.inl ⟨by rfl, ?_⟩) hHeld ?_
  rotate_left
  · intro w' hSw
    go_simp
    try with_reducible rfl
  try simp only [Act.put, List.setIfInBounds_toArray, List.set_cons_zero, List.set_cons_succ]
  refine wpAnyH_take (i := 16) (oi := { dst := some 48, op := Op.move (Operand.tmp 47), type := 4, pos := "law.go:27", after := #[{ on := 15, ground := Ground.data }, { on := 11, ground := Ground.chain }], guard := none }) (v := ?_) rfl (by kernel_rfl) (by kernel_rfl) (by kernel_rfl) (fun _ _ _ h => h) (Or.inl ⟨by rfl, ?_⟩) hHeld ?_
  rotate_left
  · intro w' hSw
    go_simp
    try with_reducible rfl
  try simp only [Act.put, List.setIfInBounds_toArray, List.set_cons_zero, List.set_cons_succ]
  refine wpAnyH_take (i := 17) (oi := { dst := some 49, op := Op.load 27 (Operand.tmp 2), type := 27, pos := "law.go:27", after := #[{ on := 16, ground := Ground.guard }], guard := some (16, true) }) (v := .agg cv.toArray) rfl (by kernel_rfl) (by kernel_rfl) (by kernel_rfl) (fun _ _ _ h => h) (yieldsIf_load_mid (by rfl) 27 (.tmp 2) rfl w.heap.size 0 rfl cv _ hRg Try.underlying27 rfl (by rw [HCL.out]; exact c_size)) hHeld ?_
  try simp only [Act.put, List.setIfInBounds_toArray, List.set_cons_zero, List.set_cons_succ]
  refine wpAnyH_take (i := 19) (oi := { dst := some 51, op := Op.load 27 (Operand.tmp 2), type := 27, pos := "law.go:27", after := #[{ on := 16, ground := Ground.guard }], guard := some (16, true) }) (v := .agg cv.toArray) rfl (by kernel_rfl) (by kernel_rfl) (by kernel_rfl) (fun _ _ _ h => h) (yieldsIf_load_mid (by rfl) 27 (.tmp 2) rfl w.heap.size 0 rfl cv _ hRg Try.underlying27 rfl (by rw [HCL.out]; exact c_size)) hHeld ?_
  try simp only [Act.put, List.setIfInBounds_toArray, List.set_cons_zero, List.set_cons_succ]
  refine wpAnyH_ready (rs := [18]) (by kernel_rfl) (by simp) ?_
  refine AllReadyH.cons (o := { dst := some 50, op := Op.call { callee := Callee.value (Operand.func 12), args := #[Operand.tmp 49], argTypes := #[27] }, type := 3, pos := "law.go:27", after := #[{ on := 17, ground := Ground.data }, { on := 16, ground := Ground.chain }, { on := 16, ground := Ground.guard }], guard := some (16, true) }) rfl (fun K hK => ?_) AllReadyH.nil
  go_simp
  refine (HM.out _ hHeld).mono ?_
  rintro e v2 ⟨rfl, b⟩
  have hHb := hHeld.trans b
  try go_wp2_with fail
  refine hK.out _ _ hHb (fun hHeld => ?_)
  clear hK K
  clear hHb b
  try simp only [Act.put, List.setIfInBounds_toArray, List.set_cons_zero, List.set_cons_succ]
  refine wpAnyH_ready (rs := [20]) (by kernel_rfl) (by simp) ?_
  refine AllReadyH.cons (o := { dst := some 52, op := Op.call { callee := Callee.value (Operand.func 13), args := #[Operand.tmp 51], argTypes := #[27] }, type := 3, pos := "law.go:27", after := #[{ on := 19, ground := Ground.data }, { on := 18, ground := Ground.chain }, { on := 16, ground := Ground.guard }], guard := some (16, true) }) rfl (fun K hK => ?_) AllReadyH.nil
  go_simp
  refine (HRM.out _ hHeld).mono ?_
  rintro e v3 ⟨rfl, b⟩
  have hHb := hHeld.trans b
  try go_wp2_with fail
  refine hK.out _ _ hHb (fun hHeld => ?_)
  clear hK K
  clear hHb b
  try simp only [Act.put, List.setIfInBounds_toArray, List.set_cons_zero, List.set_cons_succ]
  refine wpAnyH_take (i := 21) (oi := { dst := some 53, op := Op.binOp BinOp.eql 3 (Operand.tmp 50) (Operand.tmp 52) 3, type := 4, pos := "law.go:27", after := #[{ on := 18, ground := Ground.data }, { on := 20, ground := Ground.data }, { on := 16, ground := Ground.guard }], guard := some (16, true) }) (v := ?_) rfl (by kernel_rfl) (by kernel_rfl) (by kernel_rfl) (fun _ _ _ h => h) (Or.inl ⟨by rfl, ?_⟩) hHeld ?_
  rotate_left
  · intro w' hSw
    go_simp
    try with_reducible rfl
  try simp only [Act.put, List.setIfInBounds_toArray, List.set_cons_zero, List.set_cons_succ]
  refine wpAnyH_take (i := 22) (oi := { dst := some 54, op := Op.pick (Operand.tmp 48) (Operand.tmp 53) (Operand.const (Value.bool false)), type := 4, pos := "law.go:27", after := #[{ on := 16, ground := Ground.data }, { on := 21, ground := Ground.data }], guard := none }) (v := ?_) rfl (by kernel_rfl) (by kernel_rfl) (by kernel_rfl) (fun _ _ _ h => h) (Or.inl ⟨by rfl, ?_⟩) hHeld ?_
  rotate_left
  · intro w' hSw
    go_simp
    try with_reducible rfl
  try simp only [Act.put, List.setIfInBounds_toArray, List.set_cons_zero, List.set_cons_succ]
  refine wpAnyH_take (i := 23) (oi := { dst := some 55, op := Op.move (Operand.tmp 54), type := 4, pos := "law.go:27", after := #[{ on := 22, ground := Ground.data }, { on := 20, ground := Ground.chain }], guard := none }) (v := ?_) rfl (by kernel_rfl) (by kernel_rfl) (by kernel_rfl) (fun _ _ _ h => h) (Or.inl ⟨by rfl, ?_⟩) hHeld ?_
  rotate_left
  · intro w' hSw
    go_simp
    try with_reducible rfl
  try simp only [Act.put, List.setIfInBounds_toArray, List.set_cons_zero, List.set_cons_succ]
  refine wpAnyH_take (i := 24) (oi := { dst := some 56, op := Op.move (Operand.tmp 1), type := 9, pos := "law.go:27", after := #[{ on := 23, ground := Ground.guard }], guard := some (23, true) }) (v := ?_) rfl (by kernel_rfl) (by kernel_rfl) (by kernel_rfl) (fun _ _ _ h => h) (Or.inl ⟨by rfl, ?_⟩) hHeld ?_
  rotate_left
  · intro w' hSw
    go_simp
    try with_reducible rfl
  try simp only [Act.put, List.setIfInBounds_toArray, List.set_cons_zero, List.set_cons_succ]
  refine wpAnyH_take (i := 26) (oi := { dst := some 58, op := Op.move (Operand.tmp 1), type := 9, pos := "law.go:27", after := #[{ on := 23, ground := Ground.guard }], guard := some (23, true) }) (v := ?_) rfl (by kernel_rfl) (by kernel_rfl) (by kernel_rfl) (fun _ _ _ h => h) (Or.inl ⟨by rfl, ?_⟩) hHeld ?_
  rotate_left
  · intro w' hSw
    go_simp
    try with_reducible rfl
  try simp only [Act.put, List.setIfInBounds_toArray, List.set_cons_zero, List.set_cons_succ]
  refine wpAnyH_ready (rs := [25]) (by kernel_rfl) (by simp) ?_
  refine AllReadyH.cons (o := { dst := some 57, op := Op.call { callee := Callee.value (Operand.func 14), args := #[Operand.tmp 56], argTypes := #[9] }, type := 4, pos := "law.go:27", after := #[{ on := 24, ground := Ground.data }, { on := 23, ground := Ground.chain }, { on := 23, ground := Ground.guard }], guard := some (23, true) }) rfl (fun K hK => ?_) AllReadyH.nil
  go_simp
  refine (HN.out _).mono ?_
  rintro e v4 ⟨rfl, b⟩
  have hHb := hHeld.trans b
  try go_wp2_with fail
  refine hK.out _ _ hHb (fun hHeld => ?_)
  clear hK K
  clear hHb b
  try simp only [Act.put, List.setIfInBounds_toArray, List.set_cons_zero, List.set_cons_succ]
  refine wpAnyH_ready (rs := [27]) (by kernel_rfl) (by simp) ?_
  refine AllReadyH.cons (o := { dst := some 59, op := Op.call { callee := Callee.value (Operand.func 15), args := #[Operand.tmp 58], argTypes := #[9] }, type := 4, pos := "law.go:27", after := #[{ on := 26, ground := Ground.data }, { on := 25, ground := Ground.chain }, { on := 23, ground := Ground.guard }], guard := some (23, true) }) rfl (fun K hK => ?_) AllReadyH.nil
  go_simp
  refine (HRN.out _).mono ?_
  rintro e v5 ⟨rfl, b⟩
  subst b
  have hHb := hHeld
  try go_wp2_with fail
  refine hK.out _ _ hHb (fun hHeld => ?_)
  clear hK K
  clear hHb
  try simp only [Act.put, List.setIfInBounds_toArray, List.set_cons_zero, List.set_cons_succ]
  refine wpAnyH_take (i := 28) (oi := { dst := some 60, op := Op.binOp BinOp.eql 4 (Operand.tmp 57) (Operand.tmp 59) 4, type := 4, pos := "law.go:27", after := #[{ on := 25, ground := Ground.data }, { on := 27, ground := Ground.data }, { on := 23, ground := Ground.guard }], guard := some (23, true) }) (v := ?_) rfl (by kernel_rfl) (by kernel_rfl) (by kernel_rfl) (fun _ _ _ h => h) (Or.inl ⟨by rfl, ?_⟩) hHeld ?_
  rotate_left
  · intro w' hSw
    go_simp
    try with_reducible rfl
  try simp only [Act.put, List.setIfInBounds_toArray, List.set_cons_zero, List.set_cons_succ]
  refine wpAnyH_take (i := 29) (oi := { dst := some 61, op := Op.pick (Operand.tmp 55) (Operand.tmp 60) (Operand.const (Value.bool false)), type := 4, pos := "law.go:27", after := #[{ on := 23, ground := Ground.data }, { on := 28, ground := Ground.data }], guard := none }) (v := ?_) rfl (by kernel_rfl) (by kernel_rfl) (by kernel_rfl) (fun _ _ _ h => h) (Or.inl ⟨by rfl, ?_⟩) hHeld ?_
  rotate_left
  · intro w' hSw
    go_simp
    try with_reducible rfl
  try simp only [Act.put, List.setIfInBounds_toArray, List.set_cons_zero, List.set_cons_succ]
  refine wpAnyH_take (i := 30) (oi := { dst := some 4, op := Op.assign (Operand.tmp 61), type := 4, pos := "law.go:27", after := #[{ on := 29, ground := Ground.data }, { on := 27, ground := Ground.chain }, { on := 0, ground := Ground.phase }, { on := 1, ground := Ground.phase }, { on := 2, ground := Ground.phase }, { on := 3, ground := Ground.phase }, { on := 4, ground := Ground.phase }, { on := 5, ground := Ground.phase }, { on := 6, ground := Ground.phase }, { on := 7, ground := Ground.phase }, { on := 8, ground := Ground.phase }, { on := 9, ground := Ground.phase }, { on := 10, ground := Ground.phase }, { on := 11, ground := Ground.phase }, { on := 12, ground := Ground.phase }, { on := 13, ground := Ground.phase }, { on := 14, ground := Ground.phase }, { on := 15, ground := Ground.phase }, { on := 16, ground := Ground.phase }, { on := 17, ground := Ground.phase }, { on := 18, ground := Ground.phase }, { on := 19, ground := Ground.phase }, { on := 20, ground := Ground.phase }, { on := 21, ground := Ground.phase }, { on := 22, ground := Ground.phase }, { on := 23, ground := Ground.phase }, { on := 24, ground := Ground.phase }, { on := 25, ground := Ground.phase }, { on := 26, ground := Ground.phase }, { on := 27, ground := Ground.phase }, { on := 28, ground := Ground.phase }, { on := 29, ground := Ground.phase }], guard := none }) (v := ?_) rfl (by kernel_rfl) (by kernel_rfl) (by kernel_rfl) (fun _ _ _ h => h) (Or.inl ⟨by rfl, ?_⟩) hHeld ?_
  rotate_left
  · intro w' hSw
    go_simp
    try with_reducible rfl
  try simp only [Act.put, List.setIfInBounds_toArray, List.set_cons_zero, List.set_cons_succ]
  refine wpAnyH_done (by kernel_rfl) ?_ _
  refine NoPanic.normal ?_
  have HBe := Lib.hid (HB3.out.trans hHeld)
  go_wp2
  go_ret
  exact ⟨by simp, HBe.out⟩
end Go.Proofs.Ytigicphmnlkjfaa
