/- The walk of ConfApart. (Printed by wip/gen_apart.py.) -/
import Derived.Test.YtigicphmnlkjfaaAlive21
import Derived.Test.YtigicphmnlkjfaaFew21
import Derived.Test.YtigicphmnlkjfaaRSame
import Derived.Test.YtigicphmnlkjfaaApartPlain
namespace Go.Proofs.Ytigicphmnlkjfaa
open Go.RowKit
set_option linter.unusedVariables false
set_option linter.unusedSimpArgs false

theorem same_b {w : World} {A B : Option Addr} {c d : Nat} {l k : List UInt8} (h : SL w A c l) (h2 : SL w B d k) (hl : l.length ≤ 9223372036854775807) (hl2 : k.length ≤ 9223372036854775807) (b : Bool) (hb : b = decide (l = k)) :
    Calls Try.prog 16 #[.slice A l.length c, .slice B k.length d] w fun e w' => e = .returned (.bool b) ∧ Bl w w' := by
  by_cases e : l = k
  · subst e
    rw [hb, decide_eq_true rfl]
    exact same_sl h h2 hl
  · rw [hb, decide_eq_false e]
    exact same_not_sl h h2 hl hl2 e

set_option maxRecDepth 100000 in
set_option maxHeartbeats 8000000 in
theorem confApart_walk {w : World} {A B : Option Addr} {c d : Nat} {x y : ConfP} (h : CF w A c x) (h' : CF w B d y) :
    Calls Try.prog 5 #[x.v A c, y.v B d] w fun e w' => e = .returned (.bool true) ∧ Bl w w' := by
  obtain ⟨cv, hcv⟩ : ∃ cv, cv = x.cs A c := ⟨_, rfl⟩
  obtain ⟨dv, hdv⟩ : ∃ dv, dv = y.cs B d := ⟨_, rfl⟩
  have HV : Hid (x.v A c = .agg cv.toArray) := Lib.hid (by rw [hcv]; rfl)
  have HVD : Hid (y.v B d = .agg dv.toArray) := Lib.hid (by rw [hdv]; rfl)
  have HCL : Hid (cv.length = 11) := Lib.hid (by rw [hcv]; rfl)
  have HDL : Hid (dv.length = 11) := Lib.hid (by rw [hdv]; rfl)
  have hb := (Bl.alloc w (.cells cv.toArray 27)).trans (Bl.alloc (w.alloc (.cells cv.toArray 27)) (.cells dv.toArray 27))
  have hk := (Blk.new w 27 cv.toArray).alloc (.cells dv.toArray 27)
  have hkd := Blk.new (w.alloc (.cells cv.toArray 27)) 27 dv.toArray
  rw [show (w.alloc (.cells cv.toArray 27)).heap.size = w.heap.size + 1 from by simp] at hkd
  have HB := Lib.hid hb
  have HR1 := Lib.hid hk.rangeL
  have HR2 := Lib.hid hkd.rangeL
  have HLT := Lib.hid hkd.lt
  have HCX := Lib.hid (h.step hb)
  have HCY := Lib.hid (h'.step hb)
  have hfew := few_any (h.step hb)
  rw [HV.out] at hfew ⊢
  rw [HVD.out]
  have HFew := Lib.hid hfew
  clear hcv hdv hb hk hkd h h' hfew
  go_enter Try.func5, Try.ntmps5
  go_wp2_with (first
    | ((with_reducible refine at_load 27 (.tmp 2) ?_); refine wpList_load_mid rfl 27 (.tmp 2) rfl w.heap.size 0 rfl cv _ HR1.out Try.underlying27 rfl (by rw [HCL.out]; exact c_size) ?_; try simp only [Act.put, List.setIfInBounds_toArray, List.set_cons_zero, List.set_cons_succ])
    | fail)
  refine HFew.out.mono ?_
  rintro e w1 ⟨rfl, b1⟩
  have HB1 := Lib.hid (HB.out.trans b1)
  have HCX1 := Lib.hid (HCX.out.step b1)
  have HCY1 := Lib.hid (HCY.out.step b1)
  have HR11 := Lib.hid (rangeAt_step HR1.out (show w.heap.size < _ by have := HLT.out; omega) b1)
  have HR21 := Lib.hid (rangeAt_step HR2.out HLT.out b1)
  have HLT1 : Hid (w.heap.size + 1 < w1.heap.size) := Lib.hid (Nat.lt_of_lt_of_le HLT.out b1.size)
  clear b1 HFew HB HR1 HR2 HCX HCY HLT
  by_cases qx : fewC x = true
  rotate_left
  · have q' : fewC x = false := by simpa using qx
    rw [q']
    go_wp2_with fail
    refine (alive21 _).mono ?_
    rintro e v0 ⟨rfl, b0⟩
    have HBz := Lib.hid (HB1.out.trans b0)
    clear b0
    go_wp2_with fail
    go_ret
    exact ⟨rfl, HBz.out⟩
  rw [qx]
  have hfew := few_any HCY1.out
  rw [HVD.out] at hfew
  have HFew := Lib.hid hfew
  clear hfew
  go_wp2_with (first
    | ((with_reducible refine at_load 27 (.tmp 3) ?_); refine wpList_load_midg (by rfl) 27 (.tmp 3) rfl (w.heap.size + 1) 0 rfl dv _ HR21.out Try.underlying27 rfl (by rw [HDL.out]; exact c_size) ?_; try simp only [Act.put, List.setIfInBounds_toArray, List.set_cons_zero, List.set_cons_succ])
    | fail)
  refine HFew.out.mono ?_
  rintro e w2 ⟨rfl, b1⟩
  have HB2 := Lib.hid (HB1.out.trans b1)
  have HCX2 := Lib.hid (HCX1.out.step b1)
  have HCY2 := Lib.hid (HCY1.out.step b1)
  have HR12 := Lib.hid (rangeAt_step HR11.out (show w.heap.size < _ by have := HLT1.out; omega) b1)
  have HR22 := Lib.hid (rangeAt_step HR21.out HLT1.out b1)
  have HLT2 : Hid (w.heap.size + 1 < w2.heap.size) := Lib.hid (Nat.lt_of_lt_of_le HLT1.out b1.size)
  clear b1 HFew HB1 HR11 HR21 HCX1 HCY1 HLT1
  by_cases qy : fewC y = true
  rotate_left
  · have q' : fewC y = false := by simpa using qy
    rw [q']
    go_wp2_with fail
    refine (alive21 _).mono ?_
    rintro e v0 ⟨rfl, b0⟩
    have HBz := Lib.hid (HB2.out.trans b0)
    clear b0
    go_wp2_with fail
    go_ret
    exact ⟨rfl, HBz.out⟩
  rw [qy]
  have hR1 : Hid (∀ w', Bl w2 w' → w'.rangeAt w.heap.size 0 cv) := Lib.hid (fun w' h => rangeAt_step HR12.out (show w.heap.size < _ by have := HLT2.out; omega) h)
  have hR2 : Hid (∀ w', Bl w2 w' → w'.rangeAt (w.heap.size + 1) 0 dv) := Lib.hid (fun w' h => rangeAt_step HR22.out HLT2.out h)
  have hBx := fun w' (h : Bl w2 w') => bytes_any (HCX2.out.step h) qx
  have hBy := fun w' (h : Bl w2 w') => bytes_any (HCY2.out.step h) qy
  have hDx := fun w' (h : Bl w2 w') n (hn : n = crcOf (confE x)) => digest_any (HCX2.out.step h) qx n hn
  have hDy := fun w' (h : Bl w2 w') n (hn : n = crcOf (confE y)) => digest_any (HCY2.out.step h) qy n hn
  have hSm := fun w' (h : Bl w2 w') s (hs : s = decide (x = y)) => rsame_any (HCX2.out.step h) (HCY2.out.step h) qx qy s hs
  rw [HV.out] at hBx hDx hSm
  rw [HVD.out] at hBy hDy hSm
  have lx : (confE x).length ≤ 20000 := confE_le HCX2.out.ok qx
  have ly : (confE y).length ≤ 20000 := confE_le HCY2.out.ok qy
  by_cases hxy : x = y
  · obtain ⟨n, hn⟩ : ∃ n, n = crcOf (confE x) := ⟨_, rfl⟩
    have hBB : true = decide (confE x = confE y) := by rw [hxy]; simp
    have hSS : true = decide (x = y) := by rw [hxy]; simp
    have HSm := Lib.hid (fun w' h => hSm w' h true hSS)
    have HDx := Lib.hid (fun w' h => hDx w' h n hn)
    have HDy := Lib.hid (fun w' h => hDy w' h n (by rw [hn, hxy]))
    have HBx := Lib.hid hBx; have HBy := Lib.hid hBy
    have HBB := Lib.hid hBB
    clear hBx hBy hDx hDy hSm hSS hn hBB hxy
    go_wp2
    have hdr : Bl w2 w2.drew := Bl.drewN w2 1
    refine wp_region_noPanic ?_
    refine wp_region_held_drew (S := fun w' => Bl w2 w') (by kernel_rfl) hdr (fun hHeld => ?_)

    refine wpAnyH_ready (rs := [0]) (by kernel_rfl) (by simp) ?_
    refine AllReadyH.cons (o := { dst := some 14, op := Op.call { callee := Callee.value (Operand.func 9), args := #[], argTypes := #[] }, type := 4, pos := "law.go:43", after := #[], guard := none }) rfl (fun K hK => ?_) AllReadyH.nil
    go_simp
    refine (alive21 _).mono ?_
    rintro e v1 ⟨rfl, b⟩
    have hHb := hHeld.trans b
    try go_wp2_with fail
    refine hK.out _ _ hHb (fun hHeld => ?_)
    clear hK K
    clear hHb b
    try simp only [Act.put, List.setIfInBounds_toArray, List.set_cons_zero, List.set_cons_succ]
    refine wpAnyH_take (i := 1) (oi := { dst := some 15, op := Op.move (Operand.tmp 14), type := 4, pos := "law.go:43", after := #[{ on := 0, ground := Ground.data }, { on := 0, ground := Ground.chain }], guard := none }) (v := ?_) rfl (by kernel_rfl) (by kernel_rfl) (by kernel_rfl) (fun _ _ _ h => h) (Or.inl ⟨by rfl, ?_⟩) hHeld ?_
    rotate_left
    · intro w' hSw
      go_simp
      try with_reducible rfl
    try simp only [Act.put, List.setIfInBounds_toArray, List.set_cons_zero, List.set_cons_succ]
    refine wpAnyH_take (i := 2) (oi := { dst := some 16, op := Op.load 27 (Operand.tmp 2), type := 27, pos := "law.go:43", after := #[{ on := 1, ground := Ground.guard }], guard := some (1, true) }) (v := .agg cv.toArray) rfl (by kernel_rfl) (by kernel_rfl) (by kernel_rfl) (fun _ _ _ h => h) (yieldsIf_load_mid (by rfl) 27 (.tmp 2) rfl w.heap.size 0 rfl cv _ hR1.out Try.underlying27 rfl (by rw [HCL.out]; exact c_size)) hHeld ?_
    try simp only [Act.put, List.setIfInBounds_toArray, List.set_cons_zero, List.set_cons_succ]
    refine wpAnyH_take (i := 4) (oi := { dst := some 18, op := Op.load 27 (Operand.tmp 3), type := 27, pos := "law.go:43", after := #[{ on := 1, ground := Ground.guard }], guard := some (1, true) }) (v := .agg dv.toArray) rfl (by kernel_rfl) (by kernel_rfl) (by kernel_rfl) (fun _ _ _ h => h) (yieldsIf_load_mid (by rfl) 27 (.tmp 3) rfl (w.heap.size + 1) 0 rfl dv _ hR2.out Try.underlying27 rfl (by rw [HDL.out]; exact c_size)) hHeld ?_
    try simp only [Act.put, List.setIfInBounds_toArray, List.set_cons_zero, List.set_cons_succ]
    refine wpAnyH_take (i := 7) (oi := { dst := some 21, op := Op.load 27 (Operand.tmp 2), type := 27, pos := "law.go:43", after := #[{ on := 1, ground := Ground.guard }], guard := some (1, true) }) (v := .agg cv.toArray) rfl (by kernel_rfl) (by kernel_rfl) (by kernel_rfl) (fun _ _ _ h => h) (yieldsIf_load_mid (by rfl) 27 (.tmp 2) rfl w.heap.size 0 rfl cv _ hR1.out Try.underlying27 rfl (by rw [HCL.out]; exact c_size)) hHeld ?_
    try simp only [Act.put, List.setIfInBounds_toArray, List.set_cons_zero, List.set_cons_succ]
    refine wpAnyH_take (i := 8) (oi := { dst := some 22, op := Op.load 27 (Operand.tmp 3), type := 27, pos := "law.go:43", after := #[{ on := 1, ground := Ground.guard }], guard := some (1, true) }) (v := .agg dv.toArray) rfl (by kernel_rfl) (by kernel_rfl) (by kernel_rfl) (fun _ _ _ h => h) (yieldsIf_load_mid (by rfl) 27 (.tmp 3) rfl (w.heap.size + 1) 0 rfl dv _ hR2.out Try.underlying27 rfl (by rw [HDL.out]; exact c_size)) hHeld ?_
    try simp only [Act.put, List.setIfInBounds_toArray, List.set_cons_zero, List.set_cons_succ]
    refine wpAnyH_ready (rs := [3]) (by kernel_rfl) (by simp) ?_
    refine AllReadyH.cons (o := { dst := some 17, op := Op.call { callee := Callee.value (Operand.func 17), args := #[Operand.tmp 16], argTypes := #[27] }, type := 37, pos := "law.go:43", after := #[{ on := 2, ground := Ground.data }, { on := 1, ground := Ground.chain }, { on := 1, ground := Ground.guard }], guard := some (1, true) }) rfl (fun K hK => ?_) AllReadyH.nil
    go_simp
    refine (HBx.out _ hHeld).mono ?_
    rintro e v2 ⟨A2, c2, rfl, hs2, b⟩
    have hHb := hHeld.trans b
    try go_wp2_with fail
    refine hK.out _ _ hHb (fun hHeld => ?_)
    clear hK K
    have HS2 := Lib.hid hs2
    clear hHb b hs2
    try simp only [Act.put, List.setIfInBounds_toArray, List.set_cons_zero, List.set_cons_succ]
    refine wpAnyH_ready (rs := [5]) (by kernel_rfl) (by simp) ?_
    refine AllReadyH.cons (o := { dst := some 19, op := Op.call { callee := Callee.value (Operand.func 17), args := #[Operand.tmp 18], argTypes := #[27] }, type := 37, pos := "law.go:43", after := #[{ on := 4, ground := Ground.data }, { on := 3, ground := Ground.chain }, { on := 1, ground := Ground.guard }], guard := some (1, true) }) rfl (fun K hK => ?_) AllReadyH.nil
    go_simp
    refine (HBy.out _ hHeld).mono ?_
    rintro e v3 ⟨A3, c3, rfl, hs3, b⟩
    have hHb := hHeld.trans b
    try go_wp2_with fail
    refine hK.out _ _ hHb (fun hHeld => ?_)
    clear hK K
    have HS3 := Lib.hid hs3
    replace HS2 := Lib.hid (HS2.out.step b)
    clear hHb b hs3
    try simp only [Act.put, List.setIfInBounds_toArray, List.set_cons_zero, List.set_cons_succ]
    refine wpAnyH_ready (rs := [6]) (by kernel_rfl) (by simp) ?_
    refine AllReadyH.cons (o := { dst := some 20, op := Op.call { callee := Callee.value (Operand.func 16), args := #[Operand.tmp 17, Operand.tmp 19], argTypes := #[37, 37] }, type := 4, pos := "law.go:43", after := #[{ on := 3, ground := Ground.data }, { on := 5, ground := Ground.data }, { on := 5, ground := Ground.chain }, { on := 1, ground := Ground.guard }], guard := some (1, true) }) rfl (fun K hK => ?_) AllReadyH.nil
    go_simp
    refine (same_b HS2.out HS3.out (by omega) (by omega) true HBB.out).mono ?_
    rintro e v4 ⟨rfl, b⟩
    have hHb := hHeld.trans b
    try go_wp2_with fail
    refine hK.out _ _ hHb (fun hHeld => ?_)
    clear hK K
    clear hHb b
    try simp only [Act.put, List.setIfInBounds_toArray, List.set_cons_zero, List.set_cons_succ]
    refine wpAnyH_ready (rs := [9]) (by kernel_rfl) (by simp) ?_
    refine AllReadyH.cons (o := { dst := some 23, op := Op.call { callee := Callee.value (Operand.func 21), args := #[Operand.tmp 21, Operand.tmp 22], argTypes := #[27, 27] }, type := 4, pos := "law.go:43", after := #[{ on := 7, ground := Ground.data }, { on := 8, ground := Ground.data }, { on := 6, ground := Ground.chain }, { on := 1, ground := Ground.guard }], guard := some (1, true) }) rfl (fun K hK => ?_) AllReadyH.nil
    go_simp
    refine (HSm.out _ hHeld).mono ?_
    rintro e v5 ⟨rfl, b⟩
    have hHb := hHeld.trans b
    try go_wp2_with fail
    refine hK.out _ _ hHb (fun hHeld => ?_)
    clear hK K
    clear hHb b
    try simp only [Act.put, List.setIfInBounds_toArray, List.set_cons_zero, List.set_cons_succ]
    refine wpAnyH_take (i := 10) (oi := { dst := some 24, op := Op.binOp BinOp.eql 4 (Operand.tmp 20) (Operand.tmp 23) 4, type := 4, pos := "law.go:43", after := #[{ on := 6, ground := Ground.data }, { on := 9, ground := Ground.data }, { on := 1, ground := Ground.guard }], guard := some (1, true) }) (v := ?_) rfl (by kernel_rfl) (by kernel_rfl) (by kernel_rfl) (fun _ _ _ h => h) (Or.inl ⟨by rfl, ?_⟩) hHeld ?_
    rotate_left
    · intro w' hSw
      go_simp
      try with_reducible rfl
    try simp only [Act.put, List.setIfInBounds_toArray, List.set_cons_zero, List.set_cons_succ]
    refine wpAnyH_take (i := 11) (oi := { dst := some 25, op := Op.pick (Operand.tmp 15) (Operand.tmp 24) (Operand.const (Value.bool false)), type := 4, pos := "law.go:43", after := #[{ on := 1, ground := Ground.data }, { on := 10, ground := Ground.data }], guard := none }) (v := ?_) rfl (by kernel_rfl) (by kernel_rfl) (by kernel_rfl) (fun _ _ _ h => h) (Or.inl ⟨by rfl, ?_⟩) hHeld ?_
    rotate_left
    · intro w' hSw
      go_simp
      try with_reducible rfl
    try simp only [Act.put, List.setIfInBounds_toArray, List.set_cons_zero, List.set_cons_succ]
    refine wpAnyH_take (i := 12) (oi := { dst := some 26, op := Op.move (Operand.tmp 25), type := 4, pos := "law.go:43", after := #[{ on := 11, ground := Ground.data }, { on := 9, ground := Ground.chain }], guard := none }) (v := ?_) rfl (by kernel_rfl) (by kernel_rfl) (by kernel_rfl) (fun _ _ _ h => h) (Or.inl ⟨by rfl, ?_⟩) hHeld ?_
    rotate_left
    · intro w' hSw
      go_simp
      try with_reducible rfl
    try simp only [Act.put, List.setIfInBounds_toArray, List.set_cons_zero, List.set_cons_succ]
    refine wpAnyH_take (i := 13) (oi := { dst := some 27, op := Op.load 27 (Operand.tmp 2), type := 27, pos := "law.go:43", after := #[{ on := 12, ground := Ground.guard }], guard := some (12, true) }) (v := .agg cv.toArray) rfl (by kernel_rfl) (by kernel_rfl) (by kernel_rfl) (fun _ _ _ h => h) (yieldsIf_load_mid (by rfl) 27 (.tmp 2) rfl w.heap.size 0 rfl cv _ hR1.out Try.underlying27 rfl (by rw [HCL.out]; exact c_size)) hHeld ?_
    try simp only [Act.put, List.setIfInBounds_toArray, List.set_cons_zero, List.set_cons_succ]
    refine wpAnyH_take (i := 14) (oi := { dst := some 28, op := Op.load 27 (Operand.tmp 3), type := 27, pos := "law.go:43", after := #[{ on := 12, ground := Ground.guard }], guard := some (12, true) }) (v := .agg dv.toArray) rfl (by kernel_rfl) (by kernel_rfl) (by kernel_rfl) (fun _ _ _ h => h) (yieldsIf_load_mid (by rfl) 27 (.tmp 3) rfl (w.heap.size + 1) 0 rfl dv _ hR2.out Try.underlying27 rfl (by rw [HDL.out]; exact c_size)) hHeld ?_
    try simp only [Act.put, List.setIfInBounds_toArray, List.set_cons_zero, List.set_cons_succ]
    refine wpAnyH_ready (rs := [15]) (by kernel_rfl) (by simp) ?_
    refine AllReadyH.cons (o := { dst := some 29, op := Op.call { callee := Callee.value (Operand.func 21), args := #[Operand.tmp 27, Operand.tmp 28], argTypes := #[27, 27] }, type := 4, pos := "law.go:43", after := #[{ on := 13, ground := Ground.data }, { on := 14, ground := Ground.data }, { on := 12, ground := Ground.chain }, { on := 12, ground := Ground.guard }], guard := some (12, true) }) rfl (fun K hK => ?_) AllReadyH.nil
    go_simp
    refine (HSm.out _ hHeld).mono ?_
    rintro e v6 ⟨rfl, b⟩
    have hHb := hHeld.trans b
    try go_wp2_with fail
    refine hK.out _ _ hHb (fun hHeld => ?_)
    clear hK K
    clear hHb b
    try simp only [Act.put, List.setIfInBounds_toArray, List.set_cons_zero, List.set_cons_succ]
    refine wpAnyH_take (i := 16) (oi := { dst := some 30, op := Op.unOp UnOp.not 4 (Operand.tmp 29), type := 4, pos := "law.go:43", after := #[{ on := 15, ground := Ground.data }, { on := 12, ground := Ground.guard }], guard := some (12, true) }) (v := ?_) rfl (by kernel_rfl) (by kernel_rfl) (by kernel_rfl) (fun _ _ _ h => h) (Or.inl ⟨by rfl, ?_⟩) hHeld ?_
    rotate_left
    · intro w' hSw
      go_simp
      try with_reducible rfl
    try simp only [Act.put, List.setIfInBounds_toArray, List.set_cons_zero, List.set_cons_succ]
    refine wpAnyH_take (i := 17) (oi := { dst := some 31, op := Op.move (Operand.tmp 30), type := 4, pos := "law.go:43", after := #[{ on := 16, ground := Ground.data }, { on := 15, ground := Ground.chain }, { on := 12, ground := Ground.guard }], guard := some (12, true) }) (v := ?_) rfl (by kernel_rfl) (by kernel_rfl) (by kernel_rfl) (fun _ _ _ h => h) (Or.inl ⟨by rfl, ?_⟩) hHeld ?_
    rotate_left
    · intro w' hSw
      go_simp
      try with_reducible rfl
    try simp only [Act.put, List.setIfInBounds_toArray, List.set_cons_zero, List.set_cons_succ]
    refine wpAnyH_take (i := 18) (oi := { dst := some 32, op := Op.load 27 (Operand.tmp 2), type := 27, pos := "law.go:43", after := #[{ on := 17, ground := Ground.guard }], guard := some (17, false) }) (v := .agg cv.toArray) rfl (by kernel_rfl) (by kernel_rfl) (by kernel_rfl) (fun _ _ _ h => h) (yieldsIf_load_mid (by rfl) 27 (.tmp 2) rfl w.heap.size 0 rfl cv _ hR1.out Try.underlying27 rfl (by rw [HCL.out]; exact c_size)) hHeld ?_
    try simp only [Act.put, List.setIfInBounds_toArray, List.set_cons_zero, List.set_cons_succ]
    refine wpAnyH_take (i := 20) (oi := { dst := some 34, op := Op.load 27 (Operand.tmp 3), type := 27, pos := "law.go:43", after := #[{ on := 17, ground := Ground.guard }], guard := some (17, false) }) (v := .agg dv.toArray) rfl (by kernel_rfl) (by kernel_rfl) (by kernel_rfl) (fun _ _ _ h => h) (yieldsIf_load_mid (by rfl) 27 (.tmp 3) rfl (w.heap.size + 1) 0 rfl dv _ hR2.out Try.underlying27 rfl (by rw [HDL.out]; exact c_size)) hHeld ?_
    try simp only [Act.put, List.setIfInBounds_toArray, List.set_cons_zero, List.set_cons_succ]
    refine wpAnyH_ready (rs := [19]) (by kernel_rfl) (by simp) ?_
    refine AllReadyH.cons (o := { dst := some 33, op := Op.call { callee := Callee.value (Operand.func 19), args := #[Operand.tmp 32], argTypes := #[27] }, type := 39, pos := "law.go:43", after := #[{ on := 18, ground := Ground.data }, { on := 17, ground := Ground.chain }, { on := 17, ground := Ground.guard }], guard := some (17, false) }) rfl (fun K hK => ?_) AllReadyH.nil
    go_simp
    refine (HDx.out _ hHeld).mono ?_
    rintro e v7 ⟨rfl, b⟩
    have hHb := hHeld.trans b
    try go_wp2_with fail
    refine hK.out _ _ hHb (fun hHeld => ?_)
    clear hK K
    clear hHb b
    try simp only [Act.put, List.setIfInBounds_toArray, List.set_cons_zero, List.set_cons_succ]
    refine wpAnyH_ready (rs := [21]) (by kernel_rfl) (by simp) ?_
    refine AllReadyH.cons (o := { dst := some 35, op := Op.call { callee := Callee.value (Operand.func 19), args := #[Operand.tmp 34], argTypes := #[27] }, type := 39, pos := "law.go:43", after := #[{ on := 20, ground := Ground.data }, { on := 19, ground := Ground.chain }, { on := 17, ground := Ground.guard }], guard := some (17, false) }) rfl (fun K hK => ?_) AllReadyH.nil
    go_simp
    refine (HDy.out _ hHeld).mono ?_
    rintro e v8 ⟨rfl, b⟩
    have hHb := hHeld.trans b
    try go_wp2_with fail
    refine hK.out _ _ hHb (fun hHeld => ?_)
    clear hK K
    clear hHb b
    try simp only [Act.put, List.setIfInBounds_toArray, List.set_cons_zero, List.set_cons_succ]
    refine wpAnyH_take (i := 22) (oi := { dst := some 36, op := Op.binOp BinOp.eql 39 (Operand.tmp 33) (Operand.tmp 35) 39, type := 4, pos := "law.go:43", after := #[{ on := 19, ground := Ground.data }, { on := 21, ground := Ground.data }, { on := 17, ground := Ground.guard }], guard := some (17, false) }) (v := ?_) rfl (by kernel_rfl) (by kernel_rfl) (by kernel_rfl) (fun _ _ _ h => h) (Or.inl ⟨by rfl, ?_⟩) hHeld ?_
    rotate_left
    · intro w' hSw
      go_simp
      try with_reducible rfl
    try simp only [Act.put, List.setIfInBounds_toArray, List.set_cons_zero, List.set_cons_succ]
    refine wpAnyH_take (i := 23) (oi := { dst := some 37, op := Op.pick (Operand.tmp 31) (Operand.const (Value.bool true)) (Operand.tmp 36), type := 4, pos := "law.go:43", after := #[{ on := 17, ground := Ground.data }, { on := 22, ground := Ground.data }, { on := 12, ground := Ground.guard }], guard := some (12, true) }) (v := ?_) rfl (by kernel_rfl) (by kernel_rfl) (by kernel_rfl) (fun _ _ _ h => h) (Or.inl ⟨by rfl, ?_⟩) hHeld ?_
    rotate_left
    · intro w' hSw
      go_simp
      try with_reducible rfl
    try simp only [Act.put, List.setIfInBounds_toArray, List.set_cons_zero, List.set_cons_succ]
    refine wpAnyH_take (i := 24) (oi := { dst := some 38, op := Op.pick (Operand.tmp 26) (Operand.tmp 37) (Operand.const (Value.bool false)), type := 4, pos := "law.go:43", after := #[{ on := 12, ground := Ground.data }, { on := 23, ground := Ground.data }], guard := none }) (v := ?_) rfl (by kernel_rfl) (by kernel_rfl) (by kernel_rfl) (fun _ _ _ h => h) (Or.inl ⟨by rfl, ?_⟩) hHeld ?_
    rotate_left
    · intro w' hSw
      go_simp
      try with_reducible rfl
    try simp only [Act.put, List.setIfInBounds_toArray, List.set_cons_zero, List.set_cons_succ]
    refine wpAnyH_take (i := 25) (oi := { dst := some 4, op := Op.assign (Operand.tmp 38), type := 4, pos := "law.go:43", after := #[{ on := 24, ground := Ground.data }, { on := 21, ground := Ground.chain }, { on := 0, ground := Ground.phase }, { on := 1, ground := Ground.phase }, { on := 2, ground := Ground.phase }, { on := 3, ground := Ground.phase }, { on := 4, ground := Ground.phase }, { on := 5, ground := Ground.phase }, { on := 6, ground := Ground.phase }, { on := 7, ground := Ground.phase }, { on := 8, ground := Ground.phase }, { on := 9, ground := Ground.phase }, { on := 10, ground := Ground.phase }, { on := 11, ground := Ground.phase }, { on := 12, ground := Ground.phase }, { on := 13, ground := Ground.phase }, { on := 14, ground := Ground.phase }, { on := 15, ground := Ground.phase }, { on := 16, ground := Ground.phase }, { on := 17, ground := Ground.phase }, { on := 18, ground := Ground.phase }, { on := 19, ground := Ground.phase }, { on := 20, ground := Ground.phase }, { on := 21, ground := Ground.phase }, { on := 22, ground := Ground.phase }, { on := 23, ground := Ground.phase }, { on := 24, ground := Ground.phase }], guard := none }) (v := ?_) rfl (by kernel_rfl) (by kernel_rfl) (by kernel_rfl) (fun _ _ _ h => h) (Or.inl ⟨by rfl, ?_⟩) hHeld ?_
    rotate_left
    · intro w' hSw
      go_simp
      try with_reducible rfl
    try simp only [Act.put, List.setIfInBounds_toArray, List.set_cons_zero, List.set_cons_succ]
    refine wpAnyH_done (by kernel_rfl) ?_ _
    refine NoPanic.normal ?_
    have HBe := Lib.hid (HB2.out.trans hHeld)
    go_wp2
    go_ret
    exact ⟨by simp, HBe.out⟩
  · obtain ⟨n, hn⟩ : ∃ n, n = crcOf (confE x) := ⟨_, rfl⟩
    have hBB : false = decide (confE x = confE y) := by symm; rw [decide_eq_false_iff_not]; exact fun e => hxy (confE_inj e)
    have hSS : false = decide (x = y) := by symm; rw [decide_eq_false_iff_not]; exact hxy
    have HSm := Lib.hid (fun w' h => hSm w' h false hSS)
    have HBx := Lib.hid hBx; have HBy := Lib.hid hBy
    have HBB := Lib.hid hBB
    clear hBx hBy hDx hDy hSm hSS hn hBB hxy
    go_wp2
    have hdr : Bl w2 w2.drew := Bl.drewN w2 1
    refine wp_region_noPanic ?_
    refine wp_region_held_drew (S := fun w' => Bl w2 w') (by kernel_rfl) hdr (fun hHeld => ?_)

    refine wpAnyH_ready (rs := [0]) (by kernel_rfl) (by simp) ?_
    refine AllReadyH.cons (o := { dst := some 14, op := Op.call { callee := Callee.value (Operand.func 9), args := #[], argTypes := #[] }, type := 4, pos := "law.go:43", after := #[], guard := none }) rfl (fun K hK => ?_) AllReadyH.nil
    go_simp
    refine (alive21 _).mono ?_
    rintro e v1 ⟨rfl, b⟩
    have hHb := hHeld.trans b
    try go_wp2_with fail
    refine hK.out _ _ hHb (fun hHeld => ?_)
    clear hK K
    clear hHb b
    try simp only [Act.put, List.setIfInBounds_toArray, List.set_cons_zero, List.set_cons_succ]
    refine wpAnyH_take (i := 1) (oi := { dst := some 15, op := Op.move (Operand.tmp 14), type := 4, pos := "law.go:43", after := #[{ on := 0, ground := Ground.data }, { on := 0, ground := Ground.chain }], guard := none }) (v := ?_) rfl (by kernel_rfl) (by kernel_rfl) (by kernel_rfl) (fun _ _ _ h => h) (Or.inl ⟨by rfl, ?_⟩) hHeld ?_
    rotate_left
    · intro w' hSw
      go_simp
      try with_reducible rfl
    try simp only [Act.put, List.setIfInBounds_toArray, List.set_cons_zero, List.set_cons_succ]
    refine wpAnyH_take (i := 2) (oi := { dst := some 16, op := Op.load 27 (Operand.tmp 2), type := 27, pos := "law.go:43", after := #[{ on := 1, ground := Ground.guard }], guard := some (1, true) }) (v := .agg cv.toArray) rfl (by kernel_rfl) (by kernel_rfl) (by kernel_rfl) (fun _ _ _ h => h) (yieldsIf_load_mid (by rfl) 27 (.tmp 2) rfl w.heap.size 0 rfl cv _ hR1.out Try.underlying27 rfl (by rw [HCL.out]; exact c_size)) hHeld ?_
    try simp only [Act.put, List.setIfInBounds_toArray, List.set_cons_zero, List.set_cons_succ]
    refine wpAnyH_take (i := 4) (oi := { dst := some 18, op := Op.load 27 (Operand.tmp 3), type := 27, pos := "law.go:43", after := #[{ on := 1, ground := Ground.guard }], guard := some (1, true) }) (v := .agg dv.toArray) rfl (by kernel_rfl) (by kernel_rfl) (by kernel_rfl) (fun _ _ _ h => h) (yieldsIf_load_mid (by rfl) 27 (.tmp 3) rfl (w.heap.size + 1) 0 rfl dv _ hR2.out Try.underlying27 rfl (by rw [HDL.out]; exact c_size)) hHeld ?_
    try simp only [Act.put, List.setIfInBounds_toArray, List.set_cons_zero, List.set_cons_succ]
    refine wpAnyH_take (i := 7) (oi := { dst := some 21, op := Op.load 27 (Operand.tmp 2), type := 27, pos := "law.go:43", after := #[{ on := 1, ground := Ground.guard }], guard := some (1, true) }) (v := .agg cv.toArray) rfl (by kernel_rfl) (by kernel_rfl) (by kernel_rfl) (fun _ _ _ h => h) (yieldsIf_load_mid (by rfl) 27 (.tmp 2) rfl w.heap.size 0 rfl cv _ hR1.out Try.underlying27 rfl (by rw [HCL.out]; exact c_size)) hHeld ?_
    try simp only [Act.put, List.setIfInBounds_toArray, List.set_cons_zero, List.set_cons_succ]
    refine wpAnyH_take (i := 8) (oi := { dst := some 22, op := Op.load 27 (Operand.tmp 3), type := 27, pos := "law.go:43", after := #[{ on := 1, ground := Ground.guard }], guard := some (1, true) }) (v := .agg dv.toArray) rfl (by kernel_rfl) (by kernel_rfl) (by kernel_rfl) (fun _ _ _ h => h) (yieldsIf_load_mid (by rfl) 27 (.tmp 3) rfl (w.heap.size + 1) 0 rfl dv _ hR2.out Try.underlying27 rfl (by rw [HDL.out]; exact c_size)) hHeld ?_
    try simp only [Act.put, List.setIfInBounds_toArray, List.set_cons_zero, List.set_cons_succ]
    refine wpAnyH_ready (rs := [3]) (by kernel_rfl) (by simp) ?_
    refine AllReadyH.cons (o := { dst := some 17, op := Op.call { callee := Callee.value (Operand.func 17), args := #[Operand.tmp 16], argTypes := #[27] }, type := 37, pos := "law.go:43", after := #[{ on := 2, ground := Ground.data }, { on := 1, ground := Ground.chain }, { on := 1, ground := Ground.guard }], guard := some (1, true) }) rfl (fun K hK => ?_) AllReadyH.nil
    go_simp
    refine (HBx.out _ hHeld).mono ?_
    rintro e v2 ⟨A2, c2, rfl, hs2, b⟩
    have hHb := hHeld.trans b
    try go_wp2_with fail
    refine hK.out _ _ hHb (fun hHeld => ?_)
    clear hK K
    have HS2 := Lib.hid hs2
    clear hHb b hs2
    try simp only [Act.put, List.setIfInBounds_toArray, List.set_cons_zero, List.set_cons_succ]
    refine wpAnyH_ready (rs := [5]) (by kernel_rfl) (by simp) ?_
    refine AllReadyH.cons (o := { dst := some 19, op := Op.call { callee := Callee.value (Operand.func 17), args := #[Operand.tmp 18], argTypes := #[27] }, type := 37, pos := "law.go:43", after := #[{ on := 4, ground := Ground.data }, { on := 3, ground := Ground.chain }, { on := 1, ground := Ground.guard }], guard := some (1, true) }) rfl (fun K hK => ?_) AllReadyH.nil
    go_simp
    refine (HBy.out _ hHeld).mono ?_
    rintro e v3 ⟨A3, c3, rfl, hs3, b⟩
    have hHb := hHeld.trans b
    try go_wp2_with fail
    refine hK.out _ _ hHb (fun hHeld => ?_)
    clear hK K
    have HS3 := Lib.hid hs3
    replace HS2 := Lib.hid (HS2.out.step b)
    clear hHb b hs3
    try simp only [Act.put, List.setIfInBounds_toArray, List.set_cons_zero, List.set_cons_succ]
    refine wpAnyH_ready (rs := [6]) (by kernel_rfl) (by simp) ?_
    refine AllReadyH.cons (o := { dst := some 20, op := Op.call { callee := Callee.value (Operand.func 16), args := #[Operand.tmp 17, Operand.tmp 19], argTypes := #[37, 37] }, type := 4, pos := "law.go:43", after := #[{ on := 3, ground := Ground.data }, { on := 5, ground := Ground.data }, { on := 5, ground := Ground.chain }, { on := 1, ground := Ground.guard }], guard := some (1, true) }) rfl (fun K hK => ?_) AllReadyH.nil
    go_simp
    refine (same_b HS2.out HS3.out (by omega) (by omega) false HBB.out).mono ?_
    rintro e v4 ⟨rfl, b⟩
    have hHb := hHeld.trans b
    try go_wp2_with fail
    refine hK.out _ _ hHb (fun hHeld => ?_)
    clear hK K
    clear hHb b
    try simp only [Act.put, List.setIfInBounds_toArray, List.set_cons_zero, List.set_cons_succ]
    refine wpAnyH_ready (rs := [9]) (by kernel_rfl) (by simp) ?_
    refine AllReadyH.cons (o := { dst := some 23, op := Op.call { callee := Callee.value (Operand.func 21), args := #[Operand.tmp 21, Operand.tmp 22], argTypes := #[27, 27] }, type := 4, pos := "law.go:43", after := #[{ on := 7, ground := Ground.data }, { on := 8, ground := Ground.data }, { on := 6, ground := Ground.chain }, { on := 1, ground := Ground.guard }], guard := some (1, true) }) rfl (fun K hK => ?_) AllReadyH.nil
    go_simp
    refine (HSm.out _ hHeld).mono ?_
    rintro e v5 ⟨rfl, b⟩
    have hHb := hHeld.trans b
    try go_wp2_with fail
    refine hK.out _ _ hHb (fun hHeld => ?_)
    clear hK K
    clear hHb b
    try simp only [Act.put, List.setIfInBounds_toArray, List.set_cons_zero, List.set_cons_succ]
    refine wpAnyH_take (i := 10) (oi := { dst := some 24, op := Op.binOp BinOp.eql 4 (Operand.tmp 20) (Operand.tmp 23) 4, type := 4, pos := "law.go:43", after := #[{ on := 6, ground := Ground.data }, { on := 9, ground := Ground.data }, { on := 1, ground := Ground.guard }], guard := some (1, true) }) (v := ?_) rfl (by kernel_rfl) (by kernel_rfl) (by kernel_rfl) (fun _ _ _ h => h) (Or.inl ⟨by rfl, ?_⟩) hHeld ?_
    rotate_left
    · intro w' hSw
      go_simp
      try with_reducible rfl
    try simp only [Act.put, List.setIfInBounds_toArray, List.set_cons_zero, List.set_cons_succ]
    refine wpAnyH_take (i := 11) (oi := { dst := some 25, op := Op.pick (Operand.tmp 15) (Operand.tmp 24) (Operand.const (Value.bool false)), type := 4, pos := "law.go:43", after := #[{ on := 1, ground := Ground.data }, { on := 10, ground := Ground.data }], guard := none }) (v := ?_) rfl (by kernel_rfl) (by kernel_rfl) (by kernel_rfl) (fun _ _ _ h => h) (Or.inl ⟨by rfl, ?_⟩) hHeld ?_
    rotate_left
    · intro w' hSw
      go_simp
      try with_reducible rfl
    try simp only [Act.put, List.setIfInBounds_toArray, List.set_cons_zero, List.set_cons_succ]
    refine wpAnyH_take (i := 12) (oi := { dst := some 26, op := Op.move (Operand.tmp 25), type := 4, pos := "law.go:43", after := #[{ on := 11, ground := Ground.data }, { on := 9, ground := Ground.chain }], guard := none }) (v := ?_) rfl (by kernel_rfl) (by kernel_rfl) (by kernel_rfl) (fun _ _ _ h => h) (Or.inl ⟨by rfl, ?_⟩) hHeld ?_
    rotate_left
    · intro w' hSw
      go_simp
      try with_reducible rfl
    try simp only [Act.put, List.setIfInBounds_toArray, List.set_cons_zero, List.set_cons_succ]
    refine wpAnyH_take (i := 13) (oi := { dst := some 27, op := Op.load 27 (Operand.tmp 2), type := 27, pos := "law.go:43", after := #[{ on := 12, ground := Ground.guard }], guard := some (12, true) }) (v := .agg cv.toArray) rfl (by kernel_rfl) (by kernel_rfl) (by kernel_rfl) (fun _ _ _ h => h) (yieldsIf_load_mid (by rfl) 27 (.tmp 2) rfl w.heap.size 0 rfl cv _ hR1.out Try.underlying27 rfl (by rw [HCL.out]; exact c_size)) hHeld ?_
    try simp only [Act.put, List.setIfInBounds_toArray, List.set_cons_zero, List.set_cons_succ]
    refine wpAnyH_take (i := 14) (oi := { dst := some 28, op := Op.load 27 (Operand.tmp 3), type := 27, pos := "law.go:43", after := #[{ on := 12, ground := Ground.guard }], guard := some (12, true) }) (v := .agg dv.toArray) rfl (by kernel_rfl) (by kernel_rfl) (by kernel_rfl) (fun _ _ _ h => h) (yieldsIf_load_mid (by rfl) 27 (.tmp 3) rfl (w.heap.size + 1) 0 rfl dv _ hR2.out Try.underlying27 rfl (by rw [HDL.out]; exact c_size)) hHeld ?_
    try simp only [Act.put, List.setIfInBounds_toArray, List.set_cons_zero, List.set_cons_succ]
    refine wpAnyH_ready (rs := [15]) (by kernel_rfl) (by simp) ?_
    refine AllReadyH.cons (o := { dst := some 29, op := Op.call { callee := Callee.value (Operand.func 21), args := #[Operand.tmp 27, Operand.tmp 28], argTypes := #[27, 27] }, type := 4, pos := "law.go:43", after := #[{ on := 13, ground := Ground.data }, { on := 14, ground := Ground.data }, { on := 12, ground := Ground.chain }, { on := 12, ground := Ground.guard }], guard := some (12, true) }) rfl (fun K hK => ?_) AllReadyH.nil
    go_simp
    refine (HSm.out _ hHeld).mono ?_
    rintro e v6 ⟨rfl, b⟩
    have hHb := hHeld.trans b
    try go_wp2_with fail
    refine hK.out _ _ hHb (fun hHeld => ?_)
    clear hK K
    clear hHb b
    try simp only [Act.put, List.setIfInBounds_toArray, List.set_cons_zero, List.set_cons_succ]
    refine wpAnyH_take (i := 16) (oi := { dst := some 30, op := Op.unOp UnOp.not 4 (Operand.tmp 29), type := 4, pos := "law.go:43", after := #[{ on := 15, ground := Ground.data }, { on := 12, ground := Ground.guard }], guard := some (12, true) }) (v := ?_) rfl (by kernel_rfl) (by kernel_rfl) (by kernel_rfl) (fun _ _ _ h => h) (Or.inl ⟨by rfl, ?_⟩) hHeld ?_
    rotate_left
    · intro w' hSw
      go_simp
      try with_reducible rfl
    try simp only [Act.put, List.setIfInBounds_toArray, List.set_cons_zero, List.set_cons_succ]
    refine wpAnyH_take (i := 17) (oi := { dst := some 31, op := Op.move (Operand.tmp 30), type := 4, pos := "law.go:43", after := #[{ on := 16, ground := Ground.data }, { on := 15, ground := Ground.chain }, { on := 12, ground := Ground.guard }], guard := some (12, true) }) (v := ?_) rfl (by kernel_rfl) (by kernel_rfl) (by kernel_rfl) (fun _ _ _ h => h) (Or.inl ⟨by rfl, ?_⟩) hHeld ?_
    rotate_left
    · intro w' hSw
      go_simp
      try with_reducible rfl
    try simp only [Act.put, List.setIfInBounds_toArray, List.set_cons_zero, List.set_cons_succ]
    refine wpAnyH_take (i := 18) (oi := { dst := some 32, op := Op.load 27 (Operand.tmp 2), type := 27, pos := "law.go:43", after := #[{ on := 17, ground := Ground.guard }], guard := some (17, false) }) (v := undef) rfl (by kernel_rfl) (by kernel_rfl) (by kernel_rfl) (fun _ _ _ h => h) (Or.inr ⟨by rfl, rfl⟩) hHeld ?_
    try simp only [Act.put, List.setIfInBounds_toArray, List.set_cons_zero, List.set_cons_succ]
    refine wpAnyH_take (i := 19) (oi := { dst := some 33, op := Op.call { callee := Callee.value (Operand.func 19), args := #[Operand.tmp 32], argTypes := #[27] }, type := 39, pos := "law.go:43", after := #[{ on := 18, ground := Ground.data }, { on := 17, ground := Ground.chain }, { on := 17, ground := Ground.guard }], guard := some (17, false) }) (v := undef) rfl (by kernel_rfl) (by kernel_rfl) (by kernel_rfl) (fun _ _ _ h => h) (Or.inr ⟨by rfl, rfl⟩) hHeld ?_
    try simp only [Act.put, List.setIfInBounds_toArray, List.set_cons_zero, List.set_cons_succ]
    refine wpAnyH_take (i := 20) (oi := { dst := some 34, op := Op.load 27 (Operand.tmp 3), type := 27, pos := "law.go:43", after := #[{ on := 17, ground := Ground.guard }], guard := some (17, false) }) (v := undef) rfl (by kernel_rfl) (by kernel_rfl) (by kernel_rfl) (fun _ _ _ h => h) (Or.inr ⟨by rfl, rfl⟩) hHeld ?_
    try simp only [Act.put, List.setIfInBounds_toArray, List.set_cons_zero, List.set_cons_succ]
    refine wpAnyH_take (i := 21) (oi := { dst := some 35, op := Op.call { callee := Callee.value (Operand.func 19), args := #[Operand.tmp 34], argTypes := #[27] }, type := 39, pos := "law.go:43", after := #[{ on := 20, ground := Ground.data }, { on := 19, ground := Ground.chain }, { on := 17, ground := Ground.guard }], guard := some (17, false) }) (v := undef) rfl (by kernel_rfl) (by kernel_rfl) (by kernel_rfl) (fun _ _ _ h => h) (Or.inr ⟨by rfl, rfl⟩) hHeld ?_
    try simp only [Act.put, List.setIfInBounds_toArray, List.set_cons_zero, List.set_cons_succ]
    refine wpAnyH_take (i := 22) (oi := { dst := some 36, op := Op.binOp BinOp.eql 39 (Operand.tmp 33) (Operand.tmp 35) 39, type := 4, pos := "law.go:43", after := #[{ on := 19, ground := Ground.data }, { on := 21, ground := Ground.data }, { on := 17, ground := Ground.guard }], guard := some (17, false) }) (v := undef) rfl (by kernel_rfl) (by kernel_rfl) (by kernel_rfl) (fun _ _ _ h => h) (Or.inr ⟨by rfl, rfl⟩) hHeld ?_
    try simp only [Act.put, List.setIfInBounds_toArray, List.set_cons_zero, List.set_cons_succ]
    refine wpAnyH_take (i := 23) (oi := { dst := some 37, op := Op.pick (Operand.tmp 31) (Operand.const (Value.bool true)) (Operand.tmp 36), type := 4, pos := "law.go:43", after := #[{ on := 17, ground := Ground.data }, { on := 22, ground := Ground.data }, { on := 12, ground := Ground.guard }], guard := some (12, true) }) (v := ?_) rfl (by kernel_rfl) (by kernel_rfl) (by kernel_rfl) (fun _ _ _ h => h) (Or.inl ⟨by rfl, ?_⟩) hHeld ?_
    rotate_left
    · intro w' hSw
      go_simp
      try with_reducible rfl
    try simp only [Act.put, List.setIfInBounds_toArray, List.set_cons_zero, List.set_cons_succ]
    refine wpAnyH_take (i := 24) (oi := { dst := some 38, op := Op.pick (Operand.tmp 26) (Operand.tmp 37) (Operand.const (Value.bool false)), type := 4, pos := "law.go:43", after := #[{ on := 12, ground := Ground.data }, { on := 23, ground := Ground.data }], guard := none }) (v := ?_) rfl (by kernel_rfl) (by kernel_rfl) (by kernel_rfl) (fun _ _ _ h => h) (Or.inl ⟨by rfl, ?_⟩) hHeld ?_
    rotate_left
    · intro w' hSw
      go_simp
      try with_reducible rfl
    try simp only [Act.put, List.setIfInBounds_toArray, List.set_cons_zero, List.set_cons_succ]
    refine wpAnyH_take (i := 25) (oi := { dst := some 4, op := Op.assign (Operand.tmp 38), type := 4, pos := "law.go:43", after := #[{ on := 24, ground := Ground.data }, { on := 21, ground := Ground.chain }, { on := 0, ground := Ground.phase }, { on := 1, ground := Ground.phase }, { on := 2, ground := Ground.phase }, { on := 3, ground := Ground.phase }, { on := 4, ground := Ground.phase }, { on := 5, ground := Ground.phase }, { on := 6, ground := Ground.phase }, { on := 7, ground := Ground.phase }, { on := 8, ground := Ground.phase }, { on := 9, ground := Ground.phase }, { on := 10, ground := Ground.phase }, { on := 11, ground := Ground.phase }, { on := 12, ground := Ground.phase }, { on := 13, ground := Ground.phase }, { on := 14, ground := Ground.phase }, { on := 15, ground := Ground.phase }, { on := 16, ground := Ground.phase }, { on := 17, ground := Ground.phase }, { on := 18, ground := Ground.phase }, { on := 19, ground := Ground.phase }, { on := 20, ground := Ground.phase }, { on := 21, ground := Ground.phase }, { on := 22, ground := Ground.phase }, { on := 23, ground := Ground.phase }, { on := 24, ground := Ground.phase }], guard := none }) (v := ?_) rfl (by kernel_rfl) (by kernel_rfl) (by kernel_rfl) (fun _ _ _ h => h) (Or.inl ⟨by rfl, ?_⟩) hHeld ?_
    rotate_left
    · intro w' hSw
      go_simp
      try with_reducible rfl
    try simp only [Act.put, List.setIfInBounds_toArray, List.set_cons_zero, List.set_cons_succ]
    refine wpAnyH_done (by kernel_rfl) ?_ _
    refine NoPanic.normal ?_
    have HBe := Lib.hid (HB2.out.trans hHeld)
    go_wp2
    go_ret
    exact ⟨by simp, HBe.out⟩
end Go.Proofs.Ytigicphmnlkjfaa
