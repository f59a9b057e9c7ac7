/- CrcCuts' walk. -/
import Derived.Test.YtcbfcbkpbaefaaaCrcOn
namespace Go.Proofs.Ytcbfcbkpbaefaaa
open Go.RowKit
set_option linter.unusedVariables false
attribute [local go_sem ↓] Go.wp_at_zero Go.wp_at_succ

theorem RB.made2 (W : World) (E : Obj) (e : TypeId) (l : List UInt8) (cs : Array Value) (h : cs = (l.map vb).toArray) :
    RB ((W.alloc E).alloc (.cells cs e)) ((W.alloc E).alloc (.cells cs e)).heap.size (some ⟨W.heap.size + 1, 0, none⟩) l := by
  have h := RB.made_ (W.alloc E) e l cs (0, 0) h
  rwa [show (some (⟨(W.alloc E).heap.size, 0, none⟩ : Addr)) = some ⟨W.heap.size + 1, 0, none⟩ from by simp] at h

set_option maxRecDepth 100000 in
set_option maxHeartbeats 4000000 in
theorem crcCuts_yes3 (A : Option Addr) (c : Nat) (l : List UInt8) (x0 x1 x2 x3 : UInt8) (x y : List UInt8) (w : World) (h : SL w A c l) (hlen : ¬ 2000 < l.length) (hcap : l.length ≤ c) (h3 : l.length ≤ 3) (hx : Hid (x = crcPut l)) (hxl : x.length ≤ 2004) (hy : Hid (l ++ [x0, x1, x2, x3] = y)) (HYN : Hid (l.length + 4 = y.length))
    (hC : Hid (∀ (w : World) (A : Option Addr) (c : Nat), SL w A c y → Calls Try.prog 10 #[.slice A y.length c] w (CutSL w l 0)))
    (hS : Hid (∀ (w : World) (A D : Option Addr) (c d : Nat), SL w A c y → SL w D d x → Calls Try.prog 17 #[.slice A y.length c, .slice D x.length d] w fun e w' => e = .returned (.bool true) ∧ Bl w w')) :
    Calls Try.prog 7 #[.slice A l.length c, .agg #[.int .u8 x0.toNat, .int .u8 x1.toNat, .int .u8 x2.toNat, .int .u8 x3.toNat]] w fun e w' => e = .returned (.bool true) ∧ Bl w w' := by
  obtain ⟨arr, harr⟩ : ∃ arr, arr = #[Value.int .u8 x0.toNat, .int .u8 x1.toNat, .int .u8 x2.toNat, .int .u8 x3.toNat] := ⟨_, rfl⟩
  have bb := Bl.alloc w (.cells #[.int .u8 x0.toNat, .int .u8 x1.toNat, .int .u8 x2.toNat, .int .u8 x3.toNat] 43)
  have bk := Blk.new w 43 #[.int .u8 x0.toNat, .int .u8 x1.toNat, .int .u8 x2.toNat, .int .u8 x3.toNat]
  replace h := h.step bb
  go_enter Try.func7, Try.ntmps7
  go_wp2
  generalize w.alloc (.cells #[.int .u8 x0.toNat, .int .u8 x1.toNat, .int .u8 x2.toNat, .int .u8 x3.toNat] 43) = W at *
  have c0 := bk.cell 0; have c1 := bk.cell 1; have c2 := bk.cell 2; have c3' := bk.cell 3; have hg := bk.lt; clear bk harr
  simp only [List.getElem?_toArray, List.getElem?_cons_zero, List.getElem?_cons_succ] at c0 c1 c2 c3'
  go_region_held3 (fun w' => w'.cell? ⟨w.heap.size, 0, none⟩ = some (.int .u8 x0.toNat) ∧ w'.cell? ⟨w.heap.size, 1, none⟩ = some (.int .u8 x1.toNat) ∧ w'.cell? ⟨w.heap.size, 2, none⟩ = some (.int .u8 x2.toNat) ∧ w'.cell? ⟨w.heap.size, 3, none⟩ = some (.int .u8 x3.toNat)) (first | exact ⟨m0, m1, m2, m3⟩ | exact ⟨k0, k1, k2, k3⟩ | go_keep)
    (first
      | (refine step_append_ap _ (by rfl) (.tmp 15) (.tmp 16) _ (by rfl) bytesT (Ap.empty (base := _) _) (by rfl) (k := l) ((SL.step h ((Bl.alloc W (.cells #[] 5)).trans (Bl.drewN _ 1))).rb) (by rfl) rfl (by omega) (Nat.le_refl _) ?_; intro A3 c3 w3 hd3; simp only [Nat.zero_add, List.nil_append] at hd3; have b3 : Bl W w3 := Bl.trans ((Bl.alloc W (.cells #[] 5)).trans (Bl.drewN _ 1)) hd3.below; have k0 := (Bl.cell b3 (p := ⟨w.heap.size, 0, none⟩) hg).trans c0; have k1 := (Bl.cell b3 (p := ⟨w.heap.size, 1, none⟩) hg).trans c1; have k2 := (Bl.cell b3 (p := ⟨w.heap.size, 2, none⟩) hg).trans c2; have k3 := (Bl.cell b3 (p := ⟨w.heap.size, 3, none⟩) hg).trans c3')
      | (refine step_append_ap _ (by rfl) (.tmp 15) (.tmp 16) _ (by rfl) bytesT (Ap.empty (base := _) _) (by rfl) (k := l) ((SL.step h (((Bl.alloc W (.cells #[] 5)).trans (Bl.alloc _ (.cells #[.int .u8 x0.toNat, .int .u8 x1.toNat, .int .u8 x2.toNat, .int .u8 x3.toNat] 5))).trans (Bl.drewN _ 1))).rb) (by rfl) rfl (by omega) (Nat.le_refl _) ?_; intro A3 c3 w3 hd3; simp only [List.nil_append] at hd3; have b3 : Bl W w3 := Bl.trans (((Bl.alloc W (.cells #[] 5)).trans (Bl.alloc _ (.cells #[.int .u8 x0.toNat, .int .u8 x1.toNat, .int .u8 x2.toNat, .int .u8 x3.toNat] 5))).trans (Bl.drewN _ 1)) hd3.below; have hm3 := RB.below (RB.drew (RB.made2 W (.cells #[] 5) 5 [x0, x1, x2, x3] _ rfl)) hd3.below; have tokb : True := trivial; have k0 := (Bl.cell b3 (p := ⟨w.heap.size, 0, none⟩) hg).trans c0; have k1 := (Bl.cell b3 (p := ⟨w.heap.size, 1, none⟩) hg).trans c1; have k2 := (Bl.cell b3 (p := ⟨w.heap.size, 2, none⟩) hg).trans c2; have k3 := (Bl.cell b3 (p := ⟨w.heap.size, 3, none⟩) hg).trans c3')
      | (refine step_append_ap _ (by rfl) (.tmp 15) (.tmp 16) _ (by rfl) bytesT (Ap.empty (base := _) _) (by rfl) (k := l) ((SL.step h (((Bl.alloc W (.cells #[.int .u8 x0.toNat, .int .u8 x1.toNat, .int .u8 x2.toNat, .int .u8 x3.toNat] 5)).trans (Bl.alloc _ (.cells #[] 5))).trans (Bl.drewN _ 1))).rb) (by rfl) rfl (by omega) (Nat.le_refl _) ?_; intro A3 c3 w3 hd3; simp only [List.nil_append] at hd3; have b3 : Bl W w3 := Bl.trans (((Bl.alloc W (.cells #[.int .u8 x0.toNat, .int .u8 x1.toNat, .int .u8 x2.toNat, .int .u8 x3.toNat] 5)).trans (Bl.alloc _ (.cells #[] 5))).trans (Bl.drewN _ 1)) hd3.below; have hm3 := RB.below ((RB.drew (RB.alloc (RB.made_ W 5 [x0, x1, x2, x3] _ (0, 0) rfl) (Nat.le_refl _) (.cells #[] 5))).more (by simp)) hd3.below; have tokb : True := trivial; have k0 := (Bl.cell b3 (p := ⟨w.heap.size, 0, none⟩) hg).trans c0; have k1 := (Bl.cell b3 (p := ⟨w.heap.size, 1, none⟩) hg).trans c1; have k2 := (Bl.cell b3 (p := ⟨w.heap.size, 2, none⟩) hg).trans c2; have k3 := (Bl.cell b3 (p := ⟨w.heap.size, 3, none⟩) hg).trans c3')
      | (have _t := tokb; ((refine step_append_ap _ (by rfl) (.tmp 17) (.tmp 26) _ (by rfl) bytesT (hd3.ap) (by rfl) (k := [x0, x1, x2, x3]) (hm3) (by rfl) rfl (by simp <;> omega) (by have := hd3.below.size; simp at this ⊢ <;> omega) ?_; intro A4 c4 w4 hd4; have b4 : Bl W w4 := Below.trans (show Below W.heap.size W w3 from b3) (hd4.below.mono (by simp <;> omega)); have m0 := (Bl.cell b4 (p := ⟨w.heap.size, 0, none⟩) hg).trans c0; have m1 := (Bl.cell b4 (p := ⟨w.heap.size, 1, none⟩) hg).trans c1; have m2 := (Bl.cell b4 (p := ⟨w.heap.size, 2, none⟩) hg).trans c2; have m3 := (Bl.cell b4 (p := ⟨w.heap.size, 3, none⟩) hg).trans c3')))
      | (refine step_append_ap _ (by rfl) (.tmp 17) (.tmp 26) _ (by rfl) bytesT (hd3.ap.alloc (.cells #[.int .u8 x0.toNat, .int .u8 x1.toNat, .int .u8 x2.toNat, .int .u8 x3.toNat] 5)) (by rfl) (k := [x0, x1, x2, x3]) (RB.made w3 _ [x0, x1, x2, x3] _ _ rfl) (by rfl) rfl (by simp <;> omega) (by have := hd3.below.size; simp at this ⊢ <;> omega) ?_; intro A4 c4 w4 hd4; have b4 : Bl W w4 := Below.trans (Below.trans (show Below W.heap.size W w3 from b3) ((Bl.alloc w3 (.cells #[.int .u8 x0.toNat, .int .u8 x1.toNat, .int .u8 x2.toNat, .int .u8 x3.toNat] 5)).mono b3.size)) (hd4.below.mono (by simp <;> omega)); have m0 := (Bl.cell b4 (p := ⟨w.heap.size, 0, none⟩) hg).trans c0; have m1 := (Bl.cell b4 (p := ⟨w.heap.size, 1, none⟩) hg).trans c1; have m2 := (Bl.cell b4 (p := ⟨w.heap.size, 2, none⟩) hg).trans c2; have m3 := (Bl.cell b4 (p := ⟨w.heap.size, 3, none⟩) hg).trans c3'))
  all_goals
    have sy : SL w4 A4 c4 y := SL.of_apd hd4 hy.out
    replace h := h.step b4
    have b5 := bb.trans b4
    clear m0 m1 m2 m3 k0 k1 k2 k3 c0 c1 c2 c3' hd4 hd3 b3 b4 hg
    go_wp2_with fail
    rw [HYN.out]
    refine (hC.out _ _ _ sy).mono ?_
    rintro e w5 ⟨A5, c5, rfl, s5, b⟩
    replace h := h.step b; replace sy := sy.step b; replace b5 := b5.trans b; clear b
    go_wp2_with fail
    refine (crcPut_sl h x hx.out (by omega)).mono ?_
    rintro e w6 ⟨A6, c6, rfl, sx, _, b⟩
    replace h := h.step b; replace sy := sy.step b; replace s5 := s5.step b; replace b5 := b5.trans b; clear b
    go_wp2_with fail
    refine (hS.out _ _ _ _ _ sy sx).mono ?_
    rintro e w7 ⟨rfl, b⟩
    replace h := h.step b; replace s5 := s5.step b; replace b5 := b5.trans b; clear b sy sx
    go_wp2_with fail
    refine (crcCut_none (l := l) (by omega) (by omega)).mono ?_
    rintro e w8 ⟨A8, c8, rfl, s8, b⟩
    replace h := h.step b; replace s5 := s5.step b; replace b5 := b5.trans b; clear b s8
    go_wp2_with fail
    refine (alive12 _).mono ?_
    rintro e w9 ⟨rfl, b⟩
    replace h := h.step b; replace s5 := s5.step b; replace b5 := b5.trans b; clear b
    go_wp2_with fail
    refine (same_sl s5 h (by omega)).mono ?_
    rintro e w10 ⟨rfl, b⟩
    replace b5 := b5.trans b
    go_wp2
    go_ret
    exact ⟨rfl, b5⟩

set_option maxRecDepth 100000 in
set_option maxHeartbeats 4000000 in
theorem crcCuts_yes4 (A : Option Addr) (c : Nat) (l : List UInt8) (x0 x1 x2 x3 : UInt8) (x y : List UInt8) (w : World) (h : SL w A c l) (hlen : ¬ 2000 < l.length) (hcap : l.length ≤ c) (h3 : 3 < l.length) (hx : Hid (x = crcPut l)) (hxl : x.length ≤ 2004) (hy : Hid (l ++ [x0, x1, x2, x3] = y)) (HYN : Hid (l.length + 4 = y.length))
    (hC : Hid (∀ (w : World) (A : Option Addr) (c : Nat), SL w A c y → Calls Try.prog 10 #[.slice A y.length c] w (CutSL w l 0)))
    (hS : Hid (∀ (w : World) (A D : Option Addr) (c d : Nat), SL w A c y → SL w D d x → Calls Try.prog 17 #[.slice A y.length c, .slice D x.length d] w fun e w' => e = .returned (.bool true) ∧ Bl w w')) :
    Calls Try.prog 7 #[.slice A l.length c, .agg #[.int .u8 x0.toNat, .int .u8 x1.toNat, .int .u8 x2.toNat, .int .u8 x3.toNat]] w fun e w' => e = .returned (.bool true) ∧ Bl w w' := by
  obtain ⟨arr, harr⟩ : ∃ arr, arr = #[Value.int .u8 x0.toNat, .int .u8 x1.toNat, .int .u8 x2.toNat, .int .u8 x3.toNat] := ⟨_, rfl⟩
  have bb := Bl.alloc w (.cells #[.int .u8 x0.toNat, .int .u8 x1.toNat, .int .u8 x2.toNat, .int .u8 x3.toNat] 43)
  have bk := Blk.new w 43 #[.int .u8 x0.toNat, .int .u8 x1.toNat, .int .u8 x2.toNat, .int .u8 x3.toNat]
  replace h := h.step bb
  go_enter Try.func7, Try.ntmps7
  go_wp2
  generalize w.alloc (.cells #[.int .u8 x0.toNat, .int .u8 x1.toNat, .int .u8 x2.toNat, .int .u8 x3.toNat] 43) = W at *
  have c0 := bk.cell 0; have c1 := bk.cell 1; have c2 := bk.cell 2; have c3' := bk.cell 3; have hg := bk.lt; clear bk harr
  simp only [List.getElem?_toArray, List.getElem?_cons_zero, List.getElem?_cons_succ] at c0 c1 c2 c3'
  go_region_held3 (fun w' => w'.cell? ⟨w.heap.size, 0, none⟩ = some (.int .u8 x0.toNat) ∧ w'.cell? ⟨w.heap.size, 1, none⟩ = some (.int .u8 x1.toNat) ∧ w'.cell? ⟨w.heap.size, 2, none⟩ = some (.int .u8 x2.toNat) ∧ w'.cell? ⟨w.heap.size, 3, none⟩ = some (.int .u8 x3.toNat)) (first | exact ⟨m0, m1, m2, m3⟩ | exact ⟨k0, k1, k2, k3⟩ | go_keep)
    (first
      | (refine step_append_ap _ (by rfl) (.tmp 15) (.tmp 16) _ (by rfl) bytesT (Ap.empty (base := _) _) (by rfl) (k := l) ((SL.step h ((Bl.alloc W (.cells #[] 5)).trans (Bl.drewN _ 1))).rb) (by rfl) rfl (by omega) (Nat.le_refl _) ?_; intro A3 c3 w3 hd3; simp only [Nat.zero_add, List.nil_append] at hd3; have b3 : Bl W w3 := Bl.trans ((Bl.alloc W (.cells #[] 5)).trans (Bl.drewN _ 1)) hd3.below; have k0 := (Bl.cell b3 (p := ⟨w.heap.size, 0, none⟩) hg).trans c0; have k1 := (Bl.cell b3 (p := ⟨w.heap.size, 1, none⟩) hg).trans c1; have k2 := (Bl.cell b3 (p := ⟨w.heap.size, 2, none⟩) hg).trans c2; have k3 := (Bl.cell b3 (p := ⟨w.heap.size, 3, none⟩) hg).trans c3')
      | (refine step_append_ap _ (by rfl) (.tmp 15) (.tmp 16) _ (by rfl) bytesT (Ap.empty (base := _) _) (by rfl) (k := l) ((SL.step h (((Bl.alloc W (.cells #[] 5)).trans (Bl.alloc _ (.cells #[.int .u8 x0.toNat, .int .u8 x1.toNat, .int .u8 x2.toNat, .int .u8 x3.toNat] 5))).trans (Bl.drewN _ 1))).rb) (by rfl) rfl (by omega) (Nat.le_refl _) ?_; intro A3 c3 w3 hd3; simp only [List.nil_append] at hd3; have b3 : Bl W w3 := Bl.trans (((Bl.alloc W (.cells #[] 5)).trans (Bl.alloc _ (.cells #[.int .u8 x0.toNat, .int .u8 x1.toNat, .int .u8 x2.toNat, .int .u8 x3.toNat] 5))).trans (Bl.drewN _ 1)) hd3.below; have hm3 := RB.below (RB.drew (RB.made2 W (.cells #[] 5) 5 [x0, x1, x2, x3] _ rfl)) hd3.below; have tokb : True := trivial; have k0 := (Bl.cell b3 (p := ⟨w.heap.size, 0, none⟩) hg).trans c0; have k1 := (Bl.cell b3 (p := ⟨w.heap.size, 1, none⟩) hg).trans c1; have k2 := (Bl.cell b3 (p := ⟨w.heap.size, 2, none⟩) hg).trans c2; have k3 := (Bl.cell b3 (p := ⟨w.heap.size, 3, none⟩) hg).trans c3')
      | (refine step_append_ap _ (by rfl) (.tmp 15) (.tmp 16) _ (by rfl) bytesT (Ap.empty (base := _) _) (by rfl) (k := l) ((SL.step h (((Bl.alloc W (.cells #[.int .u8 x0.toNat, .int .u8 x1.toNat, .int .u8 x2.toNat, .int .u8 x3.toNat] 5)).trans (Bl.alloc _ (.cells #[] 5))).trans (Bl.drewN _ 1))).rb) (by rfl) rfl (by omega) (Nat.le_refl _) ?_; intro A3 c3 w3 hd3; simp only [List.nil_append] at hd3; have b3 : Bl W w3 := Bl.trans (((Bl.alloc W (.cells #[.int .u8 x0.toNat, .int .u8 x1.toNat, .int .u8 x2.toNat, .int .u8 x3.toNat] 5)).trans (Bl.alloc _ (.cells #[] 5))).trans (Bl.drewN _ 1)) hd3.below; have hm3 := RB.below ((RB.drew (RB.alloc (RB.made_ W 5 [x0, x1, x2, x3] _ (0, 0) rfl) (Nat.le_refl _) (.cells #[] 5))).more (by simp)) hd3.below; have tokb : True := trivial; have k0 := (Bl.cell b3 (p := ⟨w.heap.size, 0, none⟩) hg).trans c0; have k1 := (Bl.cell b3 (p := ⟨w.heap.size, 1, none⟩) hg).trans c1; have k2 := (Bl.cell b3 (p := ⟨w.heap.size, 2, none⟩) hg).trans c2; have k3 := (Bl.cell b3 (p := ⟨w.heap.size, 3, none⟩) hg).trans c3')
      | (have _t := tokb; ((refine step_append_ap _ (by rfl) (.tmp 17) (.tmp 26) _ (by rfl) bytesT (hd3.ap) (by rfl) (k := [x0, x1, x2, x3]) (hm3) (by rfl) rfl (by simp <;> omega) (by have := hd3.below.size; simp at this ⊢ <;> omega) ?_; intro A4 c4 w4 hd4; have b4 : Bl W w4 := Below.trans (show Below W.heap.size W w3 from b3) (hd4.below.mono (by simp <;> omega)); have m0 := (Bl.cell b4 (p := ⟨w.heap.size, 0, none⟩) hg).trans c0; have m1 := (Bl.cell b4 (p := ⟨w.heap.size, 1, none⟩) hg).trans c1; have m2 := (Bl.cell b4 (p := ⟨w.heap.size, 2, none⟩) hg).trans c2; have m3 := (Bl.cell b4 (p := ⟨w.heap.size, 3, none⟩) hg).trans c3')))
      | (refine step_append_ap _ (by rfl) (.tmp 17) (.tmp 26) _ (by rfl) bytesT (hd3.ap.alloc (.cells #[.int .u8 x0.toNat, .int .u8 x1.toNat, .int .u8 x2.toNat, .int .u8 x3.toNat] 5)) (by rfl) (k := [x0, x1, x2, x3]) (RB.made w3 _ [x0, x1, x2, x3] _ _ rfl) (by rfl) rfl (by simp <;> omega) (by have := hd3.below.size; simp at this ⊢ <;> omega) ?_; intro A4 c4 w4 hd4; have b4 : Bl W w4 := Below.trans (Below.trans (show Below W.heap.size W w3 from b3) ((Bl.alloc w3 (.cells #[.int .u8 x0.toNat, .int .u8 x1.toNat, .int .u8 x2.toNat, .int .u8 x3.toNat] 5)).mono b3.size)) (hd4.below.mono (by simp <;> omega)); have m0 := (Bl.cell b4 (p := ⟨w.heap.size, 0, none⟩) hg).trans c0; have m1 := (Bl.cell b4 (p := ⟨w.heap.size, 1, none⟩) hg).trans c1; have m2 := (Bl.cell b4 (p := ⟨w.heap.size, 2, none⟩) hg).trans c2; have m3 := (Bl.cell b4 (p := ⟨w.heap.size, 3, none⟩) hg).trans c3'))
  all_goals
    have sy : SL w4 A4 c4 y := SL.of_apd hd4 hy.out
    replace h := h.step b4
    have b5 := bb.trans b4
    clear m0 m1 m2 m3 k0 k1 k2 k3 c0 c1 c2 c3' hd4 hd3 b3 b4 hg
    go_wp2_with fail
    rw [HYN.out]
    refine (hC.out _ _ _ sy).mono ?_
    rintro e w5 ⟨A5, c5, rfl, s5, b⟩
    replace h := h.step b; replace sy := sy.step b; replace b5 := b5.trans b; clear b
    go_wp2_with fail
    refine (crcPut_sl h x hx.out (by omega)).mono ?_
    rintro e w6 ⟨A6, c6, rfl, sx, _, b⟩
    replace h := h.step b; replace sy := sy.step b; replace s5 := s5.step b; replace b5 := b5.trans b; clear b
    go_wp2_with fail
    refine (hS.out _ _ _ _ _ sy sx).mono ?_
    rintro e w7 ⟨rfl, b⟩
    replace h := h.step b; replace s5 := s5.step b; replace b5 := b5.trans b; clear b sy sx
    go_wp2_with fail
    refine (crcCut_none (l := [0, 0, 0]) (by decide) (by decide)).mono ?_
    rintro e w8 ⟨A8, c8, rfl, s8, b⟩
    replace h := h.step b; replace s5 := s5.step b; replace b5 := b5.trans b; clear b s8
    go_wp2_with fail
    refine (alive12 _).mono ?_
    rintro e w9 ⟨rfl, b⟩
    replace h := h.step b; replace s5 := s5.step b; replace b5 := b5.trans b; clear b
    go_wp2_with fail
    refine (same_sl s5 h (by omega)).mono ?_
    rintro e w10 ⟨rfl, b⟩
    replace b5 := b5.trans b
    go_wp2
    go_ret
    exact ⟨rfl, b5⟩

set_option maxRecDepth 100000 in
set_option maxHeartbeats 4000000 in
theorem crcCuts_no3 (A : Option Addr) (c : Nat) (l : List UInt8) (x0 x1 x2 x3 : UInt8) (x y : List UInt8) (w : World) (h : SL w A c l) (hlen : ¬ 2000 < l.length) (hcap : l.length ≤ c) (h3 : l.length ≤ 3) (hx : Hid (x = crcPut l)) (hxl : x.length ≤ 2004) (hy : Hid (l ++ [x0, x1, x2, x3] = y)) (HYN : Hid (l.length + 4 = y.length))
    (hC : Hid (∀ (w : World) (A : Option Addr) (c : Nat), SL w A c y → Calls Try.prog 10 #[.slice A y.length c] w (CutSL w [] 8)))
    (hS : Hid (∀ (w : World) (A D : Option Addr) (c d : Nat), SL w A c y → SL w D d x → Calls Try.prog 17 #[.slice A y.length c, .slice D x.length d] w fun e w' => e = .returned (.bool false) ∧ Bl w w')) :
    Calls Try.prog 7 #[.slice A l.length c, .agg #[.int .u8 x0.toNat, .int .u8 x1.toNat, .int .u8 x2.toNat, .int .u8 x3.toNat]] w fun e w' => e = .returned (.bool true) ∧ Bl w w' := by
  obtain ⟨arr, harr⟩ : ∃ arr, arr = #[Value.int .u8 x0.toNat, .int .u8 x1.toNat, .int .u8 x2.toNat, .int .u8 x3.toNat] := ⟨_, rfl⟩
  have bb := Bl.alloc w (.cells #[.int .u8 x0.toNat, .int .u8 x1.toNat, .int .u8 x2.toNat, .int .u8 x3.toNat] 43)
  have bk := Blk.new w 43 #[.int .u8 x0.toNat, .int .u8 x1.toNat, .int .u8 x2.toNat, .int .u8 x3.toNat]
  replace h := h.step bb
  go_enter Try.func7, Try.ntmps7
  go_wp2
  generalize w.alloc (.cells #[.int .u8 x0.toNat, .int .u8 x1.toNat, .int .u8 x2.toNat, .int .u8 x3.toNat] 43) = W at *
  have c0 := bk.cell 0; have c1 := bk.cell 1; have c2 := bk.cell 2; have c3' := bk.cell 3; have hg := bk.lt; clear bk harr
  simp only [List.getElem?_toArray, List.getElem?_cons_zero, List.getElem?_cons_succ] at c0 c1 c2 c3'
  go_region_held3 (fun w' => w'.cell? ⟨w.heap.size, 0, none⟩ = some (.int .u8 x0.toNat) ∧ w'.cell? ⟨w.heap.size, 1, none⟩ = some (.int .u8 x1.toNat) ∧ w'.cell? ⟨w.heap.size, 2, none⟩ = some (.int .u8 x2.toNat) ∧ w'.cell? ⟨w.heap.size, 3, none⟩ = some (.int .u8 x3.toNat)) (first | exact ⟨m0, m1, m2, m3⟩ | exact ⟨k0, k1, k2, k3⟩ | go_keep)
    (first
      | (refine step_append_ap _ (by rfl) (.tmp 15) (.tmp 16) _ (by rfl) bytesT (Ap.empty (base := _) _) (by rfl) (k := l) ((SL.step h ((Bl.alloc W (.cells #[] 5)).trans (Bl.drewN _ 1))).rb) (by rfl) rfl (by omega) (Nat.le_refl _) ?_; intro A3 c3 w3 hd3; simp only [Nat.zero_add, List.nil_append] at hd3; have b3 : Bl W w3 := Bl.trans ((Bl.alloc W (.cells #[] 5)).trans (Bl.drewN _ 1)) hd3.below; have k0 := (Bl.cell b3 (p := ⟨w.heap.size, 0, none⟩) hg).trans c0; have k1 := (Bl.cell b3 (p := ⟨w.heap.size, 1, none⟩) hg).trans c1; have k2 := (Bl.cell b3 (p := ⟨w.heap.size, 2, none⟩) hg).trans c2; have k3 := (Bl.cell b3 (p := ⟨w.heap.size, 3, none⟩) hg).trans c3')
      | (refine step_append_ap _ (by rfl) (.tmp 15) (.tmp 16) _ (by rfl) bytesT (Ap.empty (base := _) _) (by rfl) (k := l) ((SL.step h (((Bl.alloc W (.cells #[] 5)).trans (Bl.alloc _ (.cells #[.int .u8 x0.toNat, .int .u8 x1.toNat, .int .u8 x2.toNat, .int .u8 x3.toNat] 5))).trans (Bl.drewN _ 1))).rb) (by rfl) rfl (by omega) (Nat.le_refl _) ?_; intro A3 c3 w3 hd3; simp only [List.nil_append] at hd3; have b3 : Bl W w3 := Bl.trans (((Bl.alloc W (.cells #[] 5)).trans (Bl.alloc _ (.cells #[.int .u8 x0.toNat, .int .u8 x1.toNat, .int .u8 x2.toNat, .int .u8 x3.toNat] 5))).trans (Bl.drewN _ 1)) hd3.below; have hm3 := RB.below (RB.drew (RB.made2 W (.cells #[] 5) 5 [x0, x1, x2, x3] _ rfl)) hd3.below; have tokb : True := trivial; have k0 := (Bl.cell b3 (p := ⟨w.heap.size, 0, none⟩) hg).trans c0; have k1 := (Bl.cell b3 (p := ⟨w.heap.size, 1, none⟩) hg).trans c1; have k2 := (Bl.cell b3 (p := ⟨w.heap.size, 2, none⟩) hg).trans c2; have k3 := (Bl.cell b3 (p := ⟨w.heap.size, 3, none⟩) hg).trans c3')
      | (refine step_append_ap _ (by rfl) (.tmp 15) (.tmp 16) _ (by rfl) bytesT (Ap.empty (base := _) _) (by rfl) (k := l) ((SL.step h (((Bl.alloc W (.cells #[.int .u8 x0.toNat, .int .u8 x1.toNat, .int .u8 x2.toNat, .int .u8 x3.toNat] 5)).trans (Bl.alloc _ (.cells #[] 5))).trans (Bl.drewN _ 1))).rb) (by rfl) rfl (by omega) (Nat.le_refl _) ?_; intro A3 c3 w3 hd3; simp only [List.nil_append] at hd3; have b3 : Bl W w3 := Bl.trans (((Bl.alloc W (.cells #[.int .u8 x0.toNat, .int .u8 x1.toNat, .int .u8 x2.toNat, .int .u8 x3.toNat] 5)).trans (Bl.alloc _ (.cells #[] 5))).trans (Bl.drewN _ 1)) hd3.below; have hm3 := RB.below ((RB.drew (RB.alloc (RB.made_ W 5 [x0, x1, x2, x3] _ (0, 0) rfl) (Nat.le_refl _) (.cells #[] 5))).more (by simp)) hd3.below; have tokb : True := trivial; have k0 := (Bl.cell b3 (p := ⟨w.heap.size, 0, none⟩) hg).trans c0; have k1 := (Bl.cell b3 (p := ⟨w.heap.size, 1, none⟩) hg).trans c1; have k2 := (Bl.cell b3 (p := ⟨w.heap.size, 2, none⟩) hg).trans c2; have k3 := (Bl.cell b3 (p := ⟨w.heap.size, 3, none⟩) hg).trans c3')
      | (have _t := tokb; ((refine step_append_ap _ (by rfl) (.tmp 17) (.tmp 26) _ (by rfl) bytesT (hd3.ap) (by rfl) (k := [x0, x1, x2, x3]) (hm3) (by rfl) rfl (by simp <;> omega) (by have := hd3.below.size; simp at this ⊢ <;> omega) ?_; intro A4 c4 w4 hd4; have b4 : Bl W w4 := Below.trans (show Below W.heap.size W w3 from b3) (hd4.below.mono (by simp <;> omega)); have m0 := (Bl.cell b4 (p := ⟨w.heap.size, 0, none⟩) hg).trans c0; have m1 := (Bl.cell b4 (p := ⟨w.heap.size, 1, none⟩) hg).trans c1; have m2 := (Bl.cell b4 (p := ⟨w.heap.size, 2, none⟩) hg).trans c2; have m3 := (Bl.cell b4 (p := ⟨w.heap.size, 3, none⟩) hg).trans c3')))
      | (refine step_append_ap _ (by rfl) (.tmp 17) (.tmp 26) _ (by rfl) bytesT (hd3.ap.alloc (.cells #[.int .u8 x0.toNat, .int .u8 x1.toNat, .int .u8 x2.toNat, .int .u8 x3.toNat] 5)) (by rfl) (k := [x0, x1, x2, x3]) (RB.made w3 _ [x0, x1, x2, x3] _ _ rfl) (by rfl) rfl (by simp <;> omega) (by have := hd3.below.size; simp at this ⊢ <;> omega) ?_; intro A4 c4 w4 hd4; have b4 : Bl W w4 := Below.trans (Below.trans (show Below W.heap.size W w3 from b3) ((Bl.alloc w3 (.cells #[.int .u8 x0.toNat, .int .u8 x1.toNat, .int .u8 x2.toNat, .int .u8 x3.toNat] 5)).mono b3.size)) (hd4.below.mono (by simp <;> omega)); have m0 := (Bl.cell b4 (p := ⟨w.heap.size, 0, none⟩) hg).trans c0; have m1 := (Bl.cell b4 (p := ⟨w.heap.size, 1, none⟩) hg).trans c1; have m2 := (Bl.cell b4 (p := ⟨w.heap.size, 2, none⟩) hg).trans c2; have m3 := (Bl.cell b4 (p := ⟨w.heap.size, 3, none⟩) hg).trans c3'))
  all_goals
    have sy : SL w4 A4 c4 y := SL.of_apd hd4 hy.out
    replace h := h.step b4
    have b5 := bb.trans b4
    clear m0 m1 m2 m3 k0 k1 k2 k3 c0 c1 c2 c3' hd4 hd3 b3 b4 hg
    go_wp2_with fail
    rw [HYN.out]
    refine (hC.out _ _ _ sy).mono ?_
    rintro e w5 ⟨A5, c5, rfl, s5, b⟩
    replace h := h.step b; replace sy := sy.step b; replace b5 := b5.trans b; clear b
    go_wp2_with fail
    refine (crcPut_sl h x hx.out (by omega)).mono ?_
    rintro e w6 ⟨A6, c6, rfl, sx, _, b⟩
    replace h := h.step b; replace sy := sy.step b; replace s5 := s5.step b; replace b5 := b5.trans b; clear b
    go_wp2_with fail
    refine (hS.out _ _ _ _ _ sy sx).mono ?_
    rintro e w7 ⟨rfl, b⟩
    replace h := h.step b; replace s5 := s5.step b; replace b5 := b5.trans b; clear b sy sx
    go_wp2_with fail
    refine (crcCut_none (l := l) (by omega) (by omega)).mono ?_
    rintro e w8 ⟨A8, c8, rfl, s8, b⟩
    replace h := h.step b; replace s5 := s5.step b; replace b5 := b5.trans b; clear b s8
    go_wp2_with fail
    refine (alive12 _).mono ?_
    rintro e w9 ⟨rfl, b⟩
    replace h := h.step b; replace s5 := s5.step b; replace b5 := b5.trans b; clear b
    go_wp2
    go_ret
    exact ⟨rfl, b5⟩

set_option maxRecDepth 100000 in
set_option maxHeartbeats 4000000 in
theorem crcCuts_no4 (A : Option Addr) (c : Nat) (l : List UInt8) (x0 x1 x2 x3 : UInt8) (x y : List UInt8) (w : World) (h : SL w A c l) (hlen : ¬ 2000 < l.length) (hcap : l.length ≤ c) (h3 : 3 < l.length) (hx : Hid (x = crcPut l)) (hxl : x.length ≤ 2004) (hy : Hid (l ++ [x0, x1, x2, x3] = y)) (HYN : Hid (l.length + 4 = y.length))
    (hC : Hid (∀ (w : World) (A : Option Addr) (c : Nat), SL w A c y → Calls Try.prog 10 #[.slice A y.length c] w (CutSL w [] 8)))
    (hS : Hid (∀ (w : World) (A D : Option Addr) (c d : Nat), SL w A c y → SL w D d x → Calls Try.prog 17 #[.slice A y.length c, .slice D x.length d] w fun e w' => e = .returned (.bool false) ∧ Bl w w')) :
    Calls Try.prog 7 #[.slice A l.length c, .agg #[.int .u8 x0.toNat, .int .u8 x1.toNat, .int .u8 x2.toNat, .int .u8 x3.toNat]] w fun e w' => e = .returned (.bool true) ∧ Bl w w' := by
  obtain ⟨arr, harr⟩ : ∃ arr, arr = #[Value.int .u8 x0.toNat, .int .u8 x1.toNat, .int .u8 x2.toNat, .int .u8 x3.toNat] := ⟨_, rfl⟩
  have bb := Bl.alloc w (.cells #[.int .u8 x0.toNat, .int .u8 x1.toNat, .int .u8 x2.toNat, .int .u8 x3.toNat] 43)
  have bk := Blk.new w 43 #[.int .u8 x0.toNat, .int .u8 x1.toNat, .int .u8 x2.toNat, .int .u8 x3.toNat]
  replace h := h.step bb
  go_enter Try.func7, Try.ntmps7
  go_wp2
  generalize w.alloc (.cells #[.int .u8 x0.toNat, .int .u8 x1.toNat, .int .u8 x2.toNat, .int .u8 x3.toNat] 43) = W at *
  have c0 := bk.cell 0; have c1 := bk.cell 1; have c2 := bk.cell 2; have c3' := bk.cell 3; have hg := bk.lt; clear bk harr
  simp only [List.getElem?_toArray, List.getElem?_cons_zero, List.getElem?_cons_succ] at c0 c1 c2 c3'
  go_region_held3 (fun w' => w'.cell? ⟨w.heap.size, 0, none⟩ = some (.int .u8 x0.toNat) ∧ w'.cell? ⟨w.heap.size, 1, none⟩ = some (.int .u8 x1.toNat) ∧ w'.cell? ⟨w.heap.size, 2, none⟩ = some (.int .u8 x2.toNat) ∧ w'.cell? ⟨w.heap.size, 3, none⟩ = some (.int .u8 x3.toNat)) (first | exact ⟨m0, m1, m2, m3⟩ | exact ⟨k0, k1, k2, k3⟩ | go_keep)
    (first
      | (refine step_append_ap _ (by rfl) (.tmp 15) (.tmp 16) _ (by rfl) bytesT (Ap.empty (base := _) _) (by rfl) (k := l) ((SL.step h ((Bl.alloc W (.cells #[] 5)).trans (Bl.drewN _ 1))).rb) (by rfl) rfl (by omega) (Nat.le_refl _) ?_; intro A3 c3 w3 hd3; simp only [Nat.zero_add, List.nil_append] at hd3; have b3 : Bl W w3 := Bl.trans ((Bl.alloc W (.cells #[] 5)).trans (Bl.drewN _ 1)) hd3.below; have k0 := (Bl.cell b3 (p := ⟨w.heap.size, 0, none⟩) hg).trans c0; have k1 := (Bl.cell b3 (p := ⟨w.heap.size, 1, none⟩) hg).trans c1; have k2 := (Bl.cell b3 (p := ⟨w.heap.size, 2, none⟩) hg).trans c2; have k3 := (Bl.cell b3 (p := ⟨w.heap.size, 3, none⟩) hg).trans c3')
      | (refine step_append_ap _ (by rfl) (.tmp 15) (.tmp 16) _ (by rfl) bytesT (Ap.empty (base := _) _) (by rfl) (k := l) ((SL.step h (((Bl.alloc W (.cells #[] 5)).trans (Bl.alloc _ (.cells #[.int .u8 x0.toNat, .int .u8 x1.toNat, .int .u8 x2.toNat, .int .u8 x3.toNat] 5))).trans (Bl.drewN _ 1))).rb) (by rfl) rfl (by omega) (Nat.le_refl _) ?_; intro A3 c3 w3 hd3; simp only [List.nil_append] at hd3; have b3 : Bl W w3 := Bl.trans (((Bl.alloc W (.cells #[] 5)).trans (Bl.alloc _ (.cells #[.int .u8 x0.toNat, .int .u8 x1.toNat, .int .u8 x2.toNat, .int .u8 x3.toNat] 5))).trans (Bl.drewN _ 1)) hd3.below; have hm3 := RB.below (RB.drew (RB.made2 W (.cells #[] 5) 5 [x0, x1, x2, x3] _ rfl)) hd3.below; have tokb : True := trivial; have k0 := (Bl.cell b3 (p := ⟨w.heap.size, 0, none⟩) hg).trans c0; have k1 := (Bl.cell b3 (p := ⟨w.heap.size, 1, none⟩) hg).trans c1; have k2 := (Bl.cell b3 (p := ⟨w.heap.size, 2, none⟩) hg).trans c2; have k3 := (Bl.cell b3 (p := ⟨w.heap.size, 3, none⟩) hg).trans c3')
      | (refine step_append_ap _ (by rfl) (.tmp 15) (.tmp 16) _ (by rfl) bytesT (Ap.empty (base := _) _) (by rfl) (k := l) ((SL.step h (((Bl.alloc W (.cells #[.int .u8 x0.toNat, .int .u8 x1.toNat, .int .u8 x2.toNat, .int .u8 x3.toNat] 5)).trans (Bl.alloc _ (.cells #[] 5))).trans (Bl.drewN _ 1))).rb) (by rfl) rfl (by omega) (Nat.le_refl _) ?_; intro A3 c3 w3 hd3; simp only [List.nil_append] at hd3; have b3 : Bl W w3 := Bl.trans (((Bl.alloc W (.cells #[.int .u8 x0.toNat, .int .u8 x1.toNat, .int .u8 x2.toNat, .int .u8 x3.toNat] 5)).trans (Bl.alloc _ (.cells #[] 5))).trans (Bl.drewN _ 1)) hd3.below; have hm3 := RB.below ((RB.drew (RB.alloc (RB.made_ W 5 [x0, x1, x2, x3] _ (0, 0) rfl) (Nat.le_refl _) (.cells #[] 5))).more (by simp)) hd3.below; have tokb : True := trivial; have k0 := (Bl.cell b3 (p := ⟨w.heap.size, 0, none⟩) hg).trans c0; have k1 := (Bl.cell b3 (p := ⟨w.heap.size, 1, none⟩) hg).trans c1; have k2 := (Bl.cell b3 (p := ⟨w.heap.size, 2, none⟩) hg).trans c2; have k3 := (Bl.cell b3 (p := ⟨w.heap.size, 3, none⟩) hg).trans c3')
      | (have _t := tokb; ((refine step_append_ap _ (by rfl) (.tmp 17) (.tmp 26) _ (by rfl) bytesT (hd3.ap) (by rfl) (k := [x0, x1, x2, x3]) (hm3) (by rfl) rfl (by simp <;> omega) (by have := hd3.below.size; simp at this ⊢ <;> omega) ?_; intro A4 c4 w4 hd4; have b4 : Bl W w4 := Below.trans (show Below W.heap.size W w3 from b3) (hd4.below.mono (by simp <;> omega)); have m0 := (Bl.cell b4 (p := ⟨w.heap.size, 0, none⟩) hg).trans c0; have m1 := (Bl.cell b4 (p := ⟨w.heap.size, 1, none⟩) hg).trans c1; have m2 := (Bl.cell b4 (p := ⟨w.heap.size, 2, none⟩) hg).trans c2; have m3 := (Bl.cell b4 (p := ⟨w.heap.size, 3, none⟩) hg).trans c3')))
      | (refine step_append_ap _ (by rfl) (.tmp 17) (.tmp 26) _ (by rfl) bytesT (hd3.ap.alloc (.cells #[.int .u8 x0.toNat, .int .u8 x1.toNat, .int .u8 x2.toNat, .int .u8 x3.toNat] 5)) (by rfl) (k := [x0, x1, x2, x3]) (RB.made w3 _ [x0, x1, x2, x3] _ _ rfl) (by rfl) rfl (by simp <;> omega) (by have := hd3.below.size; simp at this ⊢ <;> omega) ?_; intro A4 c4 w4 hd4; have b4 : Bl W w4 := Below.trans (Below.trans (show Below W.heap.size W w3 from b3) ((Bl.alloc w3 (.cells #[.int .u8 x0.toNat, .int .u8 x1.toNat, .int .u8 x2.toNat, .int .u8 x3.toNat] 5)).mono b3.size)) (hd4.below.mono (by simp <;> omega)); have m0 := (Bl.cell b4 (p := ⟨w.heap.size, 0, none⟩) hg).trans c0; have m1 := (Bl.cell b4 (p := ⟨w.heap.size, 1, none⟩) hg).trans c1; have m2 := (Bl.cell b4 (p := ⟨w.heap.size, 2, none⟩) hg).trans c2; have m3 := (Bl.cell b4 (p := ⟨w.heap.size, 3, none⟩) hg).trans c3'))
  all_goals
    have sy : SL w4 A4 c4 y := SL.of_apd hd4 hy.out
    replace h := h.step b4
    have b5 := bb.trans b4
    clear m0 m1 m2 m3 k0 k1 k2 k3 c0 c1 c2 c3' hd4 hd3 b3 b4 hg
    go_wp2_with fail
    rw [HYN.out]
    refine (hC.out _ _ _ sy).mono ?_
    rintro e w5 ⟨A5, c5, rfl, s5, b⟩
    replace h := h.step b; replace sy := sy.step b; replace b5 := b5.trans b; clear b
    go_wp2_with fail
    refine (crcPut_sl h x hx.out (by omega)).mono ?_
    rintro e w6 ⟨A6, c6, rfl, sx, _, b⟩
    replace h := h.step b; replace sy := sy.step b; replace s5 := s5.step b; replace b5 := b5.trans b; clear b
    go_wp2_with fail
    refine (hS.out _ _ _ _ _ sy sx).mono ?_
    rintro e w7 ⟨rfl, b⟩
    replace h := h.step b; replace s5 := s5.step b; replace b5 := b5.trans b; clear b sy sx
    go_wp2_with fail
    refine (crcCut_none (l := [0, 0, 0]) (by decide) (by decide)).mono ?_
    rintro e w8 ⟨A8, c8, rfl, s8, b⟩
    replace h := h.step b; replace s5 := s5.step b; replace b5 := b5.trans b; clear b s8
    go_wp2_with fail
    refine (alive12 _).mono ?_
    rintro e w9 ⟨rfl, b⟩
    replace h := h.step b; replace s5 := s5.step b; replace b5 := b5.trans b; clear b
    go_wp2
    go_ret
    exact ⟨rfl, b5⟩

theorem dCut_four (l : List UInt8) (x0 x1 x2 x3 : UInt8) : dCut (l ++ [x0, x1, x2, x3]) = if l ++ [x0, x1, x2, x3] = crcPut l then (l, 0) else ([], 8) := by
  have e : (l ++ [x0, x1, x2, x3]).take ((l ++ [x0, x1, x2, x3]).length - 4) = l := by
    rw [List.length_append]; simp
  unfold dCut
  rw [if_neg (by simp), e]
  by_cases h : crcPut l = l ++ [x0, x1, x2, x3]
  · rw [if_pos h, if_pos h.symm]
  · rw [if_neg h, if_neg (fun e => h e.symm)]

set_option maxRecDepth 100000 in
theorem crcCuts_walk (A : Option Addr) (c : Nat) (l : List UInt8) (x0 x1 x2 x3 : UInt8) (w : World) (h : SL w A c l) (hl : l.length ≤ maxLen) :
    Calls Try.prog 7 #[.slice A l.length c, .agg #[.int .u8 x0.toNat, .int .u8 x1.toNat, .int .u8 x2.toNat, .int .u8 x3.toNat]] w fun e w' => e = .returned (.bool true) ∧ Bl w w' := by
  unfold maxLen at hl
  by_cases hlen : 2000 < l.length
  · clear h
    go_enter Try.func7, Try.ntmps7
    go_wp2_with fail
    refine (alive12 _).mono ?_
    rintro e w1 ⟨rfl, b⟩
    go_wp2
    go_ret
    exact ⟨rfl, (Bl.alloc w _).trans b⟩
  have hd := dCut_four l x0 x1 x2 x3
  have hyl : l.length + 4 = (l ++ [x0, x1, x2, x3]).length := by simp
  have hxl : (crcPut l).length ≤ 2004 := by rw [crcPut_len]; omega
  have hc := h.cap
  by_cases he : l ++ [x0, x1, x2, x3] = crcPut l
  · rw [if_pos he] at hd
    have hC : ∀ (w : World) (A : Option Addr) (c : Nat), SL w A c (l ++ [x0, x1, x2, x3]) → Calls Try.prog 10 #[.slice A (l ++ [x0, x1, x2, x3]).length c] w (CutSL w l 0) := fun w A c hs => by
      have := crcCut_sl hs (by rw [← hyl]; omega)
      rwa [hd] at this
    have hS : ∀ (w : World) (A D : Option Addr) (c d : Nat), SL w A c (l ++ [x0, x1, x2, x3]) → SL w D d (crcPut l) → Calls Try.prog 17 #[.slice A (l ++ [x0, x1, x2, x3]).length c, .slice D (crcPut l).length d] w fun e w' => e = .returned (.bool true) ∧ Bl w w' := fun w A D c d h1 h2 => by
      rw [← he] at h2 ⊢
      exact same_sl h1 h2 (by rw [← hyl]; omega)
    by_cases h3 : l.length ≤ 3
    · exact crcCuts_yes3 A c l x0 x1 x2 x3 _ _ w h hlen hc h3 rfl hxl rfl hyl hC hS
    · exact crcCuts_yes4 A c l x0 x1 x2 x3 _ _ w h hlen hc (by omega) rfl hxl rfl hyl hC hS
  · rw [if_neg he] at hd
    have hC : ∀ (w : World) (A : Option Addr) (c : Nat), SL w A c (l ++ [x0, x1, x2, x3]) → Calls Try.prog 10 #[.slice A (l ++ [x0, x1, x2, x3]).length c] w (CutSL w [] 8) := fun w A c hs => by
      have := crcCut_sl hs (by rw [← hyl]; omega)
      rwa [hd] at this
    have hS : ∀ (w : World) (A D : Option Addr) (c d : Nat), SL w A c (l ++ [x0, x1, x2, x3]) → SL w D d (crcPut l) → Calls Try.prog 17 #[.slice A (l ++ [x0, x1, x2, x3]).length c, .slice D (crcPut l).length d] w fun e w' => e = .returned (.bool false) ∧ Bl w w' := fun w A D c d h1 h2 =>
      same_not_sl h1 h2 (by rw [← hyl]; omega) (by omega) he
    by_cases h3 : l.length ≤ 3
    · exact crcCuts_no3 A c l x0 x1 x2 x3 _ _ w h hlen hc h3 rfl hxl rfl hyl hC hS
    · exact crcCuts_no4 A c l x0 x1 x2 x3 _ _ w h hlen hc (by omega) rfl hxl rfl hyl hC hS
end Go.Proofs.Ytcbfcbkpbaefaaa
