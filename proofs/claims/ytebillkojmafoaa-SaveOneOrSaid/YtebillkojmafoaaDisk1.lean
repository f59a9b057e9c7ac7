/- The contracts of New, wrong, Up, Waits, Read of a disk. -/
import Derived.Test.YtebillkojmafoaaDisk
import Derived.Test.YtebillkojmafoaaClone0
import Derived.Outline
namespace Go.Proofs.Ytebillkojmafoaa
open Go.RowKit
set_option linter.unusedVariables false

theorem fresh_zero (w : World) : (zeroValue 46).run Try.prog w = .ok (.agg (dcells (List.replicate 64 (.slice none 0 0)) (List.replicate 64 (.slice none 0 0)) (.slice none 0 0) false)) w := by kernel_rfl
theorem Sv.nils (p : Nat) (X : Nat → Prop) (w : World) : Each (Sv p X w) (List.replicate 64 (.slice none 0 0)) (List.replicate 64 []) := Each.replicate_ 64 (Sv.nil_ p w)
theorem fresh_disk (X : Nat → Prop) (w : World) : IsDisk w.heap.size X (w.alloc (.cells (dcells (List.replicate 64 (.slice none 0 0)) (List.replicate 64 (.slice none 0 0)) (.slice none 0 0) false) 46)) DS.fresh :=
  ⟨_, _, [], none, 0, Blk.new w _ _, by simp, by simp, Sv.nils _ _ _, Sv.nils _ _ _, Each.nil_, World.ownsRow_nil _ _ _ _⟩
theorem fresh_safe (w : World) {b : Nat} (hb : b < w.heap.size) : Safe w.heap.size (w.alloc (.cells (dcells (List.replicate 64 (.slice none 0 0)) (List.replicate 64 (.slice none 0 0)) (.slice none 0 0) false) 46)) b := by
  refine ⟨by simp; omega, by omega, ?_⟩
  obtain ⟨_, _, _, A, c, h⟩ := fresh_disk (fun _ => True) w
  rw [h.rowOf_]
  intro e
  have := (h.own.lt b e).1
  omega

set_option maxRecDepth 100000 in
theorem dNew_any (X : Nat → Prop) (w : World) : Calls Try.prog 8 #[] w fun e w' => e = .returned (.pointer (some ⟨w.heap.size, 0, none⟩)) ∧ IsDisk w.heap.size X w' DS.fresh ∧ Bl w w' ∧ ∀ b, b < w.heap.size → Safe w.heap.size w' b := by
  have hb := fresh_zero
  have h1 := Lib.hid (fresh_disk X w)
  have h2 := Lib.hid (fun b (h : b < w.heap.size) => fresh_safe w h)
  obtain ⟨cs, hcs⟩ : ∃ cs, cs = dcells (List.replicate 64 (.slice none 0 0)) (List.replicate 64 (.slice none 0 0)) (.slice none 0 0) false := ⟨_, rfl⟩
  rw [← hcs] at hb h1 h2
  clear hcs
  go_enter Try.func8, Try.ntmps8
  go_wp2
  go_ret
  exact ⟨rfl, h1.out, Bl.alloc _ _, h2.out⟩

section
variable {p : Nat} {X : Nat → Prop} {w : World} {D : DS}
set_option maxRecDepth 100000 in
theorem dWrong_any (h : IsDisk p X w D) (at_ : Int) : Calls Try.prog 19 #[.pointer (some ⟨p, 0, none⟩), .int .i64 at_] w fun e w' => e = .returned (.int .i64 (eWrong D at_)) ∧ w = w' := by
  obtain ⟨vt, vs, fs, A, c, h⟩ := h
  have hc := h.dcell
  unfold eWrong
  by_cases hd : D.down = true
  · rw [if_pos hd]
    rw [hd] at hc
    go_enter Try.func19, Try.ntmps19
    go_wp2
    go_ret
    exact ⟨rfl, rfl⟩
  · rw [if_neg hd]
    rw [show D.down = false from by simpa using hd] at hc
    by_cases h1 : at_ < 0
    · rw [if_pos (.inl h1)]
      go_enter Try.func19, Try.ntmps19
      go_wp2
      go_ret
      exact ⟨rfl, rfl⟩
    · by_cases h2 : 64 ≤ at_
      · rw [if_pos (.inr h2)]
        go_enter Try.func19, Try.ntmps19
        go_wp2
        go_ret
        exact ⟨rfl, rfl⟩
      · rw [if_neg (by omega)]
        go_enter Try.func19, Try.ntmps19
        go_wp2
        go_ret
        exact ⟨rfl, rfl⟩

theorem dWaits_any (h : IsDisk p X w D) : Calls Try.prog 14 #[.pointer (some ⟨p, 0, none⟩)] w fun e w' => e = .returned (.int .i64 (D.waits.length : Nat)) ∧ w = w' := by
  obtain ⟨vt, vs, fs, A, c, h⟩ := h
  have hc := h.wcell
  clear h
  go_enter Try.func14, Try.ntmps14
  go_wp2
  go_ret
  exact ⟨rfl, rfl⟩

/-- The disk, one of its own cells stored anew. -/
theorem Dk.down_ {vt vs fs : List Value} {A : Option Addr} {c : Nat} (h : Dk p X w D vt vs fs A c) (b : Bool) : Dk p X (w.setCell ⟨p, 129, none⟩ (.bool b)) { D with down := b } vt vs fs A c := by
  have hf := Fr.setCell p w 129 (.bool b) (by omega)
  refine ⟨?_, h.lt, h.ls, h.et.mono fun _ _ x => x.fr hf, h.es.mono fun _ _ x => x.fr hf, h.ew.mono fun _ _ x => x.fr hf, ?_⟩
  · have := h.blk.set_ 129 (.bool b)
    rw [dcells_set_down h.lt h.ls] at this
    exact this
  · exact ownsRow_setCell_below h.own (by simp) _
theorem dUp_any (h : IsDisk p X w D) : Calls Try.prog 15 #[.pointer (some ⟨p, 0, none⟩)] w fun e w' => e = .returned (.tuple #[]) ∧ IsDisk p X w' (dUp D) ∧ Fr p w w' := by
  obtain ⟨vt, vs, fs, A, c, h⟩ := h
  have hc := h.dcell
  have hz := h.blk.frozen 129
  have H := Lib.hid (h.down_ false)
  clear h
  go_enter Try.func15, Try.ntmps15
  go_wp2
  go_end0
  exact ⟨rfl, H.out.is, Fr.setCell p w 129 _ (by omega)⟩

set_option maxRecDepth 100000 in
theorem dRead_any (h : IsDisk p X w D) (at_ : Int) (hl : ∀ x ∈ D.seen, x.length ≤ 140737488355328) : Calls Try.prog 16 #[.pointer (some ⟨p, 0, none⟩), .int .i64 at_] w fun e w' =>
    ∃ A c, e = .returned (.tuple #[.slice A (bRead D at_).length c, .int .i64 (eWrong D at_)]) ∧ SL w' A c (bRead D at_) ∧ Bl w w' ∧ (∀ a, A = some a → w.heap.size ≤ a.block) ∧ (0 < (bRead D at_).length → w'.ownsRow w.heap.size 5 1 (.slice A (bRead D at_).length c) (bRead D at_).length ((bRead D at_).map vb)) := by
  have hw := Lib.hid (dWrong_any h at_)
  obtain ⟨k, hk⟩ : ∃ k, k = eWrong D at_ := ⟨_, rfl⟩
  unfold bRead
  rw [← hk] at hw ⊢
  by_cases h0 : k = 0
  · rw [if_pos h0]
    subst h0
    obtain ⟨hd, h1, h2⟩ := eWrong_zero.1 hk.symm
    obtain ⟨i, rfl⟩ := Int.eq_ofNat_of_zero_le h1
    rw [Int.toNat_natCast]
    obtain ⟨vt, vs, fs, A, c, h⟩ := h
    have hi : i < 64 := by omega
    obtain ⟨B, d, e1, hs⟩ := h.seen_at hi
    obtain ⟨b, hb⟩ : ∃ b, b = D.seen[i]'(by rw [h.lenS]; exact hi) := ⟨_, rfl⟩
    have hbl : b.length ≤ 140737488355328 := hl b (by rw [hb]; exact List.getElem_mem _)
    rw [← hb] at e1 hs
    have HB : Hid (D.seen.getD i [] = b) := by show _ = _; rw [hb, List.getD_eq_getElem?_getD, List.getElem?_eq_getElem (by rw [h.lenS]; exact hi)]; rfl
    rw [HB.out]
    have hsl := hs.sl
    clear hk hl h hs hb HB hd
    go_enter Try.func16, Try.ntmps16
    go_wp2_with fail
    refine hw.out.mono ?_
    rintro e w' ⟨rfl, rfl⟩
    go_wp2_with fail
    refine (clone_sl _ _ _ _ hsl hbl).mono ?_
    rintro e w1 ⟨A1, c1, rfl, s1, b1, a1, o1⟩
    have O1 := Lib.hid o1; have A1' := Lib.hid a1; clear o1 a1
    go_wp2
    go_ret2
    exact ⟨A1, c1, rfl, s1, b1, A1'.out, O1.out⟩
  · rw [if_neg h0]
    have hn : ((k == 0) = false) := by simp [h0]
    have hn2 : ((k != 0) = true) := by simp [h0]
    clear hk hl h h0
    go_enter Try.func16, Try.ntmps16
    go_wp2_with fail
    refine hw.out.mono ?_
    rintro e w' ⟨rfl, rfl⟩
    go_wp2
    go_ret2
    exact ⟨none, 0, rfl, SL.nil_ _, Bl.refl _, (fun a h => by cases h), (fun h => by cases h)⟩
end
end Go.Proofs.Ytebillkojmafoaa
