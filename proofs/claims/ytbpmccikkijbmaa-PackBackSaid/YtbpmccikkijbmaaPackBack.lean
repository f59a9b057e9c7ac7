/- PackBack's walk. -/
import Derived.Test.YtbpmccikkijbmaaUni13
import Derived.Test.YtbpmccikkijbmaaPlain13
import Derived.Test.YtbpmccikkijbmaaPackOne
import Derived.Deep.RegionHeld3
import Derived.Deep.DrawnRows
namespace Go.Proofs.Ytbpmccikkijbmaa
open Go.RowKit
set_option linter.unusedVariables false
attribute [local go_sem ↓] Go.wp_at_zero Go.wp_at_succ

set_option maxRecDepth 100000 in
set_option maxHeartbeats 2000000 in
theorem packBack_big (A D : Option Addr) (c d : Nat) (l k : List UInt8) (n : Nat) (m : Int) (w : World) (hlen : 1000 < l.length ∨ (¬ 1000 < l.length ∧ 1000 < k.length)) (hl : l.length ≤ 9223372036854775807) (hkl : k.length ≤ 9223372036854775807) :
    Calls Try.prog 5 #[.int .u64 n, .int .i64 m, .agg #[.slice A l.length c, .slice D k.length d]] w fun e w' => e = .returned (.bool true) ∧ Bl w w' := by
  rcases hlen with h1 | ⟨h1, h2⟩
  all_goals
    go_enter Try.func5, Try.ntmps5
    go_wp2_with fail
    refine (alive13_sl _).mono ?_
    rintro e w1 ⟨rfl, b⟩
    go_wp2
    go_ret
    exact ⟨rfl, (Bl.alloc w _).trans b⟩
theorem Bl.cell {w w' : World} {p : Addr} (h : Bl w w') (hp : p.block < w.heap.size) : w'.cell? p = w.cell? p := Below.cell h hp

set_option maxRecDepth 100000 in
set_option maxHeartbeats 4000000 in
theorem packBack_main (A D : Option Addr) (c d : Nat) (l k x y z v r1 r2 : List UInt8) (n : Nat) (m : Int) (w : World) (h : SL w A c l) (hk : SL w D d k) (h1 : ¬ 1000 < l.length) (h2 : ¬ 1000 < k.length)
    (hn : Hid (n < 2 ^ 64)) (hm : Hid ((Lit.int .i64 m).wf = true)) (hx : Hid (x = [] ++ enc n)) (hy : Hid (y = x ++ enc (zig m))) (hz : Hid (z = y ++ (enc l.length ++ l))) (xl : x.length ≤ 10) (yl : y.length ≤ 20) (zl : z.length ≤ 2000) (hv : Hid (z ++ k = v)) (hvl : Hid (z.length + k.length = v.length)) (d1 : Hid (dN v = n ∧ dR v = r1 ∧ dE v = 0)) (d2 : Hid (dZ r1 = m ∧ dR r1 = r2 ∧ dE r1 = 0)) (d3 : Hid (dRow r2 1000 = (l, k, 0))) (l1 : r1.length ≤ 4000) (l2 : r2.length ≤ 4000) :
    Calls Try.prog 5 #[.int .u64 n, .int .i64 m, .agg #[.slice A l.length c, .slice D k.length d]] w fun e w' => e = .returned (.bool true) ∧ Bl w w' := by
  have b0 := Bl.alloc w (.cells #[.slice A l.length c, .slice D k.length d] 38)
  go_enter Try.func5, Try.ntmps5
  go_wp2
  have c0 : (w.alloc (.cells #[.slice A l.length c, .slice D k.length d] 38)).cell? ⟨w.heap.size, 0, none⟩ = some (.slice A l.length c) := (cell_of_row _ _ 0 _ _ _ (heap_alloc_new w _)).trans rfl
  have c1' : (w.alloc (.cells #[.slice A l.length c, .slice D k.length d] 38)).cell? ⟨w.heap.size, 1, none⟩ = some (.slice D k.length d) := (cell_of_row _ _ 1 _ _ _ (heap_alloc_new w _)).trans rfl
  replace h := h.step b0; replace hk := hk.step b0
  have hz0 : w.heap.size < (w.alloc (.cells #[.slice A l.length c, .slice D k.length d] 38)).heap.size := by simp
  generalize w.alloc (.cells #[.slice A l.length c, .slice D k.length d] 38) = W at *
  go_region_held3 (fun w' => w'.cell? ⟨w.heap.size, 0, none⟩ = some (.slice A l.length c) ∧ w'.cell? ⟨w.heap.size, 1, none⟩ = some (.slice D k.length d)) (first | exact e3 | exact e2 | exact e1 | go_keep)
    (first
      | (refine step_append_ap _ (by rfl) (.tmp 34) (.tmp 36) _ (by rfl) bytesT ap3 (by rfl) hs3 (by rfl) rfl (by omega) b3.size ?_; intro A4 c4 w4 hd4; have e3 : _ ∧ _ := ⟨(Below.cell (Below.trans b3 hd4.below) z2).trans e2.1, (Below.cell (Below.trans b3 hd4.below) z2).trans e2.2⟩)
      | (go_at_call 15; refine (put_sl (SL.nil_ _) n x hx.out (by simp) hn.out).mono ?_; rintro e w1 ⟨A1, c1, rfl, s1, _, b1⟩; have e1 : _ ∧ _ := ⟨(Bl.cell b1 hz0).trans c0, (Bl.cell b1 hz0).trans c1'⟩; have z1 := Nat.lt_of_lt_of_le hz0 b1.size)
      | (go_at_call 17; refine (putInt_sl s1 m y hy.out (by omega) hm.out).mono ?_; rintro e w2 ⟨A2, c2, rfl, s2, _, b2⟩; have e2 : _ ∧ _ := ⟨(Bl.cell b2 z1).trans e1.1, (Bl.cell b2 z1).trans e1.2⟩; have z2 := Nat.lt_of_lt_of_le z1 b2.size)
      | (go_at_call 21; refine (putRow_sl s2 (h.step ((Bl.drewN W 1).trans (b1.trans b2))) z hz.out (by omega)).mono ?_; rintro e w3 ⟨A3, c3, rfl, s3, ap3, b3⟩; have e3 : _ ∧ _ := ⟨(Bl.cell b3 z2).trans e2.1, (Bl.cell b3 z2).trans e2.2⟩; have hs3 := (hk.step ((Bl.drewN W 1).trans (b1.trans (b2.trans b3)))).rb))
  have s4 : SL w4 A4 c4 v := SL.of_apd hd4 hv.out
  have b : Bl W w4 := (Bl.drewN W 1).trans (b1.trans (b2.trans (Below.trans b3 hd4.below)))
  replace h := h.step b; replace hk := hk.step b
  replace c0 := (Bl.cell b hz0).trans c0; replace c1' := (Bl.cell b hz0).trans c1'
  replace hz0 := Nat.lt_of_lt_of_le hz0 b.size
  replace b0 := b0.trans b
  clear b b1 b2 b3 s1 s2 s3 ap3 hs3 hd4 e1 e2 e3 z1 z2
  have D1 := take_sl s4 (by have := hvl.out; omega)
  rw [d1.out.1, d1.out.2.1, d1.out.2.2] at D1
  have H1 := Lib.hid D1
  clear D1
  go_wp2_with fail
  rw [hvl.out]
  refine H1.out.mono ?_
  rintro e w5 ⟨A5, c5, rfl, s5, b⟩
  replace h := h.step b; replace hk := hk.step b
  replace c0 := (Bl.cell b hz0).trans c0; replace c1' := (Bl.cell b hz0).trans c1'
  replace hz0 := Nat.lt_of_lt_of_le hz0 b.size
  replace b0 := b0.trans b; clear b s4
  have D1 := takeInt_sl s5 (by omega)
  rw [d2.out.1, d2.out.2.1, d2.out.2.2] at D1
  have H1 := Lib.hid D1
  clear D1
  go_wp2_with fail
  refine H1.out.mono ?_
  rintro e w6 ⟨A6, c6, rfl, s6, b⟩
  replace h := h.step b; replace hk := hk.step b
  replace c0 := (Bl.cell b hz0).trans c0; replace c1' := (Bl.cell b hz0).trans c1'
  replace hz0 := Nat.lt_of_lt_of_le hz0 b.size
  replace b0 := b0.trans b; clear b s5
  have D1 := takeRow_sl s6 1000 (by omega) (by decide)
  rw [d3.out] at D1
  have H1 := Lib.hid D1
  clear D1
  go_wp2_with fail
  refine H1.out.mono ?_
  rintro e w7 ⟨A7, c7, A8, c8, rfl, s7, s8, b⟩
  replace h := h.step b; replace hk := hk.step b
  replace c0 := (Bl.cell b hz0).trans c0; replace c1' := (Bl.cell b hz0).trans c1'
  replace hz0 := Nat.lt_of_lt_of_le hz0 b.size
  replace b0 := b0.trans b; clear b s6 H1
  go_wp2_with fail
  refine (alive13_sl _).mono ?_
  rintro e w8 ⟨rfl, b⟩
  replace h := h.step b; replace hk := hk.step b; replace s7 := s7.step b; replace s8 := s8.step b
  replace c0 := (Bl.cell b hz0).trans c0; replace c1' := (Bl.cell b hz0).trans c1'
  replace hz0 := Nat.lt_of_lt_of_le hz0 b.size
  replace b0 := b0.trans b; clear b
  go_wp2_with fail
  refine (same_sl s7 h (by omega)).mono ?_
  rintro e w9 ⟨rfl, b⟩
  replace hk := hk.step b; replace s8 := s8.step b
  replace c0 := (Bl.cell b hz0).trans c0; replace c1' := (Bl.cell b hz0).trans c1'
  replace hz0 := Nat.lt_of_lt_of_le hz0 b.size
  replace b0 := b0.trans b; clear b s7 h
  go_wp2_with fail
  refine (same_sl s8 hk (by omega)).mono ?_
  rintro e w10 ⟨rfl, b⟩
  replace b0 := b0.trans b; clear b s8 hk
  go_wp2
  go_ret
  exact ⟨rfl, b0⟩

theorem packBack_walk (A D : Option Addr) (c d : Nat) (l k : List UInt8) (n : Nat) (m : Int) (w : World) (h : SL w A c l) (hk : SL w D d k) (hl : l.length ≤ maxLen) (hkl : k.length ≤ maxLen) (hn : n < 2 ^ 64) (hm : (Lit.int .i64 m).wf = true) :
    Calls Try.prog 5 #[.int .u64 n, .int .i64 m, .agg #[.slice A l.length c, .slice D k.length d]] w fun e w' => e = .returned (.bool true) ∧ Bl w w' := by
  unfold maxLen at hl hkl
  by_cases h1 : 1000 < l.length
  · exact packBack_big A D c d l k n m w (.inl h1) hl hkl
  by_cases h2 : 1000 < k.length
  · exact packBack_big A D c d l k n m w (.inr ⟨h1, h2⟩) hl hkl
  have hz := zig_lt (i64_bd hm).1 (i64_bd hm).2
  have e1 := enc_len10 hn
  have e2 := enc_len10 hz
  have e3 := enc_len10 (n := l.length) (by omega)
  have d3 : dRow (enc l.length ++ (l ++ k)) 1000 = (l, k, 0) := by
    unfold dRow
    rw [dec_enc (by omega)]
    simp only
    rw [if_neg (by omega), if_neg (by simp)]
    simp
  have d2 : dec (enc (zig m) ++ (enc l.length ++ (l ++ k))) = some (zig m, enc l.length ++ (l ++ k)) := dec_enc hz _
  have d1 : dec (enc n ++ (enc (zig m) ++ (enc l.length ++ (l ++ k)))) = some (n, enc (zig m) ++ (enc l.length ++ (l ++ k))) := dec_enc hn _
  refine packBack_main A D c d l k _ _ _ (enc n ++ (enc (zig m) ++ (enc l.length ++ (l ++ k)))) (enc (zig m) ++ (enc l.length ++ (l ++ k))) (enc l.length ++ (l ++ k)) n m w h hk h1 h2 hn hm rfl rfl rfl ?_ ?_ ?_ ?_ ?_ ⟨?_, ?_, ?_⟩ ⟨?_, ?_, ?_⟩ d3 ?_ ?_
  · simpa using e1
  · simp; omega
  · simp; omega
  · simp [Hid]
  · simp only [Hid, List.length_append, List.length_nil]; omega
  · unfold dN; rw [d1]
  · unfold dR; rw [d1]
  · unfold dE; rw [d1]
  · unfold dZ; rw [d2]; exact zag_zig m
  · unfold dR; rw [d2]
  · unfold dE; rw [d2]
  · simp; omega
  · simp; omega
end Go.Proofs.Ytbpmccikkijbmaa
