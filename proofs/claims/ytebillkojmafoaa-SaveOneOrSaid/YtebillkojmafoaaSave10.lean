/- Save of a disk that is down, or of too many bytes; and with all that it tells named. -/
import Derived.Test.YtebillkojmafoaaSave9
namespace Go.Proofs.Ytebillkojmafoaa
open Go.RowKit
set_option linter.unusedVariables false

theorem save_out {w W : World} {t1 t2 : Value} {g1 g2 : Nat} (bl : Bl w W) (h1 : w.heap.size ≤ g1) (h2 : w.heap.size ≤ g2) (n12 : g1 ≠ g2) (k1 : Blk W g1 3 #[t1]) (k2 : Blk W g2 26 #[t2]) (u v : Value) :
    ∃ W6, W6 = (W.setCell ⟨g1, 0, none⟩ u).setCell ⟨g2, 0, none⟩ v ∧ Blk W6 g1 3 #[u] ∧ Blk W6 g2 26 #[v] ∧ Bl w W6 := by
  refine ⟨_, rfl, ?_, ?_, Below.setCell (Below.setCell bl (by exact h1) _) (by exact h2) _⟩
  · have := (k1.set_ 0 u).far (p := ⟨g2, 0, none⟩) n12 v
    simpa using this
  · have := (k2.far (p := ⟨g1, 0, none⟩) (Ne.symm n12) u).set_ 0 v
    simpa using this
section
variable {p : Nat} {X : Nat → Prop} {w : World} {D : DS}
set_option maxRecDepth 100000 in
set_option maxHeartbeats 1000000 in
theorem save_err (h : IsDisk p X w D) (hsh : Short D) (k : Int) (hk : eWrong D 0 = k) (hk0 : k ≠ 0) (A : Option Addr) (n cap : Nat) (stop : Int) :
    Calls Try.prog 9 #[.pointer (some ⟨p, 0, none⟩), .slice A n cap, .int .i64 stop] w fun e w' => e = .returned (.tuple #[.int .i64 0, .int .i64 k]) ∧ Bl w w' := by
  have a1 := Bl.alloc w (.cells #[.int .i64 stop] 3)
  have a2 := a1.trans (Bl.alloc _ (.cells #[.int .i64 0] 3))
  have a3 := a2.trans (Bl.alloc _ (.cells #[.int .i64 0] 26))
  have q1 := (new_at (w.alloc (.cells #[.int .i64 stop] 3)) 3 #[.int .i64 0] (w.heap.size + 1) (by simp)).alloc (.cells #[.int .i64 0] 26)
  have q2 := new_at ((w.alloc (.cells #[.int .i64 stop] 3)).alloc (.cells #[.int .i64 0] 3)) 26 #[.int .i64 0] (w.heap.size + 2) (by simp)
  have HD := Lib.hid h; have HB3 := Lib.hid a3; have Q1 := Lib.hid q1; have Q2 := Lib.hid q2; have HK := Lib.hid hk; have HS := Lib.hid hsh
  clear h a1 a2 a3 q1 q2 hk hsh
  go_enter Try.func9, Try.ntmps9
  go_wp2_with fail
  refine (dRead_to (HD.out.bl HB3.out) 0 HS.out (bRead D 0) k rfl HK.out).mono ?_
  rintro e w1 ⟨A1, c1, rfl, _, b1, _, _⟩
  have q1 := Q1.out.below b1 Q1.out.lt; have q2 := Q2.out.below b1 Q2.out.lt
  obtain ⟨W6, hW6, e1, e2, bl⟩ := save_out (HB3.out.trans b1) (by omega) (by omega) (by omega) q1 q2 (.int .i64 0) (.int .i64 k)
  have HW6 := Lib.hid hW6; have E1 := Lib.hid e1; have E2 := Lib.hid e2; have BL := Lib.hid bl
  have x1 := q1.cell 0; have x2 := q2.cell 0; have f1 := q1.frozen 0; have f2 := q2.frozen 0
  simp only [List.getElem?_toArray, List.getElem?_cons_zero] at x1 x2
  clear hW6 e1 e2 bl q1 q2 Q1 Q2 b1 HB3
  go_wp2
  rw [← HW6.out]
  exact bodyPost_ret (save_results E1.out E2.out rfl rfl) rfl ⟨rfl, BL.out⟩

set_option maxRecDepth 100000 in
set_option maxHeartbeats 1000000 in
theorem save_large (h : IsDisk p X w D) (hsh : Short D) (hk : eWrong D 0 = 0) (A : Option Addr) (n cap : Nat) (hn : 1984 < n) (stop : Int) :
    Calls Try.prog 9 #[.pointer (some ⟨p, 0, none⟩), .slice A n cap, .int .i64 stop] w fun e w' => e = .returned (.tuple #[.int .i64 0, .int .i64 6]) ∧ Bl w w' := by
  have a1 := Bl.alloc w (.cells #[.int .i64 stop] 3)
  have a2 := a1.trans (Bl.alloc _ (.cells #[.int .i64 0] 3))
  have a3 := a2.trans (Bl.alloc _ (.cells #[.int .i64 0] 26))
  have q1 := (new_at (w.alloc (.cells #[.int .i64 stop] 3)) 3 #[.int .i64 0] (w.heap.size + 1) (by simp)).alloc (.cells #[.int .i64 0] 26)
  have q2 := new_at ((w.alloc (.cells #[.int .i64 stop] 3)).alloc (.cells #[.int .i64 0] 3)) 26 #[.int .i64 0] (w.heap.size + 2) (by simp)
  have HD := Lib.hid h; have HB3 := Lib.hid a3; have Q1 := Lib.hid q1; have Q2 := Lib.hid q2; have HK := Lib.hid hk; have HS := Lib.hid hsh
  have hni : (1984 : Int) < (n : Int) := by omega
  clear h a1 a2 a3 q1 q2 hk hsh
  go_enter Try.func9, Try.ntmps9
  go_wp2_with fail
  refine (dRead_to (HD.out.bl HB3.out) 0 HS.out (bRead D 0) 0 rfl HK.out).mono ?_
  rintro e w1 ⟨A1, c1, rfl, _, b1, _, _⟩
  have q1 := Q1.out.below b1 Q1.out.lt; have q2 := Q2.out.below b1 Q2.out.lt
  obtain ⟨W6, hW6, e1, e2, bl⟩ := save_out (HB3.out.trans b1) (by omega) (by omega) (by omega) q1 q2 (.int .i64 0) (.int .i64 6)
  have HW6 := Lib.hid hW6; have E1 := Lib.hid e1; have E2 := Lib.hid e2; have BL := Lib.hid bl
  have x1 := q1.cell 0; have x2 := q2.cell 0; have f1 := q1.frozen 0; have f2 := q2.frozen 0
  simp only [List.getElem?_toArray, List.getElem?_cons_zero] at x1 x2
  clear hW6 e1 e2 bl q1 q2 Q1 Q2 b1 HB3
  go_wp2
  rw [← HW6.out]
  exact bodyPost_ret (save_results E1.out E2.out rfl rfl) rfl ⟨rfl, BL.out⟩

/-- With what it tells named. -/
theorem save_to (h : IsDisk p X w D) (hX : ∀ x, w.heap.size ≤ x → X x) (calm : Calm D) (hn : (lastD D).n < 2 ^ 63) (A : Option Addr) (cap len : Nat) (b : List UInt8) (hlen : len = b.length) (hs : SLs p w A cap b) (hb : b.length ≤ 1984) (stop : Int)
    (n : Int) (k : Int) (D' : DS) (h1 : (nSave D b stop : Int) = n) (h2 : eSave D b stop = k) (h3 : dSave D b stop = D') :
    Calls Try.prog 9 #[.pointer (some ⟨p, 0, none⟩), .slice A len cap, .int .i64 stop] w fun e w' => e = .returned (.tuple #[.int .i64 n, .int .i64 k]) ∧ IsDisk p X w' D' ∧ Fr p w w' := by
  subst hlen h1 h2 h3
  exact save_main h hX calm _ rfl hn A cap b hs hb stop
end

/-! ### What a save tells of a good disk -/
section
variable {D : DS} {n a : Nat} {b : List UInt8}
theorem Good.n_lt (h : Good D n a b) (hn : n < 2 ^ 63) : (lastD D).n < 2 ^ 63 := by
  rw [lastD_good h]; split
  · decide
  · exact hn
theorem Good.wrong (h : Good D n a b) : eWrong D 0 = 0 := eWrong_zero.2 ⟨h.calm.down, by omega, by omega⟩
/-- Saved whole. -/
theorem save_whole (h : Good D n a b) (hn : n < 2 ^ 63) {b' : List UInt8} (hb : b'.length ≤ 1984) {stop : Int} (hs : stop < 0 ∨ ((many b' + 3 : Nat) : Int) ≤ stop) :
    nSave D b' stop = many b' + 3 ∧ eSave D b' stop = 0 ∧ ∃ a', Good (dSave D b' stop) (n + 1) a' b' := by
  have hw := h.wrong
  have hno : ¬ (0 ≤ stop ∧ stop < (whole b' : Nat)) := fun h => by unfold whole at h; omega
  have e : nSave D b' stop = many b' + 3 := by
    unfold nSave; rw [if_neg (by rw [hw]; omega), if_neg hno]; rfl
  refine ⟨e, ?_, (nextOf (lastD D) b').a, ?_⟩
  · unfold eSave; rw [if_neg (by rw [hw]; decide), if_neg (by omega), if_neg hno]
  · unfold dSave; rw [e]; exact run_whole h hn hb
/-- Stopped. -/
theorem save_part (h : Good D n a b) {b' : List UInt8} (hb : b'.length ≤ 1984) {j : Nat} (hj : j < many b' + 3) :
    nSave D b' (j : Int) = j ∧ eSave D b' (j : Int) = 9 ∧ dSave D b' (j : Int) = runS (lastD D) b' D j := by
  have hw := h.wrong
  have hyes : 0 ≤ (j : Int) ∧ (j : Int) < (whole b' : Nat) := by unfold whole; omega
  have e : nSave D b' (j : Int) = j := by
    unfold nSave; rw [if_neg (by rw [hw]; omega), if_pos hyes]; simp
  refine ⟨e, ?_, by unfold dSave; rw [e]⟩
  unfold eSave; rw [if_neg (by rw [hw]; decide), if_neg (by omega), if_pos hyes]
end
end Go.Proofs.Ytebillkojmafoaa
