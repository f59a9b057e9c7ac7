/- The contract of ratchetref24.Do: the ways without a call. -/
import Derived.Test.YtmjdmigjhllmeaaDo
namespace Go.Proofs.Ytmjdmigjhllmeaa
open Go.RowKit
set_option linter.unusedVariables false

theorem rdc_one {p : Nat} {X : Nat → Prop} {w : World} {D : DS} {rs : List Value} {A : Option Addr} {c n : Nat} (h : RD p X w D rs A c) (down : Bool) : (rdc rs (.slice A n c) down).toArray.all (·.oneCell') = true := by
  refine all_oneCell_toArray fun v hv => ?_
  unfold rdc at hv
  rcases List.mem_append.1 hv with h' | h'
  · exact h.et.one v h'
  · simp at h'
    rcases h' with h' | h' <;> subst h' <;> rfl

section
variable {p : Nat} {X N : Nat → Prop} {w : World} {D0 : DS}
set_option maxRecDepth 100000 in
set_option maxHeartbeats 1000000 in
theorem do_down (h : IsDisk p X w D0) {D : DS} {rs : List Value} {A : Option Addr} {c : Nat} (hr : RD p N w D rs A c) (hd : D.down = true) (kind : Int) (k4 : kind ≠ 4) (k3 : kind ≠ 3) (at_ : Int) (B K : Option Addr) (n bl d bc : Nat)  :
    Calls Try.prog 12 #[.agg (rdc rs (.slice A D.waits.length c) D.down).toArray, .agg #[.int .i64 kind, .int .i64 at_, .slice B bl bc, .slice K n d]] w (GivesDo p N w D [] 10) := by
  obtain ⟨zs, hzs⟩ : ∃ zs, zs = rdc (List.replicate 64 (Value.slice none 0 0)) (.slice none 0 0) false := ⟨_, rfl⟩
  obtain ⟨cs, hcs⟩ : ∃ cs, cs = rdc rs (.slice A D.waits.length c) D.down := ⟨_, rfl⟩
  have hz := zero_rdc
  rw [← hzs] at hz
  rw [← hcs]
  obtain ⟨W, hW, b1, q1, q2, q3, q4, hsz⟩ := do_head h cs [.int .i64 kind, .int .i64 at_, .slice B bl bc, .slice K n d] zs
  have hcl : cs.length = 66 := by rw [hcs, rdc_len hr.lr]
  have hzl : zs.length = 66 := by rw [hzs, rdc_len (by simp)]
  have hrw := (hr.weak (Y := XD N w) (fun b hb hn => .inl ⟨hb, hn⟩)).fr (Fr.of_bl b1 h.plt)
  have ho := rdc_one (n := D.waits.length) hr D.down
  rw [← hcs] at ho
  obtain ⟨W1, W2, hW1, hW2, t1, t2, t3, hout⟩ := do_end (b := []) (k := 10) h b1 (by omega) hrw (SLs.nil_ _ _) (fun a h => by cases h) q3 (by simp [hzl]) q4 rfl cs hcs
  have c0 := q2.cell 0
  simp only [List.getElem?_toArray, List.getElem?_cons_zero] at c0
  have c65 := q1.cell 65
  rw [List.getElem?_toArray, hcs, rdc_down hr.lr, hd] at c65
  have R1 := Lib.hid q1.rangeL
  have T3 := Lib.hid (q3.there (o := 0) (n := cs.toArray.size) (by simp [hcl, hzl]))
  have HO := Lib.hid ho
  have HCL := Lib.hid hcl
  have x0 := t1.cell 0; have x1 := t1.cell 1; have y0 := t1.frozen 0; have y1 := t1.frozen 1
  simp only [List.getElem?_toArray, List.getElem?_cons_zero, List.getElem?_cons_succ] at x0 x1
  have T2 := Lib.hid t2; have T4 := Lib.hid t3; have HOUT := Lib.hid hout
  have HW := Lib.hid hW; have HW1 := Lib.hid hW1; have HW2 := Lib.hid (show W2 = (W1.setCell ⟨w.heap.size + 1 + 1 + 1, 0, none⟩ (.slice none 0 0)).setCell ⟨w.heap.size + 1 + 1 + 1, 1, none⟩ (.int .i64 10) from hW2)
  have X1 := Lib.hid (And.intro x0 (And.intro x1 (And.intro y0 y1)))
  have m4 : (kind == 4) = false := by simpa using k4
  have m3 : (kind == 3) = false := by simpa using k3
  rw [hW] at c0 c65
  clear h hr hd hcs hzs hW b1 q1 q2 q3 q4 hsz hcl hzl hrw ho hW1 hW2 t1 t2 t3 hout x0 x1 y0 y1
  go_enter Try.func12, Try.ntmps12
  go_wp2_with (first
    | (refine wpList_load_mid rfl 31 (.tmp 2) (by rfl) w.heap.size 0 (by rfl) cs _ (by rw [← HW.out]; exact R1.out) Try.underlying31 rdc_isRow (by rw [size_rdc, HCL.out]) ?_)
    | (refine wpList_store_mid rfl 31 (.tmp 4) (.tmp 33) (by rfl) (w.heap.size + 2) 0 cs.toArray (by rfl) (by rfl) (by rw [← HW.out]; exact T3.out) (by rw [size_rdc, List.size_toArray, HCL.out]) HO.out ?_; rw [← HW.out]; rw [show (W.setCells (w.heap.size + 2) 0 (cs).toArray.toList) = W1 from HW1.out.symm]; obtain ⟨x0, x1, y0, y1⟩ := X1.out))
  rw [← HW2.out]
  exact do_ret HCL.out T2.out T4.out rfl rfl rfl HOUT.out

set_option maxRecDepth 100000 in
set_option maxHeartbeats 1000000 in
theorem do_crash_down (h : IsDisk p X w D0) {D : DS} {rs : List Value} {A : Option Addr} {c : Nat} (hr : RD p N w D rs A c) (hd : D.down = true) (at_ : Int) (B K : Option Addr) (n bl d bc : Nat)  :
    Calls Try.prog 12 #[.agg (rdc rs (.slice A D.waits.length c) D.down).toArray, .agg #[.int .i64 3, .int .i64 at_, .slice B bl bc, .slice K n d]] w (GivesDo p N w D [] 0) := by
  obtain ⟨zs, hzs⟩ : ∃ zs, zs = rdc (List.replicate 64 (Value.slice none 0 0)) (.slice none 0 0) false := ⟨_, rfl⟩
  obtain ⟨cs, hcs⟩ : ∃ cs, cs = rdc rs (.slice A D.waits.length c) D.down := ⟨_, rfl⟩
  have hz := zero_rdc
  rw [← hzs] at hz
  rw [← hcs]
  obtain ⟨W, hW, b1, q1, q2, q3, q4, hsz⟩ := do_head h cs [.int .i64 3, .int .i64 at_, .slice B bl bc, .slice K n d] zs
  have hcl : cs.length = 66 := by rw [hcs, rdc_len hr.lr]
  have hzl : zs.length = 66 := by rw [hzs, rdc_len (by simp)]
  have hrw := (hr.weak (Y := XD N w) (fun b hb hn => .inl ⟨hb, hn⟩)).fr (Fr.of_bl b1 h.plt)
  have ho := rdc_one (n := D.waits.length) hr D.down
  rw [← hcs] at ho
  obtain ⟨W1, W2, hW1, hW2, t1, t2, t3, hout⟩ := do_end (b := []) (k := 0) h b1 (by omega) hrw (SLs.nil_ _ _) (fun a h => by cases h) q3 (by simp [hzl]) q4 rfl cs hcs
  have c0 := q2.cell 0
  simp only [List.getElem?_toArray, List.getElem?_cons_zero] at c0
  have c65 := q1.cell 65
  rw [List.getElem?_toArray, hcs, rdc_down hr.lr, hd] at c65
  have R1 := Lib.hid q1.rangeL
  have T3 := Lib.hid (q3.there (o := 0) (n := cs.toArray.size) (by simp [hcl, hzl]))
  have HO := Lib.hid ho
  have HCL := Lib.hid hcl
  have x0 := t1.cell 0; have x1 := t1.cell 1; have y0 := t1.frozen 0; have y1 := t1.frozen 1
  simp only [List.getElem?_toArray, List.getElem?_cons_zero, List.getElem?_cons_succ] at x0 x1
  have T2 := Lib.hid t2; have T4 := Lib.hid t3; have HOUT := Lib.hid hout
  have HW := Lib.hid hW; have HW1 := Lib.hid hW1; have HW2 := Lib.hid (show W2 = (W1.setCell ⟨w.heap.size + 1 + 1 + 1, 0, none⟩ (.slice none 0 0)).setCell ⟨w.heap.size + 1 + 1 + 1, 1, none⟩ (.int .i64 0) from hW2)
  have X1 := Lib.hid (And.intro x0 (And.intro x1 (And.intro y0 y1)))
  rw [hW] at c0 c65
  clear h hr hd hcs hzs hW b1 q1 q2 q3 q4 hsz hcl hzl hrw ho hW1 hW2 t1 t2 t3 hout x0 x1 y0 y1
  go_enter Try.func12, Try.ntmps12
  go_wp2_with (first
    | (refine wpList_load_mid rfl 31 (.tmp 2) (by rfl) w.heap.size 0 (by rfl) cs _ (by rw [← HW.out]; exact R1.out) Try.underlying31 rdc_isRow (by rw [size_rdc, HCL.out]) ?_)
    | (refine wpList_store_mid rfl 31 (.tmp 4) (.tmp 29) (by rfl) (w.heap.size + 2) 0 cs.toArray (by rfl) (by rfl) (by rw [← HW.out]; exact T3.out) (by rw [size_rdc, List.size_toArray, HCL.out]) HO.out ?_; rw [← HW.out]; rw [show (W.setCells (w.heap.size + 2) 0 (cs).toArray.toList) = W1 from HW1.out.symm]; obtain ⟨x0, x1, y0, y1⟩ := X1.out))
  rw [← HW2.out]
  exact do_ret HCL.out T2.out T4.out rfl rfl rfl HOUT.out

set_option maxRecDepth 100000 in
set_option maxHeartbeats 1000000 in
theorem do_range_lo (h : IsDisk p X w D0) {D : DS} {rs : List Value} {A : Option Addr} {c : Nat} (hr : RD p N w D rs A c) (hd : D.down = false) (kind : Int) (k4 : kind ≠ 4) (k3 : kind ≠ 3) (k1 : kind ≠ 1) (at_ : Int) (B K : Option Addr) (n bl d bc : Nat) (h1 : at_ < 0) :
    Calls Try.prog 12 #[.agg (rdc rs (.slice A D.waits.length c) D.down).toArray, .agg #[.int .i64 kind, .int .i64 at_, .slice B bl bc, .slice K n d]] w (GivesDo p N w D [] 1) := by
  obtain ⟨zs, hzs⟩ : ∃ zs, zs = rdc (List.replicate 64 (Value.slice none 0 0)) (.slice none 0 0) false := ⟨_, rfl⟩
  obtain ⟨cs, hcs⟩ : ∃ cs, cs = rdc rs (.slice A D.waits.length c) D.down := ⟨_, rfl⟩
  have hz := zero_rdc
  rw [← hzs] at hz
  rw [← hcs]
  obtain ⟨W, hW, b1, q1, q2, q3, q4, hsz⟩ := do_head h cs [.int .i64 kind, .int .i64 at_, .slice B bl bc, .slice K n d] zs
  have hcl : cs.length = 66 := by rw [hcs, rdc_len hr.lr]
  have hzl : zs.length = 66 := by rw [hzs, rdc_len (by simp)]
  have hrw := (hr.weak (Y := XD N w) (fun b hb hn => .inl ⟨hb, hn⟩)).fr (Fr.of_bl b1 h.plt)
  have ho := rdc_one (n := D.waits.length) hr D.down
  rw [← hcs] at ho
  obtain ⟨W1, W2, hW1, hW2, t1, t2, t3, hout⟩ := do_end (b := []) (k := 1) h b1 (by omega) hrw (SLs.nil_ _ _) (fun a h => by cases h) q3 (by simp [hzl]) q4 rfl cs hcs
  have c0 := q2.cell 0
  simp only [List.getElem?_toArray, List.getElem?_cons_zero] at c0
  have c65 := q1.cell 65
  rw [List.getElem?_toArray, hcs, rdc_down hr.lr, hd] at c65
  have c1 := q2.cell 1
  simp only [List.getElem?_toArray, List.getElem?_cons_zero, List.getElem?_cons_succ] at c1
  have R1 := Lib.hid q1.rangeL
  have T3 := Lib.hid (q3.there (o := 0) (n := cs.toArray.size) (by simp [hcl, hzl]))
  have HO := Lib.hid ho
  have HCL := Lib.hid hcl
  have x0 := t1.cell 0; have x1 := t1.cell 1; have y0 := t1.frozen 0; have y1 := t1.frozen 1
  simp only [List.getElem?_toArray, List.getElem?_cons_zero, List.getElem?_cons_succ] at x0 x1
  have T2 := Lib.hid t2; have T4 := Lib.hid t3; have HOUT := Lib.hid hout
  have HW := Lib.hid hW; have HW1 := Lib.hid hW1; have HW2 := Lib.hid (show W2 = (W1.setCell ⟨w.heap.size + 1 + 1 + 1, 0, none⟩ (.slice none 0 0)).setCell ⟨w.heap.size + 1 + 1 + 1, 1, none⟩ (.int .i64 1) from hW2)
  have X1 := Lib.hid (And.intro x0 (And.intro x1 (And.intro y0 y1)))
  have m4 : (kind == 4) = false := by simpa using k4
  have m3 : (kind == 3) = false := by simpa using k3
  have m1 : (kind == 1) = false := by simpa using k1
  rw [hW] at c0 c65 c1
  clear h hr hd hcs hzs hW b1 q1 q2 q3 q4 hsz hcl hzl hrw ho hW1 hW2 t1 t2 t3 hout x0 x1 y0 y1
  go_enter Try.func12, Try.ntmps12
  go_wp2_with (first
    | (refine wpList_load_mid rfl 31 (.tmp 2) (by rfl) w.heap.size 0 (by rfl) cs _ (by rw [← HW.out]; exact R1.out) Try.underlying31 rdc_isRow (by rw [size_rdc, HCL.out]) ?_)
    | (refine wpList_store_mid rfl 31 (.tmp 4) (.tmp 55) (by rfl) (w.heap.size + 2) 0 cs.toArray (by rfl) (by rfl) (by rw [← HW.out]; exact T3.out) (by rw [size_rdc, List.size_toArray, HCL.out]) HO.out ?_; rw [← HW.out]; rw [show (W.setCells (w.heap.size + 2) 0 (cs).toArray.toList) = W1 from HW1.out.symm]; obtain ⟨x0, x1, y0, y1⟩ := X1.out))
  rw [← HW2.out]
  exact do_ret HCL.out T2.out T4.out rfl rfl rfl HOUT.out

set_option maxRecDepth 100000 in
set_option maxHeartbeats 1000000 in
theorem do_range_hi (h : IsDisk p X w D0) {D : DS} {rs : List Value} {A : Option Addr} {c : Nat} (hr : RD p N w D rs A c) (hd : D.down = false) (kind : Int) (k4 : kind ≠ 4) (k3 : kind ≠ 3) (k1 : kind ≠ 1) (at_ : Int) (B K : Option Addr) (n bl d bc : Nat) (h1 : ¬ at_ < 0) (h2 : 64 ≤ at_) :
    Calls Try.prog 12 #[.agg (rdc rs (.slice A D.waits.length c) D.down).toArray, .agg #[.int .i64 kind, .int .i64 at_, .slice B bl bc, .slice K n d]] w (GivesDo p N w D [] 1) := by
  obtain ⟨zs, hzs⟩ : ∃ zs, zs = rdc (List.replicate 64 (Value.slice none 0 0)) (.slice none 0 0) false := ⟨_, rfl⟩
  obtain ⟨cs, hcs⟩ : ∃ cs, cs = rdc rs (.slice A D.waits.length c) D.down := ⟨_, rfl⟩
  have hz := zero_rdc
  rw [← hzs] at hz
  rw [← hcs]
  obtain ⟨W, hW, b1, q1, q2, q3, q4, hsz⟩ := do_head h cs [.int .i64 kind, .int .i64 at_, .slice B bl bc, .slice K n d] zs
  have hcl : cs.length = 66 := by rw [hcs, rdc_len hr.lr]
  have hzl : zs.length = 66 := by rw [hzs, rdc_len (by simp)]
  have hrw := (hr.weak (Y := XD N w) (fun b hb hn => .inl ⟨hb, hn⟩)).fr (Fr.of_bl b1 h.plt)
  have ho := rdc_one (n := D.waits.length) hr D.down
  rw [← hcs] at ho
  obtain ⟨W1, W2, hW1, hW2, t1, t2, t3, hout⟩ := do_end (b := []) (k := 1) h b1 (by omega) hrw (SLs.nil_ _ _) (fun a h => by cases h) q3 (by simp [hzl]) q4 rfl cs hcs
  have c0 := q2.cell 0
  simp only [List.getElem?_toArray, List.getElem?_cons_zero] at c0
  have c65 := q1.cell 65
  rw [List.getElem?_toArray, hcs, rdc_down hr.lr, hd] at c65
  have c1 := q2.cell 1
  simp only [List.getElem?_toArray, List.getElem?_cons_zero, List.getElem?_cons_succ] at c1
  have R1 := Lib.hid q1.rangeL
  have T3 := Lib.hid (q3.there (o := 0) (n := cs.toArray.size) (by simp [hcl, hzl]))
  have HO := Lib.hid ho
  have HCL := Lib.hid hcl
  have x0 := t1.cell 0; have x1 := t1.cell 1; have y0 := t1.frozen 0; have y1 := t1.frozen 1
  simp only [List.getElem?_toArray, List.getElem?_cons_zero, List.getElem?_cons_succ] at x0 x1
  have T2 := Lib.hid t2; have T4 := Lib.hid t3; have HOUT := Lib.hid hout
  have HW := Lib.hid hW; have HW1 := Lib.hid hW1; have HW2 := Lib.hid (show W2 = (W1.setCell ⟨w.heap.size + 1 + 1 + 1, 0, none⟩ (.slice none 0 0)).setCell ⟨w.heap.size + 1 + 1 + 1, 1, none⟩ (.int .i64 1) from hW2)
  have X1 := Lib.hid (And.intro x0 (And.intro x1 (And.intro y0 y1)))
  have m4 : (kind == 4) = false := by simpa using k4
  have m3 : (kind == 3) = false := by simpa using k3
  have m1 : (kind == 1) = false := by simpa using k1
  rw [hW] at c0 c65 c1
  clear h hr hd hcs hzs hW b1 q1 q2 q3 q4 hsz hcl hzl hrw ho hW1 hW2 t1 t2 t3 hout x0 x1 y0 y1
  go_enter Try.func12, Try.ntmps12
  go_wp2_with (first
    | (refine wpList_load_mid rfl 31 (.tmp 2) (by rfl) w.heap.size 0 (by rfl) cs _ (by rw [← HW.out]; exact R1.out) Try.underlying31 rdc_isRow (by rw [size_rdc, HCL.out]) ?_)
    | (refine wpList_store_mid rfl 31 (.tmp 4) (.tmp 55) (by rfl) (w.heap.size + 2) 0 cs.toArray (by rfl) (by rfl) (by rw [← HW.out]; exact T3.out) (by rw [size_rdc, List.size_toArray, HCL.out]) HO.out ?_; rw [← HW.out]; rw [show (W.setCells (w.heap.size + 2) 0 (cs).toArray.toList) = W1 from HW1.out.symm]; obtain ⟨x0, x1, y0, y1⟩ := X1.out))
  rw [← HW2.out]
  exact do_ret HCL.out T2.out T4.out rfl rfl rfl HOUT.out

set_option maxRecDepth 100000 in
set_option maxHeartbeats 1000000 in
theorem do_large (h : IsDisk p X w D0) {D : DS} {rs : List Value} {A : Option Addr} {c : Nat} (hr : RD p N w D rs A c) (hd : D.down = false) (kind : Int) (k4 : kind ≠ 4) (k3 : kind ≠ 3) (k1 : kind ≠ 1) (k2 : kind ≠ 2) (at_ : Int) (B K : Option Addr) (n bl d bc : Nat) (h1 : ¬ at_ < 0) (h2 : ¬ 64 ≤ at_) (h3 : 64 < bl) :
    Calls Try.prog 12 #[.agg (rdc rs (.slice A D.waits.length c) D.down).toArray, .agg #[.int .i64 kind, .int .i64 at_, .slice B bl bc, .slice K n d]] w (GivesDo p N w D [] 6) := by
  obtain ⟨zs, hzs⟩ : ∃ zs, zs = rdc (List.replicate 64 (Value.slice none 0 0)) (.slice none 0 0) false := ⟨_, rfl⟩
  obtain ⟨cs, hcs⟩ : ∃ cs, cs = rdc rs (.slice A D.waits.length c) D.down := ⟨_, rfl⟩
  have hz := zero_rdc
  rw [← hzs] at hz
  rw [← hcs]
  obtain ⟨W, hW, b1, q1, q2, q3, q4, hsz⟩ := do_head h cs [.int .i64 kind, .int .i64 at_, .slice B bl bc, .slice K n d] zs
  have hcl : cs.length = 66 := by rw [hcs, rdc_len hr.lr]
  have hzl : zs.length = 66 := by rw [hzs, rdc_len (by simp)]
  have hrw := (hr.weak (Y := XD N w) (fun b hb hn => .inl ⟨hb, hn⟩)).fr (Fr.of_bl b1 h.plt)
  have ho := rdc_one (n := D.waits.length) hr D.down
  rw [← hcs] at ho
  obtain ⟨W1, W2, hW1, hW2, t1, t2, t3, hout⟩ := do_end (b := []) (k := 6) h b1 (by omega) hrw (SLs.nil_ _ _) (fun a h => by cases h) q3 (by simp [hzl]) q4 rfl cs hcs
  have c0 := q2.cell 0
  simp only [List.getElem?_toArray, List.getElem?_cons_zero] at c0
  have c65 := q1.cell 65
  rw [List.getElem?_toArray, hcs, rdc_down hr.lr, hd] at c65
  have c1 := q2.cell 1
  simp only [List.getElem?_toArray, List.getElem?_cons_zero, List.getElem?_cons_succ] at c1
  have c2 := q2.cell 2
  simp only [List.getElem?_toArray, List.getElem?_cons_zero, List.getElem?_cons_succ] at c2
  have R1 := Lib.hid q1.rangeL
  have T3 := Lib.hid (q3.there (o := 0) (n := cs.toArray.size) (by simp [hcl, hzl]))
  have HO := Lib.hid ho
  have HCL := Lib.hid hcl
  have x0 := t1.cell 0; have x1 := t1.cell 1; have y0 := t1.frozen 0; have y1 := t1.frozen 1
  simp only [List.getElem?_toArray, List.getElem?_cons_zero, List.getElem?_cons_succ] at x0 x1
  have T2 := Lib.hid t2; have T4 := Lib.hid t3; have HOUT := Lib.hid hout
  have HW := Lib.hid hW; have HW1 := Lib.hid hW1; have HW2 := Lib.hid (show W2 = (W1.setCell ⟨w.heap.size + 1 + 1 + 1, 0, none⟩ (.slice none 0 0)).setCell ⟨w.heap.size + 1 + 1 + 1, 1, none⟩ (.int .i64 6) from hW2)
  have X1 := Lib.hid (And.intro x0 (And.intro x1 (And.intro y0 y1)))
  have m4 : (kind == 4) = false := by simpa using k4
  have m3 : (kind == 3) = false := by simpa using k3
  have m1 : (kind == 1) = false := by simpa using k1
  have m2 : (kind == 2) = false := by simpa using k2
  rw [hW] at c0 c65 c1 c2
  clear h hr hd hcs hzs hW b1 q1 q2 q3 q4 hsz hcl hzl hrw ho hW1 hW2 t1 t2 t3 hout x0 x1 y0 y1
  go_enter Try.func12, Try.ntmps12
  go_wp2_with (first
    | (refine wpList_load_mid rfl 31 (.tmp 2) (by rfl) w.heap.size 0 (by rfl) cs _ (by rw [← HW.out]; exact R1.out) Try.underlying31 rdc_isRow (by rw [size_rdc, HCL.out]) ?_)
    | (refine wpList_store_mid rfl 31 (.tmp 4) (.tmp 75) (by rfl) (w.heap.size + 2) 0 cs.toArray (by rfl) (by rfl) (by rw [← HW.out]; exact T3.out) (by rw [size_rdc, List.size_toArray, HCL.out]) HO.out ?_; rw [← HW.out]; rw [show (W.setCells (w.heap.size + 2) 0 (cs).toArray.toList) = W1 from HW1.out.symm]; obtain ⟨x0, x1, y0, y1⟩ := X1.out))
  rw [← HW2.out]
  exact do_ret HCL.out T2.out T4.out rfl rfl rfl HOUT.out

set_option maxRecDepth 100000 in
set_option maxHeartbeats 1000000 in
theorem do_up (h : IsDisk p X w D0) {D : DS} {rs : List Value} {A : Option Addr} {c : Nat} (hr : RD p N w D rs A c) (at_ : Int) (B K : Option Addr) (n bl d bc : Nat)  :
    Calls Try.prog 12 #[.agg (rdc rs (.slice A D.waits.length c) D.down).toArray, .agg #[.int .i64 4, .int .i64 at_, .slice B bl bc, .slice K n d]] w (GivesDo p N w (dUp D) [] 0) := by
  obtain ⟨zs, hzs⟩ : ∃ zs, zs = rdc (List.replicate 64 (Value.slice none 0 0)) (.slice none 0 0) false := ⟨_, rfl⟩
  obtain ⟨cs, hcs⟩ : ∃ cs, cs = rdc rs (.slice A D.waits.length c) D.down := ⟨_, rfl⟩
  have hz := zero_rdc
  rw [← hzs] at hz
  rw [← hcs]
  obtain ⟨W, hW, b1, q1, q2, q3, q4, hsz⟩ := do_head h cs [.int .i64 4, .int .i64 at_, .slice B bl bc, .slice K n d] zs
  have hcl : cs.length = 66 := by rw [hcs, rdc_len hr.lr]
  have hzl : zs.length = 66 := by rw [hzs, rdc_len (by simp)]
  have hrw := (hr.weak (Y := XD N w) (fun b hb hn => .inl ⟨hb, hn⟩)).fr (Fr.of_bl b1 h.plt)
  have ho := rdc_one (n := D.waits.length) hr D.down
  rw [← hcs] at ho
  have hcs' : cs.set 65 (.bool false) = rdc rs (.slice A (dUp D).waits.length c) (dUp D).down := by rw [hcs, rdc_set_down hr.lr]; rfl
  obtain ⟨W', hW', b1', q1', q2', q3', q4', hsz'⟩ := do_head h (cs.set 65 (.bool false)) [.int .i64 4, .int .i64 at_, .slice B bl bc, .slice K n d] zs
  have hrw' := (hr.weak (Y := XD N w) (fun b hb hn => .inl ⟨hb, hn⟩)).fr (Fr.of_bl b1' h.plt)
  have hr3 : RD p (XD N w) W' (dUp D) rs A c := ⟨hrw'.lr, hrw'.et, hrw'.pw, hrw'.cap⟩
  obtain ⟨W1, W2, hW1, hW2, t1, t2, t3, hout⟩ := do_end (b := []) (k := 0) h b1' (by omega) hr3 (SLs.nil_ _ _) (fun a h => by cases h) q3' (by simp [hzl]) q4' rfl _ hcs'
  have z65 := q1.frozen 65
  obtain ⟨y65, c65⟩ : ∃ y, W.cell? ⟨w.heap.size, 65, none⟩ = some y := by rw [q1.cell, List.getElem?_toArray]; exact ⟨_, List.getElem?_eq_getElem (by omega)⟩
  have R1 := Lib.hid q1'.rangeL
  have HO := Lib.hid (show (cs.set 65 (Value.bool false)).toArray.all (·.oneCell') = true from by rw [hcs']; exact rdc_one hr3 _)
  have HCL := Lib.hid (show (cs.set 65 (Value.bool false)).length = 66 by rw [List.length_set]; exact hcl)
  have T3 := Lib.hid (q3'.there (o := 0) (n := (cs.set 65 (Value.bool false)).toArray.size) (by simp [hcl, hzl]))
  have c0 := q2.cell 0
  simp only [List.getElem?_toArray, List.getElem?_cons_zero] at c0
  have x0 := t1.cell 0; have x1 := t1.cell 1; have y0 := t1.frozen 0; have y1 := t1.frozen 1
  simp only [List.getElem?_toArray, List.getElem?_cons_zero, List.getElem?_cons_succ] at x0 x1
  have T2 := Lib.hid t2; have T4 := Lib.hid t3; have HOUT := Lib.hid hout
  have HW := Lib.hid hW'; have HW1 := Lib.hid hW1; have HW2 := Lib.hid (show W2 = (W1.setCell ⟨w.heap.size + 1 + 1 + 1, 0, none⟩ (.slice none 0 0)).setCell ⟨w.heap.size + 1 + 1 + 1, 1, none⟩ (.int .i64 0) from hW2)
  have X1 := Lib.hid (And.intro x0 (And.intro x1 (And.intro y0 y1)))
  rw [hW] at c0 z65 c65
  clear h hr hcs hzs hW b1 q1 q2 q3 q4 hsz hcl hzl hrw ho hW1 hW2 t1 t2 t3 hout x0 x1 y0 y1 hcs' b1' q1' q2' q3' q4' hsz' hrw' hr3 hW'
  go_enter Try.func12, Try.ntmps12
  go_wp2_with (first
    | (refine wpList_load_mid rfl 31 (.tmp 2) (by rfl) w.heap.size 0 (by rfl) (cs.set 65 (Value.bool false)) _ (by rw [← HW.out]; exact R1.out) Try.underlying31 rdc_isRow (by rw [size_rdc, HCL.out]) ?_)
    | (refine wpList_store_mid rfl 31 (.tmp 4) (.tmp 11) (by rfl) (w.heap.size + 2) 0 (cs.set 65 (Value.bool false)).toArray (by rfl) (by rfl) (by rw [← HW.out]; exact T3.out) (by rw [size_rdc, List.size_toArray, HCL.out]) HO.out ?_; rw [← HW.out]; rw [show (W'.setCells (w.heap.size + 2) 0 ((cs.set 65 (Value.bool false))).toArray.toList) = W1 from HW1.out.symm]; obtain ⟨x0, x1, y0, y1⟩ := X1.out))
  rw [← HW2.out]
  exact do_ret HCL.out T2.out T4.out rfl rfl rfl HOUT.out

end
end Go.Proofs.Ytmjdmigjhllmeaa
