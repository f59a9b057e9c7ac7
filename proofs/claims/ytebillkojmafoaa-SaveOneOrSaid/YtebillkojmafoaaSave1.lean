/- The contracts of save's commitOf. -/
import Derived.Test.YtebillkojmafoaaSavePlain
import Derived.Test.YtebillkojmafoaaDisk5
namespace Go.Proofs.Ytebillkojmafoaa
open Go.RowKit
set_option linter.unusedVariables false

theorem com_size : (Try.prog.info? 53).map (·.size) = some 3 := by kernel_rfl
/-- A commit's cells. -/
def comV (c : Com) : Array Value := #[.int .u64 (c.n : Int), .int .u64 (c.a : Int), .int .u64 (c.long : Int)]
/-- The state of commitOf's loop. -/
def insK (l : List UInt8) : Nat → List UInt8
  | 0 => (dCut l).1
  | k + 1 => dR (insK l k)
def esK (l : List UInt8) : Nat → Int
  | 0 => (dCut l).2
  | k + 1 => max (esK l k) (dE (insK l k))
def nsK (l : List UInt8) (k j : Nat) : Value := .int .u64 (if j < k then (dN (insK l j) : Int) else 0)
def cellsK (l : List UInt8) (k : Nat) : Array Value := #[nsK l k 0, nsK l k 1, nsK l k 2]
theorem cellsK_zero (l : List UInt8) : cellsK l 0 = #[.int .u64 0, .int .u64 0, .int .u64 0] := rfl
theorem cellsK_three (l : List UInt8) : cellsK l 3 = comV (comRaw l) := rfl
theorem cellsK_succ (l : List UInt8) {k : Nat} (hk : k < 3) : (cellsK l k).setIfInBounds k (.int .u64 (dN (insK l k) : Int)) = cellsK l (k + 1) := by
  match k, hk with
  | 0, _ => rfl
  | 1, _ => rfl
  | 2, _ => rfl
theorem cellsK_cell (l : List UInt8) {k : Nat} (hk : k < 3) : ∃ v, (cellsK l k)[k]? = some v := by
  match k, hk with
  | 0, _ => exact ⟨_, rfl⟩
  | 1, _ => exact ⟨_, rfl⟩
  | 2, _ => exact ⟨_, rfl⟩
theorem dR_len (l : List UInt8) : (dR l).length ≤ l.length := by
  unfold dR dec
  cases hd : decF 0 0 l with
  | none => simp
  | some p =>
    have : ∀ (l : List UInt8) (k N : Nat) (p : Nat × List UInt8), decF k N l = some p → p.2.length ≤ l.length := by
      intro l
      induction l with
      | nil => intro k N p h; simp [decF] at h
      | cons c r ih =>
        intro k N p h
        rw [decF] at h
        split at h
        · cases h
        · split at h
          · injection h with h; subst h; simp
          · have := ih _ _ _ h; simp; omega
    exact this l 0 0 p hd
theorem insK_len {l : List UInt8} (h : l.length ≤ 64) : ∀ k, (insK l k).length ≤ 64
  | 0 => by
    show ((dCut l).1).length ≤ 64
    unfold dCut
    split
    · simp
    · split
      · simp only [List.length_take]; omega
      · simp
  | k + 1 => Nat.le_trans (dR_len _) (insK_len h k)

theorem take_rb {w : World} {A : Option Addr} {c B : Nat} {l : List UInt8} (h : RB w B A l) (hc : l.length ≤ c) (hA : A = none → c = 0) (hl : l.length ≤ 140737488355328) :
    Calls Try.prog 36 #[.slice A l.length c] w fun e w' => ∃ A' c', e = .returned (.tuple #[.int .u64 (dN l), .slice A' (dR l).length c', .int .i64 (dE l)]) ∧ RB w' B A' (dR l) ∧ (dR l).length ≤ c' ∧ (A' = none → c' = 0) ∧ ∃ n, w' = w.drewN n := by
  refine (take_any A c B l w h hc hA hl).mono fun e w' h => ?_
  unfold dN dR dE
  rcases hd : dec l with _ | ⟨n, r⟩ <;> rw [hd] at h
  · obtain ⟨rfl, j, rfl⟩ := h
    exact ⟨none, 0, rfl, RB.nil_, Nat.le_refl _, fun _ => rfl, j, rfl⟩
  · obtain ⟨A, c, j, rfl, hr, hc, hA, rfl⟩ := h
    exact ⟨A, c, rfl, hr.drewN j, hc, hA, j, rfl⟩
section
variable {p : Nat} {X : Nat → Prop} {w : World} {D : DS}
theorem com_end {w wr : World} (h : Blk wr w.heap.size 53 #[.int .u64 0, .int .u64 0, .int .u64 0]) (hb : Bl w wr) (u v x : Value) (o : Obj) :
    Blk ((((wr.setCell ⟨w.heap.size, 0, none⟩ u).setCell ⟨w.heap.size, 1, none⟩ v).setCell ⟨w.heap.size, 2, none⟩ x).alloc o) w.heap.size 53 #[u, v, x] ∧ Bl w ((((wr.setCell ⟨w.heap.size, 0, none⟩ u).setCell ⟨w.heap.size, 1, none⟩ v).setCell ⟨w.heap.size, 2, none⟩ x).alloc o) := by
  have e := ((h.set_ 0 u).set_ 1 v).set_ 2 x
  have b := Below.setCell (Below.setCell (Below.setCell hb (p := ⟨w.heap.size, 0, none⟩) (Nat.le_refl _) u) (p := ⟨w.heap.size, 1, none⟩) (Nat.le_refl _) v) (p := ⟨w.heap.size, 2, none⟩) (Nat.le_refl _) x
  have e' : Blk (((wr.setCell ⟨w.heap.size, 0, none⟩ u).setCell ⟨w.heap.size, 1, none⟩ v).setCell ⟨w.heap.size, 2, none⟩ x) w.heap.size 53 #[u, v, x] := by simpa using e
  exact ⟨e'.alloc o, Bl.trans b (Bl.alloc _ _)⟩
theorem com_ret {w W : World} {f : Func} {c : Com} {a : Act} {g : Nat} {R : Ending → World → Prop} (hr : f.results = #[.cell g 53]) (ha : a.defers = []) (hp : a.tmps.getD g undef = .pointer (some ⟨w.heap.size, 0, none⟩)) (hb : Blk W w.heap.size 53 (comV c)) (hR : R (.returned (.agg (comV c))) W) :
    bodyPost Try.prog f R .ret a W :=
  bodyPost_ret (v := .agg (comV c)) (results_cell_row hr a.tmps W w.heap.size 53 (comV c) (0, 0) _ hp hb Try.underlying53 rfl com_size) ha hR
set_option maxRecDepth 100000 in
set_option maxHeartbeats 2000000 in
theorem commitOf_any (h : IsDisk p X w D) (hsh : Short D) (k : Nat) (hk : k < 2) (hl : (bRead D k).length ≤ 64) (c : Com) (hc : comD D k = c) :
    Calls Try.prog 30 #[.pointer (some ⟨p, 0, none⟩), .int .i64 (k : Int)] w fun e w' => e = .returned (.agg (comV c)) ∧ Bl w w' := by
  obtain ⟨l, hb⟩ : ∃ l, bRead D k = l := ⟨_, rfl⟩
  unfold comD at hc
  rw [hb] at hc hl
  have HL := Lib.hid hl; have HC := Lib.hid hc; have HB := Lib.hid hb; have H := Lib.hid (h.bl (Bl.alloc w (.cells #[.int .u64 0, .int .u64 0, .int .u64 0] 53)))
  have HSH := Lib.hid hsh
  have HBL := Lib.hid (Bl.alloc w (.cells #[.int .u64 0, .int .u64 0, .int .u64 0] 53))
  have HK4 := Lib.hid (Blk.new w 53 #[.int .u64 0, .int .u64 0, .int .u64 0])
  clear h hl hc hb hsh
  go_enter Try.func30, Try.ntmps30
  go_wp2_with fail
  refine (dRead_to H.out k HSH.out l _ HB.out rfl).mono ?_
  rintro e w1 ⟨A1, c1, rfl, s1, b1, _, _⟩
  have BL1 := Lib.hid (HBL.out.trans b1)
  have K4 := Lib.hid (HK4.out.below b1 HK4.out.lt)
  clear b1 H HBL HK4
  go_wp2_with fail
  refine (crcCut_sl s1 (by have := HL.out; omega)).mono ?_
  rintro e w2 ⟨A2, c2, rfl, s2, b2⟩
  have S2 := Lib.hid s2
  have BL2 := Lib.hid (BL1.out.trans b2)
  have K42 := Lib.hid (K4.out.below b2 K4.out.lt)
  clear b2 BL1 K4 s1 s2
  go_wp2_with fail
  have B3 := Lib.hid (BL2.out.trans (Bl.alloc w2 (.cells #[.int .u64 0, .int .u64 0, .int .u64 0] 70)))
  have K43 := Lib.hid (K42.out.alloc (.cells #[.int .u64 0, .int .u64 0, .int .u64 0] 70))
  have K9 := Lib.hid (Blk.new w2 70 #[.int .u64 0, .int .u64 0, .int .u64 0])
  have S3 := Lib.hid (show RB (w2.alloc (.cells #[.int .u64 0, .int .u64 0, .int .u64 0] 70)) w2.heap.size A2 (insK l 0) ∧ (insK l 0).length ≤ c2 ∧ (A2 = none → c2 = 0) from ⟨S2.out.rb.below (Bl.alloc w2 _), S2.out.cap, S2.out.none_⟩)
  have HG := Lib.hid (show w.heap.size < w2.heap.size from K42.out.lt)
  clear S2 BL2 K42
  go_loopw [26, 7, 8] (fun i x y wr => ∃ (k' : Nat) (A' : Option Addr) (c' : Nat), k' ≤ 3 ∧ i = .int .i64 k' ∧ x = .slice A' (insK l k').length c' ∧ y = .int .i64 (esK l k') ∧ Hid (RB wr w2.heap.size A' (insK l k') ∧ (insK l k').length ≤ c' ∧ (A' = none → c' = 0)) ∧ Hid (Bl w wr ∧ Blk wr w.heap.size 53 #[.int .u64 0, .int .u64 0, .int .u64 0] ∧ Blk wr w2.heap.size 70 (cellsK l k'))) (fun i _ _ _ => 3 - (intOf i).toNat)
  case atStart => exact ⟨0, A2, c2, by omega, rfl, rfl, rfl, S3.out, B3.out, K43.out, K9.out⟩
  case round =>
    clear S3 B3 K43 K9
    obtain ⟨j, A', c', hj, rfl, rfl, rfl, HS, HB⟩ := hrel
    by_cases hlt : j < 3
    · have hil := insK_len HL.out j
      go_wp2_with fail
      refine (take_rb HS.out.1 HS.out.2.1 HS.out.2.2 (by omega)).mono ?_
      rintro e w4 ⟨A4, c4, rfl, s4, s5, s6, nd, hnd⟩
      have b4 : Bl wr w4 := by rw [hnd]; exact Bl.drewN _ _
      clear hnd
      obtain ⟨v, hv⟩ := cellsK_cell l hlt
      have q := HB.out.2.2.below b4 HB.out.2.2.lt
      have c9 := q.cell j
      rw [hv] at c9
      have z9 := q.frozen j
      have i1 : (0 : Int) ≤ (j : Int) := by omega
      have i2 : (j : Int) < 3 := by omega
      have B5 := Lib.hid (Below.setCell (HB.out.1.trans b4) (p := ⟨w2.heap.size, j, none⟩) (Nat.le_of_lt HG.out) (.int .u64 (dN (insK l j) : Int)))
      have K5 := Lib.hid ((HB.out.2.1.below b4 HB.out.2.1.lt).far (p := ⟨w2.heap.size, j, none⟩) (Nat.ne_of_lt HG.out) (.int .u64 (dN (insK l j) : Int)))
      have K6 := Lib.hid (show Blk (w4.setCell ⟨w2.heap.size, j, none⟩ (.int .u64 (dN (insK l j) : Int))) w2.heap.size 70 (cellsK l (j + 1)) by
        have := q.set_ j (.int .u64 (dN (insK l j) : Int))
        rw [cellsK_succ l hlt] at this
        exact this)
      have S5 := Lib.hid (show RB (w4.setCell ⟨w2.heap.size, j, none⟩ (.int .u64 (dN (insK l j) : Int))) w2.heap.size A4 (insK l (j + 1)) ∧ (insK l (j + 1)).length ≤ c4 ∧ (A4 = none → c4 = 0) from ⟨s4.below (Below.setCell (Below.refl _ _) (p := ⟨w2.heap.size, j, none⟩) (Nat.le_refl _) _), s5, s6⟩)
      clear b4 s4 s5 s6 q HS HB hv
      go_wp2
      go_roundw
      case rel => exact ⟨j + 1, A4, c4, by omega, by go_num, rfl, by show Value.int .i64 _ = .int .i64 (max _ _); congr 1; omega, S5, B5.out, K5.out, K6.out⟩
      case measure => simp [intOf]; omega
    · obtain rfl : j = 3 := by omega
      have K9 := Lib.hid HB.out.2.2
      have x0 := K9.out.cell 0; have x1 := K9.out.cell 1; have x2 := K9.out.cell 2
      rw [cellsK_three] at x0 x1 x2
      unfold comV at x0 x1 x2
      simp only [List.getElem?_toArray, List.getElem?_cons_zero, List.getElem?_cons_succ] at x0 x1 x2
      have B6 := Lib.hid HB.out.1; have K6 := Lib.hid HB.out.2.1
      obtain ⟨r, hr⟩ : ∃ r, r = comRest l := ⟨_, rfl⟩
      obtain ⟨q, hq⟩ : ∃ q, q = comRaw l := ⟨_, rfl⟩
      obtain ⟨ee, he⟩ : ∃ ee, ee = comE l := ⟨_, rfl⟩
      unfold comOf at HC
      rw [← hr, ← hq, ← he] at HC
      rw [← hq] at x0 x1 x2
      rw [show esK l 3 = ee from by rw [he]; rfl, show insK l 3 = r from by rw [hr]; rfl]
      have z0 := K6.out.cell 0; have z1 := K6.out.cell 1; have z2 := K6.out.cell 2
      have f0 := K6.out.frozen 0; have f1 := K6.out.frozen 1; have f2 := K6.out.frozen 2
      simp only [List.getElem?_toArray, List.getElem?_cons_zero, List.getElem?_cons_succ] at z0 z1 z2
      have hg := K6.out.lt
      clear HS HB hlt hr hq he HL
      have HK6 := Lib.hid K6.out; have HB6 := Lib.hid B6.out
      clear K6 B6
      by_cases e1 : ee = 0
      · subst e1
        by_cases e2 : r.length = 0
        · by_cases e3 : q.n % 2 = k
          · by_cases e4 : q.a < 2
            · by_cases e5 : q.long ≤ 1984
              · obtain rfl : q = c := by rw [← HC.out, if_neg (by intro h; rcases h with h | h | h | h | h; exact h rfl; omega; exact h e3; omega; omega)]
                go_wp2
                obtain ⟨h1, h2⟩ := com_end HK6.out HB6.out (.int .u64 (q.n : Int)) (.int .u64 (q.a : Int)) (.int .u64 (q.long : Int)) (.cells #[.int .u64 (q.n : Int), .int .u64 (q.a : Int), .int .u64 (q.long : Int)] 53)
                exact com_ret (c := q) rfl rfl rfl h1 ⟨rfl, h2⟩
              · obtain rfl : c = Com.none_ := by rw [← HC.out, if_pos (by first | exact .inr (.inl (by omega)) | exact .inr (.inr (.inl (by omega))) | exact .inr (.inr (.inr (.inl (by omega)))) | exact .inr (.inr (.inr (.inr (by omega)))))]
                have e6 : 1984 < q.long := by omega
                go_wp2
                obtain ⟨h1, h2⟩ := com_end HK6.out HB6.out (.int .u64 0) (.int .u64 0) (.int .u64 0) (.cells #[.int .u64 (q.n : Int), .int .u64 (q.a : Int), .int .u64 (q.long : Int)] 53)
                exact com_ret (c := Com.none_) rfl rfl rfl h1 ⟨rfl, h2⟩
            · obtain rfl : c = Com.none_ := by rw [← HC.out, if_pos (by first | exact .inr (.inl (by omega)) | exact .inr (.inr (.inl (by omega))) | exact .inr (.inr (.inr (.inl (by omega)))) | exact .inr (.inr (.inr (.inr (by omega)))))]
              have e6 : 2 ≤ q.a := by omega
              go_wp2
              obtain ⟨h1, h2⟩ := com_end HK6.out HB6.out (.int .u64 0) (.int .u64 0) (.int .u64 0) (.cells #[.int .u64 (q.n : Int), .int .u64 (q.a : Int), .int .u64 (q.long : Int)] 53)
              exact com_ret (c := Com.none_) rfl rfl rfl h1 ⟨rfl, h2⟩
          · obtain rfl : c = Com.none_ := by rw [← HC.out, if_pos (by first | exact .inr (.inl (by omega)) | exact .inr (.inr (.inl (by omega))) | exact .inr (.inr (.inr (.inl (by omega)))) | exact .inr (.inr (.inr (.inr (by omega)))))]
            have e6 : ¬ ((q.n : Int) % 2 = (k : Int)) := by omega
            go_wp2
            obtain ⟨h1, h2⟩ := com_end HK6.out HB6.out (.int .u64 0) (.int .u64 0) (.int .u64 0) (.cells #[.int .u64 (q.n : Int), .int .u64 (q.a : Int), .int .u64 (q.long : Int)] 53)
            exact com_ret (c := Com.none_) rfl rfl rfl h1 ⟨rfl, h2⟩
        · obtain rfl : c = Com.none_ := by rw [← HC.out, if_pos (by first | exact .inr (.inl (by omega)) | exact .inr (.inr (.inl (by omega))) | exact .inr (.inr (.inr (.inl (by omega)))) | exact .inr (.inr (.inr (.inr (by omega)))))]
          have e6 : 0 < r.length := by omega
          go_wp2
          obtain ⟨h1, h2⟩ := com_end HK6.out HB6.out (.int .u64 0) (.int .u64 0) (.int .u64 0) (.cells #[.int .u64 (q.n : Int), .int .u64 (q.a : Int), .int .u64 (q.long : Int)] 53)
          exact com_ret (c := Com.none_) rfl rfl rfl h1 ⟨rfl, h2⟩
      · obtain rfl : c = Com.none_ := by rw [← HC.out, if_pos (.inl e1)]
        have e6 : (ee != 0) = true := by simp [e1]
        go_wp2
        obtain ⟨h1, h2⟩ := com_end HK6.out HB6.out (.int .u64 0) (.int .u64 0) (.int .u64 0) (.cells #[.int .u64 (q.n : Int), .int .u64 (q.a : Int), .int .u64 (q.long : Int)] 53)
        exact com_ret (c := Com.none_) rfl rfl rfl h1 ⟨rfl, h2⟩
end
end Go.Proofs.Ytebillkojmafoaa
