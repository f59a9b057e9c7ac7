/- The contract of ratchetref24.Do: its head and its end; the ways without a call. -/
import Derived.Test.YtmjdmigjhllmeaaLaid
namespace Go.Proofs.Ytmjdmigjhllmeaa
open Go.RowKit
set_option linter.unusedVariables false

/-- The cells of the document's disk. -/
def rdc (rs : List Value) (wv : Value) (down : Bool) : List Value := rs ++ [wv, .bool down]
theorem rdc_len {rs : List Value} {wv : Value} {down : Bool} (h : rs.length = 64) : (rdc rs wv down).length = 66 := by simp [rdc, h]
theorem zero_rdc (w : World) : (zeroValue 31).run Try.prog w = .ok (.agg (rdc (List.replicate 64 (Value.slice none 0 0)) (.slice none 0 0) false).toArray) w := by kernel_rfl
theorem size_rdc : (Try.prog.info? 31).map (·.size) = some 66 := by kernel_rfl
theorem rdc_isRow {fs : Array Field} : TypeDesc.isRow (.struct fs) = true := rfl
theorem rdc_wv {rs : List Value} {wv : Value} {down : Bool} (h : rs.length = 64) : (rdc rs wv down)[64]? = some wv := by
  unfold rdc; rw [List.getElem?_append_right (by omega), h]; rfl
theorem rdc_down {rs : List Value} {wv : Value} {down : Bool} (h : rs.length = 64) : (rdc rs wv down)[65]? = some (.bool down) := by
  unfold rdc; rw [List.getElem?_append_right (by omega), h]; rfl
theorem rdc_set_wv {rs : List Value} {wv u : Value} {down : Bool} (h : rs.length = 64) : (rdc rs wv down).set 64 u = rdc rs u down := by
  unfold rdc; rw [List.set_append_right _ _ (by omega), h]; rfl
theorem rdc_set_down {rs : List Value} {wv : Value} {down b : Bool} (h : rs.length = 64) : (rdc rs wv down).set 65 (.bool b) = rdc rs wv b := by
  unfold rdc; rw [List.set_append_right _ _ (by omega), h]; rfl
theorem rdc_at {rs : List Value} {wv : Value} {down : Bool} (h : rs.length = 64) {i : Nat} (hi : i < 64) : (rdc rs wv down)[i]? = rs[i]? := by
  unfold rdc; rw [List.getElem?_append_left (by omega)]
theorem Blk.set64 {w : World} {g : Nat} {t : TypeId} {rs us : List Value} {wv : Value} {down : Bool} (h : Blk w g t (rdc rs wv down).toArray) (h1 : rs.length = 64) (hu : us.length = 64) : Blk (w.setCells g 0 us) g t (rdc us wv down).toArray := by
  obtain ⟨cs', hb, hs', hc⟩ := Blk.setCells us 0 w _ h
  have e66 : (rdc rs wv down).toArray.size = 66 := by rw [List.size_toArray, rdc_len h1]
  rw [e66] at hs' hc
  have e66' : (rdc us wv down).toArray.size = 66 := by rw [List.size_toArray, rdc_len hu]
  have : cs' = (rdc us wv down).toArray := by
    apply Array.ext_getElem?
    intro i
    by_cases hi : i < 66
    · rw [hc i hi]
      by_cases h2 : i < 64
      · rw [if_pos (by omega), List.getElem?_toArray, rdc_at hu h2]; rfl
      · rw [if_neg (by omega), List.getElem?_toArray, List.getElem?_toArray]
        by_cases h3 : i = 64
        · subst h3; rw [rdc_wv h1, rdc_wv hu]
        · obtain rfl : i = 65 := by omega
          rw [rdc_down h1, rdc_down hu]
    · rw [Array.getElem?_eq_none (by omega), Array.getElem?_eq_none (by omega)]
  rw [← this]; exact hb
theorem Blk.rangeL {w : World} {g : Nat} {t : TypeId} {us : List Value} (h : Blk w g t us.toArray) : w.rangeAt g 0 us := fun j v hv => by rw [h.cell, Nat.zero_add, List.getElem?_toArray]; exact hv
theorem Blk.rangeT {w : World} {g : Nat} {t : TypeId} {rs : List Value} {wv : Value} {down : Bool} (h : Blk w g t (rdc rs wv down).toArray) (h1 : rs.length = 64) : w.rangeAt g 0 rs := fun j v hv => by
  have hj := (List.getElem?_eq_some_iff.1 hv).1
  rw [h.cell, Nat.zero_add, List.getElem?_toArray, rdc_at h1 (by omega)]; exact hv

/-- The blocks of a call of Do: what they hold is no content. -/
def XD (N : Nat → Prop) (w : World) : Nat → Prop := fun b => (b < w.heap.size ∧ N b) ∨ w.heap.size + 4 ≤ b
theorem xd_not {N : Nat → Prop} {w : World} {g : Nat} (h1 : w.heap.size ≤ g) (h2 : g < w.heap.size + 4) : ¬ XD N w g := fun h => by rcases h with h | h <;> omega

/-- What the document's disk holds. -/
structure RD (p : Nat) (X : Nat → Prop) (w : World) (D : DS) (rs : List Value) (A : Option Addr) (c : Nat) : Prop where
  lr : rs.length = 64
  et : Each (Sv p X w) rs D.there
  pw : Puts p X w A D.waits
  cap : D.waits.length ≤ c
theorem RD.fr {p : Nat} {X : Nat → Prop} {w w' : World} {D : DS} {rs : List Value} {A : Option Addr} {c : Nat} (h : RD p X w D rs A c) (hf : Fr p w w') : RD p X w' D rs A c :=
  ⟨h.lr, h.et.mono fun _ _ x => x.fr hf, h.pw.fr hf, h.cap⟩
theorem Puts.far {p : Nat} {X : Nat → Prop} {w : World} {A : Option Addr} {ws : List (Nat × List UInt8)} (h : Puts p X w A ws) {g : Nat} (hg : ¬ X g) (hs : Safe p w g) (i : Nat) (u : Value) : Puts p X (w.setCell ⟨g, i, none⟩ u) A ws := fun hn => by
  obtain ⟨g', o, e, hs', hx, hc⟩ := h hn
  have hne : g' ≠ g := fun e' => hg (by rw [← e']; exact hx)
  refine ⟨g', o, e, hs'.setCell hs i u, hx, fun j hj => ?_⟩
  obtain ⟨v, c0, c1, hv⟩ := hc j hj
  exact ⟨v, (World.cell?_of_block (Below.heap_setCell w ⟨g, i, none⟩ u g' hne)).trans c0, (World.cell?_of_block (Below.heap_setCell w ⟨g, i, none⟩ u g' hne)).trans c1, hv.far hg hs i u⟩
theorem RD.far {p : Nat} {X : Nat → Prop} {w : World} {D : DS} {rs : List Value} {A : Option Addr} {c : Nat} (h : RD p X w D rs A c) {g : Nat} (hg : ¬ X g) (hs : Safe p w g) (i : Nat) (u : Value) : RD p X (w.setCell ⟨g, i, none⟩ u) D rs A c :=
  ⟨h.lr, h.et.mono fun _ _ x => x.far hg hs i u, h.pw.far hg hs i u, h.cap⟩
theorem RD.fars {p : Nat} {X : Nat → Prop} {D : DS} {rs : List Value} {A : Option Addr} {c : Nat} {g : Nat} (hg : ¬ X g) : ∀ (us : List Value) (o : Nat) (w : World), RD p X w D rs A c → Safe p w g → RD p X (w.setCells g o us) D rs A c
  | [], _, _, h, _ => h
  | u :: r, o, w, h, hs => RD.fars hg r (o + 1) _ (h.far hg hs o u) (hs.setCell hs o u)
theorem Puts.weak {p : Nat} {X Y : Nat → Prop} {w : World} {A : Option Addr} {ws : List (Nat × List UInt8)} (h : Puts p X w A ws) (hy : ∀ b, b < w.heap.size → X b → Y b) : Puts p Y w A ws := fun hn => by
  obtain ⟨g', o, e, hs', hx, hc⟩ := h hn
  refine ⟨g', o, e, hs', hy _ hs'.1 hx, fun j hj => ?_⟩
  obtain ⟨v, c0, c1, hv⟩ := hc j hj
  obtain ⟨A, c, e, h1, hx⟩ := hv
  exact ⟨v, c0, c1, A, c, e, h1, fun a ha hn => hy _ (h1.safe a ha hn).1 (hx a ha hn)⟩
theorem RD.weak {p : Nat} {X Y : Nat → Prop} {w : World} {D : DS} {rs : List Value} {A : Option Addr} {c : Nat} (h : RD p X w D rs A c) (hy : ∀ b, b < w.heap.size → X b → Y b) : RD p Y w D rs A c :=
  ⟨h.lr, h.et.mono fun v l x => by
    obtain ⟨A, c, e, h1, hx⟩ := x
    exact ⟨A, c, e, h1, fun a ha hn => hy _ (h1.safe a ha hn).1 (hx a ha hn)⟩, h.pw.weak hy, h.cap⟩

/-- What Do gives. -/
def GivesDo (p : Nat) (N : Nat → Prop) (w : World) (D' : DS) (b : List UInt8) (k : Int) (e : Ending) (w' : World) : Prop :=
  ∃ rs A c B d, e = .returned (.tuple #[.agg (rdc rs (.slice A D'.waits.length c) D'.down).toArray, .agg #[.slice B b.length d, .int .i64 k]]) ∧ RD p (XD N w) w' D' rs A c ∧ SLs p w' B d b ∧ (∀ a, B = some a → 0 < b.length → XD N w a.block) ∧ Bl w w'

section
variable {p : Nat} {X N : Nat → Prop} {w : World} {D0 : DS}
/-- The worlds at Do's head. -/
theorem do_head (h : IsDisk p X w D0) (cs xs zs : List Value) : ∃ W, W = (((w.alloc (.cells cs.toArray 31)).alloc (.cells xs.toArray 34)).alloc (.cells zs.toArray 31)).alloc (.cells #[.slice none 0 0, .int .i64 0] 37) ∧
    Bl w W ∧ Blk W w.heap.size 31 cs.toArray ∧ Blk W (w.heap.size + 1) 34 xs.toArray ∧ Blk W (w.heap.size + 2) 31 zs.toArray ∧ Blk W (w.heap.size + 3) 37 #[.slice none 0 0, .int .i64 0] ∧ W.heap.size = w.heap.size + 4 := by
  have b1 := Bl.alloc w (.cells cs.toArray 31)
  have b2 := b1.trans (Bl.alloc _ (.cells xs.toArray 34))
  have b3 := b2.trans (Bl.alloc _ (.cells zs.toArray 31))
  have b4 := b3.trans (Bl.alloc _ (.cells #[.slice none 0 0, .int .i64 0] 37))
  have k1 := (((Blk.new w 31 cs.toArray).alloc (.cells xs.toArray 34)).alloc (.cells zs.toArray 31)).alloc (.cells #[.slice none 0 0, .int .i64 0] 37)
  have k2 := ((Blk.new (w.alloc (.cells cs.toArray 31)) 34 xs.toArray).alloc (.cells zs.toArray 31)).alloc (.cells #[.slice none 0 0, .int .i64 0] 37)
  have k3 := (Blk.new ((w.alloc (.cells cs.toArray 31)).alloc (.cells xs.toArray 34)) 31 zs.toArray).alloc (.cells #[.slice none 0 0, .int .i64 0] 37)
  have k4 := Blk.new (((w.alloc (.cells cs.toArray 31)).alloc (.cells xs.toArray 34)).alloc (.cells zs.toArray 31)) 37 #[.slice none 0 0, .int .i64 0]
  simp only [World.size_alloc] at k2 k3 k4
  exact ⟨_, rfl, b4, k1, k2, k3, k4, by simp [World.size_alloc]⟩

/-- The two results, stored. -/
theorem do_end {Wc : World} {D' : DS} {rs : List Value} {A : Option Addr} {c : Nat} {B : Option Addr} {d : Nat} {b : List UInt8} {k : Int} {zs t0 : Array Value} (h : IsDisk p X w D0) (hb : Bl w Wc) (hsz : w.heap.size + 4 ≤ Wc.heap.size) (hr : RD p (XD N w) Wc D' rs A c)
    (hB : SLs p Wc B d b) (hBx : ∀ a, B = some a → 0 < b.length → XD N w a.block) (hz : Blk Wc (w.heap.size + 2) 31 zs) (hzs : zs.size = 66) (ht : Blk Wc (w.heap.size + 3) 37 t0) (ht0 : t0.size = 2) (cs : List Value) (hcs : cs = rdc rs (.slice A D'.waits.length c) D'.down) :
    ∃ W1 W2, W1 = Wc.setCells (w.heap.size + 2) 0 cs ∧ W2 = (W1.setCell ⟨w.heap.size + 3, 0, none⟩ (.slice B b.length d)).setCell ⟨w.heap.size + 3, 1, none⟩ (.int .i64 k) ∧
      Blk W1 (w.heap.size + 3) 37 t0 ∧ Blk W2 (w.heap.size + 2) 31 cs.toArray ∧ Blk W2 (w.heap.size + 3) 37 #[.slice B b.length d, .int .i64 k] ∧
      GivesDo p N w D' b k (.returned (.tuple #[.agg cs.toArray, .agg #[.slice B b.length d, .int .i64 k]])) W2 := by
  have s2 := h.safe_new hb (b := w.heap.size + 2) (by omega) (by omega)
  have s3 := h.safe_new hb (b := w.heap.size + 3) (by omega) (by omega)
  have n2 := xd_not (N := N) (w := w) (g := w.heap.size + 2) (by omega) (by omega)
  have n3 := xd_not (N := N) (w := w) (g := w.heap.size + 3) (by omega) (by omega)
  have hlen : zs.size = cs.length := by rw [hcs, rdc_len hr.lr, hzs]
  have z1 := hz.setAll hlen
  have e23 : w.heap.size + 3 ≠ w.heap.size + 2 := by omega
  have t1 : Blk (Wc.setCells (w.heap.size + 2) 0 cs) (w.heap.size + 3) 37 t0 :=
    (World.heap_setCells_other Wc (w.heap.size + 2) 0 cs (by omega) e23).trans ht
  have S3 := Safe.setCells' cs 0 Wc s3 s2
  have r1 := RD.fars n2 cs 0 Wc hr s2
  have r2 := (r1.far n3 S3 0 (.slice B b.length d)).far n3 (S3.setCell S3 0 _) 1 (.int .i64 k)
  have hbv : Sv p (XD N w) Wc (.slice B b.length d) b := ⟨B, d, rfl, hB, hBx⟩
  obtain ⟨_, _, e, hB1, _⟩ := ((Sv.fars n2 cs 0 Wc hbv s2).far n3 S3 0 (.slice B b.length d)).far n3 (S3.setCell S3 0 _) 1 (.int .i64 k)
  injection e with e1 _ e2
  subst e1 e2
  refine ⟨_, _, rfl, rfl, t1, (z1.far (p := ⟨w.heap.size + 3, 0, none⟩) (Ne.symm e23) _).far (p := ⟨w.heap.size + 3, 1, none⟩) (Ne.symm e23) _, ?_, ?_⟩
  · have := (t1.set_ 0 (.slice B b.length d)).set_ 1 (.int .i64 k)
    have e : (t0.setIfInBounds 0 (.slice B b.length d)).setIfInBounds 1 (.int .i64 k) = #[.slice B b.length d, .int .i64 k] := by
      match t0, ht0 with
      | ⟨[x, y]⟩, _ => rfl
    rw [e] at this
    exact this
  · exact ⟨rs, A, c, B, d, by rw [hcs], r2, hB1, hBx, Below.setCell (Below.setCell (Below.setCells' (by omega) cs 0 Wc hb) (by show w.heap.size ≤ w.heap.size + 3; omega) _) (by show w.heap.size ≤ w.heap.size + 3; omega) _⟩

theorem do_ret {W2 : World} {g1 g2 : Nat} {cs : List Value} {u v : Value} (hl : cs.length = 66) (hb1 : Blk W2 g1 31 cs.toArray) (hb2 : Blk W2 g2 37 #[u, v]) {Q : Ending → World → Prop} {a : Act} (ha : a.defers = [])
    (hp1 : a.tmps.getD 4 undef = .pointer (some ⟨g1, 0, none⟩)) (hp2 : a.tmps.getD 5 undef = .pointer (some ⟨g2, 0, none⟩)) (hQ : Q (.returned (.tuple #[.agg cs.toArray, .agg #[u, v]])) W2) :
    bodyPost Try.prog Try.f12 Q .ret a W2 := by
  refine bodyPost_ret (v := .tuple #[.agg cs.toArray, .agg #[u, v]]) ?_ ha hQ
  have r1 := run_loadVar_row (P := Try.prog) W2 g1 31 31 cs.toArray (0, 0) _ hb1 Try.underlying31 rfl (by rw [size_rdc, List.size_toArray, hl])
  have r2 := run_loadVar_row (P := Try.prog) W2 g2 37 37 #[u, v] (0, 0) _ hb2 Try.underlying37 rfl told_size
  have hp1' : a.tmps[4]?.getD undef = .pointer (some ⟨g1, 0, none⟩) := by simpa using hp1
  have hp2' : a.tmps[5]?.getD undef = .pointer (some ⟨g2, 0, none⟩) := by simpa using hp2
  simp [results, hp1', hp2', asAddr, r1, r2]
end
end Go.Proofs.Ytmjdmigjhllmeaa
