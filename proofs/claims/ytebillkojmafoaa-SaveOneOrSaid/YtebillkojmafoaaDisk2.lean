/- The contracts of Sync and of a write that waits. -/
import Derived.Test.YtebillkojmafoaaDisk1
import Derived.RegionTactic
import Derived.BigRegion
namespace Go.Proofs.Ytebillkojmafoaa
open Go.RowKit
set_option linter.unusedVariables false

theorem Bl.drew (w : World) : Bl w w.drew := Below.drew (Below.refl _ _)

section
variable {p : Nat} {X : Nat → Prop} {w : World} {D : DS} {vt vs fs : List Value} {A : Option Addr} {c : Nat}
theorem Each.one {p : Nat} {X : Nat → Prop} {w : World} {vs : List Value} {ls : List (List UInt8)} (h : Each (Sv p X w) vs ls) : ∀ v ∈ vs, v.oneCell' = true := by
  intro v hv
  obtain ⟨i, hi, rfl⟩ := List.getElem_of_mem hv
  have hi2 : i < ls.length := by have := h.1; omega
  obtain ⟨A, c, e, _⟩ := h.2 i _ _ (List.getElem?_eq_getElem hi) (List.getElem?_eq_getElem hi2)
  rw [e]; rfl
theorem ownsRow_setCells {base : Nat} {e : TypeId} {size n : Nat} {v : Value} {xs : List Value} (g : Nat) (hg : g < base) : ∀ (us : List Value) (o : Nat) (w : World), w.ownsRow base e size v n xs → (w.setCells g o us).ownsRow base e size v n xs
  | [], _, _, h => h
  | u :: r, o, w, h => ownsRow_setCells g hg r (o + 1) _ (ownsRow_setCell_below h hg u)
theorem ownsRow_nil' (w : World) (base : Nat) (e : TypeId) : w.ownsRow base e 1 (.slice none 0 0) 0 [] := World.ownsRow_nil _ _ _ _

/-- The row of what waits, thrown away. -/
theorem Dk.none_ (h : Dk p X w D vt vs fs A c) : Dk p X (w.setCell ⟨p, 128, none⟩ (.slice none 0 0)) { D with waits := [] } vt vs [] none 0 ∧ Fr p w (w.setCell ⟨p, 128, none⟩ (.slice none 0 0)) := by
  have hf : Fr p w (w.setCell ⟨p, 128, none⟩ (.slice none 0 0)) := Fr.row (World.grownBy.refl w _) h.plt h.row_ne (by rw [h.wcell]; rfl) (.inr (fun g hg => by simp [Value.ownBlock] at hg))
  refine ⟨⟨?_, h.lt, h.ls, h.et.mono fun _ _ x => x.fr hf, h.es.mono fun _ _ x => x.fr hf, Each.nil_, ownsRow_nil' _ _ _⟩, hf⟩
  have := h.blk.set_ 128 (.slice none 0 0)
  rw [dcells_set_wv h.lt h.ls] at this
  exact this
theorem Dk.there_ (h : Dk p X w D vt vs fs A c) {us : List Value} {ls : List (List UInt8)} (hu : us.length = 64) (he : Each (Sv p X w) us ls) : Dk p X (w.setCells p 0 us) { D with there := ls } us vs fs A c ∧ Fr p w (w.setCells p 0 us) := by
  have hf : Fr p w (w.setCells p 0 us) := Fr.setCells p us 0 w (by omega)
  exact ⟨⟨h.blk.lay_there h.lt h.ls hu, hu, h.ls, he.mono fun _ _ x => x.fr hf, h.es.mono fun _ _ x => x.fr hf, h.ew.mono fun _ _ x => x.fr hf, ownsRow_setCells p (by omega) us 0 w h.own⟩, hf⟩
theorem Dk.seen_ (h : Dk p X w D vt vs fs A c) {us : List Value} {ls : List (List UInt8)} (hu : us.length = 64) (he : Each (Sv p X w) us ls) : Dk p X (w.setCells p 64 us) { D with seen := ls } vt us fs A c ∧ Fr p w (w.setCells p 64 us) := by
  have hf : Fr p w (w.setCells p 64 us) := Fr.setCells p us 64 w (by omega)
  exact ⟨⟨h.blk.lay_seen h.lt h.ls hu, h.lt, hu, h.et.mono fun _ _ x => x.fr hf, he.mono fun _ _ x => x.fr hf, h.ew.mono fun _ _ x => x.fr hf, ownsRow_setCells p (by omega) us 64 w h.own⟩, hf⟩
theorem Dk.there1 (h : Dk p X w D vt vs fs A c) {k : Nat} (hk : k < 64) {u : Value} {l : List UInt8} (he : Sv p X w u l) : Dk p X (w.setCell ⟨p, k, none⟩ u) { D with there := D.there.set k l } (vt.set k u) vs fs A c ∧ Fr p w (w.setCell ⟨p, k, none⟩ u) := by
  have hf : Fr p w (w.setCell ⟨p, k, none⟩ u) := Fr.setCell p w k u (by omega)
  refine ⟨⟨?_, by rw [List.length_set]; exact h.lt, h.ls, (h.et.set_ k he).mono fun _ _ x => x.fr hf, h.es.mono fun _ _ x => x.fr hf, h.ew.mono fun _ _ x => x.fr hf, ownsRow_setCell_below h.own (by simp) _⟩, hf⟩
  have := h.blk.set_ k u
  rw [dcells_set_there h.lt hk] at this
  exact this
theorem Dk.seen1 (h : Dk p X w D vt vs fs A c) {k : Nat} (hk : k < 64) {u : Value} {l : List UInt8} (he : Sv p X w u l) : Dk p X (w.setCell ⟨p, 64 + k, none⟩ u) { D with seen := D.seen.set k l } vt (vs.set k u) fs A c ∧ Fr p w (w.setCell ⟨p, 64 + k, none⟩ u) := by
  have hf : Fr p w (w.setCell ⟨p, 64 + k, none⟩ u) := Fr.setCell p w (64 + k) u (by omega)
  refine ⟨⟨?_, h.lt, by rw [List.length_set]; exact h.ls, h.et.mono fun _ _ x => x.fr hf, (h.es.set_ k he).mono fun _ _ x => x.fr hf, h.ew.mono fun _ _ x => x.fr hf, ownsRow_setCell_below h.own (by simp) _⟩, hf⟩
  have := h.blk.set_ (64 + k) u
  rw [dcells_set_seen h.lt h.ls hk] at this
  exact this

theorem size_row : (Try.prog.info? 43).map (·.size) = some 64 := by kernel_rfl
theorem row_isRow : TypeDesc.isRow (.array 64 22) = true := rfl

set_option maxRecDepth 100000 in
theorem dSync_any (h : IsDisk p X w D) : Calls Try.prog 22 #[.pointer (some ⟨p, 0, none⟩)] w fun e w' => e = .returned (.int .i64 (eSync D)) ∧ IsDisk p X w' (dSync D) ∧ Fr p w w' := by
  obtain ⟨vt, vs, fs, A, c, h⟩ := h
  have hc := h.dcell
  by_cases hd : D.down = true
  · unfold eSync dSync
    rw [if_pos hd, if_pos hd]
    have H := Lib.hid h
    rw [hd] at hc
    clear h
    go_enter Try.func22, Try.ntmps22
    go_wp2
    go_ret
    exact ⟨rfl, H.out.is, Fr.refl _ _⟩
  · unfold eSync dSync
    rw [if_neg hd, if_neg hd]
    rw [show D.down = false from by simpa using hd] at hc
    obtain ⟨h1, f1⟩ := h.there_ h.ls h.es
    obtain ⟨h2, f2⟩ := h1.none_
    have H2 := Lib.hid h2
    have F2 := Lib.hid (f1.trans f2)
    have hr := Lib.hid (h.blk.range_seen h.lt h.ls)
    have ht := Lib.hid (h.blk.there (o := 0) (n := vs.toArray.size) (by rw [dcells_size h.lt h.ls, List.size_toArray, h.ls]; omega))
    have ho := Lib.hid (all_oneCell_toArray h.es.one)
    have hl := Lib.hid h.ls
    have w1 := Lib.hid h1.wcell
    have z1 := Lib.hid (h1.blk.frozen 128)
    clear h h1 h2 f1 f2 hd
    go_enter Try.func22, Try.ntmps22
    go_wp2_with (first
      | (refine wpList_load_mid rfl 43 (.tmp 10) (by rfl) p 64 (by rfl) vs _ hr.out Try.underlying43 row_isRow (by rw [size_row, hl.out]) ?_)
      | (refine wpList_store_mid rfl 43 (.tmp 13) (.tmp 11) (by rfl) p 0 vs.toArray (by rfl) (by rfl) ht.out (by rw [size_row, List.size_toArray, hl.out]) ho.out ?_; have w1' := w1.out; have z1' := z1.out))
    go_ret
    exact ⟨rfl, H2.out.is, F2.out⟩

set_option maxRecDepth 100000 in
theorem lay_any (h : Dk p X w D vt vs fs A c) {v : Value} {x : Nat × List UInt8} (hv : Wv p X w v x) :
    ∃ b0 b1 b2, v = .func (.func 32) #[] #[b0, b1, b2] ∧ Calls Try.prog 32 #[b0, b1, b2] w fun e w' => e = .returned (.tuple #[]) ∧ (∃ vt', Dk p X w' { D with there := D.there.set x.1 x.2 } vt' vs fs A c) ∧ Fr p w w' := by
  obtain ⟨bo, bd, ba, vo, rfl, h1, h2, h3, h4, h5, _⟩ := hv
  refine ⟨_, _, _, rfl, ?_⟩
  obtain ⟨k, l⟩ := x
  simp only at h2 h4 h5 ⊢
  obtain ⟨g1, f1⟩ := h.there1 h5 h2
  have G := Lib.hid (g1.bl (Bl.drew _))
  have F := Lib.hid (f1.bl (Bl.drew _) g1.plt)
  have c1 := h1.2; have c3 := h3.2; have c4 := h4.2
  have cz := h.blk.frozen k
  have n1 := h1.1.2.1; have n3 := h3.1.2.1; have n4 := h4.1.2.1
  have ck : ∃ u, w.cell? ⟨p, k, none⟩ = some u := by
    rw [h.blk.cell, dcells_there h.lt h5]
    exact ⟨_, List.getElem?_eq_getElem (by rw [h.lt]; exact h5)⟩
  obtain ⟨u, ck⟩ := ck
  have i1 : (0 : Int) ≤ (k : Int) := by omega
  have i2 : (k : Int) < 64 := by omega
  obtain ⟨Bo, co, rfl, _, _⟩ := h2
  clear h1 h3 h4 h g1 f1
  go_enter Try.func32, Try.ntmps32
  go_region
  all_goals
    go_end0
    exact ⟨rfl, ⟨_, G.out⟩, F.out⟩
end
end Go.Proofs.Ytebillkojmafoaa
