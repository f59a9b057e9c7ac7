/- The contract of Crash. -/
import Derived.Test.YtebillkojmafoaaDisk3
namespace Go.Proofs.Ytebillkojmafoaa
open Go.RowKit
set_option linter.unusedVariables false

/-- A slice that reads as these values, in blocks that disk p's acts do not turn. -/
def RVs (p : Nat) (w : World) (A : Option Addr) (xs : List Value) : Prop := 0 < xs.length → ∃ ad, A = some ad ∧ Safe p w ad.block ∧ ∀ j, (h : j < xs.length) → w.cell? (ad.add j) = some xs[j]
theorem RVs.fr {p : Nat} {w w' : World} {A : Option Addr} {xs : List Value} (h : RVs p w A xs) (hf : Fr p w w') : RVs p w' A xs := fun hn => by
  obtain ⟨ad, e, hs, hc⟩ := h hn
  exact ⟨ad, e, hf.safe _ hs, fun j hj => (hf.cell (by rw [block_of_add]; exact hs)).trans (hc j hj)⟩
theorem RVs.nil_ (p : Nat) (w : World) (A : Option Addr) : RVs p w A [] := fun h => absurd h (by simp)
theorem RVs.at_ {p : Nat} {w : World} {A : Option Addr} {xs : List Value} (h : RVs p w A xs) {k : Nat} (hk : k < xs.length) : ∃ ad, A = some ad ∧ w.cell? (ad.add k) = some xs[k] := by
  obtain ⟨ad, e, _, hc⟩ := h (by omega)
  exact ⟨ad, e, hc k hk⟩

section
variable {p : Nat} {X : Nat → Prop} {w : World} {D : DS} {vt vs fs : List Value} {A : Option Addr} {c : Nat}
theorem Dk.wait_at (h : Dk p X w D vt vs fs A c) {i : Nat} (hi : i < D.waits.length) : ∃ g v, A = some ⟨g, 0, none⟩ ∧ fs[i]? = some v ∧ w.cell? ⟨g, i, none⟩ = some v ∧ Wv p X w v D.waits[i] := by
  obtain ⟨g, cap, hv, _, _⟩ := h.own.form (by omega)
  injection hv with hA _ _
  subst hA
  obtain ⟨v, e, hw⟩ := h.ew.at_ hi
  refine ⟨g, v, rfl, e, ?_, hw⟩
  have := h.own.cells (g := g) rfl i v e
  rwa [Addr.add_mid, Nat.zero_add] at this

set_option maxRecDepth 100000 in
theorem dCrash_down (h : IsDisk p X w D) (B : Option Addr) (d n : Nat) (hd : D.down = true) :
    Calls Try.prog 11 #[.pointer (some ⟨p, 0, none⟩), .slice B n d] w fun e w' => e = .returned (.tuple #[]) ∧ w = w' := by
  obtain ⟨vt, vs, fs, A, c, h⟩ := h
  have hc := h.dcell
  rw [hd] at hc
  clear h hd
  go_enter Try.func11, Try.ntmps11
  go_wp2
  exact bodyPost_ret (results_none rfl _ _ _) rfl ⟨rfl, rfl⟩

set_option maxRecDepth 100000 in
set_option maxHeartbeats 2000000 in
theorem dCrash_up (h : IsDisk p X w D) (B : Option Addr) (d : Nat) (ks : List Bool) (hk : RVs p w B (ks.map Value.bool)) (hkl : ks.length ≤ 9223372036854775807) (hw : D.waits.length ≤ 100000) (hd : D.down = false) :
    Calls Try.prog 11 #[.pointer (some ⟨p, 0, none⟩), .slice B ks.length d] w fun e w' => e = .returned (.tuple #[]) ∧ IsDisk p X w' ⟨layK D.there D.waits ks, layK D.there D.waits ks, [], true⟩ ∧ Fr p w w' := by
  obtain ⟨vt, vs, fs, A, c, h⟩ := h
  have hc := h.dcell
  have hc2 := h.wcell
  rw [hd] at hc
  have HD := Lib.hid hd
  have H := Lib.hid h
  clear h hd
  go_enter Try.func11, Try.ntmps11
  go_wp2
  clear hc hc2
  go_loopw [15] (fun i wr => ∃ k : Nat, k ≤ D.waits.length ∧ i = .int .i64 k ∧ Hid (∃ vt', Dk p X wr { D with there := layK D.there (D.waits.take k) ks } vt' vs fs A c) ∧ Hid (Fr p w wr)) (fun i _ => D.waits.length - (intOf i).toNat)
  case atStart => exact ⟨0, Nat.zero_le _, rfl, ⟨vt, by simpa [layK] using H.out⟩, Fr.refl _ _⟩
  case round =>
    obtain ⟨k, hkn, rfl, HK, HF⟩ := hrel
    by_cases hlt : k < D.waits.length
    · obtain ⟨vt', hdk⟩ := HK.out
      obtain ⟨g, v, rfl, hv, hcell, hwv⟩ := hdk.wait_at hlt
      simp only at hwv
      obtain ⟨b0, b1, b2, rfl, hlay⟩ := lay_any hdk hwv
      have HS := Lib.hid (layK_succ D.waits ks D.there k hlt)
      have hkr := hk.fr HF.out
      have HL := Lib.hid hlay
      have hdk' := Lib.hid hdk
      clear hlay hdk hwv HK hk hv
      by_cases h1 : k < ks.length
      · obtain ⟨ad, rfl, hkc⟩ := hkr.at_ (k := k) (by simpa using h1)
        have HG : Hid (ks.getD k false = ks[k]) := by show _ = _; rw [List.getD_eq_getElem?_getD, List.getElem?_eq_getElem h1]; rfl
        rw [List.getElem_map] at hkc
        clear hkr
        by_cases h2 : ks[k] = true
        · rw [h2] at hkc
          have H2 := Lib.hid h2
          clear h2
          go_wp2_with fail
          refine HL.out.mono ?_
          rintro e w1 ⟨rfl, h3, f3⟩
          have H3 := Lib.hid h3; have F3 := Lib.hid f3
          clear h3 f3
          go_wp2
          go_roundw
          case rel => exact ⟨k + 1, by omega, by go_num, by
            show ∃ vt', _
            rw [HS.out, HG.out, H2.out]
            exact H3.out, HF.out.trans F3.out⟩
          case measure => simp [intOf]; omega
        · have H2 := Lib.hid (show ks[k] = false from by simpa using h2)
          rw [H2.out] at hkc
          clear h2
          go_wp2
          go_roundw
          case rel => exact ⟨k + 1, by omega, by go_num, by
            show ∃ vt', _
            rw [HS.out, HG.out, H2.out]
            exact ⟨_, hdk'.out⟩, HF.out⟩
          case measure => simp [intOf]; omega
      · have HG : Hid (ks.getD k false = false) := by show _ = _; rw [List.getD_eq_getElem?_getD, List.getElem?_eq_none (by omega)]; rfl
        clear hkr
        go_wp2
        go_roundw
        case rel => exact ⟨k + 1, by omega, by go_num, by
          show ∃ vt', _
          rw [HS.out, HG.out]
          exact ⟨_, hdk'.out⟩, HF.out⟩
        case measure => simp [intOf]; omega
    · obtain ⟨vt', hdk⟩ := HK.out
      rw [List.take_of_length_le (by omega)] at hdk
      obtain ⟨h1, f1⟩ := hdk.seen_ hdk.lt hdk.et
      obtain ⟨h2, f2⟩ := h1.none_
      have h3 := h2.down_ true
      have f3 := Fr.setCell p ((wr.setCells p 64 vt').setCell ⟨p, 128, none⟩ (.slice none 0 0)) 129 (.bool true) (by omega)
      have H3 := Lib.hid h3.is
      have F3 := Lib.hid (((HF.out.trans f1).trans f2).trans f3)
      have hr := Lib.hid (hdk.blk.range_there hdk.lt)
      have ht := Lib.hid (hdk.blk.there (o := 64) (n := vt'.toArray.size) (by rw [dcells_size hdk.lt hdk.ls, List.size_toArray, hdk.lt]; omega))
      have ho := Lib.hid (all_oneCell_toArray hdk.et.one)
      have hl := Lib.hid hdk.lt
      have w1 := Lib.hid h1.wcell
      have z1 := Lib.hid (h1.blk.frozen 128)
      have w2 := Lib.hid h2.dcell
      have z2 := Lib.hid (h2.blk.frozen 129)
      clear hdk h1 h2 h3 f1 f2 f3 HK hk
      go_wp2_with (first
        | (refine wpList_load_mid rfl 43 (.tmp 36) (by rfl) p 0 (by rfl) vt' _ hr.out Try.underlying43 row_isRow (by rw [size_row, hl.out]) ?_)
        | (refine wpList_store_mid rfl 43 (.tmp 39) (.tmp 37) (by rfl) p 64 vt'.toArray (by rfl) (by rfl) ht.out (by rw [size_row, List.size_toArray, hl.out]) ho.out ?_; have w1' := w1.out; have z1' := z1.out; have w2' := w2.out; have z2' := z2.out))
      go_end0
      exact ⟨rfl, H3.out, F3.out⟩

theorem dCrash_any (h : IsDisk p X w D) (B : Option Addr) (d : Nat) (ks : List Bool) (hk : RVs p w B (ks.map Value.bool)) (hkl : ks.length ≤ 9223372036854775807) (hw : D.waits.length ≤ 100000) :
    Calls Try.prog 11 #[.pointer (some ⟨p, 0, none⟩), .slice B ks.length d] w fun e w' => e = .returned (.tuple #[]) ∧ IsDisk p X w' (dCrash D ks) ∧ Fr p w w' := by
  unfold dCrash
  by_cases hd : D.down = true
  · rw [if_pos hd]
    exact (dCrash_down h B d ks.length hd).mono fun e w' ⟨h1, h2⟩ => ⟨h1, h2 ▸ h, h2 ▸ Fr.refl _ _⟩
  · rw [if_neg hd]
    exact dCrash_up h B d ks hk hkl hw (by simpa using hd)
end
end Go.Proofs.Ytebillkojmafoaa
