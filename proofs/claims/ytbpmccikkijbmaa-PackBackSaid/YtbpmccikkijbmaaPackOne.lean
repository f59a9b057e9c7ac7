/- PackOne's walk. -/
import Derived.Test.YtbpmccikkijbmaaUni13
import Derived.Test.YtbpmccikkijbmaaPlain13
namespace Go.Proofs.Ytbpmccikkijbmaa
open Go.RowKit
set_option linter.unusedVariables false

theorem SL.of_apd {w w' : World} {e : TypeId} {base n c' : Nat} {A A' : Option Addr} {l x : List UInt8} (hd : Apd w w' e base A A' n c' l) (hx : l = x) : SL w' A' c' x := by
  subst hx
  obtain ⟨h1, h2, h3, h4, _⟩ := hd.ap
  exact ⟨h3, by omega, h4⟩

set_option maxRecDepth 100000 in
set_option maxHeartbeats 2000000 in
theorem packOne_none (A D : Option Addr) (c d : Nat) (l k x : List UInt8) (w : World) (h : SL w A c l) (hk : SL w D d k) (hlen : ¬ 1000 < l.length) (hlen2 : ¬ 1000 < k.length) (hd : dec l = none) (hx : l ++ k = x) :
    Calls Try.prog 6 #[.slice A l.length c, .slice D k.length d] w fun e w' => e = .returned (.bool true) ∧ Bl w w' := by
  have h1 := fun (w : World) (h : SL w A c l) => take_sl h (by omega)
  have h2 := fun (w : World) (h : SL w A c l) => takeInt_sl h (by omega)
  simp only [dN, dR, dE, dZ, hd] at h1 h2
  have H1 := Lib.hid h1
  have H2 := Lib.hid h2
  have HX := Lib.hid hx
  have HN := Lib.hid (show l.length + k.length = x.length from by rw [← hx, List.length_append])
  obtain ⟨g, hg⟩ : ∃ g, g = dE x := ⟨_, rfl⟩
  have HG := Lib.hid hg
  have h10 : l.length < 10 ∨ (¬ l.length < 10 ∧ (g == 3) = true) := by
    rcases Nat.lt_or_ge l.length 10 with h | h
    · exact .inl h
    · refine .inr ⟨by omega, ?_⟩
      rw [hg, ← hx]
      unfold dE
      rw [dec_more hd h]; rfl
  clear h1 h2 hd hx hg
  rcases h10 with h10 | ⟨h10, hg3⟩
  all_goals
    go_enter Try.func6, Try.ntmps6
    go_wp2_with fail
    refine (H1.out _ h).mono ?_
    rintro e w1 ⟨A1, c1, rfl, s1, b⟩
    replace h := h.step b; replace hk := hk.step b; have bb := b; clear b s1
    go_wp2_with fail
    refine (H2.out _ h).mono ?_
    rintro e w2 ⟨A2, c2, rfl, s2, b⟩
    replace h := h.step b; replace hk := hk.step b; replace bb := bb.trans b; clear b s2
    have hsb := (h.step (Bl.alloc w2 (.cells #[] 5))).rb
    go_wp2_with (first
      | (at_builtin; refine wpList_append_ap _ rfl (.tmp 43) (.tmp 44) _ rfl bytesT (Ap.empty (base := w2.heap.size) (some ⟨w2.heap.size, 0, none⟩)) rfl hsb rfl rfl (by omega) (by simp) ?_; intro A3 c3 w3 hd3; simp only [Nat.zero_add, List.nil_append] at hd3; have b23 : Bl w2 w3 := Below.trans (Bl.alloc w2 _) hd3.below; have hsm := (hk.step b23).rb)
      | (at_builtin; refine wpList_append_ap _ rfl (.tmp 45) (.tmp 46) _ rfl bytesT hd3.ap rfl hsm rfl rfl (by omega) b23.size ?_; intro A4 c4 w4 hd4)
      | fail)
    rw [HN.out]
    have s4 : SL w4 A4 c4 x := SL.of_apd hd4 HX.out
    have b : Bl w2 w4 := Below.trans b23 hd4.below
    replace h := h.step b; replace bb := bb.trans b; clear b b23 hsb hsm hd3 hd4 hk
    refine (take_sl s4 (by have := HN.out; omega)).mono ?_
    rintro e w5 ⟨A5, c5, rfl, s5, b⟩
    rw [← HG.out]
    replace bb := bb.trans b; clear b s5 s4 h
    go_wp2_with fail
    refine (alive13_sl _).mono ?_
    rintro e w6 ⟨rfl, b⟩
    replace bb := bb.trans b; clear b
    go_wp2
    go_ret
    exact ⟨rfl, bb⟩
set_option maxRecDepth 100000 in
set_option maxHeartbeats 2000000 in
theorem packOne_some (A : Option Addr) (V : Value) (c : Nat) (l r x : List UInt8) (n kl : Nat) (w : World) (h : SL w A c l) (hlen : ¬ 1000 < l.length) (hV : ∃ D d, V = .slice D kl d) (hlen2 : ¬ 1000 < kl) (hd : dec l = some (n, r)) (hx : x = [] ++ enc n) :
    Calls Try.prog 6 #[.slice A l.length c, V] w fun e w' => e = .returned (.bool true) ∧ Bl w w' := by
  obtain ⟨D, d, rfl⟩ := hV
  have h1 := fun (w : World) (h : SL w A c l) => take_sl h (by omega)
  have h2 := fun (w : World) (h : SL w A c l) => takeInt_sl h (by omega)
  simp only [dN, dR, dE, dZ, hd] at h1 h2
  have hn := dec_lt hd
  have H1 := Lib.hid h1
  have H2 := Lib.hid h2
  have HX := Lib.hid hx
  have HY := Lib.hid (show x = [] ++ enc (zig (zag n)) by rw [zig_zag]; exact hx)
  have hxr : x ++ r = l := by rw [hx]; exact dec_one hd
  have HXR := Lib.hid hxr
  have HN := Lib.hid (show x.length + r.length = l.length from by rw [← hxr, List.length_append])
  have hxl : x.length + r.length ≤ 1000 := by have := HN.out; omega
  have HL := Lib.hid hn
  have HW := Lib.hid (zag_wf hn)
  clear h1 h2 hd hx hxr hn
  go_enter Try.func6, Try.ntmps6
  go_wp2_with fail
  refine (H1.out _ h).mono ?_
  rintro e w1 ⟨A1, c1, rfl, s1, b⟩
  replace h := h.step b; have bb := b; clear b
  go_wp2_with fail
  refine (H2.out _ h).mono ?_
  rintro e w2 ⟨A2, c2, rfl, s2, b⟩
  replace h := h.step b; replace s1 := s1.step b; replace bb := bb.trans b; clear b
  go_wp2_with fail
  refine (put_sl (SL.nil_ _) n x HX.out (by simp) HL.out).mono ?_
  rintro e w3 ⟨A3, c3, rfl, s3, ap, b⟩
  have hs := (s1.step b).rb
  go_wp2_with (at_builtin; refine wpList_append_ap _ rfl (.tmp 85) (.tmp 86) _ rfl bytesT ap rfl hs rfl rfl (by omega) b.size ?_; intro A4 c4 w4 hd)
  rw [HN.out]
  have s4 : SL w4 A4 c4 l := SL.of_apd hd HXR.out
  replace b : Bl w2 w4 := Below.trans b hd.below
  replace h := h.step b; replace s2 := s2.step b; replace bb := bb.trans b; clear b hs hd ap s3 s1
  refine (putInt_sl (SL.nil_ _) (zag n) x HY.out (by simp) HW.out).mono ?_
  rintro e w5 ⟨A5, c5, rfl, s5, ap, b⟩
  have hs := (s2.step b).rb
  go_wp2_with (at_builtin; refine wpList_append_ap _ rfl (.tmp 89) (.tmp 90) _ rfl bytesT ap rfl hs rfl rfl (by omega) b.size ?_; intro A6 c6 w6 hd)
  rw [HN.out]
  have s6 : SL w6 A6 c6 l := SL.of_apd hd HXR.out
  replace b : Bl w4 w6 := Below.trans b hd.below
  replace h := h.step b; replace s4 := s4.step b; replace bb := bb.trans b; clear b hs hd ap s2 s5
  go_wp2_with fail
  refine (alive13_sl _).mono ?_
  rintro e w7 ⟨rfl, b⟩
  replace h := h.step b; replace s4 := s4.step b; replace s6 := s6.step b; replace bb := bb.trans b; clear b
  go_wp2_with fail
  refine (same_sl s4 h (by omega)).mono ?_
  rintro e w8 ⟨rfl, b⟩
  replace h := h.step b; replace s6 := s6.step b; replace bb := bb.trans b; clear b s4
  go_wp2_with fail
  refine (same_sl s6 h (by omega)).mono ?_
  rintro e w9 ⟨rfl, b⟩
  replace bb := bb.trans b; clear b s6 h
  go_wp2
  go_ret
  exact ⟨rfl, bb⟩

theorem packOne_walk (A D : Option Addr) (c d : Nat) (l k : List UInt8) (w : World) (h : SL w A c l) (hk : SL w D d k) (hl : l.length ≤ maxLen) (hkl : k.length ≤ maxLen) :
    Calls Try.prog 6 #[.slice A l.length c, .slice D k.length d] w fun e w' => e = .returned (.bool true) ∧ Bl w w' := by
  unfold maxLen at hl hkl
  by_cases hlen : 1000 < l.length
  · clear h hk
    go_enter Try.func6, Try.ntmps6
    go_wp2_with fail
    refine (alive13_sl _).mono ?_
    rintro e w1 ⟨rfl, b⟩
    go_wp2
    go_ret
    exact ⟨rfl, b⟩
  by_cases hlen2 : 1000 < k.length
  · clear h hk
    go_enter Try.func6, Try.ntmps6
    go_wp2_with fail
    refine (alive13_sl _).mono ?_
    rintro e w1 ⟨rfl, b⟩
    go_wp2
    go_ret
    exact ⟨rfl, b⟩
  rcases hd : dec l with _ | ⟨n, r⟩
  · exact packOne_none A D c d l k _ w h hk hlen hlen2 hd rfl
  · exact packOne_some A _ c l r _ n k.length w h hlen ⟨D, d, rfl⟩ hlen2 hd rfl
end Go.Proofs.Ytbpmccikkijbmaa
