/- PackRowOne's walk. -/
import Derived.Test.YtbpmccikkijbmaaUni13
import Derived.Test.YtbpmccikkijbmaaPlain13
namespace Go.Proofs.Ytbpmccikkijbmaa
open Go.RowKit
set_option linter.unusedVariables false

theorem dRow_one (l : List UInt8) (m : Int) (hl : l.length ≤ 1000) : dRow l m = ([], [], 3) ∨ dRow l m = ([], [], 6) ∨ ∃ p q, dRow l m = (p, q, 0) ∧ (p.length : Int) ≤ m ∧ p.length ≤ 1000 ∧ (([] ++ (enc p.length ++ p)) ++ q) = l := by
  unfold dRow
  rcases hd : dec l with _ | ⟨n, r⟩
  · exact .inl rfl
  · have h1 := dec_one hd
    have h2 := dec_len hd
    simp only
    split
    · exact .inr (.inl rfl)
    · split
      · exact .inl rfl
      · have e : (r.take n).length = n := by rw [List.length_take]; omega
        refine .inr (.inr ⟨r.take n, r.drop n, rfl, by rw [e]; omega, by rw [e]; omega, ?_⟩)
        rw [e, List.nil_append, List.append_assoc, List.take_append_drop, h1]

set_option maxRecDepth 100000 in
set_option maxHeartbeats 2000000 in
theorem packRowOne_e3 (A : Option Addr) (c : Nat) (l : List UInt8) (m : Int) (w : World) (h : SL w A c l) (hlen : ¬ 1000 < l.length) (hm : Hid ((Lit.int .i64 m).wf = true)) (hd : dRow l m = ([], [], 3)) :
    Calls Try.prog 8 #[.slice A l.length c, .int .i64 m] w fun e w' => e = .returned (.bool true) ∧ Bl w w' := by
  have h1 := Lib.hid (takeRow_sl h m (by omega) hm.out)
  rw [hd] at h1
  clear hd
  go_enter Try.func8, Try.ntmps8
  go_wp2_with fail
  refine (h1.out).mono ?_
  rintro e w1 ⟨A1, c1, A2, c2, rfl, s1, s2, b⟩
  have bb := b; clear b
  go_wp2_with fail
  refine (alive13_sl _).mono ?_
  rintro e w2 ⟨rfl, b⟩
  replace bb := bb.trans b; clear b
  go_wp2
  go_ret
  exact ⟨rfl, bb⟩

set_option maxRecDepth 100000 in
set_option maxHeartbeats 2000000 in
theorem packRowOne_e6 (A : Option Addr) (c : Nat) (l : List UInt8) (m : Int) (w : World) (h : SL w A c l) (hlen : ¬ 1000 < l.length) (hm : Hid ((Lit.int .i64 m).wf = true)) (hd : dRow l m = ([], [], 6)) :
    Calls Try.prog 8 #[.slice A l.length c, .int .i64 m] w fun e w' => e = .returned (.bool true) ∧ Bl w w' := by
  have h1 := Lib.hid (takeRow_sl h m (by omega) hm.out)
  rw [hd] at h1
  clear hd
  go_enter Try.func8, Try.ntmps8
  go_wp2_with fail
  refine (h1.out).mono ?_
  rintro e w1 ⟨A1, c1, A2, c2, rfl, s1, s2, b⟩
  have bb := b; clear b
  go_wp2_with fail
  refine (alive13_sl _).mono ?_
  rintro e w2 ⟨rfl, b⟩
  replace bb := bb.trans b; clear b
  go_wp2
  go_ret
  exact ⟨rfl, bb⟩

set_option maxRecDepth 100000 in
set_option maxHeartbeats 2000000 in
theorem packRowOne_ok (A : Option Addr) (c : Nat) (l : List UInt8) (m : Int) (w : World) (h : SL w A c l) (hlen : ¬ 1000 < l.length) (hm : Hid ((Lit.int .i64 m).wf = true)) (p q x : List UInt8) (hd : dRow l m = (p, q, 0)) (hp : (p.length : Int) ≤ m) (hp2 : p.length ≤ 1000) (hx : x = [] ++ (enc p.length ++ p)) (hxq : x ++ q = l) :
    Calls Try.prog 8 #[.slice A l.length c, .int .i64 m] w fun e w' => e = .returned (.bool true) ∧ Bl w w' := by
  have h1 := Lib.hid (takeRow_sl h m (by omega) hm.out)
  rw [hd] at h1
  have HX := Lib.hid hx
  have HQ := Lib.hid hxq
  have HN := Lib.hid (show x.length + q.length = l.length from by rw [← hxq, List.length_append])
  have hxl : x.length ≤ 1000 := by have := HN.out; omega
  have hql : q.length ≤ 1000 := by have := HN.out; omega
  clear hd hx hxq
  go_enter Try.func8, Try.ntmps8
  go_wp2_with fail
  refine (h1.out).mono ?_
  rintro e w1 ⟨A1, c1, A2, c2, rfl, s1, s2, b⟩
  replace h := h.step b; have bb := b; clear b
  go_wp2_with fail
  refine (alive13_sl _).mono ?_
  rintro e w2 ⟨rfl, b⟩
  replace h := h.step b; replace s1 := s1.step b; replace s2 := s2.step b; replace bb := bb.trans b; clear b
  go_wp2_with fail
  refine (putRow_sl (SL.nil_ _) s1 x HX.out (by simp; omega)).mono ?_
  rintro e w3 ⟨A3, c3, rfl, s3, ap, b⟩
  have hs := (s2.step b).rb
  go_wp2_with (at_builtin; refine wpList_append_apg _ (by rfl) (.tmp 47) (.tmp 48) _ rfl bytesT ap rfl hs rfl rfl (by omega) b.size ?_; intro A4 c4 w4 hd)
  rw [HN.out]
  have s4 : SL w4 A4 c4 l := by
    have a4 := hd.ap
    rw [HQ.out, HN.out] at a4
    exact SL.of_ap a4
  replace b : Bl w2 w4 := Below.trans b hd.below
  replace h := h.step b; replace bb := bb.trans b; clear b hs hd ap s3 s1 s2
  refine (same_sl s4 h (by omega)).mono ?_
  rintro e w5 ⟨rfl, b⟩
  replace bb := bb.trans b; clear b s4 h
  go_wp2
  go_ret
  exact ⟨rfl, bb⟩


theorem packRowOne_walk (A : Option Addr) (c : Nat) (l : List UInt8) (m : Int) (w : World) (h : SL w A c l) (hl : l.length ≤ maxLen) (hm : (Lit.int .i64 m).wf = true) :
    Calls Try.prog 8 #[.slice A l.length c, .int .i64 m] w fun e w' => e = .returned (.bool true) ∧ Bl w w' := by
  unfold maxLen at hl
  by_cases hlen : 1000 < l.length
  · clear h
    go_enter Try.func8, Try.ntmps8
    go_wp2_with fail
    refine (alive13_sl _).mono ?_
    rintro e w1 ⟨rfl, b⟩
    have bb := b; clear b
    go_wp2
    go_ret
    exact ⟨rfl, bb⟩
  · rcases dRow_one l m (by omega) with hd | hd | ⟨p, q, hd, h1, h2, h3⟩
    · exact packRowOne_e3 A c l m w h hlen hm hd
    · exact packRowOne_e6 A c l m w h hlen hm hd
    · exact packRowOne_ok A c l m w h hlen hm p q _ hd h1 h2 rfl h3
end Go.Proofs.Ytbpmccikkijbmaa
