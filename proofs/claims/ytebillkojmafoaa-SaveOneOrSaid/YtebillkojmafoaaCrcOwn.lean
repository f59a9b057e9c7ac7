/- crc.Put gives a row of the call's own. -/
import Derived.Test.YtebillkojmafoaaCrc
namespace Go.Proofs.Ytebillkojmafoaa
open Go.RowKit
set_option linter.unusedVariables false

/-- A slice was given, made since. -/
def GivesNew (w : World) (x : List UInt8) (e : Ending) (w' : World) : Prop :=
  ∃ A c, e = .returned (.slice A x.length c) ∧ SL w' A c x ∧ Bl w w' ∧ ∀ a, A = some a → w.heap.size ≤ a.block
theorem givesNew_mk {w w' : World} {x : List UInt8} {n c : Nat} {A : Option Addr} (hn : n = x.length) (h : SL w' A c x) (hb : Bl w w') (ha : ∀ a, A = some a → w.heap.size ≤ a.block) : GivesNew w x (.returned (.slice A n c)) w' := by
  subst hn; exact ⟨A, c, rfl, h, hb, ha⟩
set_option maxRecDepth 100000 in
theorem crcPut_new {w : World} {A : Option Addr} {c : Nat} {l : List UInt8} (h : SL w A c l) (x : List UInt8) (hx : x = crcPut l) (hl : l.length ≤ 140737488355324) :
    Calls Try.prog 27 #[.slice A l.length c] w (GivesNew w x) := by
  obtain ⟨n, hn⟩ : ∃ n, n = crcOf l := ⟨_, rfl⟩
  have HN := Lib.hid hn
  have HX := Lib.hid (show l ++ le4 n = x by rw [hx, hn]; rfl)
  clear hn hx
  go_enter Try.func27, Try.ntmps27
  go_wp2_with fail
  refine (of_sl h n HN.out (by omega)).mono ?_
  rintro e w1 ⟨rfl, b⟩
  replace h := h.step b
  go_wp2_with fail
  refine (clone_any _ _ _ _ h (by omega)).mono ?_
  rintro e w2 ⟨A2, c2, rfl, s2, ap, b2⟩
  have hm := RB.made_ w2 5 (le4 n) _ (0, 0) (le4_vals n)
  replace ap := ap.alloc (.cells #[.int .u8 ((n : Int) % 256), .int .u8 ((n : Int) / 256 % 256), .int .u8 ((n : Int) / 65536 % 256), .int .u8 ((n : Int) / 16777216 % 256)] 5)
  go_wp2_with (at_builtin; refine wpList_append_ap2 _ rfl (.tmp 7) (.tmp 19) _ rfl bytesT ap rfl hm rfl rfl (by omega) (by simpa using Nat.le_succ_of_le b2.size) ?_; intro A4 c4 w4 hd ho)
  go_ret
  have hl4 : l.length + 4 = x.length := by rw [← HX.out]; simp [le4_len]
  have b4 : Bl w w4 := b.trans (Below.trans (Below.trans b2 ((Bl.alloc w2 _).mono b2.size)) hd.below)
  obtain ⟨g, cap, hv, hg, _⟩ := (ho (by omega)).form (by omega)
  have hA : A4 = some ⟨g, 0, none⟩ := by injection hv
  exact givesNew_mk hl4 (SL.of_apd hd HX.out) b4 (fun a ha => by rw [hA] at ha; cases ha; exact Nat.le_trans b.size hg)
end Go.Proofs.Ytebillkojmafoaa
