/- The contracts of crc.Of, crc.Put, crc.Cut. -/
import Derived.Test.YtebillkojmafoaaCrcOn0
import Derived.Test.YtebillkojmafoaaClone
namespace Go.Proofs.Ytebillkojmafoaa
open Go.RowKit
set_option linter.unusedVariables false

theorem givesSL_mk {w w' : World} {n : Nat} {A : Option Addr} {c : Nat} {l : List UInt8} (hn : n = l.length) (hs : SL w' A c l) (ha : Ap w' 5 w.heap.size A n c l) (hb : Bl w w') : GivesSL w l (.returned (.slice A n c)) w' := by
  subst hn
  exact ⟨A, c, rfl, hs, ha, hb⟩
theorem le4_vals (n : Nat) : #[Value.int .u8 ((n : Int) % 256), .int .u8 ((n : Int) / 256 % 256), .int .u8 ((n : Int) / 65536 % 256), .int .u8 ((n : Int) / 16777216 % 256)] = ((le4 n).map vb).toArray := by
  simp [le4, vb]

theorem on_sl {w : World} {A : Option Addr} {c : Nat} {l : List UInt8} (h : SL w A c l) (s : Nat) (hl : l.length ≤ 9223372036854775807) (hs : s < 2 ^ 32) :
    Calls Try.prog 37 #[.int .u32 s, .slice A l.length c] w fun e w' => e = .returned (.int .u32 (crcOn s l : Nat)) ∧ Bl w w' :=
  on_any s A c 0 l w h.rb hl hs

theorem of_sl {w : World} {A : Option Addr} {c : Nat} {l : List UInt8} (h : SL w A c l) (n : Nat) (hn : n = crcOf l) (hl : l.length ≤ 9223372036854775807) :
    Calls Try.prog 33 #[.slice A l.length c] w fun e w' => e = .returned (.int .u32 n) ∧ Bl w w' := by
  have ho := on_sl h 0 hl (by omega)
  rw [show crcOn 0 l = n from hn.symm] at ho
  have HO := Lib.hid ho
  clear ho hn
  go_enter Try.func33, Try.ntmps33
  go_wp2_with fail
  refine HO.out.mono ?_
  rintro e w1 ⟨rfl, b⟩
  go_wp2
  go_ret
  exact ⟨rfl, b⟩

set_option maxRecDepth 100000 in
theorem crcPut_sl {w : World} {A : Option Addr} {c : Nat} {l : List UInt8} (h : SL w A c l) (x : List UInt8) (hx : x = crcPut l) (hl : l.length ≤ 140737488355324) :
    Calls Try.prog 27 #[.slice A l.length c] w (GivesSL w x) := by
  obtain ⟨n, hn⟩ : ∃ n, n = crcOf l := ⟨_, rfl⟩
  have HN := Lib.hid hn
  have HX := Lib.hid (show l ++ le4 n = x by rw [hx, hn]; rfl)
  clear hn hx
  go_enter Try.func27, Try.ntmps27
  go_wp2_with fail
  refine (of_sl h n HN.out (by omega)).mono ?_
  rintro e w1 ⟨rfl, b⟩
  replace h := h.step b
  go_wp2_with fail
  refine (clone_any _ _ _ _ h (by omega)).mono ?_
  rintro e w2 ⟨A2, c2, rfl, s2, ap, b2⟩
  have hm := RB.made_ w2 5 (le4 n) _ (0, 0) (le4_vals n)
  replace ap := ap.alloc (.cells #[.int .u8 ((n : Int) % 256), .int .u8 ((n : Int) / 256 % 256), .int .u8 ((n : Int) / 65536 % 256), .int .u8 ((n : Int) / 16777216 % 256)] 5)
  go_wp2_with (at_builtin; refine wpList_append_ap _ rfl (.tmp 7) (.tmp 19) _ rfl bytesT ap rfl hm rfl rfl (by omega) (by simpa using Nat.le_succ_of_le b2.size) ?_; intro A4 c4 w4 hd)
  go_ret
  have hl4 : l.length + 4 = x.length := by rw [← HX.out]; simp [le4_len]
  have b4 : Bl w w4 := b.trans (Below.trans (Below.trans b2 ((Bl.alloc w2 _).mono b2.size)) hd.below)
  exact givesSL_mk hl4 (SL.of_apd hd HX.out) (Ap.to (by have := hd.ap; rw [HX.out] at this; exact this) b.size) b4

/-- What Cut cuts: the bytes, and the error's number. -/
def dCut (l : List UInt8) : List UInt8 × Int :=
  if l.length < 4 then ([], 3) else if crcPut (l.take (l.length - 4)) = l then (l.take (l.length - 4), 0) else ([], 8)
def CutSL (w : World) (x : List UInt8) (k : Int) (e : Ending) (w' : World) : Prop :=
  ∃ A c, e = .returned (.tuple #[.slice A x.length c, .int .i64 k]) ∧ SL w' A c x ∧ Bl w w'
theorem cutSL_mk {w w' : World} {x : List UInt8} {n c : Nat} {k : Int} {A : Option Addr} (hn : n = x.length) (hs : SL w' A c x) (hb : Bl w w') : CutSL w x k (.returned (.tuple #[.slice A n c, .int .i64 k])) w' := by
  subst hn
  exact ⟨A, c, rfl, hs, hb⟩

theorem crcCut_none {w : World} {A : Option Addr} {c : Nat} {l : List UInt8} (h4 : l.length < 4) (hl : l.length ≤ 140737488355328) :
    Calls Try.prog 35 #[.slice A l.length c] w (CutSL w [] 3) := by
  go_enter Try.func35, Try.ntmps35
  go_wp2
  go_ret2
  exact cutSL_mk rfl (SL.nil_ _) (Bl.refl _)

set_option maxRecDepth 100000 in
theorem crcCut_some {w : World} {A : Option Addr} {c : Nat} {l p : List UInt8} (h : SL w A c l) (hp : p = l.take (l.length - 4)) (h4 : ¬ l.length < 4) (hl : l.length ≤ 140737488355328) :
    Calls Try.prog 35 #[.slice A l.length c] w (CutSL w (if crcPut p = l then p else []) (if crcPut p = l then 0 else 8)) := by
  have sp : SL w A c p := by
    subst hp
    exact ⟨h.rb.take _, by rw [List.length_take]; have := h.cap; omega, h.none_⟩
  have HN := Lib.hid (show l.length - 4 = p.length by rw [hp, List.length_take]; omega)
  have hpl : p.length ≤ 140737488355324 := by have := HN.out; omega
  have hcap := h.cap
  obtain ⟨x, hx⟩ : ∃ x, x = crcPut p := ⟨_, rfl⟩
  have hxl : x.length = p.length + 4 := by rw [hx, crcPut_len]
  have hxl2 : x.length ≤ 140737488355328 := by omega
  rw [← hx]
  have HX := Lib.hid hx
  clear hp hx hxl
  by_cases he : x = l
  · have HE := Lib.hid he
    rw [if_pos he, if_pos he]
    clear he
    go_enter Try.func35, Try.ntmps35
    go_wp2_with fail
    rw [HN.out]
    refine (crcPut_sl sp x HX.out hpl).mono ?_
    rintro e w1 ⟨A1, c1, rfl, s1, _, b⟩
    replace h := h.step b; replace sp := sp.step b
    go_wp2_with fail
    refine ((equal_sl s1 h (by omega) (by omega)).mono ?_)
    rw [show decide (x = l) = true from by simp [HE.out]]
    rintro e w2 ⟨rfl, b2⟩
    replace sp := sp.step b2; replace b := b.trans b2; clear b2 h s1
    go_wp2_with fail
    rw [HN.out]
    refine (clone_any _ _ _ _ sp (by omega)).mono ?_
    rintro e w3 ⟨A3, c3, rfl, s3, _, b3⟩
    replace b := b.trans b3; clear b3
    go_wp2
    go_ret2
    exact cutSL_mk rfl s3 b
  · have HE := Lib.hid he
    rw [if_neg he, if_neg he]
    clear he
    go_enter Try.func35, Try.ntmps35
    go_wp2_with fail
    rw [HN.out]
    refine (crcPut_sl sp x HX.out hpl).mono ?_
    rintro e w1 ⟨A1, c1, rfl, s1, _, b⟩
    replace h := h.step b; replace sp := sp.step b
    go_wp2_with fail
    refine ((equal_sl s1 h (by omega) (by omega)).mono ?_)
    rw [show decide (x = l) = false from by simp [HE.out]]
    rintro e w2 ⟨rfl, b2⟩
    replace b := b.trans b2; clear b2 h s1
    go_wp2
    go_ret2
    exact cutSL_mk rfl (SL.nil_ _) b

theorem crcCut_sl {w : World} {A : Option Addr} {c : Nat} {l : List UInt8} (h : SL w A c l) (hl : l.length ≤ 140737488355328) :
    Calls Try.prog 35 #[.slice A l.length c] w (CutSL w (dCut l).1 (dCut l).2) := by
  unfold dCut
  by_cases h4 : l.length < 4
  · simp only [if_pos h4]; exact crcCut_none h4 hl
  · simp only [if_neg h4]
    have := crcCut_some h rfl h4 hl
    by_cases he : crcPut (l.take (l.length - 4)) = l
    · simp only [if_pos he] at this ⊢; exact this
    · simp only [if_neg he] at this ⊢; exact this
end Go.Proofs.Ytebillkojmafoaa
