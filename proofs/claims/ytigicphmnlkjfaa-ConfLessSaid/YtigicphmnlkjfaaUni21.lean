/- The contracts of layer 13 that chapter 21 uses, in one uniform shape. -/
import Derived.Test.YtigicphmnlkjfaaPutInt
namespace Go.Proofs.Ytigicphmnlkjfaa
open Go.RowKit
set_option linter.unusedVariables false

theorem givesSL_of {w : World} {l : List UInt8} {e : Ending} {w' : World} (h : ∃ v, e = .returned v ∧ Gives w w' v l) : GivesSL w l e w' := by
  obtain ⟨v, rfl, A, c, rfl, ha, hb⟩ := h
  exact ⟨A, c, rfl, SL.of_ap ha, ha, hb⟩

section
variable {w : World} {A D : Option Addr} {c d : Nat} {l k : List UInt8}
theorem put_sl (h : SL w A c l) (n : Nat) (x : List UInt8) (hx : x = l ++ enc n) (hl : l.length ≤ 140737488355000) (hn : n < 2 ^ 64) :
    Calls Try.prog 64 #[.slice A l.length c, .int .u64 n] w (GivesSL w x) := hx ▸
  (put_any A c l n w h.rb h.cap h.none_len hl hn).mono fun _ _ => givesSL_of
theorem rput_sl (h : SL w A c l) (n : Nat) (x : List UInt8) (hx : x = l ++ enc n) (hl : l.length ≤ 140737488355000) (hn : n < 2 ^ 64) :
    Calls Try.prog 65 #[.slice A l.length c, .int .u64 n] w (GivesSL w x) := hx ▸
  (rput_any A c l n w h.rb hl hn).mono fun _ _ => givesSL_of
theorem putInt_sl (h : SL w A c l) (n : Int) (x : List UInt8) (hx : x = l ++ enc (zig n)) (hl : l.length ≤ 140737488355000) (hn : (Lit.int .i64 n).wf = true) :
    Calls Try.prog 53 #[.slice A l.length c, .int .i64 n] w (GivesSL w x) := hx ▸
  (putInt_any A c l n w h.rb h.cap h.none_len hl hn).mono fun _ _ => givesSL_of
theorem rputInt_sl (h : SL w A c l) (n : Int) (x : List UInt8) (hx : x = l ++ enc (zig n)) (hl : l.length ≤ 140737488355000) (hn : (Lit.int .i64 n).wf = true) :
    Calls Try.prog 55 #[.slice A l.length c, .int .i64 n] w (GivesSL w x) := hx ▸
  (rputInt_any A c l n w h.rb hl hn).mono fun _ _ => givesSL_of
theorem putRow_sl (h : SL w A c l) (hk : SL w D d k) (x : List UInt8) (hx : x = l ++ (enc k.length ++ k)) (hl : l.length + k.length ≤ 140737488355000) :
    Calls Try.prog 54 #[.slice A l.length c, .slice D k.length d] w (GivesSL w x) := hx ▸
  (putRow_any A D c d l k w h.rb h.cap h.none_len hk.rb hl).mono fun _ _ => givesSL_of
theorem rputRow_sl (h : SL w A c l) (hk : SL w D d k) (x : List UInt8) (hx : x = l ++ (enc k.length ++ k)) (hl : l.length + k.length ≤ 140737488355000) :
    Calls Try.prog 57 #[.slice A l.length c, .slice D k.length d] w (GivesSL w x) := hx ▸
  (rputRow_any A D c d l k w h.rb hk.rb hl).mono fun _ _ => givesSL_of

end
end Go.Proofs.Ytigicphmnlkjfaa
