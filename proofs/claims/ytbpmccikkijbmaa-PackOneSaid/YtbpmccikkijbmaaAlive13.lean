/- The live question of layer 13 answers yes. -/
import Derived.Test.YtbpmccikkijbmaaPutInt
import Derived.Test.YtbpmccikkijbmaaTakeInt
import Derived.Test.YtbpmccikkijbmaaTakeRow
import Derived.Test.YtbpmccikkijbmaaSame
import Derived.Test.YtbpmccikkijbmaaStr
namespace Go.Proofs.Ytbpmccikkijbmaa
open Go.RowKit
set_option linter.unusedVariables false

theorem enc_300 : enc 300 = [172, 2] := by rw [enc_ge (by omega), enc_lt (by omega)]; rfl
theorem zig_m1 : zig (-1) = 1 := by decide
theorem enc_1 : enc 1 = [1] := by rw [enc_lt (by omega)]; rfl
theorem enc_2 : enc 2 = [2] := by rw [enc_lt (by omega)]; rfl
theorem dec_a : dec [172, 2, 1] = some (300, [1]) := by decide
theorem dec_b : dec [1] = some (1, []) := by decide
theorem dec_c : dec [5, 1] = some (5, [1]) := by decide
theorem zag_1 : zag 1 = -1 := by decide

theorem row_ab : ([] ++ (enc ([97, 98] : List UInt8).length ++ [97, 98]) : List UInt8) = [2, 97, 98] := by
  rw [show ([97, 98] : List UInt8).length = 2 from rfl, enc_2]; rfl

theorem below_drewN {B : Nat} {a w : World} (h : Below B a w) (n : Nat) : Below B a (w.drewN n) := ⟨h.os, h.tape, h.output, h.size, h.block⟩

set_option maxRecDepth 100000 in
set_option maxHeartbeats 1000000 in
theorem alive13 (w : World) : Calls Try.prog 9 #[] w fun e w' => e = .returned (.bool true) ∧ Below w.heap.size w w' := by
  have kc := fun (w : World) (C : Array Value) (n c : Nat) => Lib.run_convert_bytes_const (P := Try.prog) w 22 5 C n c Try.underlying22 Try.underlying5
  go_enter Try.func9, Try.ntmps9
  go_wp2_with fail
  refine (put_any none 0 [] 300 w RB.nil_ (by simp) (by simp) (by simp) (by omega)).mono ?_
  rintro e w1 ⟨v, rfl, A1, c1, rfl, hap1, hb1⟩
  rw [enc_300] at hap1 ⊢
  go_wp2_with fail
  refine (putInt_any A1 c1 [172, 2] (-1) w1 hap1.rb hap1.cap (fun h => by have := hap1.none_ h; have := hap1.cap; simp at *; omega) (by simp) (by decide)).mono ?_
  rintro e w2 ⟨v, rfl, A2, c2, rfl, hap2, hb2⟩
  have hbw2 := hb1.trans (hb2.mono hb1.size)
  rw [zig_m1, enc_1] at hap2 ⊢
  have r2 := Lib.hid hap2.rb
  have n2 := Lib.hid hap2.none_
  have hc2 : 3 ≤ c2 := hap2.cap
  clear hap1 hap2 hb1 hb2
  have hT := take_any A2 c2 w2.heap.size [172, 2, 1] w2 r2.out hc2 n2.out (by simp)
  rw [dec_a] at hT
  have HT := Lib.hid hT
  clear hT
  go_wp2_with fail
  refine HT.out.mono ?_
  rintro e w3 ⟨A3, c3, j3, rfl, hr3, hc3, hA3, hw3⟩
  have R3 := Lib.hid hr3
  have N3 := Lib.hid hA3
  have W3 := Lib.hid hw3
  clear hr3 hA3 hw3 HT
  have hT := takeInt_any A3 c3 w2.heap.size [1] w3 (by rw [W3.out]; exact R3.out) hc3 N3.out (by simp)
  rw [dec_b] at hT
  have HT := Lib.hid hT
  clear hT
  go_wp2_with fail
  refine HT.out.mono ?_
  rintro e w4 ⟨A4, c4, j4, rfl, hr4, hc4, hA4, hw4⟩
  rw [zag_1]
  have W4 := Lib.hid (hw4.trans (congrArg (·.drewN j4) W3.out))
  clear hr4 hA4 hw4 HT
  go_wp2_with fail
  have hT := takeRow_any (some ⟨w4.heap.size, 0, none⟩) 2 (w4.heap.size + 1) [5, 1] 9 (w4.alloc (.cells #[.int .u8 5, .int .u8 1] 5)) (RB.made w4 5 [5, 1] _ _ rfl) (by simp) (by simp) (by simp) (by decide)
  rw [dec_c] at hT
  have HT := Lib.hid (show Calls _ _ _ _ (TRowNot _ 3) from hT)
  clear hT
  refine HT.out.mono ?_
  rintro e w5 ⟨rfl, j5, hw5⟩
  have hbw5 : Below w.heap.size w w5 := by
    rw [hw5]
    refine below_drewN (Below.alloc ?_ ?_ _) _
    · rw [W4.out]; exact below_drewN (below_drewN hbw2 _) _
    · rw [W4.out]; exact hbw2.size
  have hr5 : RB w5 w2.heap.size A2 [172, 2, 1] := by
    rw [hw5, W4.out]
    exact ((r2.out.drewN j3).drewN j4).alloc (Nat.le_refl _) _
  have hstr := run_str bytesT Try.underlying5 Try.underlying9 hr5 3 c2 rfl (fun h => by have := n2.out h; omega)
  have HB := Lib.hid hbw5
  clear hw5 hr5 HT W3 W4 R3 hbw2 hbw5 r2 n2 N3
  go_wp2_with fail
  refine (putRow_any none (some ⟨w5.heap.size, 0, none⟩) 0 2 [] [97, 98] (w5.alloc (.cells #[.int .u8 97, .int .u8 98] 5 (2, 3))) RB.nil_ (by simp) (by simp)
    (RB.made_ w5 5 [97, 98] _ _ rfl) (by simp)).mono ?_
  rintro e w6 ⟨v, rfl, A6, c6, rfl, hap6, hb6⟩
  rw [row_ab] at hap6 ⊢
  have hstr6 := run_str bytesT Try.underlying5 Try.underlying9 hap6.rb 3 c6 rfl (fun h => by have := hap6.none_ h; have := hap6.cap; simp at *; omega)
  have HB6 := Lib.hid (HB.out.trans ((Below.alloc (Below.refl w.heap.size w5) HB.out.size _).trans (hb6.mono (by have := HB.out.size; simp; omega))))
  clear hap6 hb6 HB
  go_wp2
  go_ret
  exact ⟨rfl, HB6.out⟩
end Go.Proofs.Ytbpmccikkijbmaa
