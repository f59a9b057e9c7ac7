/- The live question of layer 12 answers yes. -/
import Derived.Test.YtcbfcbkpbaefaaaRCrc
import Derived.Test.YtcbfcbkpbaefaaaStr
namespace Go.Proofs.Ytcbfcbkpbaefaaa
open Go.RowKit
set_option linter.unusedVariables false

def nine : List UInt8 := [49, 50, 51, 52, 53, 54, 55, 56, 57]
theorem crc_nine : 3421780262 = crcOf nine := by decide +kernel
theorem btk_81 : btk 8 1 = 1996959894 := by decide +kernel
theorem dCut_put (l : List UInt8) : dCut (crcPut l) = (l, 0) := by
  have e : (crcPut l).take ((crcPut l).length - 4) = l := by
    rw [crcPut_len, Nat.add_sub_cancel]; unfold crcPut; exact List.take_left
  unfold dCut
  rw [if_neg (by rw [crcPut_len]; omega), e, if_pos rfl]

/-- The table, laid in a new block. -/
theorem tab_laid (w : World) : Blk ((w.alloc (.cells (tabTo 0) 25)).setRow w.heap.size (tabTo 256)) w.heap.size 25 (tabTo 256) :=
  setRow_heap _ _ _ _ _ _ (Blk.new w 25 (tabTo 0))
theorem tab_bl (w : World) : Bl w ((w.alloc (.cells (tabTo 0) 25)).setRow w.heap.size (tabTo 256)) :=
  below_setRow (Bl.alloc w _) (Nat.le_refl _) _
theorem table_sl (w : World) : Calls Try.prog 9 #[] w fun e w' => e = .returned (.agg (tabTo 256)) ∧ Bl w w' := table_any w

set_option maxRecDepth 100000 in
set_option maxHeartbeats 1000000 in
theorem alive12 (w : World) : Calls Try.prog 8 #[] w fun e w' => e = .returned (.bool true) ∧ Bl w w' := by
  have kc := fun (w : World) (C : Array Value) (n c : Nat) => Lib.run_convert_bytes_const (P := Try.prog) w 23 5 C n c Try.underlying23 Try.underlying5
  go_enter Try.func8, Try.ntmps8
  go_wp2_with fail
  refine (crcPut_sl (l := nine) ⟨RB.made_ w 5 nine _ _ rfl, by decide, (fun h => by cases h)⟩ (crcPut nine) rfl (by decide)).mono ?_
  rintro e w1 ⟨A1, c1, rfl, s1, _, b1⟩
  have b := (Bl.alloc w _).trans b1
  have hC := crcCut_sl s1 (by rw [crcPut_len]; decide)
  rw [dCut_put] at hC
  have HC := Lib.hid hC
  clear hC b1
  generalize crcPut nine = x at *
  go_wp2_with fail
  refine HC.out.mono ?_
  rintro e w2 ⟨A2, c2, rfl, s2, b2⟩
  replace b := b.trans b2
  clear b2 s1 HC
  clear kc
  go_wp2_with fail
  refine (table_sl _).mono ?_
  rintro e w3 ⟨rfl, b3⟩
  replace b := (b.trans b3).trans (tab_bl w3)
  replace s2 := (s2.step b3).step (tab_bl w3)
  have tl := tab_laid w3
  have hz := zero_tab w3
  have B1 := Lib.hid (Blk.new w3 25 (tabTo 0))
  clear b3
  obtain ⟨W, hW⟩ : ∃ W, W = (w3.alloc (.cells (tabTo 0) 25)).setRow w3.heap.size (tabTo 256) := ⟨_, rfl⟩
  rw [← hW] at b s2 tl
  have HW := Lib.hid hW
  clear hW
  have kc := fun (w : World) (C : Array Value) (n c : Nat) => Lib.run_convert_bytes_const (P := Try.prog) w 23 5 C n c Try.underlying23 Try.underlying5
  go_wp2_with (refine wpList_store_row rfl 25 (.tmp 3) (.tmp 11) rfl w3.heap.size (tabTo 256) rfl rfl 25 (tabTo 0) B1.out (by rw [tabTo_size]; kernel_rfl) (by rw [tabTo_size, tabTo_size]) (tabTo_one _) ?_; rw [← HW.out]; clear B1 hz)
  have c1 := tl.cell 1
  rw [tabTo_get (by omega), if_pos (by omega), btk_81] at c1
  refine (of_sl (l := nine) ⟨RB.made_ W 5 nine _ _ rfl, by decide, (fun h => by cases h)⟩ 3421780262 crc_nine (by decide)).mono ?_
  rintro e w4 ⟨rfl, b4⟩
  replace b4 := (Bl.alloc W _).trans b4
  replace b := b.trans b4; replace s2 := s2.step b4
  have hstr : (convert 23 9 (.slice A2 nine.length c2)).run Try.prog w4 = .ok (.string ⟨#[49, 50, 51, 52, 53, 54, 55, 56, 57]⟩) w4 := run_str bytesT Try.underlying5 Try.underlying9 s2.rb nine.length c2 rfl (fun h => by have := s2.none_ h; have := s2.cap; omega)
  have c1' : w4.cell? ⟨w3.heap.size, 1, none⟩ = _ := (Bl.cell b4 (p := ⟨w3.heap.size, 1, none⟩) tl.lt).trans c1
  clear c1 b4 s2 tl kc
  go_wp2_with fail
  refine (on_sl (SL.nil_ w4) 0 (by simp) (by omega)).mono ?_
  rintro e w5 ⟨rfl, b5⟩
  rw [show crcOn 0 [] = 0 from by decide]
  replace b := b.trans b5
  go_wp2
  go_ret
  exact ⟨rfl, b⟩
end Go.Proofs.Ytcbfcbkpbaefaaa
