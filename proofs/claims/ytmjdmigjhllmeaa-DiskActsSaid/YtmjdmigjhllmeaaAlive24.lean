/- The live question of layer 24 answers yes. -/
import Derived.Test.YtmjdmigjhllmeaaDisk5
import Derived.Test.YtmjdmigjhllmeaaStr
namespace Go.Proofs.Ytmjdmigjhllmeaa
open Go.RowKit
set_option linter.unusedVariables false

theorem al_w1 : eWrite DS.fresh 3 [97] = 0 := by decide
theorem al_s2 : eSync (dWrite DS.fresh 3 [97]) = 0 := by decide
theorem al_w3 : eWrite (dSync (dWrite DS.fresh 3 [97])) 3 [98] = 0 := by decide
def al4 : DS := dCrash (dWrite (dSync (dWrite DS.fresh 3 [97])) 3 [98]) []
theorem al_r4 : eWrong al4 3 = 10 ∧ bRead al4 3 = [] := by decide
theorem al_r5 : eWrong (dUp al4) 3 = 0 ∧ bRead (dUp al4) 3 = [97] ∧ (dUp al4).waits.length = 0 := by decide
theorem al_l (x : Nat) : (dWrite DS.fresh 3 [97]).waits.length ≤ 100000 ∧ (dSync (dWrite DS.fresh 3 [97])).waits.length ≤ 100000 ∧ (dWrite (dSync (dWrite DS.fresh 3 [97])) 3 [98]).waits.length ≤ 100000 := by decide
theorem short_al : Short al4 ∧ Short (dUp al4) := by
  have : ∀ x ∈ al4.seen, x.length ≤ 10 := by decide
  exact ⟨fun x hx => by have := this x hx; omega, fun x hx => by have := this x hx; omega⟩

theorem sl_one (w : World) (c : UInt8) (n : Int) (hn : n = c.toNat) (fr : Nat × Nat) : SL (w.alloc (.cells #[.int .u8 n] 5 fr)) (some ⟨w.heap.size, 0, none⟩) 1 [c] := by
  refine ⟨RB.made_ w 5 [c] _ fr (by subst hn; rfl), by simp, (fun h => by cases h)⟩

set_option maxRecDepth 100000 in
set_option maxHeartbeats 1000000 in
theorem alive24 (w : World) : Calls Try.prog 9 #[] w fun e w' => e = .returned (.bool true) ∧ Bl w w' := by
  have kc := fun (w : World) (C : Array Value) (n c : Nat) => Lib.run_convert_bytes_const (P := Try.prog) w 27 5 C n c Try.underlying27 Try.underlying5
  go_enter Try.func9, Try.ntmps9
  go_wp2_with fail
  refine (dNew_to (fun _ => True) _).mono ?_
  rintro e w1 ⟨rfl, d, nw⟩
  have D := Lib.hid d; have N := Lib.hid nw; clear d nw
  go_wp2_with fail
  refine (dWrite_to (D.out.bl (Bl.alloc w1 _)) 3 _ _ _ [97] rfl (sl_one w1 97 97 rfl _) (by decide) (fun _ _ => trivial) 0 _ al_w1 rfl).mono ?_
  rintro e w2 ⟨rfl, d, f⟩
  replace N := Lib.hid ((N.out.fr (Fr.of_bl (Bl.alloc w1 _) D.out.plt)).fr f); replace D := Lib.hid d; clear d f
  go_wp2_with fail
  refine (dSync_to D.out 0 _ al_s2 rfl).mono ?_
  rintro e w3 ⟨rfl, d, f⟩
  replace N := Lib.hid (N.out.fr f); replace D := Lib.hid d; clear d f
  go_wp2_with fail
  refine (dWrite_to (D.out.bl (Bl.alloc w3 _)) 3 _ _ _ [98] rfl (sl_one w3 98 98 rfl _) (by decide) (fun _ _ => trivial) 0 _ al_w3 rfl).mono ?_
  rintro e w4 ⟨rfl, d, f⟩
  replace N := Lib.hid ((N.out.fr (Fr.of_bl (Bl.alloc w3 _) D.out.plt)).fr f); replace D := Lib.hid d; clear d f kc
  go_wp2_with fail
  refine (dCrash_to D.out none 0 0 [] rfl (RVs.nil_ _ _ _) (by decide) (by decide) al4 rfl).mono ?_
  rintro e w5 ⟨rfl, d, f⟩
  replace N := Lib.hid (N.out.fr f); replace D := Lib.hid d; clear d f
  go_wp2_with fail
  refine (dRead_to D.out 3 short_al.1 _ _ al_r4.2 al_r4.1).mono ?_
  rintro e w6 ⟨A6, c6, rfl, s6, b6, _, _⟩
  replace N := Lib.hid (N.out.fr (Fr.of_bl b6 D.out.plt)); replace D := Lib.hid (D.out.bl b6); clear s6 b6
  go_wp2_with fail
  refine (dUp_to D.out _ rfl).mono ?_
  rintro e w7 ⟨rfl, d, f⟩
  replace N := Lib.hid (N.out.fr f); replace D := Lib.hid d; clear d f
  go_wp2_with fail
  refine (dRead_to D.out 3 short_al.2 _ _ al_r5.2.1 al_r5.1).mono ?_
  rintro e w8 ⟨A8, c8, rfl, s8, b8, _, _⟩
  replace N := Lib.hid (N.out.fr (Fr.of_bl b8 D.out.plt)); replace D := Lib.hid (D.out.bl b8); clear b8
  have hstr : (convert 27 9 (.slice A8 1 c8)).run Try.prog w8 = .ok (.string ⟨#[97]⟩) w8 := run_str bytesT Try.underlying5 Try.underlying9 s8.rb 1 c8 rfl (fun h => by have := s8.none_ h; have := s8.cap; simp at this; omega)
  clear s8
  go_wp2_with fail
  refine (dWaits_to D.out 0 al_r5.2.2).mono ?_
  rintro e w9 ⟨rfl, rfl⟩
  go_wp2
  go_ret
  exact ⟨rfl, N.out.bl⟩
end Go.Proofs.Ytmjdmigjhllmeaa
