/- The live question of layer 25 answers yes. -/
import Derived.Test.YtebillkojmafoaaSaveLaw
import Derived.Test.YtebillkojmafoaaStr
import Derived.Test.YtebillkojmafoaaMake
namespace Go.Proofs.Ytebillkojmafoaa
open Go.RowKit
set_option linter.unusedVariables false

theorem sl_const (w : World) (l : List UInt8) (cs : Array Value) (fr : Nat × Nat) (h : (l.map vb).toArray = cs) : SL (w.alloc (.cells cs 5 fr)) (some ⟨w.heap.size, 0, none⟩) l.length l := by
  refine ⟨RB.made_ w 5 l cs fr h.symm, Nat.le_refl _, (fun h => by cases h)⟩
theorem sls_const {p : Nat} {X : Nat → Prop} {w : World} {D : DS} (h : IsDisk p X w D) (l : List UInt8) (cs : Array Value) (fr : Nat × Nat) (hl : (l.map vb).toArray = cs) (n : Nat) (hn : n = l.length) : SLs p (w.alloc (.cells cs 5 fr)) (some ⟨w.heap.size, 0, none⟩) n l := by
  subst hn
  exact h.sls (Bl.alloc w _) (sl_const w l cs fr hl) (fun a ha => by injection ha with ha; subst ha; exact Nat.le_refl _)

set_option maxRecDepth 100000 in
set_option maxHeartbeats 1000000 in
theorem alive25 (w : World) : Calls Try.prog 7 #[] w fun e w' => e = .returned (.bool true) ∧ Bl w w' := by
  have kc := fun (w : World) (C : Array Value) (n c : Nat) => Lib.run_convert_bytes_const (P := Try.prog) w 22 5 C n c Try.underlying22 Try.underlying5
  have hmk : ∀ w : World, (Instr.makeSlice 22 (.int .i64 65) (.int .i64 65)).run Try.prog w = .ok (.slice (some ⟨w.heap.size, 0, none⟩) 65 65) (w.alloc (.cells (zb 65) 5)) := fun w => make_bytes 65 (by omega) w
  go_enter Try.func7, Try.ntmps7
  go_wp2_with fail
  refine (dNew_to (fun _ => True) _).mono ?_
  rintro e w1 ⟨rfl, d, nw⟩
  have D := Lib.hid d; have N := Lib.hid nw; clear d nw
  go_wp2_with fail
  refine (ld_none D.out good_fresh rfl).mono ?_
  rintro e w2 ⟨A2, c2, rfl, s2, b2, _⟩
  replace N := Lib.hid (N.out.fr (Fr.of_bl b2 D.out.plt)); replace D := Lib.hid (D.out.bl b2); clear s2 b2
  go_wp2_with fail
  refine (sv_whole (D.out.bl (Bl.alloc w2 _)) (fun _ _ => trivial) good_fresh (by decide) _ _ _ [97, 98, 99] rfl (sls_const D.out [97, 98, 99] _ _ rfl _ rfl) (by decide) _ (.inl (by decide)) 4 (by decide)).mono ?_
  rintro e w3 ⟨rfl, ⟨D3, a3, d, g⟩, f⟩
  replace N := Lib.hid ((N.out.fr (Fr.of_bl (Bl.alloc w2 _) D.out.plt)).fr f); replace D := Lib.hid d; have G := Lib.hid g; clear d f g
  go_wp2_with fail
  refine (sv_part (D.out.bl (Bl.alloc w3 _)) (fun _ _ => trivial) G.out (by decide) _ _ _ [100] rfl (sls_const D.out [100] _ _ rfl _ rfl) (by decide) _ 2 (by decide) rfl).mono ?_
  rintro e w4 ⟨rfl, d, f⟩
  replace N := Lib.hid ((N.out.fr (Fr.of_bl (Bl.alloc w3 _) D.out.plt)).fr f); replace D := Lib.hid d; clear d f kc
  go_wp2_with fail
  refine (cr_to D.out (run_waits G.out (by decide) (by decide) (by decide)).1 none 0 0 [] rfl (RVs.nil_ _ _ _) (by decide)).mono ?_
  rintro e w5 ⟨rfl, d, f⟩
  replace N := Lib.hid (N.out.fr f); replace D := Lib.hid d; clear d f
  go_wp2_with fail
  refine (up_to [] D.out).mono ?_
  rintro e w6 ⟨rfl, d, f⟩
  replace N := Lib.hid (N.out.fr f); replace D := Lib.hid d; clear d f
  have G6 := Lib.hid (back_parts (b' := [100]) G.out (by decide) (j := 2) (by decide) [])
  go_wp2_with fail
  refine (ld_good D.out G6.out (by decide)).mono ?_
  rintro e w7 ⟨A7, c7, rfl, s7, b7, _⟩
  replace N := Lib.hid (N.out.fr (Fr.of_bl b7 D.out.plt)); clear b7
  have hstr : (convert 22 9 (.slice A7 3 c7)).run Try.prog w7 = .ok (.string ⟨#[97, 98, 99]⟩) w7 := run_str bytesT Try.underlying5 Try.underlying9 s7.rb 3 c7 rfl (fun h => by have := s7.none_ h; have := s7.cap; simp at this; omega)
  clear s7 D G G6
  simp only [List.length_cons, List.length_nil, Nat.zero_add, Nat.reduceAdd]
  go_wp2_with fail
  refine (acts_any _ 65 65 (by decide) _).mono ?_
  rintro e w8 ⟨rfl, rfl⟩
  go_wp2
  go_ret
  exact ⟨rfl, Bl.trans N.out.bl (Bl.alloc _ _)⟩
end Go.Proofs.Ytebillkojmafoaa
