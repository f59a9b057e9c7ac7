/- A range over a function, its rounds met one by one: three laws with the loop's record named. Nothing of the program. -/
import Derived.Test.YtebillkojmafoaaSave6
namespace Go.Proofs.Ytebillkojmafoaa
open Go.RowKit
set_option linter.unusedVariables false

theorem region_mid {P : Program} {c : Code} {Q : Exit → Act → World → Prop} {a : Act} {w : World} (M : Act → Exit → Act → World → Prop) (h1 : c.wp P (M a) a w) (h2 : ∀ e a' w', M a e a' w' → Q e a' w') : c.wp P Q a w := Code.wp_mono h2 h1
/-- The loop's record. -/
structure IsRec (rec : LoopState → Option Code → Loop) (fn : FuncId) (tmps : Array Value) (ps : Array Tmp) (assign body : Code) (d : Nat) : Prop where
  eq : rec = fun st pe => { state := st, pending := pe, fn, tmps, params := ps, assign, body, defers := d }

set_option maxHeartbeats 2000000 in
theorem rangeFunc_outer {F : Fence} {n : Nat} {P : Program} {g : Operand} {ps : Array Tmp} {assign body : Code} {Q : Exit → Act → World → Prop} {a : Act} {w : World} (hro : F.round = none) (hd : F.depth = none) {gf : Nat} {lb : Array Value} (hg : a.eval g = .func (.func gf) #[] lb) (hF : F.fn gf)
    (eg : ∀ args w, (callFunc gf args).run P w = .ok (.enter gf args) w)
    (h : ∀ fn, F.fn fn → ∀ rec, IsRec rec fn a.tmps ps assign body w.heap.size → ∀ W1, W1 = (w.alloc (.deferred (some []))).alloc (.loop (rec .ready none)) →
      CallsIn F (n - 1) P gf (#[.func (.yield (w.heap.size + 1)) #[] #[]] ++ lb) W1 (rangePost F n P (w.heap.size + 1) Q { a with defers := { target := .collected w.heap.size, args := #[] } :: a.defers })) :
    (Code.rangeFunc g ps assign body).wpIn F n P Q a w := by
  refine wpIn_rangeFunc ?_
  intro fn hfn
  rw [hro]
  obtain ⟨rec, hrec⟩ : ∃ rec : LoopState → Option Code → Loop, rec = fun st pe => { state := st, pending := pe, fn, tmps := a.tmps, params := ps, assign, body, defers := w.heap.size } := ⟨_, rfl⟩
  obtain ⟨W1, hW1⟩ : ∃ W1, (w.alloc (.deferred (some []))).alloc (.loop (rec .ready none)) = W1 := ⟨_, rfl⟩
  refine ⟨w.heap.size + 1, [{ target := .collected w.heap.size, args := #[] }], W1, { target := .fn (.func gf) lb, args := #[.func (.yield (w.heap.size + 1)) #[] #[]] }, W1, gf,
    #[.func (.yield (w.heap.size + 1)) #[] #[]] ++ lb, W1, ?_, ?_, ?_, ?_, fun h => (by rw [hd] at h; cases h), ?_⟩
  · rw [← hW1, hrec]; exact run_enterLoop_outer _ _ _ _ _
  · simp only [resolve, hg]
    simp [go_sem]
  · intro f' hf'; simp [Target.leads] at hf'; subst hf'; exact hF
  · simp [invoke, go_sem, eg]
  · simp only [List.cons_append, List.nil_append]
    exact h fn hfn rec ⟨hrec⟩ W1 hW1.symm

theorem round_at {F : Fence} {n : Nat} {P : Program} {rec : LoopState → Option Code → Loop} {fn : FuncId} {tmps : Array Value} {ps : Array Tmp} {assign body : Code} {d l : Nat} {W : World} {R : Ending → World → Prop} (hr : IsRec rec fn tmps ps assign body d) (hF : F.fn fn) {args : Array Value} (hps : args.size = ps.size)
    (hl : W.heap[l]? = some (.loop (rec .ready none)))
    (h : assign.wpIn (F.inRound l) n P (Exit.then (fun a₁ w₁ => w₁.heap[l]? = some (.loop (rec .ready none)) ∧ body.wpIn (F.inRound l) n P (roundPost P l R) a₁ (w₁.putObj l (.loop (rec .busy none)))) (fun _ _ _ => False))
      { tmps := (ps.zip args).foldl (fun t (p, v) => t.setIfInBounds p v) tmps, defers := [] } W) : YieldAt F n P l args W R := by
  have hy := run_yield (P := P) (args := args) hl (by rw [hr.eq]; exact hps)
  rw [hr.eq] at hy
  refine ⟨fn, _, assign, body, hy, roundIn_of_wpIn hF (wpIn_mono h ?_)⟩
  rintro e a1 w1 hq
  cases e with
  | normal =>
    obtain ⟨h1, h2⟩ := hq
    refine ⟨_, run_beginRound h1 (by rw [hr.eq]), ?_⟩
    have e2 : ({ rec .ready none with state := .busy } : Loop) = rec .busy none := by rw [hr.eq]
    rw [e2]; exact h2
  | ret => exact hq
  | exit id => exact hq
  | goto t => exact hq
  | panic ch => exact hq
  | outgrown => exact hq
theorem end_round {P : Program} {rec : LoopState → Option Code → Loop} {fn : FuncId} {tmps : Array Value} {ps : Array Tmp} {assign body : Code} {d l : Nat} {W : World} (hr : IsRec rec fn tmps ps assign body d) (hl : W.heap[l]? = some (.loop (rec .busy none))) (jump : Option Code) :
    (Instr.endRound l jump).run P W = .ok (.bool jump.isNone) (W.putObj l (.loop (rec (if jump.isNone then .ready else .done) jump))) := by
  have := run_endRound (P := P) jump hl
  rw [hr.eq] at this ⊢
  exact this
theorem end_loop {P : Program} {rec : LoopState → Option Code → Loop} {fn : FuncId} {tmps : Array Value} {ps : Array Tmp} {assign body : Code} {d l : Nat} {W : World} (hr : IsRec rec fn tmps ps assign body d) {st : LoopState} {pe : Option Code} (hl : W.heap[l]? = some (.loop (rec st pe))) (hst : st ≠ .busy) :
    (Instr.endLoop l).run P W = .ok pe (W.putObj l (.loop (rec .exhausted pe))) := by
  have := run_endLoop (P := P) hl (by rw [hr.eq]; exact hst)
  rw [hr.eq] at this ⊢
  exact this
theorem round_post_normal {P : Program} {rec : LoopState → Option Code → Loop} {fn : FuncId} {tmps : Array Value} {ps : Array Tmp} {assign body : Code} {d l : Nat} {W : World} {R : Ending → World → Prop} {a : Act} (hr : IsRec rec fn tmps ps assign body d) (hl : W.heap[l]? = some (.loop (rec .busy none)))
    (hR : R (.returned (.bool true)) (W.putObj l (.loop (rec .ready none)))) : roundPost P l R .normal a W := ⟨_, _, end_round hr hl none, hR⟩
theorem round_post_ret {P : Program} {rec : LoopState → Option Code → Loop} {fn : FuncId} {tmps : Array Value} {ps : Array Tmp} {assign body : Code} {d l : Nat} {W : World} {R : Ending → World → Prop} {a : Act} (hr : IsRec rec fn tmps ps assign body d) (hl : W.heap[l]? = some (.loop (rec .busy none)))
    (hR : R (.returned (.bool false)) (W.putObj l (.loop (rec .done (some .ret))))) : roundPost P l R .ret a W := ⟨_, _, end_round hr hl (some .ret), hR⟩
end Go.Proofs.Ytebillkojmafoaa
