/-
  CrcBurst is proved: for every row of bytes, place and change the statement's function returns true, and the arguments read as before. No condition.
-/
import Derived.Test.YtcbfcbkpbaefaaaRows
import Derived.WalkKit
import Derived.Test.YtcbfcbkpbaefaaaCrcBurst
import Derived.Test.YtcbfcbkpbaefaaaRowKit12
import Derived.ProofKit
import Derived.OpenShut
import Derived.ShutString
import Derived.ChangeOld
import Derived.Below
import Derived.SizedLaws
namespace Go.Proofs.Ytcbfcbkpbaefaaa.crcBurst
open Go.ChangeShapes Go.WideShapes Go.ChangeAt Go.RowKit
set_option linter.unusedVariables false

theorem own : ownKnob Try.prog.godebug = none := by kernel_rfl
theorem laidOut : laidOutB Try.prog = true := by kernel_rfl

set_option maxRecDepth 100000 in
theorem lifted (os : Os) (started : os.Started) (H : Type) (enc : TypeId × Value → H) :
    ReturnsInHanded {} Try.checked os 5 .any (Rows.crcBurstSpec.pre6 enc Try.prog Try.f5 Rows.crcBurstRow.domain false) (Rows.crcBurstSpec.post enc Try.prog Try.f5 false true false false) := by
  refine returnsInHanded_of_change_sized (C := Try.checked) own started (by kernel_rfl) Try.func5
    (ChangeSpec.witness6 (enc := enc) (C := Try.checked) false ⟨#[], #[.slice none 0 0, .int .i64 0, .agg #[.int .u32 0, .int .u32 0]], []⟩ 8 (by kernel_rfl) (by kernel_rfl) (by kernel_rfl) (by kernel_rfl)) ?_
  intro W base args ds gs before hval0 hW hcnd hsz0 _
  have hsz : (DataW.weightsEach Try.prog (Try.f5.params.toList ++ Rows.crcBurstSpec.plain.varTypes Try.prog) (ds ++ gs)).all (· ≤ reachBytes) = true := hsz0
  have hval : ∀ (j : Nat) t v, Try.f5.params[j]? = some t → args[j]? = some v → Value.okWide Try.prog W .any base t v := hval0
  have hW' := hW
  obtain ⟨p, q, hA0, hV, rfl, hfz, hnd⟩ := hW
  have hA : DataW.TrodAll enc Try.prog W 0 (fun _ => true) true Try.f5.params.toList args.toList ds p := hA0
  rw [Try.params5] at hA hval hsz
  obtain ⟨v0, vs0, d0, ds0, p0, q0, hargs, rfl, rfl, h0, r0⟩ := trodAll_cons hA
  obtain ⟨v1, vs1, d1, ds1, p1, q1, rfl, rfl, rfl, h1, r1⟩ := trodAll_cons r0
  obtain ⟨v2, vs2, d2, ds2, p2, q2, rfl, rfl, rfl, h2, r2⟩ := trodAll_cons r1
  obtain ⟨rfl, rfl, rfl⟩ := trodAll_nil r2
  obtain rfl : args = #[v0, v1, v2] := by cases args; simp_all
  obtain ⟨rfl, rfl⟩ := trodVars_none hV
  have k0 := h0
  have lt0 : ∀ x ∈ p0, x.block < W.heap.size := by obtain ⟨m, hm⟩ := k0; exact DataW.trod_lt m _ _ _ hm
  have k1 := h1
  have lt1 : ∀ x ∈ p1, x.block < W.heap.size := by obtain ⟨m, hm⟩ := k1; exact DataW.trod_lt m _ _ _ hm
  have k2 := h2
  have lt2 : ∀ x ∈ p2, x.block < W.heap.size := by obtain ⟨m, hm⟩ := k2; exact DataW.trod_lt m _ _ _ hm
  have hbytes : Try.prog.bytesOf 5 = 1 := by kernel_rfl
  obtain ⟨a0, len0, cap0, rfl⟩ := okWide_slice Try.underlying23 (hval 0 23 v0 rfl rfl)
  have hs0 := Go.Joins.sliceLen_Trod Try.underlying23 h0
  have hb0 : len0 ≤ 140737488351232 := by
    cases d0 with
    | slice el sp =>
      have h := sized_slice hsz (j := 0) (t := 23) (e := 5) rfl rfl Try.underlying23
      rw [hbytes] at h
      simp only [Go.Joins.sliceLen] at hs0
      simp only [reachBytes] at h
      omega
    | _ => simp only [Go.Joins.sliceLen] at hs0; omega
  obtain ⟨l, hl, hr, hc, hn, hm⟩ : ∃ l : List UInt8, l.length = len0 ∧ RB W W.heap.size a0 l ∧ len0 ≤ cap0 ∧ (a0 = none → cap0 = 0) ∧ len0 ≤ maxLen := by
    obtain ⟨fuel, hf⟩ := h0
    exact rb_of_trod Try.underlying23 Try.underlying5 (by kernel_rfl) (by simpa [Value.cells] using hf)
  obtain ⟨at_, rfl, rfl, rfl, w1⟩ := open_int Try.underlying3 (hval 1 3 v1 rfl rfl) h1
  obtain ⟨x0, x1, rfl, hx0, hx1⟩ := open_arr2u Try.underlying38 (by kernel_rfl) Try.underlying22 (by kernel_rfl) (hval 2 38 _ rfl rfl) h2
  clear hA0 hval0
  subst hl
  refine (crcBurst_walk a0 cap0 l at_ x0 x1 W ⟨hr, hc, hn⟩ hb0 hx0 hx1).mono fun e W' ⟨he, bel⟩ => ?_
  subst he
  replace bel : Below W.heap.size W W' := bel
  exact ⟨_, rfl, _, _, _, [], _, [], hW', trodAll_mk1 (shut_bool Try.underlying4 _), (trodAll_cons_mk (Below.trod laidOut (by kernel_rfl) (of_decide_eq_true (by kernel_rfl)) k0 bel lt0) (trodAll_cons_mk (Below.trod laidOut (by kernel_rfl) (of_decide_eq_true (by kernel_rfl)) k1 bel lt1) (trodAll_cons_mk (Below.trod laidOut (by kernel_rfl) (of_decide_eq_true (by kernel_rfl)) k2 bel lt2) trodAll_mk0))), rfl, bel.frame _, fun h => by cases h⟩

theorem over : Rows.crcBurstRow.holds Try.pinned (OpenSpec.ofChange Rows.crcBurstSpec) :=
  OpenClaim.holds_of_wide 5 Try.f5 rfl rfl rfl rfl rfl rfl rfl ⟨rfl, rfl, rfl, rfl, rfl⟩ rfl rfl rfl rfl rfl (by kernel_rfl) Try.func5 (by kernel_rfl)
    (of_decide_eq_true (by kernel_rfl)) (by unfold Func.isWrapper; first | (rw [if_pos (by decide +kernel)]; kernel_rfl) | (rw [if_neg (by decide +kernel)]; exact ⟨rfl, rfl⟩))
    (fun os started H enc _ => lifted os started H enc)

/-- The statement. -/
theorem proved : Rows.CrcBurstSaid := over
#print axioms proved
end Go.Proofs.Ytcbfcbkpbaefaaa.crcBurst
