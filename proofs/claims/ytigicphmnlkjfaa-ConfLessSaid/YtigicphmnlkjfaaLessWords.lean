/- Words for appends onto rows of groups and weights. -/
import Derived.Test.YtigicphmnlkjfaaEqC
import Derived.Test.YtigicphmnlkjfaaParams
import Derived.Great.BuildSlice
namespace Go.Proofs.Ytigicphmnlkjfaa
open Go.RowKit
set_option linter.unusedVariables false
set_option linter.unusedSimpArgs false

/-- A group, with where its weights lie. -/
abbrev GA := GroupP × Option Addr × Nat
def gaCs (L : List GA) : List Value := L.flatMap fun t => t.1.cs t.2.1 t.2.2
theorem gaCs_append (L K : List GA) : gaCs (L ++ K) = gaCs L ++ gaCs K := List.flatMap_append
theorem gaCs_len (L : List GA) : (gaCs L).length = L.length * 23 := by
  induction L with
  | nil => rfl
  | cons t L ih =>
    show (t.1.cs t.2.1 t.2.2 ++ gaCs L).length = _
    rw [List.length_append, ih, GroupP.cs_len]
    simp; omega
theorem gaCs_one (L : List GA) : ∀ u ∈ gaCs L, u.oneCell' = true := by
  intro u hu
  obtain ⟨t, _, hu⟩ := List.mem_flatMap.1 hu
  have := GroupP.cs_one t.1 t.2.1 t.2.2
  exact (Array.all_eq_true_iff_forall_mem.1 this) u (by simpa using hu)
theorem gaCs_get (L : List GA) : ∀ (i : Nat) (h : i < L.length) (j : Nat), j < 23 → (gaCs L)[i * 23 + j]? = ((L[i]).1.cs (L[i]).2.1 (L[i]).2.2)[j]? := by
  induction L with
  | nil => intro i h; simp at h
  | cons t L ih =>
    intro i h j hj
    show (t.1.cs t.2.1 t.2.2 ++ gaCs L)[i * 23 + j]? = _
    cases i with
    | zero => rw [List.getElem?_append_left (by rw [GroupP.cs_len]; omega)]; simp
    | succ i =>
      rw [List.getElem?_append_right (by rw [GroupP.cs_len]; omega), show (i + 1) * 23 + j - (t.1.cs t.2.1 t.2.2).length = i * 23 + j from by rw [GroupP.cs_len]; omega]
      simpa using ih i (by simpa using h) j hj
/-- The weights of each lie where it says. -/
def GP (w : World) (L : List GA) : Prop := ∀ t ∈ L, Params w t.2.1 t.1.params ∧ t.1.params.length ≤ t.2.2
theorem GP.step {w w' : World} {L : List GA} (h : GP w L) (hb : Bl w w') : GP w' L := fun t ht => ⟨(h t ht).1.step hb, (h t ht).2⟩
theorem list_pick {α : Type} {n : Nat} {P : Nat → α → Prop} (h : ∀ i, i < n → ∃ x, P i x) : ∃ l : List α, l.length = n ∧ ∀ i, (hi : i < l.length) → P i l[i] := by
  induction n with
  | zero => exact ⟨[], rfl, fun i hi => by simp at hi⟩
  | succ n ih =>
    obtain ⟨l, hl, hp⟩ := ih fun i hi => h i (by omega)
    obtain ⟨x, hx⟩ := h n (by omega)
    refine ⟨l ++ [x], by simp [hl], fun i hi => ?_⟩
    by_cases e : i < l.length
    · rw [List.getElem_append_left e]; exact hp i e
    · have : i = n := by simp at hi; omega
      subst this
      rw [List.getElem_append_right (by omega)]
      simpa [hl] using hx
theorem Groups.ga {w : World} {A : Option Addr} {gs : List GroupP} (h : Groups w A gs) : ∃ L : List GA, L.map (·.1) = gs ∧ RC w A (gaCs L) ∧ GP w L := by
  by_cases h0 : gs.length = 0
  · have : gs = [] := List.eq_nil_of_length_eq_zero h0
    subst this
    exact ⟨[], rfl, RC.nil_ _ _, fun t ht => by cases ht⟩
  obtain ⟨g, o, e, hs, hc⟩ := h (by omega)
  obtain ⟨l, hl, hp⟩ := list_pick (n := gs.length) (P := fun i (x : Option Addr × Nat) => ∀ hi : i < gs.length, w.rangeAt g (o + i * 23) (gs[i].cs x.1 x.2) ∧ Params w x.1 gs[i].params ∧ gs[i].params.length ≤ x.2) (fun i hi => by
    obtain ⟨P, c, h1⟩ := hc i hi
    exact ⟨(P, c), fun _ => h1⟩)
  have hzl : (gs.zip l).length = gs.length := by rw [List.length_zip, hl]; omega
  refine ⟨gs.zip l, List.map_fst_zip (by omega), fun _ => ⟨⟨g, o, none⟩, e, hs, fun j u hu => ?_⟩, fun t ht => ?_⟩
  · have hj : j < gs.length * 23 := by
      have := (List.getElem?_eq_some_iff.1 hu).1
      rwa [gaCs_len, hzl] at this
    have hg := gaCs_get (gs.zip l) (j / 23) (by omega) (j % 23) (by omega)
    rw [show j / 23 * 23 + j % 23 = j by omega, hu] at hg
    simp only [List.getElem_zip] at hg
    have := (hp (j / 23) (by omega) (by omega)).1 (j % 23) u hg.symm
    rw [Addr.add_mid, show o + j = o + j / 23 * 23 + j % 23 by omega]
    exact this
  · obtain ⟨i, hi, rfl⟩ := List.getElem_of_mem ht
    simp only [List.getElem_zip]
    exact (hp i (by omega) (by omega)).2
theorem Groups.of_ga {w : World} {A : Option Addr} {L : List GA} (h : RC w A (gaCs L)) (hp : GP w L) : Groups w A (L.map (·.1)) := fun hn => by
  have hl : 0 < L.length := by simpa using hn
  obtain ⟨⟨g, o, sp⟩, e, hs, hc⟩ := h (by rw [gaCs_len]; omega)
  have hsp : sp = none := by
    have h0 := hc 0 (.int .i64 (L[0]).1.opt.kind) ((gaCs_get L 0 hl 0 (by omega)).trans rfl)
    have := World.cell?_spot h0
    simpa [Addr.add] using this
  subst hsp
  refine ⟨g, o, e, hs, fun i hi => ?_⟩
  have hi' : i < L.length := by simpa using hi
  refine ⟨(L[i]).2.1, (L[i]).2.2, fun j v hv => ?_, ?_⟩
  · have hj : j < 23 := by
      have := (List.getElem?_eq_some_iff.1 hv).1
      rwa [GroupP.cs_len] at this
    have hv' : ((L[i]).1.cs (L[i]).2.1 (L[i]).2.2)[j]? = some v := by simpa using hv
    have := hc (i * 23 + j) v (by rw [gaCs_get L i hi' j hj]; exact hv')
    rwa [Addr.add_mid, ← Nat.add_assoc] at this
  · have := hp _ (List.getElem_mem hi')
    simpa using this
theorem RC.front {w : World} {A : Option Addr} {xs ys : List Value} (h : RC w A (xs ++ ys)) : RC w A xs := fun hn => by
  obtain ⟨ad, e, hs, hc⟩ := h (by rw [List.length_append]; omega)
  refine ⟨ad, e, hs, fun j u hu => hc j u ?_⟩
  rw [List.getElem?_append_left (List.getElem?_eq_some_iff.1 hu).1]
  exact hu
theorem Blk.rc {w : World} {g : Nat} {t : TypeId} {us : List Value} (h : Blk w g t us.toArray) : RC w (some ⟨g, 0, none⟩) us := fun _ => by
  refine ⟨_, rfl, h.lt, fun j u hu => ?_⟩
  rw [Addr.add_mid, Nat.zero_add, h.cell, List.getElem?_toArray]
  exact hu
theorem grpT : IsRows Try.prog 25 54 (.agg zg.toArray) 23 200 := ⟨by kernel_rfl, by kernel_rfl, by kernel_rfl, by omega⟩

/-- One more: a slice literal of one row. -/
theorem run_lit1 {P : Program} (w : World) {t e : TypeId} {z : Value} {sz by_ : Nat} (hT : IsRows P t e z sz by_) (hsm : sz ≤ 1000) (us : List Value) (hl : us.length = sz) :
    (Instr.buildSlice t 1 #[(0, .agg us.toArray)]).run P w = .ok (.slice (some ⟨w.heap.size, 0, none⟩) 1 1) (w.alloc (.cells us.toArray e)) := by
  obtain ⟨i, hi, hz, hs, hby⟩ := info_parts hT.info
  have hpos := hT.pos
  refine run_buildSlice w t e 1 _ us.toArray i z hT.und hi hz (by rw [hs]; omega) (by rw [hs]; omega) ?_
  rw [hs]
  have := Great.fill_whole (s := sz) hpos [Value.agg us.toArray] ((Array.range (1 * sz)).map (z.cells[· % z.cells.size]!)) (by simp [Value.cells, hl]) (by simp)
  simpa [Value.cells] using this
theorem run_lit0 {P : Program} (w : World) {t e : TypeId} {z : Value} {sz by_ : Nat} (hT : IsRows P t e z sz by_) :
    (Instr.buildSlice t 0 #[]).run P w = .ok (.slice (some ⟨w.heap.size, 0, none⟩) 0 0) (w.alloc (.cells #[] e)) := by
  obtain ⟨i, hi, hz, hs, hby⟩ := info_parts hT.info
  simp [Instr.buildSlice, run_underlying hT.und, sizeOf, typeInfo, zeroValue, hi, hz, Instr.fill, newRow, show Array.range 0 = #[] from rfl]
section
variable {P : Program} {w : World} {ops : Array Oper} {o : Oper} {a : Act} {K : Act → World → Prop} {Q : Exit → Act → World → Prop} {E : Prop}
theorem step_value (hgd : o.guard = none) (v : Value) (w' : World) (hr : (execOp a.eval o).run P w = .ok (.value v) w') (h : K (a.put o.dst v) w') : if Region.wanted o (yielded ops a.tmps) = true then Oper.wp P o a w K Q else E := by
  have hw : Region.wanted o (yielded ops a.tmps) = true := by simp [Region.wanted, hgd]
  rw [if_pos hw]
  unfold Oper.wp
  rw [hr, Oper.upon_value]
  exact h
theorem step_lit1 (hgd : o.guard = none) (t e : TypeId) (x : Operand) (ho : o.op = .buildSlice t 1 #[(0, x)]) {z : Value} {sz by_ : Nat} (hT : IsRows P t e z sz by_) (hsm : sz ≤ 1000) (us : List Value) (hl : us.length = sz) (hx : a.eval x = .agg us.toArray)
    (h : K (a.put o.dst (.slice (some ⟨w.heap.size, 0, none⟩) 1 1)) (w.alloc (.cells us.toArray e))) : if Region.wanted o (yielded ops a.tmps) = true then Oper.wp P o a w K Q else E := by
  refine step_value hgd _ _ ?_ h
  unfold execOp
  simp [ho, hx, run_lit1 w hT hsm us hl]
theorem step_lit0 (hgd : o.guard = none) (t e : TypeId) (ho : o.op = .buildSlice t 0 #[]) {z : Value} {sz by_ : Nat} (hT : IsRows P t e z sz by_)
    (h : K (a.put o.dst (.slice (some ⟨w.heap.size, 0, none⟩) 0 0)) (w.alloc (.cells #[] e))) : if Region.wanted o (yielded ops a.tmps) = true then Oper.wp P o a w K Q else E := by
  refine step_value hgd _ _ ?_ h
  unfold execOp
  simp [ho, run_lit0 w hT]
theorem run_store1 (b i : Nat) (ty : TypeId) (v : Value) (hc : (w.cell? ⟨b, i, none⟩).isSome = true) (hf : w.frozen? ⟨b, i, none⟩ = false) (hi : (P.info? ty).map (·.size) = some 1) (h1 : v.cells = #[v]) (h2 : v.oneCell' = true) :
    (Instr.storeAt ty (.pointer (some ⟨b, i, none⟩)) v).run P w = .ok () (w.setCell ⟨b, i, none⟩ v) := by
  have e1 : ∀ j, j < [v].length → (w.cell? ⟨b, i + 0 + j, none⟩).isSome = true := fun j hj => by
    obtain rfl : j = 0 := by simpa using hj
    simpa using hc
  have e2 : ∀ j, j < [v].length → w.frozen? ⟨b, i + 0 + j, none⟩ = false := fun j hj => by
    obtain rfl : j = 0 := by simpa using hj
    simpa using hf
  have := run_storeCells_cells (P := P) b i [v] 0 w e1 e2 (fun u hu => by obtain rfl := List.mem_singleton.1 hu; exact h2)
  cases hq : P.info? ty with
  | none => simp [hq] at hi
  | some q =>
    have hs : q.size = 1 := by simpa [hq] using hi
    simp only [Nat.add_zero] at this
    simp [Instr.storeAt, Instr.sureAddr, storeVar, sizeOf, typeInfo, hq, h1, hs, this, World.setCells]
theorem step_store1 (hgd : o.guard = none) (ty : TypeId) (x y : Operand) (ho : o.op = .store ty x y) (b i : Nat) (v : Value) (hx : a.eval x = .pointer (some ⟨b, i, none⟩)) (hy : a.eval y = v)
    (hc : (w.cell? ⟨b, i, none⟩).isSome = true) (hf : w.frozen? ⟨b, i, none⟩ = false) (hi : (P.info? ty).map (·.size) = some 1) (h1 : v.cells = #[v]) (h2 : v.oneCell' = true)
    (h : K (a.put o.dst undef) (w.setCell ⟨b, i, none⟩ v)) : if Region.wanted o (yielded ops a.tmps) = true then Oper.wp P o a w K Q else E := by
  have hw : Region.wanted o (yielded ops a.tmps) = true := by simp [Region.wanted, hgd]
  rw [if_pos hw]
  unfold Oper.wp execOp
  simp only [ho, hx, hy, Sem.run_bind, run_store1 b i ty v hc hf hi h1 h2, Result.andThen_ok]
  exact h
end
end Go.Proofs.Ytigicphmnlkjfaa
