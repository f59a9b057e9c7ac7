/- More words for ConfLess: copies, stores, what the changed Confs are. -/
import Derived.Test.YtigicphmnlkjfaaLessReg
import Derived.Test.YtigicphmnlkjfaaLessPlain
namespace Go.Proofs.Ytigicphmnlkjfaa
open Go.RowKit
set_option linter.unusedVariables false
set_option linter.unusedSimpArgs false

def zc : List Value := [.int .i64 0, .int .i64 0, .int .i64 0, .int .i64 0, .int .i64 0, .int .i64 0, .int .i64 0, .int .i64 0, .int .i64 0, .int .i64 0, .slice none 0 0]
theorem zero_c (w : World) : (zeroValue 27).run Try.prog w = .ok (.agg zc.toArray) w := by kernel_rfl
theorem conf_copied (w : World) (us : List Value) : Blk ((w.alloc (.cells zc.toArray 27)).setRow w.heap.size us.toArray) w.heap.size 27 us.toArray ∧ Bl w ((w.alloc (.cells zc.toArray 27)).setRow w.heap.size us.toArray) :=
  ⟨setRow_heap _ _ _ _ _ _ (Blk.new w 27 zc.toArray), below_setRow (Bl.alloc w _) (Nat.le_refl _) _⟩
section
variable {P : Program} {w : World} {ops : Array Oper} {rest : List Oper} {a : Act} {Q : Exit → Act → World → Prop}
/-- The walk stands at this operation. -/
theorem at_store {d : Option Tmp} {t : TypeId} {p : String} {af : Array Edge} {g : Option (Nat × Bool)} (ty : TypeId) (x y : Operand)
    (h : wpList P ops Q ({ dst := d, op := .store ty x y, type := t, pos := p, after := af, guard := g } :: rest) a w) : wpList P ops Q ({ dst := d, op := .store ty x y, type := t, pos := p, after := af, guard := g } :: rest) a w := h
theorem wpList_store1 {o : Oper} (hgd : o.guard = none) (ty : TypeId) (x y : Operand) (ho : o.op = .store ty x y) (b i : Nat) (v : Value) (hx : a.eval x = .pointer (some ⟨b, i, none⟩)) (hy : a.eval y = v)
    (hc : (w.cell? ⟨b, i, none⟩).isSome = true) (hf : w.frozen? ⟨b, i, none⟩ = false) (hi : (P.info? ty).map (·.size) = some 1) (h1 : v.cells = #[v]) (h2 : v.oneCell' = true)
    (h : wpList P ops Q rest (a.put o.dst undef) (w.setCell ⟨b, i, none⟩ v)) : wpList P ops Q (o :: rest) a w :=
  wpList_plain hgd fun _ hK => by
    unfold Oper.wp execOp
    simp only [ho, hx, hy, Sem.run_bind, run_store1 b i ty v hc hf hi h1 h2, Result.andThen_ok]
    exact hK _ _ h
end
theorem RC.set_ {w : World} {A : Option Addr} {xs : List Value} (h : RC w A xs) {n : Nat} (hn : ∀ ad, A = some ad → ad.block ≠ n) (i : Nat) (v : Value) : RC (w.setCell ⟨n, i, none⟩ v) A xs := fun hx => by
  obtain ⟨ad, e, hs, hc⟩ := h hx
  refine ⟨ad, e, by simpa [World.setCell] using hs, fun j u hu => ?_⟩
  have hbk : (ad.add j).block = ad.block := by unfold Addr.add; split <;> rfl
  exact (World.cell?_of_block (Below.heap_setCell w ⟨n, i, none⟩ v _ (by rw [hbk]; exact hn ad e))).trans (hc j u hu)
theorem Groups.take {w : World} {A : Option Addr} {gs : List GroupP} (h : Groups w A gs) (m : Nat) : Groups w A (gs.take m) := fun hn => by
  obtain ⟨g, o, e, hs, hc⟩ := h (by rw [List.length_take] at hn; omega)
  refine ⟨g, o, e, hs, fun i hi => ?_⟩
  rw [List.length_take] at hi
  obtain ⟨P, c, hh⟩ := hc i (by omega)
  rw [List.getElem_take]
  exact ⟨P, c, hh⟩
theorem Params.take {w : World} {A : Option Addr} {l : List ParamP} (h : Params w A l) (m : Nat) : Params w A (l.take m) := fun hn => by
  obtain ⟨g, o, e, hs, hc⟩ := h (by rw [List.length_take] at hn; omega)
  refine ⟨g, o, e, hs, fun i hi => ?_⟩
  rw [List.length_take] at hi
  rw [List.getElem_take]
  exact hc i (by omega)
theorem Params.first {w : World} {g o : Nat} {l : List ParamP} {p : ParamP} (h : Params w (some ⟨g, o, none⟩) l) (hp : l[0]? = some p) : w.rangeAt g o p.cs := by
  obtain ⟨hl, rfl⟩ := List.getElem?_eq_some_iff.1 hp
  obtain ⟨g', o', e, hr⟩ := h.range hl
  injection e with e
  injection e with e1 e2 e3
  subst e1 e2
  simpa using hr
theorem prmCs_snoc (l : List ParamP) (p : ParamP) : prmCs (l ++ [p]) = prmCs l ++ p.cs := by rw [prmCs_append]; simp [prmCs]
theorem bl_set {w w' : World} (h : Bl w w') {n : Nat} (hn : w.heap.size ≤ n) (i : Nat) (v : Value) : Bl w (w'.setCell ⟨n, i, none⟩ v) := Below.setCell h (by show w.heap.size ≤ n; exact hn) _
theorem sz_set (w : World) (n i : Nat) (v : Value) : (w.setCell ⟨n, i, none⟩ v).heap.size = w.heap.size := by simp [World.setCell]
theorem conf_set (x : ConfP) (gs : List GroupP) (A B : Option Addr) (c d n : Nat) (hn : gs.length = n) : (x.cs A c).toArray.setIfInBounds 10 (.slice B n d) = (({ x with groups := gs } : ConfP).cs B d).toArray := by
  subst hn
  simp [ConfP.cs, KeepP.cs]
theorem grp_set (g : GroupP) (ps : List ParamP) (A B : Option Addr) (c d n : Nat) (hn : ps.length = n) : (g.cs A c).toArray.setIfInBounds 22 (.slice B n d) = (({ g with params := ps } : GroupP).cs B d).toArray := by
  subst hn
  simp [GroupP.cs, OptP.cs, SchedP.cs]
theorem fewC_iff (x : ConfP) : fewC x = true ↔ x.groups.length ≤ 10 ∧ ∀ g ∈ x.groups, fewG g := by simp [fewC]
theorem few_less {x : ConfP} (h : fewC x = true) (m : Nat) : fewC (lessG x m) = true := by
  rw [fewC_iff] at h ⊢
  refine ⟨?_, fun g hg => h.2 g (List.mem_of_mem_take hg)⟩
  simp only [lessG, List.length_take]; omega
theorem few_last {x : ConfP} (h : fewC x = true) {m : Nat} {g : GroupP} (hm : x.groups.length = m + 1) {ps : List ParamP} (hl : ps.length ≤ 10) (hp : ∀ p ∈ ps, p.name.size ≤ 40) : fewC (lastG x m ps g) = true := by
  rw [fewC_iff] at h ⊢
  refine ⟨?_, fun k hk => ?_⟩
  · simp only [lastG, List.length_append, List.length_take, List.length_cons, List.length_nil]; omega
  · rcases List.mem_append.1 hk with hk | hk
    · exact h.2 k (List.mem_of_mem_take hk)
    · obtain rfl := List.mem_singleton.1 hk
      exact ⟨hl, hp⟩
theorem ok_less {x : ConfP} (h : x.ok) (m : Nat) : (lessG x m).ok := by
  obtain ⟨h1, h2, h3, h4, h5, h6⟩ := h
  refine ⟨h1, h2, h3, h4, fun g hg => h5 g (List.mem_of_mem_take hg), ?_⟩
  simp only [lessG, List.length_take]; omega
theorem ok_last {x : ConfP} (h : x.ok) {m : Nat} {g : GroupP} (hm : x.groups.length = m + 1) (hg : g.ok) {ps : List ParamP} (hl : ps.length ≤ 10) (hp : ∀ p ∈ ps, p.ok) : (lastG x m ps g).ok := by
  obtain ⟨h1, h2, h3, h4, h5, h6⟩ := h
  refine ⟨h1, h2, h3, h4, fun k hk => ?_, ?_⟩
  · rcases List.mem_append.1 hk with hk | hk
    · exact h5 k (List.mem_of_mem_take hk)
    · obtain rfl := List.mem_singleton.1 hk
      exact ⟨hg.1, hg.2.1, hp, by simp only; omega⟩
  · simp only [lastG, List.length_append, List.length_take, List.length_cons, List.length_nil]; omega
/-- A Conf with another last group, of an append. -/
theorem CF.last {w : World} {A P : Option Addr} {c cp m : Nat} {x : ConfP} {g : GroupP} {ps : List ParamP} {L : List GA} (hL : L.map (·.1) = x.groups) (hr : RC w A (gaCs (L.take m) ++ (({ g with params := ps } : GroupP).cs P cp)))
    (hg : GP w L) (hp : Params w P ps) (hc : ps.length ≤ cp) (hcap : m + 1 ≤ c) (hok : (lastG x m ps g).ok) : CF w A c (lastG x m ps g) := by
  refine ⟨?_, ?_, hok⟩
  · have e : gaCs (L.take m) ++ (({ g with params := ps } : GroupP).cs P cp) = gaCs (L.take m ++ [({ g with params := ps }, P, cp)]) := by
      rw [gaCs_append]; simp [gaCs]
    rw [e] at hr
    have := Groups.of_ga hr (fun t ht => by
      rcases List.mem_append.1 ht with ht | ht
      · exact hg t (List.mem_of_mem_take ht)
      · obtain rfl := List.mem_singleton.1 ht
        exact ⟨hp, hc⟩)
    rw [List.map_append, List.map_take, hL] at this
    exact this
  · simp only [lastG, List.length_append, List.length_take, List.length_cons, List.length_nil]; omega
theorem CF.less {w : World} {A : Option Addr} {c : Nat} {x : ConfP} (h : CF w A c x) (m : Nat) : CF w A c (lessG x m) := by
  refine ⟨h.gs.take m, ?_, ok_less h.ok m⟩
  have := h.cap
  simp only [lessG, List.length_take]; omega
end Go.Proofs.Ytigicphmnlkjfaa
