/- A Conf's bytes: plain. -/
import Derived.Test.YtigicphmnlkjfaaInts
import Derived.Test.YtigicphmnlkjfaaCheck
namespace Go.Proofs.Ytigicphmnlkjfaa
open Go.RowKit
set_option linter.unusedVariables false

def optNs (o : OptP) : List Int := [o.kind, o.ml, o.mm, o.mw, flagN o.nest, o.al, o.b1, o.b2, o.ae, o.aw, flagN o.apart, o.dl, o.de, o.dd]
def schedNs (s : SchedP) : List Int := [s.skind, s.base, s.rate, s.fin, s.warm, s.every, s.last, s.pow]
def keepNs (k : KeepP) : List Int := [k.kind, k.size, k.small, k.out]
def prmE (p : ParamP) : List UInt8 := (enc p.name.data.toList.length ++ p.name.data.toList) ++ encNs [p.rows, p.cols]
def prmsE (l : List ParamP) : List UInt8 := l.flatMap prmE
def groupE (g : GroupP) : List UInt8 := encNs (optNs g.opt) ++ (encNs (schedNs g.sched ++ [(g.params.length : Int)]) ++ prmsE g.params)
def groupsE (l : List GroupP) : List UInt8 := l.flatMap groupE
def headE (x : ConfP) : List UInt8 := encNs [x.f, x.clip] ++ (encNs (keepNs x.k0) ++ (encNs (keepNs x.k1) ++ encNs [(x.groups.length : Int)]))
/-- A Conf's bytes. -/
def confE (x : ConfP) : List UInt8 := headE x ++ groupsE x.groups

theorem encNs_append (l k : List Int) : encNs (l ++ k) = encNs l ++ encNs k := List.flatMap_append
theorem prmsE_take (l : List ParamP) (k : Nat) (h : k < l.length) : prmsE (l.take (k + 1)) = prmsE (l.take k) ++ prmE l[k] := by
  unfold prmsE
  rw [List.take_succ_eq_append_getElem h, List.flatMap_append]
  simp
theorem groupsE_take (l : List GroupP) (k : Nat) (h : k < l.length) : groupsE (l.take (k + 1)) = groupsE (l.take k) ++ groupE l[k] := by
  unfold groupsE
  rw [List.take_succ_eq_append_getElem h, List.flatMap_append]
  simp
theorem flag_ok (b : Bool) : I64 (flagN b) := by cases b <;> (show (Lit.int .i64 _).wf = true) <;> decide
theorem nat_ok {n : Nat} (h : n ≤ 1000) : I64 (n : Int) := by
  simp only [I64, Lit.wf, IntKind.min, IntKind.max, IntKind.signed, IntKind.bits]
  simp
  omega
theorem optNs_ok {o : OptP} (h : o.ok) : ∀ n ∈ optNs o, I64 n := by
  obtain ⟨h0, h1, h2, h3, h4, h5, h6, h7, h8, h9, h10, h11⟩ := h
  intro n hn
  simp only [optNs, List.mem_cons, List.not_mem_nil, or_false] at hn
  rcases hn with rfl | rfl | rfl | rfl | rfl | rfl | rfl | rfl | rfl | rfl | rfl | rfl | rfl | rfl <;> first | assumption | exact flag_ok _
theorem schedNs_ok {s : SchedP} (h : s.ok) : ∀ n ∈ schedNs s, I64 n := by
  obtain ⟨h0, h1, h2, h3, h4, h5, h6, h7⟩ := h
  intro n hn
  simp only [schedNs, List.mem_cons, List.not_mem_nil, or_false] at hn
  rcases hn with rfl | rfl | rfl | rfl | rfl | rfl | rfl | rfl <;> assumption
theorem keepNs_ok {k : KeepP} (h : k.ok) : ∀ n ∈ keepNs k, I64 n := by
  obtain ⟨h0, h1, h2, h3⟩ := h
  intro n hn
  simp only [keepNs, List.mem_cons, List.not_mem_nil, or_false] at hn
  rcases hn with rfl | rfl | rfl | rfl <;> assumption
theorem encNs_le {l : List Int} (h : ∀ x ∈ l, I64 x) : (encNs l).length ≤ l.length * 10 := by
  have := encNs_len h l.length
  rwa [List.take_of_length_le (Nat.le_refl _)] at this
theorem prmE_le {p : ParamP} (h : p.ok) (h40 : p.name.size ≤ 40) : (prmE p).length ≤ 70 := by
  have h1 := enc_len10 (n := p.name.data.toList.length) (by rw [toNat_ba]; omega)
  have h2 := encNs_le (l := [p.rows, p.cols]) (by intro n hn; simp at hn; rcases hn with rfl | rfl; exact h.1; exact h.2.1)
  have h3 := toNat_ba p.name
  simp only [prmE, List.length_append, List.length_cons, List.length_nil] at h2 ⊢
  omega
theorem prmsE_le {l : List ParamP} (h : ∀ p ∈ l, p.ok) (h40 : ∀ p ∈ l, p.name.size ≤ 40) : ∀ k, (prmsE (l.take k)).length ≤ k * 70
  | 0 => by simp [prmsE]
  | k + 1 => by
    have ih := prmsE_le h h40 k
    by_cases hk : k < l.length
    · rw [prmsE_take l k hk, List.length_append]
      have := prmE_le (h _ (List.getElem_mem hk)) (h40 _ (List.getElem_mem hk))
      omega
    · rw [List.take_of_length_le (by omega)] at ih ⊢
      omega
theorem groupE_le {g : GroupP} (h : g.ok) (hf : fewG g) : (groupE g).length ≤ 1000 := by
  have h1 := encNs_le (optNs_ok h.1)
  have h2 := encNs_le (l := schedNs g.sched ++ [(g.params.length : Int)]) (by
    intro n hn
    rcases List.mem_append.1 hn with hn | hn
    · exact schedNs_ok h.2.1 n hn
    · simp at hn; subst hn; exact nat_ok (by have := hf.1; omega))
  have h3 := prmsE_le h.2.2.1 hf.2 g.params.length
  rw [List.take_of_length_le (Nat.le_refl _)] at h3
  have h4 := hf.1
  simp only [groupE, List.length_append] at h1 h2 ⊢
  have e1 : (optNs g.opt).length = 14 := rfl
  have e2 : (schedNs g.sched).length = 8 := rfl
  simp only [List.length_cons, List.length_nil] at h2
  omega
set_option maxRecDepth 100000 in
theorem groupsE_le {l : List GroupP} (h : ∀ g ∈ l, g.ok) (hf : ∀ g ∈ l, fewG g) : ∀ k, (groupsE (l.take k)).length ≤ k * 1000
  | 0 => by simp [groupsE]
  | k + 1 => by
    have ih := groupsE_le h hf k
    by_cases hk : k < l.length
    · rw [groupsE_take l k hk, List.length_append]
      have := groupE_le (h _ (List.getElem_mem hk)) (hf _ (List.getElem_mem hk))
      omega
    · rw [List.take_of_length_le (by omega)] at ih ⊢
      omega
theorem headE_le {x : ConfP} (h : x.ok) (hl : x.groups.length ≤ 10) : (headE x).length ≤ 110 := by
  have h1 := encNs_le (l := [x.f, x.clip]) (by intro n hn; simp at hn; rcases hn with rfl | rfl; exact h.1; exact h.2.1)
  have h2 := encNs_le (keepNs_ok h.2.2.1)
  have h3 := encNs_le (keepNs_ok h.2.2.2.1)
  have h4 := encNs_le (l := [(x.groups.length : Int)]) (by intro n hn; simp at hn; subst hn; exact nat_ok (by omega))
  have e1 : (keepNs x.k0).length = 4 := rfl
  have e2 : (keepNs x.k1).length = 4 := rfl
  simp only [headE, List.length_append, List.length_cons, List.length_nil] at h1 h2 h3 h4 ⊢
  omega
theorem few_parts {x : ConfP} (h : fewC x = true) : x.groups.length ≤ 10 ∧ ∀ g ∈ x.groups, fewG g := by
  simpa only [fewC, decide_eq_true_eq] using h
theorem confE_le {x : ConfP} (h : x.ok) (hf : fewC x = true) : (confE x).length ≤ 20000 := by
  obtain ⟨h1, h2⟩ := few_parts hf
  have h3 := headE_le h h1
  have h4 := groupsE_le h.2.2.2.2.1 h2 x.groups.length
  rw [List.take_of_length_le (Nat.le_refl _)] at h4
  simp only [confE, List.length_append]
  omega

theorem rangeAt_sub {w : World} {g o : Nat} {cs : List Value} (h : w.rangeAt g o cs) (i n : Nat) : w.rangeAt g (o + i) ((cs.drop i).take n) := fun j v hv => by
  rw [List.getElem?_take] at hv
  split at hv
  · rw [List.getElem?_drop] at hv
    rw [Nat.add_assoc]; exact h (i + j) v hv
  · cases hv
theorem RV.new (w : World) (t : TypeId) (vs : List Value) (C : Array Value) (hC : C = vs.toArray) (fr : Nat × Nat := (0, 0)) : RV (w.alloc (.cells C t fr)) (some ⟨w.heap.size, 0, none⟩) vs := fun hn => by
  subst hC
  refine ⟨_, rfl, ?_, fun j hj => ?_⟩
  · have h1 : (w.alloc (.cells vs.toArray t fr)).heap.size = w.heap.size + 1 := by simp
    show w.heap.size < _
    rw [h1]; exact Nat.lt_succ_self _
  · rw [Addr.add_mid, Nat.zero_add, cell_of_row _ _ j _ _ _ (heap_alloc_new w _), List.getElem?_toArray]
    exact List.getElem?_eq_getElem hj
end Go.Proofs.Ytigicphmnlkjfaa
