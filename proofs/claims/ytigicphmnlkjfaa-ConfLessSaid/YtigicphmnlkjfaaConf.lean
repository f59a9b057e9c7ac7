/- Words for Confs: groups, weights, as values in memory. (Printed by wip/gen_conf.py.) -/
import Derived.Test.YtigicphmnlkjfaaActWords
namespace Go.Proofs.Ytigicphmnlkjfaa
open Go.RowKit Go.ChangeShapes Go.WideShapes Go.ChangeAt Go.Deep
set_option linter.unusedVariables false

def I64 (n : Int) : Prop := (Lit.int .i64 n).wf = true
theorem I64.bd {n : Int} (h : I64 n) : -9223372036854775808 ≤ n ∧ n ≤ 9223372036854775807 := by
  simpa [I64, Lit.wf, IntKind.min, IntKind.max, IntKind.signed, IntKind.bits] using h
/-- How moments are kept. -/
structure KeepP where
  kind : Int
  size : Int
  small : Int
  out : Int
deriving DecidableEq
/-- An optimiser. -/
structure OptP where
  kind : Int
  ml : Int
  mm : Int
  mw : Int
  nest : Bool
  al : Int
  b1 : Int
  b2 : Int
  ae : Int
  aw : Int
  apart : Bool
  dl : Int
  de : Int
  dd : Int
deriving DecidableEq
/-- A schedule. -/
structure SchedP where
  skind : Int
  base : Int
  rate : Int
  fin : Int
  warm : Int
  every : Int
  last : Int
  pow : Int
deriving DecidableEq
/-- Weights. -/
structure ParamP where
  name : ByteArray
  rows : Int
  cols : Int
deriving DecidableEq
/-- A group. -/
structure GroupP where
  opt : OptP
  sched : SchedP
  params : List ParamP
deriving DecidableEq
/-- What a trainer is told. -/
structure ConfP where
  f : Int
  clip : Int
  k0 : KeepP
  k1 : KeepP
  groups : List GroupP
deriving DecidableEq
def KeepP.ok (x : KeepP) : Prop := I64 x.kind ∧ I64 x.size ∧ I64 x.small ∧ I64 x.out
def OptP.ok (x : OptP) : Prop := I64 x.kind ∧ I64 x.ml ∧ I64 x.mm ∧ I64 x.mw ∧ I64 x.al ∧ I64 x.b1 ∧ I64 x.b2 ∧ I64 x.ae ∧ I64 x.aw ∧ I64 x.dl ∧ I64 x.de ∧ I64 x.dd
def SchedP.ok (x : SchedP) : Prop := I64 x.skind ∧ I64 x.base ∧ I64 x.rate ∧ I64 x.fin ∧ I64 x.warm ∧ I64 x.every ∧ I64 x.last ∧ I64 x.pow
def ParamP.ok (x : ParamP) : Prop := I64 x.rows ∧ I64 x.cols ∧ x.name.size ≤ 9223372036854775807
def GroupP.ok (x : GroupP) : Prop := x.opt.ok ∧ x.sched.ok ∧ (∀ p ∈ x.params, p.ok) ∧ x.params.length ≤ 9223372036854775807
def ConfP.ok (x : ConfP) : Prop := I64 x.f ∧ I64 x.clip ∧ x.k0.ok ∧ x.k1.ok ∧ (∀ g ∈ x.groups, g.ok) ∧ x.groups.length ≤ 9223372036854775807
def KeepP.v (x : KeepP) : Value := .agg #[.int .i64 x.kind, .int .i64 x.size, .int .i64 x.small, .int .i64 x.out]
def OptP.cs (x : OptP) : List Value := [.int .i64 x.kind, .int .i64 x.ml, .int .i64 x.mm, .int .i64 x.mw, .bool x.nest, .int .i64 x.al, .int .i64 x.b1, .int .i64 x.b2, .int .i64 x.ae, .int .i64 x.aw, .bool x.apart, .int .i64 x.dl, .int .i64 x.de, .int .i64 x.dd]
def SchedP.cs (x : SchedP) : List Value := [.int .i64 x.skind, .int .i64 x.base, .int .i64 x.rate, .int .i64 x.fin, .int .i64 x.warm, .int .i64 x.every, .int .i64 x.last, .int .i64 x.pow]
def GroupP.cs (x : GroupP) (A : Option Addr) (c : Nat) : List Value := x.opt.cs ++ (x.sched.cs ++ [.slice A x.params.length c])
def ConfP.v (x : ConfP) (A : Option Addr) (c : Nat) : Value := .agg #[.int .i64 x.f, .int .i64 x.clip, .int .i64 x.k0.kind, .int .i64 x.k0.size, .int .i64 x.k0.small, .int .i64 x.k0.out, .int .i64 x.k1.kind, .int .i64 x.k1.size, .int .i64 x.k1.small, .int .i64 x.k1.out, .slice A x.groups.length c]

/-- A slice of weights. -/
def Params (w : World) (A : Option Addr) (l : List ParamP) : Prop := 0 < l.length → ∃ g o, A = some ⟨g, o, none⟩ ∧ g < w.heap.size ∧ ∀ i, (h : i < l.length) →
  w.cell? ⟨g, o + i * 3, none⟩ = some (.string l[i].name) ∧ w.cell? ⟨g, o + i * 3 + 1, none⟩ = some (.int .i64 l[i].rows) ∧ w.cell? ⟨g, o + i * 3 + 2, none⟩ = some (.int .i64 l[i].cols)
theorem Params.step {w w' : World} {A : Option Addr} {l : List ParamP} (h : Params w A l) (hb : Bl w w') : Params w' A l := fun hn => by
  obtain ⟨g, o, e, hs, hc⟩ := h hn
  refine ⟨g, o, e, Nat.lt_of_lt_of_le hs hb.size, fun i hi => ?_⟩
  obtain ⟨h1, h2, h3⟩ := hc i hi
  have hk := fun x => Bl.cell hb (p := ⟨g, x, none⟩) hs
  exact ⟨(hk _).trans h1, (hk _).trans h2, (hk _).trans h3⟩
theorem Params.at_ {w : World} {A : Option Addr} {l : List ParamP} (h : Params w A l) {i : Nat} (hi : i < l.length) : ∃ g o, A = some ⟨g, o, none⟩ ∧
  w.cell? ⟨g, o + i * 3, none⟩ = some (.string l[i].name) ∧ w.cell? ⟨g, o + i * 3 + 1, none⟩ = some (.int .i64 l[i].rows) ∧ w.cell? ⟨g, o + i * 3 + 2, none⟩ = some (.int .i64 l[i].cols) := by
  obtain ⟨g, o, e, _, hc⟩ := h (by omega)
  exact ⟨g, o, e, hc i hi⟩
theorem Params.nil_ (w : World) (A : Option Addr) : Params w A [] := fun h => absurd h (by simp)

/-- A group's cells in one list, in parts. -/
theorem GroupP.cs_len (x : GroupP) (A : Option Addr) (c : Nat) : (x.cs A c).length = 23 := rfl
theorem GroupP.cs_opt (x : GroupP) (A : Option Addr) (c : Nat) : ∀ (j : Nat) (v : Value), x.opt.cs[j]? = some v → (x.cs A c)[j]? = some v := fun j v h => by
  unfold GroupP.cs
  rw [List.getElem?_append_left (List.getElem?_eq_some_iff.1 h).1]; exact h
theorem GroupP.cs_sched (x : GroupP) (A : Option Addr) (c : Nat) : ∀ (j : Nat) (v : Value), x.sched.cs[j]? = some v → (x.cs A c)[14 + j]? = some v := fun j v h => by
  unfold GroupP.cs
  rw [List.getElem?_append_right (by show 14 ≤ 14 + j; omega), show 14 + j - x.opt.cs.length = j from by show 14 + j - 14 = j; omega, List.getElem?_append_left (List.getElem?_eq_some_iff.1 h).1]; exact h
theorem GroupP.cs_params (x : GroupP) (A : Option Addr) (c : Nat) : (x.cs A c)[22]? = some (.slice A x.params.length c) := rfl
theorem GroupP.cs_one (x : GroupP) (A : Option Addr) (c : Nat) : (x.cs A c).toArray.all (·.oneCell') = true := by simp [GroupP.cs, OptP.cs, SchedP.cs, Value.oneCell']
theorem rangeAt_step {w w' : World} {g o : Nat} {cs : List Value} (h : w.rangeAt g o cs) (hg : g < w.heap.size) (hb : Bl w w') : w'.rangeAt g o cs := fun j v hv => (Bl.cell hb (p := ⟨g, o + j, none⟩) hg).trans (h j v hv)
/-- A slice of groups. -/
def Groups (w : World) (A : Option Addr) (l : List GroupP) : Prop := 0 < l.length → ∃ g o, A = some ⟨g, o, none⟩ ∧ g < w.heap.size ∧ ∀ i, (h : i < l.length) → ∃ P c, w.rangeAt g (o + i * 23) (l[i].cs P c) ∧ Params w P l[i].params ∧ l[i].params.length ≤ c
theorem Groups.step {w w' : World} {A : Option Addr} {l : List GroupP} (h : Groups w A l) (hb : Bl w w') : Groups w' A l := fun hn => by
  obtain ⟨g, o, e, hs, hc⟩ := h hn
  refine ⟨g, o, e, Nat.lt_of_lt_of_le hs hb.size, fun i hi => ?_⟩
  obtain ⟨P, c, h1, h2, h3⟩ := hc i hi
  exact ⟨P, c, rangeAt_step h1 hs hb, h2.step hb, h3⟩
theorem Groups.at_ {w : World} {A : Option Addr} {l : List GroupP} (h : Groups w A l) {i : Nat} (hi : i < l.length) : ∃ g o P c, A = some ⟨g, o, none⟩ ∧ g < w.heap.size ∧ w.rangeAt g (o + i * 23) (l[i].cs P c) ∧ Params w P l[i].params ∧ l[i].params.length ≤ c := by
  obtain ⟨g, o, e, hs, hc⟩ := h (by omega)
  obtain ⟨P, c, h⟩ := hc i hi
  exact ⟨g, o, P, c, e, hs, h⟩
theorem Groups.nil_ (w : World) (A : Option Addr) : Groups w A [] := fun h => absurd h (by simp)
/-- A Conf's value, in a world. -/
structure CF (w : World) (A : Option Addr) (c : Nat) (x : ConfP) : Prop where
  gs : Groups w A x.groups
  cap : x.groups.length ≤ c
  ok : x.ok
theorem CF.step {w w' : World} {A : Option Addr} {c : Nat} {x : ConfP} (h : CF w A c x) (hb : Bl w w') : CF w' A c x := ⟨h.gs.step hb, h.cap, h.ok⟩

/-- Few groups, few weights, short names. -/
def fewG (x : GroupP) : Prop := x.params.length ≤ 10 ∧ ∀ p ∈ x.params, p.name.size ≤ 40
instance (x : GroupP) : Decidable (fewG x) := by unfold fewG; infer_instance
def fewC (x : ConfP) : Bool := decide (x.groups.length ≤ 10 ∧ ∀ g ∈ x.groups, fewG g)
end Go.Proofs.Ytigicphmnlkjfaa
