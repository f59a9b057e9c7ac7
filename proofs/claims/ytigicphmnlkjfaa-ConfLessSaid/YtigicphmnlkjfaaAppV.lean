/- append onto a row of elements of any type that may be appended to: one that is the call's own, or one that is full. Nothing of the program. -/
import Derived.Test.YtigicphmnlkjfaaApp
namespace Go.Proofs.Ytigicphmnlkjfaa
open Go.RowKit

/-- Type t is a slice of e; e's elements have sz cells. -/
structure IsRows (P : Program) (t e : TypeId) (z : Value) (sz by_ : Nat) : Prop where
  und : P.underlying t = some (.slice e)
  info : (P.info? e).map (fun i => (i.zero, i.size, i.bytes)) = some (some z, sz, by_)
  zs : z.cells.size = sz
  pos : 0 < sz

/-- The cells from A on read as these. -/
def RC (w : World) (A : Option Addr) (xs : List Value) : Prop := 0 < xs.length → ∃ ad, A = some ad ∧ ad.block < w.heap.size ∧ ∀ (j : Nat) u, xs[j]? = some u → w.cell? (ad.add j) = some u
theorem RC.nil_ (w : World) (A : Option Addr) : RC w A [] := fun h => absurd h (by simp)
theorem RC.below {w w' : World} {A : Option Addr} {xs : List Value} (h : RC w A xs) (hb : Below w.heap.size w w') : RC w' A xs := fun hn => by
  obtain ⟨ad, e, hs, hc⟩ := h hn
  refine ⟨ad, e, Nat.lt_of_lt_of_le hs hb.size, fun j u hu => ?_⟩
  have hbk : (ad.add j).block = ad.block := by unfold Addr.add; split <;> rfl
  exact (World.cell?_of_block (hb.block _ (by rw [hbk]; exact hs))).trans (hc j u hu)
theorem RC.of_own {w : World} {base : Nat} {e : TypeId} {sz n c : Nat} {A : Option Addr} {xs : List Value} (h : w.ownsRow base e sz (.slice A n c) n xs) (hn : 0 < n) : RC w A xs := fun _ => by
  obtain ⟨g, cap, hv, _, hlt⟩ := h.form hn
  have hA : A = some ⟨g, 0, none⟩ := by injection hv
  subst hA
  exact ⟨_, rfl, hlt, fun j u hu => h.cells (g := g) rfl j u hu⟩

/-- The slice '.slice A n c' reads as the cells fs in w; what lies below 'base' is not touched where it is appended to. -/
structure ApV (w : World) (e : TypeId) (sz base : Nat) (A : Option Addr) (n c : Nat) (fs : List Value) : Prop where
  len : fs.length = n * sz
  cap : n ≤ c
  rb : RC w A fs
  none_ : A = none → c = 0
  how : w.ownsRow base e sz (.slice A n c) n fs ∨ c = n
theorem ApV.nil_ (w : World) (e : TypeId) (sz base : Nat) : ApV w e sz base none 0 0 [] := ⟨by simp, Nat.le_refl _, RC.nil_ _ _, fun _ => rfl, .inl (World.ownsRow_nil _ _ _ _)⟩
theorem ApV.empty {w : World} {e : TypeId} {sz base : Nat} (A : Option Addr) : ApV w e sz base A 0 0 [] := ⟨by simp, Nat.le_refl _, RC.nil_ _ _, fun _ => rfl, .inr rfl⟩
theorem ApV.full {w : World} {e : TypeId} {sz base n : Nat} {A : Option Addr} {fs : List Value} (h : RC w A fs) (hl : fs.length = n * sz) (hA : A = none → n = 0) : ApV w e sz base A n n fs := ⟨hl, Nat.le_refl _, h, hA, .inr rfl⟩
theorem ApV.keep {w w' : World} {e : TypeId} {sz base n c : Nat} {A : Option Addr} {fs : List Value} (h : ApV w e sz base A n c fs) (hb : Below w.heap.size w w') : ApV w' e sz base A n c fs :=
  ⟨h.len, h.cap, h.rb.below hb, h.none_, h.how.imp (fun ho => by
    refine ⟨ho.1, ho.2.imp id ?_⟩
    rintro ⟨g, cap, cur, h1, h2, h3, h4⟩
    refine ⟨g, cap, cur, h1, h2, ?_, h4⟩
    have hg : g < w.heap.size := by
      rcases Nat.lt_or_ge g w.heap.size with hlt | hge
      · exact hlt
      · rw [Array.getElem?_eq_none hge] at h3; cases h3
    rw [hb.block g hg, h3]) id⟩

/-- What an append leaves. -/
structure ApdV (w w' : World) (e : TypeId) (sz base : Nat) (A A' : Option Addr) (n' c' : Nat) (fs' : List Value) : Prop where
  ap : ApV w' e sz base A' n' c' fs'
  below : Below base w w'
  grown : ∃ row, w.grownBy w' row ∧ ∀ g, row = some g → base ≤ g ∧ A.map (·.block) = some g
  at_ : A'.map (·.block) = A.map (·.block) ∨ ∀ g, A'.map (·.block) = some g → w.heap.size ≤ g ∧ g < w'.heap.size

section
variable {P : Program} (w : World)
theorem run_append_apv {t ty e : TypeId} {z : Value} {sz by_ : Nat} (hT : IsRows P t e z sz by_) {base : Nat} {A : Option Addr} {n c : Nat} {fs : List Value} (h : ApV w e sz base A n c fs) (hbase : base ≤ w.heap.size)
    {D : Option Addr} {m d : Nat} {ks : List Value} (hk : RC w D ks) (hm : ks.length = m * sz) (h1 : ∀ u ∈ ks, u.oneCell' = true) (hmx : n + m ≤ maxLen) (hbytes : (n + m) * by_ ≤ 140737488355328) :
    ∃ A' c' w', (Builtin.append_ #[t, t] ty #[.slice A n c, .slice D m d]).run P w = .ok (.slice A' (n + m) c') w' ∧ ApdV w w' e sz base A A' (n + m) c' (fs ++ ks) := by
  obtain ⟨i, hi, hz, hs, hby⟩ := info_parts hT.info
  have hpos := hT.pos
  by_cases hm0 : m = 0
  · subst hm0
    have hk0 : ks = [] := List.eq_nil_of_length_eq_zero (by omega)
    subst hk0
    refine ⟨A, c, w, ?_, ⟨by simpa using h, Below.refl _ _, ⟨none, World.grownBy.refl w none, fun g hg => by cases hg⟩, .inl rfl⟩⟩
    have hcap := h.cap
    rcases A with _ | ad <;> rcases D with _ | dd <;>
      simp [Builtin.append_, run_underlying hT.und, sizeOf, typeInfo, hi, Builtin.lenOf, Builtin.firstCells, hcap, storeCells, loadCells, loadCellsFrom]
  · have hkp : 0 < ks.length := by rw [hm]; exact Nat.mul_pos (by omega) hpos
    obtain ⟨dd, rfl, hdB, hnews⟩ := hk hkp
    have hfl : (fs ++ ks).length = (n + m) * sz := by rw [List.length_append, h.len, hm, Nat.add_mul]
    rcases h.how with ho | hfull
    · obtain ⟨v', w', hrun, ho', hg, hnil, hat⟩ := run_append_own_at (P := P) w base t ty e i z sz by_ hT.und hi hz hs hby hT.zs hpos _ n _ ho dd m d ks hm hnews h1 hmx hbytes hbase
      obtain ⟨g, cap', hv', hgb, hlt⟩ := ho'.form (by omega)
      subst hv'
      have hcap' : n + m ≤ cap' := by
        rcases ho'.2 with ⟨he, _⟩ | ⟨_, _, _, he, _, _, hle, _⟩
        · cases he
        · injection he with _ _ he; subst he; exact hle
      have hrow : ∀ g', (Value.slice A n c).ownBlock = some g' → base ≤ g' ∧ A.map (·.block) = some g' := by
        intro g' hg'
        rcases ho.2 with ⟨he, _⟩ | ⟨g0, _, _, he, hb0, _⟩
        · rw [he] at hg'; cases hg'
        · injection he with hA _ _
          subst hA
          simp [Value.ownBlock] at hg'
          subst hg'
          exact ⟨hb0, rfl⟩
      refine ⟨_, _, w', hrun, ⟨⟨hfl, hcap', RC.of_own ho' (by omega), (fun hn => by cases hn), .inl ho'⟩, ?_, ⟨_, hg, hrow⟩, ?_⟩⟩
      · exact ⟨hg.os, hg.tape, hg.output, hg.size, fun j hj => hg.block j (by omega) (fun e => by have := (hrow j e.symm).1; omega)⟩
      · rcases hat with hat | hat
        · left
          rw [show (Option.map (fun x : Addr => x.block) (some (⟨g, 0, none⟩ : Addr))) = (Value.slice (some ⟨g, 0, none⟩) (n + m) cap').ownBlock from rfl, hat]
          cases A <;> rfl
        · right
          intro g' hg'
          have e1 : some g = some w.heap.size := hat
          have e2 : some g = some g' := hg'
          rw [e1] at e2
          injection e2 with e2
          injection e1 with e1
          subst e2
          exact ⟨Nat.le_refl _, by omega⟩
    · subst hfull
      rcases A with _ | ad
      · have hn0 := h.none_ rfl
        subst hn0
        have hl0 : fs = [] := List.eq_nil_of_length_eq_zero (by have := h.len; omega)
        subst hl0
        obtain ⟨v', w', hrun, ho', hg, hnil, hat⟩ := run_append_own_at (P := P) w base t ty e i z sz by_ hT.und hi hz hs hby hT.zs hpos (.slice none 0 0) 0 [] (World.ownsRow_nil _ _ _ _) dd m d ks hm hnews h1 hmx hbytes hbase
        obtain ⟨g, cap', hv', hgb, hlt⟩ := ho'.form (by omega)
        subst hv'
        have hcap' : 0 + m ≤ cap' := by
          rcases ho'.2 with ⟨he, _⟩ | ⟨_, _, _, he, _, _, hle, _⟩
          · cases he
          · injection he with _ _ he; subst he; exact hle
        refine ⟨_, _, w', hrun, ⟨⟨hfl, hcap', RC.of_own ho' (by omega), (fun hn => by cases hn), .inl ho'⟩, ?_, ⟨_, hg, fun g hg => by simp [Value.ownBlock] at hg⟩, ?_⟩⟩
        · exact ⟨hg.os, hg.tape, hg.output, hg.size, fun j hj => hg.block j (by omega) (by simp [Value.ownBlock])⟩
        · right
          intro g' hg'
          have e2 : some g = some g' := hg'
          rcases hat with hat | hat
          · simp [Value.ownBlock] at hat
          · have e1 : some g = some w.heap.size := hat
            rw [e1] at e2
            injection e2 with e2
            injection e1 with e1
            subst e2
            exact ⟨Nat.le_refl _, by omega⟩
      · have holds : ∀ j u, fs[j]? = some u → w.cell? (ad.add j) = some u := by
          intro j u hu
          obtain ⟨hj, _⟩ := List.getElem?_eq_some_iff.1 hu
          obtain ⟨ad', hE, _, hc⟩ := h.rb (by omega)
          cases hE
          exact hc j u hu
        obtain ⟨v', w', hrun, ho', hg⟩ := run_append_arg_grows (P := P) w t ty e i z sz by_ hT.und hi hz hs hby hT.zs hpos ad c c fs h.len holds dd m d ks hm hnews (by omega) hmx hbytes
        obtain ⟨g, cap', hv', hgb, hlt⟩ := ho'.form (by omega)
        subst hv'
        have hcap' : c + m ≤ cap' := by
          rcases ho'.2 with ⟨he, _⟩ | ⟨_, _, _, he, _, _, hle, _⟩
          · cases he
          · injection he with _ _ he; subst he; exact hle
        have HO : w'.ownsRow base e sz (.slice (some ⟨g, 0, none⟩) (c + m) cap') (c + m) (fs ++ ks) :=
          ⟨ho'.1, ho'.2.imp id fun ⟨g, cap, cur, h1, h2, h3⟩ => ⟨g, cap, cur, h1, Nat.le_trans hbase h2, h3⟩⟩
        refine ⟨_, _, w', hrun, ⟨⟨hfl, hcap', RC.of_own ho' (by omega), (fun hn => by cases hn), .inl HO⟩, ?_, ⟨_, hg, fun g hg => by cases hg⟩, ?_⟩⟩
        · exact ⟨hg.os, hg.tape, hg.output, hg.size, fun j hj => hg.block j (by omega) (by simp)⟩
        · right
          intro g' hg'
          have e2 : some g = some g' := hg'
          injection e2 with e2
          subst e2
          exact ⟨hgb, hlt⟩

theorem wp_append_apv {o : Oper} {a : Act} {K : Act → World → Prop} {Q : Exit → Act → World → Prop} (s x : Operand) (t : TypeId)
    (ho : o.op = .call { callee := .builtin .append, args := #[s, x], argTypes := #[t, t] }) {e : TypeId} {z : Value} {sz by_ : Nat} (hT : IsRows P t e z sz by_)
    {base : Nat} {A : Option Addr} {n c : Nat} {fs : List Value} (h : ApV w e sz base A n c fs) (hs : a.eval s = .slice A n c)
    {D : Option Addr} {m d : Nat} {ks : List Value} (hk : RC w D ks) (hx : a.eval x = .slice D m d) (hm : ks.length = m * sz) (h1 : ∀ u ∈ ks, u.oneCell' = true)
    (hmx : n + m ≤ maxLen) (hbytes : (n + m) * by_ ≤ 140737488355328) (hbase : base ≤ w.heap.size)
    (hK : ∀ A' c' w', ApdV w w' e sz base A A' (n + m) c' (fs ++ ks) → K (a.put o.dst (.slice A' (n + m) c')) w') : o.wp P a w K Q := by
  obtain ⟨A', c', w', hrun, hd⟩ := run_append_apv (P := P) w (ty := o.type) hT h hbase hk hm (d := d) h1 hmx hbytes
  unfold Oper.wp execOp
  simp only [ho, resolve, invoke, builtin, Sem.run_bind, Sem.run_pure, Result.andThen_ok, List.map_toArray, List.map_cons, List.map_nil, hs, hx, hrun]
  exact hK A' c' w' hd
theorem wpList_append_apv {ops : Array Oper} {rest : List Oper} {o : Oper} {a : Act} {Q : Exit → Act → World → Prop} (hgd : o.guard = none) (s x : Operand) (t : TypeId)
    (ho : o.op = .call { callee := .builtin .append, args := #[s, x], argTypes := #[t, t] }) {e : TypeId} {z : Value} {sz by_ : Nat} (hT : IsRows P t e z sz by_)
    {base : Nat} {A : Option Addr} {n c : Nat} {fs : List Value} (h : ApV w e sz base A n c fs) (hs : a.eval s = .slice A n c)
    {D : Option Addr} {m d : Nat} {ks : List Value} (hk : RC w D ks) (hx : a.eval x = .slice D m d) (hm : ks.length = m * sz) (h1 : ∀ u ∈ ks, u.oneCell' = true)
    (hmx : n + m ≤ maxLen) (hbytes : (n + m) * by_ ≤ 140737488355328) (hbase : base ≤ w.heap.size)
    (hK : ∀ A' c' w', ApdV w w' e sz base A A' (n + m) c' (fs ++ ks) → wpList P ops Q rest (a.put o.dst (.slice A' (n + m) c')) w') : wpList P ops Q (o :: rest) a w :=
  wpList_plain hgd fun _ hK' => wp_append_apv w s x t ho hT h hs hk hx hm h1 hmx hbytes hbase fun A' c' w' hd => hK' _ _ (hK A' c' w' hd)
theorem step_append_apv {ops : Array Oper} {o : Oper} {a : Act} {K : Act → World → Prop} {Q : Exit → Act → World → Prop} {E : Prop} (hgd : o.guard = none) (s x : Operand) (t : TypeId)
    (ho : o.op = .call { callee := .builtin .append, args := #[s, x], argTypes := #[t, t] }) {e : TypeId} {z : Value} {sz by_ : Nat} (hT : IsRows P t e z sz by_)
    {base : Nat} {A : Option Addr} {n c : Nat} {fs : List Value} (h : ApV w e sz base A n c fs) (hs : a.eval s = .slice A n c)
    {D : Option Addr} {m d : Nat} {ks : List Value} (hk : RC w D ks) (hx : a.eval x = .slice D m d) (hm : ks.length = m * sz) (h1 : ∀ u ∈ ks, u.oneCell' = true)
    (hmx : n + m ≤ maxLen) (hbytes : (n + m) * by_ ≤ 140737488355328) (hbase : base ≤ w.heap.size)
    (hK : ∀ A' c' w', ApdV w w' e sz base A A' (n + m) c' (fs ++ ks) → K (a.put o.dst (.slice A' (n + m) c')) w') :
    if Region.wanted o (yielded ops a.tmps) = true then Oper.wp P o a w K Q else E := by
  have hw : Region.wanted o (yielded ops a.tmps) = true := by simp [Region.wanted, hgd]
  rw [if_pos hw]
  exact wp_append_apv w s x t ho hT h hs hk hx hm h1 hmx hbytes hbase hK
/-- The law for bytes, with what the row is, if something was appended. -/
theorem step_append_ap2 {ops : Array Oper} {o : Oper} {a : Act} {K : Act → World → Prop} {Q : Exit → Act → World → Prop} {E : Prop} (hgd : o.guard = none) (s x : Operand) (t : TypeId)
    (ho : o.op = .call { callee := .builtin .append, args := #[s, x], argTypes := #[t, t] }) {e : TypeId} (hT : IsBytes P t e)
    {base : Nat} {A : Option Addr} {n c : Nat} {l : List UInt8} (h : Ap w e base A n c l) (hs : a.eval s = .slice A n c)
    {B : Nat} {D : Option Addr} {m d : Nat} {k : List UInt8} (hk : RB w B D k) (hx : a.eval x = .slice D m d) (hm : m = k.length)
    (hbytes : n + m ≤ 140737488355328) (hbase : base ≤ w.heap.size)
    (hK : ∀ A' c' w', Apd w w' e base A A' (n + m) c' (l ++ k) → (0 < m → w'.ownsRow base e 1 (.slice A' (n + m) c') (n + m) ((l ++ k).map vb)) → K (a.put o.dst (.slice A' (n + m) c')) w') :
    if Region.wanted o (yielded ops a.tmps) = true then Oper.wp P o a w K Q else E := by
  have hw : Region.wanted o (yielded ops a.tmps) = true := by simp [Region.wanted, hgd]
  rw [if_pos hw]
  obtain ⟨A', c', w', hrun, hd, hO⟩ := run_append_ap2 (P := P) w (ty := o.type) hT h hbase hk hm (d := d) hbytes
  unfold Oper.wp execOp
  simp only [ho, resolve, invoke, builtin, Sem.run_bind, Sem.run_pure, Result.andThen_ok, List.map_toArray, List.map_cons, List.map_nil, hs, hx, hrun]
  exact hK A' c' w' hd hO
end
end Go.Proofs.Ytigicphmnlkjfaa
