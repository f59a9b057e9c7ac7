/- append onto a row of bytes that may be appended to: one that is the call's own, or one that is full. Nothing of the program. -/
import Derived.Test.YtigicphmnlkjfaaWords
import Derived.Maps.AppendAt
import Derived.ArgAppend
import Derived.RegionTactic
import Derived.OwnWalk
import Derived.Handy
namespace Go.Proofs.Ytigicphmnlkjfaa
open Go.RowKit

/-- Type t is a slice of e, and e is byte. -/
structure IsBytes (P : Program) (t e : TypeId) : Prop where
  und : P.underlying t = some (.slice e)
  info : (P.info? e).map (fun i => (i.zero, i.size, i.bytes)) = some (some (.int .u8 0), 1, 1)

/-- The slice '.slice A n c' reads as the bytes l in w; what lies below 'base' is not touched where it is appended to. -/
structure Ap (w : World) (e : TypeId) (base : Nat) (A : Option Addr) (n c : Nat) (l : List UInt8) : Prop where
  len : n = l.length
  cap : n ≤ c
  rb : RB w w.heap.size A l
  none_ : A = none → c = 0
  how : w.ownsRow base e 1 (.slice A n c) n (l.map vb) ∨ c = n

section
variable {w w' : World} {e : TypeId} {base n c : Nat} {A : Option Addr} {l : List UInt8}
theorem Ap.nil_ (w : World) (e : TypeId) (base : Nat) : Ap w e base none 0 0 [] := ⟨rfl, Nat.le_refl _, RB.nil_, fun _ => rfl, .inl (World.ownsRow_nil _ _ _ _)⟩
theorem Ap.empty {w : World} {e : TypeId} {base : Nat} (A : Option Addr) : Ap w e base A 0 0 [] := ⟨rfl, Nat.le_refl _, RB.nil_, fun _ => rfl, .inr rfl⟩
theorem Ap.full (h : RB w w.heap.size A l) (hA : A = none → l.length = 0) : Ap w e base A l.length l.length l := ⟨rfl, Nat.le_refl _, h, hA, .inr rfl⟩
theorem Ap.keep (h : Ap w e base A n c l) (hb : Below w.heap.size w w') : Ap w' e base A n c l :=
  ⟨h.len, h.cap, (h.rb.below hb).more hb.size, h.none_, h.how.imp (fun ho => by
    refine ⟨ho.1, ho.2.imp id ?_⟩
    rintro ⟨g, cap, cur, h1, h2, h3, h4⟩
    refine ⟨g, cap, cur, h1, h2, ?_, h4⟩
    have hg : g < w.heap.size := by
      rcases Nat.lt_or_ge g w.heap.size with hlt | hge
      · exact hlt
      · rw [Array.getElem?_eq_none hge] at h3; cases h3
    rw [hb.block g hg, h3]) id⟩
theorem Ap.drew (h : Ap w e base A n c l) : Ap w.drew e base A n c l := ⟨h.len, h.cap, h.rb, h.none_, h.how⟩
theorem Ap.drewN (h : Ap w e base A n c l) (k : Nat) : Ap (w.drewN k) e base A n c l := ⟨h.len, h.cap, h.rb, h.none_, h.how⟩
theorem Ap.alloc (h : Ap w e base A n c l) (o : Obj) : Ap (w.alloc o) e base A n c l :=
  h.keep ⟨rfl, rfl, rfl, by simp, fun k hk => Below.heap_alloc w o k hk⟩
theorem Ap.to (h : Ap w e base A n c l) {b' : Nat} (hb : b' ≤ base) : Ap w e b' A n c l :=
  ⟨h.len, h.cap, h.rb, h.none_, h.how.imp (fun ho => ⟨ho.1, ho.2.imp id fun ⟨g, cap, cur, h1, h2, h3⟩ => ⟨g, cap, cur, h1, Nat.le_trans hb h2, h3⟩⟩) id⟩
end

/-- What an append leaves. -/
structure Apd (w w' : World) (e : TypeId) (base : Nat) (A A' : Option Addr) (n' c' : Nat) (l' : List UInt8) : Prop where
  ap : Ap w' e base A' n' c' l'
  below : Below base w w'
  grown : ∃ row, w.grownBy w' row ∧ ∀ g, row = some g → base ≤ g ∧ A.map (·.block) = some g
  at_ : A'.map (·.block) = A.map (·.block) ∨ ∀ g, A'.map (·.block) = some g → w.heap.size ≤ g

theorem map_vb_one (l : List UInt8) : ∀ u ∈ l.map vb, u.oneCell' = true := by
  intro u hu
  simp only [List.mem_map] at hu
  obtain ⟨c, _, rfl⟩ := hu
  rfl

section
variable {P : Program} (w : World)
theorem run_append_ap2 {t ty e : TypeId} (hT : IsBytes P t e) {base : Nat} {A : Option Addr} {n c : Nat} {l : List UInt8} (h : Ap w e base A n c l) (hbase : base ≤ w.heap.size)
    {B : Nat} {D : Option Addr} {m d : Nat} {k : List UInt8} (hk : RB w B D k) (hm : m = k.length) (hbytes : n + m ≤ 140737488355328) :
    ∃ A' c' w', (Builtin.append_ #[t, t] ty #[.slice A n c, .slice D m d]).run P w = .ok (.slice A' (n + m) c') w' ∧ Apd w w' e base A A' (n + m) c' (l ++ k) ∧ (0 < m → w'.ownsRow base e 1 (.slice A' (n + m) c') (n + m) ((l ++ k).map vb)) := by
  obtain ⟨i, hi, hz, hs, hby⟩ := info_parts hT.info
  by_cases hm0 : m = 0
  · have hk0 : k = [] := List.eq_nil_of_length_eq_zero (by omega)
    subst hk0
    subst hm0
    refine ⟨A, c, w, ?_, ⟨by simpa using h, Below.refl _ _, ⟨none, World.grownBy.refl w none, fun g hg => by cases hg⟩, .inl rfl⟩, fun h0 => absurd h0 (by omega)⟩
    have hcap := h.cap
    rcases A with _ | ad <;> rcases D with _ | dd <;>
      simp [Builtin.append_, run_underlying hT.und, sizeOf, typeInfo, hi, Builtin.lenOf, Builtin.firstCells, hcap, storeCells, loadCells, loadCellsFrom]
  · obtain ⟨dd, rfl, hdB, hdc⟩ := hk (by omega)
    have hnews : ∀ j u, (k.map vb)[j]? = some u → w.cell? (dd.add j) = some u := by
      intro j u hu
      rw [List.getElem?_map] at hu
      obtain ⟨x, hx, rfl⟩ := Option.map_eq_some_iff.1 hu
      obtain ⟨hj, rfl⟩ := List.getElem?_eq_some_iff.1 hx
      exact hdc j hj
    have hmx : n + m ≤ maxLen := by simp only [maxLen]; omega
    rcases h.how with ho | hfull
    · obtain ⟨v', w', hrun, ho', hg, hnil, hat⟩ := run_append_own_at (P := P) w base t ty e i (.int .u8 0) 1 1 hT.und hi hz hs hby rfl (by omega) _ n _ ho dd m d (k.map vb) (by simp [hm]) hnews (map_vb_one k) hmx (by omega) hbase
      obtain ⟨g, cap', hv', hgb, hlt⟩ := ho'.form (by omega)
      subst hv'
      have hcap' : n + m ≤ cap' := by
        rcases ho'.2 with ⟨he, _⟩ | ⟨_, _, _, he, _, _, hle, _⟩
        · cases he
        · injection he with _ _ he; subst he; exact hle
      have hrow : ∀ g', (Value.slice A n c).ownBlock = some g' → base ≤ g' ∧ A.map (·.block) = some g' := by
        intro g' hg'
        rcases ho.2 with ⟨he, _⟩ | ⟨g0, _, _, he, hb0, _⟩
        · rw [he] at hg'; cases hg'
        · injection he with hA _ _
          subst hA
          simp [Value.ownBlock] at hg'
          subst hg'
          exact ⟨hb0, rfl⟩
      have HO : w'.ownsRow base e 1 (.slice (some ⟨g, 0, none⟩) (n + m) cap') (n + m) ((l ++ k).map vb) := by rw [List.map_append]; exact ho'
      refine ⟨_, _, w', hrun, ⟨⟨by simp [h.len, hm], hcap', ?_, (fun hn => by cases hn), .inl HO⟩, ?_, ⟨_, hg, hrow⟩, ?_⟩, fun _ => HO⟩
      · have hl : n + m = (l ++ k).length := by simp [h.len, hm]
        have := ho'
        rw [← List.map_append, hl] at this
        exact RB.of_own this
      · exact ⟨hg.os, hg.tape, hg.output, hg.size, fun j hj => hg.block j (by omega) (fun e => by have := (hrow j e.symm).1; omega)⟩
      · rcases hat with hat | hat
        · left
          rw [show (Option.map (fun x : Addr => x.block) (some (⟨g, 0, none⟩ : Addr))) = (Value.slice (some ⟨g, 0, none⟩) (n + m) cap').ownBlock from rfl, hat]
          cases A <;> rfl
        · right
          intro g' hg'
          have e1 : some g = some w.heap.size := hat
          have e2 : some g = some g' := hg'
          rw [e1] at e2
          injection e2 with e2
          omega
    · subst hfull
      rcases A with _ | ad
      · have hn0 := h.none_ rfl
        subst hn0
        obtain ⟨v', w', hrun, ho', hg, hnil, hat⟩ := run_append_own_at (P := P) w base t ty e i (.int .u8 0) 1 1 hT.und hi hz hs hby rfl (by omega) (.slice none 0 0) 0 [] (World.ownsRow_nil _ _ _ _) dd m d (k.map vb) (by simp [hm]) hnews (map_vb_one k) hmx (by omega) hbase
        obtain ⟨g, cap', hv', hgb, hlt⟩ := ho'.form (by omega)
        subst hv'
        have hl0 : l = [] := List.eq_nil_of_length_eq_zero h.len.symm
        subst hl0
        have hcap' : 0 + m ≤ cap' := by
          rcases ho'.2 with ⟨he, _⟩ | ⟨_, _, _, he, _, _, hle, _⟩
          · cases he
          · injection he with _ _ he; subst he; exact hle
        have HO : w'.ownsRow base e 1 (.slice (some ⟨g, 0, none⟩) (0 + m) cap') (0 + m) (([] ++ k).map vb) := by simpa using ho'
        refine ⟨_, _, w', hrun, ⟨⟨by simp [hm], hcap', ?_, (fun hn => by cases hn), .inl HO⟩, ?_, ⟨_, hg, fun g hg => by simp [Value.ownBlock] at hg⟩, ?_⟩, fun _ => HO⟩
        · have hl : 0 + m = ([] ++ k : List UInt8).length := by simp [hm]
          have := ho'
          rw [← List.map_nil (f := vb), ← List.map_append, hl] at this
          exact RB.of_own this
        · exact ⟨hg.os, hg.tape, hg.output, hg.size, fun j hj => hg.block j (by omega) (by simp [Value.ownBlock])⟩
        · right
          intro g' hg'
          have e2 : some g = some g' := hg'
          rcases hat with hat | hat
          · simp [Value.ownBlock] at hat
          · have e1 : some g = some w.heap.size := hat
            rw [e1] at e2
            injection e2 with e2
            omega
      · have holds : ∀ j u, (l.map vb)[j]? = some u → w.cell? (ad.add j) = some u := by
          intro j u hu
          rw [List.getElem?_map] at hu
          obtain ⟨x, hx, rfl⟩ := Option.map_eq_some_iff.1 hu
          obtain ⟨hj, rfl⟩ := List.getElem?_eq_some_iff.1 hx
          obtain ⟨ad', hE, _, hc⟩ := h.rb.at_ hj
          cases hE
          exact hc
        obtain ⟨v', w', hrun, ho', hg⟩ := run_append_arg_grows (P := P) w t ty e i (.int .u8 0) 1 1 hT.und hi hz hs hby rfl (by omega) ad c c (l.map vb) (by simp [h.len]) holds dd m d (k.map vb) (by simp [hm]) hnews (by omega) hmx (by omega)
        obtain ⟨g, cap', hv', hgb, hlt⟩ := ho'.form (by omega)
        subst hv'
        have hl : c + m = (l ++ k).length := by simp [h.len, hm]
        have hcap' : c + m ≤ cap' := by
          rcases ho'.2 with ⟨he, _⟩ | ⟨_, _, _, he, _, _, hle, _⟩
          · cases he
          · injection he with _ _ he; subst he; exact hle
        have HO : w'.ownsRow base e 1 (.slice (some ⟨g, 0, none⟩) (c + m) cap') (c + m) ((l ++ k).map vb) := by
          rw [List.map_append]
          exact ⟨ho'.1, ho'.2.imp id fun ⟨g, cap, cur, h1, h2, h3⟩ => ⟨g, cap, cur, h1, Nat.le_trans hbase h2, h3⟩⟩
        refine ⟨_, _, w', hrun, ⟨⟨hl, hcap', ?_, (fun hn => by cases hn), .inl HO⟩, ?_, ⟨_, hg, fun g hg => by cases hg⟩, ?_⟩, fun _ => HO⟩
        · have := ho'
          rw [← List.map_append, hl] at this
          exact RB.of_own this
        · exact ⟨hg.os, hg.tape, hg.output, hg.size, fun j hj => hg.block j (by omega) (by simp)⟩
        · right
          intro g' hg'
          have e2 : some g = some g' := hg'
          injection e2 with e2
          omega

theorem run_append_ap {t ty e : TypeId} (hT : IsBytes P t e) {base : Nat} {A : Option Addr} {n c : Nat} {l : List UInt8} (h : Ap w e base A n c l) (hbase : base ≤ w.heap.size)
    {B : Nat} {D : Option Addr} {m d : Nat} {k : List UInt8} (hk : RB w B D k) (hm : m = k.length) (hbytes : n + m ≤ 140737488355328) :
    ∃ A' c' w', (Builtin.append_ #[t, t] ty #[.slice A n c, .slice D m d]).run P w = .ok (.slice A' (n + m) c') w' ∧ Apd w w' e base A A' (n + m) c' (l ++ k) := by
  obtain ⟨A', c', w', h1, h2, _⟩ := run_append_ap2 (P := P) w (ty := ty) hT h hbase hk hm (d := d) hbytes
  exact ⟨A', c', w', h1, h2⟩

theorem wp_append_ap {o : Oper} {a : Act} {K : Act → World → Prop} {Q : Exit → Act → World → Prop} (s x : Operand) (t : TypeId)
    (ho : o.op = .call { callee := .builtin .append, args := #[s, x], argTypes := #[t, t] }) {e : TypeId} (hT : IsBytes P t e)
    {base : Nat} {A : Option Addr} {n c : Nat} {l : List UInt8} (h : Ap w e base A n c l) (hs : a.eval s = .slice A n c)
    {B : Nat} {D : Option Addr} {m d : Nat} {k : List UInt8} (hk : RB w B D k) (hx : a.eval x = .slice D m d) (hm : m = k.length)
    (hbytes : n + m ≤ 140737488355328) (hbase : base ≤ w.heap.size)
    (hK : ∀ A' c' w', Apd w w' e base A A' (n + m) c' (l ++ k) → K (a.put o.dst (.slice A' (n + m) c')) w') : o.wp P a w K Q := by
  obtain ⟨A', c', w', hrun, hd⟩ := run_append_ap (P := P) w (ty := o.type) hT h hbase hk hm (d := d) hbytes
  unfold Oper.wp execOp
  simp only [ho, resolve, invoke, builtin, Sem.run_bind, Sem.run_pure, Result.andThen_ok, List.map_toArray, List.map_cons, List.map_nil, hs, hx, hrun]
  exact hK A' c' w' hd

theorem wpList_append_ap {ops : Array Oper} {rest : List Oper} {o : Oper} {a : Act} {Q : Exit → Act → World → Prop} (hgd : o.guard = none) (s x : Operand) (t : TypeId)
    (ho : o.op = .call { callee := .builtin .append, args := #[s, x], argTypes := #[t, t] }) {e : TypeId} (hT : IsBytes P t e)
    {base : Nat} {A : Option Addr} {n c : Nat} {l : List UInt8} (h : Ap w e base A n c l) (hs : a.eval s = .slice A n c)
    {B : Nat} {D : Option Addr} {m d : Nat} {k : List UInt8} (hk : RB w B D k) (hx : a.eval x = .slice D m d) (hm : m = k.length)
    (hbytes : n + m ≤ 140737488355328) (hbase : base ≤ w.heap.size)
    (hK : ∀ A' c' w', Apd w w' e base A A' (n + m) c' (l ++ k) → wpList P ops Q rest (a.put o.dst (.slice A' (n + m) c')) w') : wpList P ops Q (o :: rest) a w :=
  wpList_plain hgd fun _ hK' => wp_append_ap w s x t ho hT h hs hk hx hm hbytes hbase fun A' c' w' hd => hK' _ _ (hK A' c' w' hd)

/-- The same, and that the row is the call's own, if something was appended. -/
theorem wpList_append_ap2 {ops : Array Oper} {rest : List Oper} {o : Oper} {a : Act} {Q : Exit → Act → World → Prop} (hgd : o.guard = none) (s x : Operand) (t : TypeId)
    (ho : o.op = .call { callee := .builtin .append, args := #[s, x], argTypes := #[t, t] }) {e : TypeId} (hT : IsBytes P t e)
    {base : Nat} {A : Option Addr} {n c : Nat} {l : List UInt8} (h : Ap w e base A n c l) (hs : a.eval s = .slice A n c)
    {B : Nat} {D : Option Addr} {m d : Nat} {k : List UInt8} (hk : RB w B D k) (hx : a.eval x = .slice D m d) (hm : m = k.length)
    (hbytes : n + m ≤ 140737488355328) (hbase : base ≤ w.heap.size)
    (hK : ∀ A' c' w', Apd w w' e base A A' (n + m) c' (l ++ k) → (0 < m → w'.ownsRow base e 1 (.slice A' (n + m) c') (n + m) ((l ++ k).map vb)) → wpList P ops Q rest (a.put o.dst (.slice A' (n + m) c')) w') : wpList P ops Q (o :: rest) a w :=
  wpList_plain hgd fun K hK' => by
    obtain ⟨A', c', w', hrun, hd, hO⟩ := run_append_ap2 (P := P) w (ty := o.type) hT h hbase hk hm (d := d) hbytes
    unfold Oper.wp execOp
    simp only [ho, resolve, invoke, builtin, Sem.run_bind, Sem.run_pure, Result.andThen_ok, List.map_toArray, List.map_cons, List.map_nil, hs, hx, hrun]
    exact hK' _ _ (hK A' c' w' hd hO)

/-- The same at a guarded operation whose guard says yes. -/
theorem wpList_append_apg {ops : Array Oper} {rest : List Oper} {o : Oper} {a : Act} {Q : Exit → Act → World → Prop} (hgd : Region.wanted o (yielded ops a.tmps) = true) (s x : Operand) (t : TypeId)
    (ho : o.op = .call { callee := .builtin .append, args := #[s, x], argTypes := #[t, t] }) {e : TypeId} (hT : IsBytes P t e)
    {base : Nat} {A : Option Addr} {n c : Nat} {l : List UInt8} (h : Ap w e base A n c l) (hs : a.eval s = .slice A n c)
    {B : Nat} {D : Option Addr} {m d : Nat} {k : List UInt8} (hk : RB w B D k) (hx : a.eval x = .slice D m d) (hm : m = k.length)
    (hbytes : n + m ≤ 140737488355328) (hbase : base ≤ w.heap.size)
    (hK : ∀ A' c' w', Apd w w' e base A A' (n + m) c' (l ++ k) → wpList P ops Q rest (a.put o.dst (.slice A' (n + m) c')) w') : wpList P ops Q (o :: rest) a w :=
  wpList_step fun K hK' => by
    rw [if_pos hgd]
    exact wp_append_ap w s x t ho hT h hs hk hx hm hbytes hbase fun A' c' w' hd => hK' _ _ (hK A' c' w' hd)

theorem step_append_ap {ops : Array Oper} {o : Oper} {a : Act} {K : Act → World → Prop} {Q : Exit → Act → World → Prop} {E : Prop} (hgd : o.guard = none) (s x : Operand) (t : TypeId)
    (ho : o.op = .call { callee := .builtin .append, args := #[s, x], argTypes := #[t, t] }) {e : TypeId} (hT : IsBytes P t e)
    {base : Nat} {A : Option Addr} {n c : Nat} {l : List UInt8} (h : Ap w e base A n c l) (hs : a.eval s = .slice A n c)
    {B : Nat} {D : Option Addr} {m d : Nat} {k : List UInt8} (hk : RB w B D k) (hx : a.eval x = .slice D m d) (hm : m = k.length)
    (hbytes : n + m ≤ 140737488355328) (hbase : base ≤ w.heap.size)
    (hK : ∀ A' c' w', Apd w w' e base A A' (n + m) c' (l ++ k) → K (a.put o.dst (.slice A' (n + m) c')) w') :
    if Region.wanted o (yielded ops a.tmps) = true then Oper.wp P o a w K Q else E := by
  have hw : Region.wanted o (yielded ops a.tmps) = true := by simp [Region.wanted, hgd]
  rw [if_pos hw]
  exact wp_append_ap w s x t ho hT h hs hk hx hm hbytes hbase hK
end

/-- The new block of one byte that 'append(out, x)' appends. -/
theorem RB.one (w : World) (e : TypeId) (c : UInt8) (X : Int) (hX : X = c.toNat) : RB (w.alloc (.cells #[.int .u8 X] e)) (w.heap.size + 1) (some ⟨w.heap.size, 0, none⟩) [c] := fun _ => by
  refine ⟨_, rfl, by simp, fun j hj => ?_⟩
  have hj0 : j = 0 := by simpa using hj
  subst hj0
  subst hX
  exact (cell_of_row _ w.heap.size 0 #[.int .u8 (c.toNat : Int)] e (0, 0) (heap_alloc_new w _)).trans rfl
/-- A new block of bytes reads as them, marked or not. -/
theorem RB.made (w : World) (e : TypeId) (l : List UInt8) (cs : Array Value) (fr : Nat × Nat) (h : cs = (l.map vb).toArray) : RB (w.alloc (.cells cs e fr)) (w.heap.size + 1) (some ⟨w.heap.size, 0, none⟩) l := fun _ => by
  refine ⟨_, rfl, by simp, fun j hj => ?_⟩
  subst h
  have e0 : (⟨w.heap.size, 0, none⟩ : Addr).add j = ⟨w.heap.size, j, none⟩ := by
    unfold Addr.add
    split
    · subst_vars; rfl
    · simp
  rw [e0]
  refine (cell_of_row _ w.heap.size j (l.map vb).toArray e fr (heap_alloc_new w _)).trans ?_
  simp [hj]
theorem RB.made_ (w : World) (e : TypeId) (l : List UInt8) (cs : Array Value) (fr : Nat × Nat) (h : cs = (l.map vb).toArray) : RB (w.alloc (.cells cs e fr)) (w.alloc (.cells cs e fr)).heap.size (some ⟨w.heap.size, 0, none⟩) l :=
  (RB.made w e l cs fr h).more (by simp)
end Go.Proofs.Ytigicphmnlkjfaa
