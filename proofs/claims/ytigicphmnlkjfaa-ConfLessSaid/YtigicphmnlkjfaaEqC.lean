/- Optimisers, schedules, weights and how moments are kept, compared by the program; plain. -/
import Derived.Test.YtigicphmnlkjfaaCheck
import Derived.DeepKeys
import Derived.Laws.StructEq
import Derived.Deep.RegionHeld3
import Derived.Deep.MidRow
namespace Go.Proofs.Ytigicphmnlkjfaa
open Go.RowKit
set_option linter.unusedVariables false
set_option linter.unusedSimpArgs false

theorem c_int : Try.prog.cellsOf 3 = 1 := by kernel_rfl
theorem c_int64 : Try.prog.cellsOf 2 = 1 := by kernel_rfl
theorem c_bool : Try.prog.cellsOf 4 = 1 := by kernel_rfl
theorem c_string : Try.prog.cellsOf 9 = 1 := by kernel_rfl
theorem c_mom : Try.prog.cellsOf 43 = 4 := by kernel_rfl
theorem c_adam : Try.prog.cellsOf 45 = 6 := by kernel_rfl
theorem c_ada : Try.prog.cellsOf 47 = 3 := by kernel_rfl
theorem c_opt : Try.prog.cellsOf 49 = 14 := by kernel_rfl
theorem c_sched : Try.prog.cellsOf 51 = 8 := by kernel_rfl
theorem c_param : Try.prog.cellsOf 56 = 3 := by kernel_rfl
theorem c_keep : Try.prog.cellsOf 23 = 4 := by kernel_rfl
theorem c_keeps : Try.prog.cellsOf 24 = 8 := by kernel_rfl

theorem kl_param {p : ParamP} (h : p.ok) (d : Nat) : Try.prog.keyLits (d + 2) 56 p.cs = some [.string p.name.data.toList, .int .i64 p.rows, .int .i64 p.cols] := by
  have h1 : (Lit.int .i64 p.rows).wf = true := h.1
  have h2 : (Lit.int .i64 p.cols).wf = true := h.2.1
  have h3 : p.name.size ≤ maxLen := h.2.2
  simp [Program.keyLits, Try.underlying56, Try.underlying3, Try.underlying9, c_param, c_int, c_string, ParamP.cs, h1, h2, h3]
theorem kl_sched {p : SchedP} (h : p.ok) (d : Nat) : Try.prog.keyLits (d + 2) 51 p.cs = some [.int .i64 p.skind, .int .i64 p.base, .int .i64 p.rate, .int .i64 p.fin, .int .i64 p.warm, .int .i64 p.every, .int .i64 p.last, .int .i64 p.pow] := by
  obtain ⟨h0, h1, h2, h3, h4, h5, h6, h7⟩ := h
  unfold I64 at *
  simp [Program.keyLits, Try.underlying51, Try.underlying3, Try.underlying2, c_sched, c_int, c_int64, SchedP.cs, h0, h1, h2, h3, h4, h5, h6, h7]
theorem kl_mom {a b c : Int} (x : Bool) (h1 : (Lit.int .i64 a).wf = true) (h2 : (Lit.int .i64 b).wf = true) (h3 : (Lit.int .i64 c).wf = true) (d : Nat) : Try.prog.keyLits (d + 2) 43 [.int .i64 a, .int .i64 b, .int .i64 c, .bool x] = some [.int .i64 a, .int .i64 b, .int .i64 c, .bool x] := by
  simp [Program.keyLits, Try.underlying43, Try.underlying2, Try.underlying4, c_mom, c_int64, c_bool, h1, h2, h3]
theorem kl_adam {a b c e f : Int} (x : Bool) (h1 : (Lit.int .i64 a).wf = true) (h2 : (Lit.int .i64 b).wf = true) (h3 : (Lit.int .i64 c).wf = true) (h4 : (Lit.int .i64 e).wf = true) (h5 : (Lit.int .i64 f).wf = true) (d : Nat) : Try.prog.keyLits (d + 2) 45 [.int .i64 a, .int .i64 b, .int .i64 c, .int .i64 e, .int .i64 f, .bool x] = some [.int .i64 a, .int .i64 b, .int .i64 c, .int .i64 e, .int .i64 f, .bool x] := by
  simp [Program.keyLits, Try.underlying45, Try.underlying2, Try.underlying4, c_adam, c_int64, c_bool, h1, h2, h3, h4, h5]
theorem kl_ada {a b c : Int} (h1 : (Lit.int .i64 a).wf = true) (h2 : (Lit.int .i64 b).wf = true) (h3 : (Lit.int .i64 c).wf = true) (d : Nat) : Try.prog.keyLits (d + 2) 47 [.int .i64 a, .int .i64 b, .int .i64 c] = some [.int .i64 a, .int .i64 b, .int .i64 c] := by
  simp [Program.keyLits, Try.underlying47, Try.underlying2, c_ada, c_int64, h1, h2, h3]
theorem kl_keep {p : KeepP} (h : p.ok) (d : Nat) : Try.prog.keyLits (d + 2) 23 p.cs = some [.int .i64 p.kind, .int .i64 p.size, .int .i64 p.small, .int .i64 p.out] := by
  obtain ⟨h0, h1, h2, h3⟩ := h
  unfold I64 at *
  simp [Program.keyLits, Try.underlying23, Try.underlying3, Try.underlying2, c_keep, c_int, c_int64, KeepP.cs, h0, h1, h2, h3]
theorem kl_struct {P : Program} {t : TypeId} {fs : Array Field} (h : P.underlying t = some (.struct fs)) (d : Nat) (cs : List Value) (hl : cs.length = P.cellsOf t) (hn : fs.all (·.name != "_") = true) :
    P.keyLits (d + 1) t cs = (fs.toList.mapM fun f => P.keyLits d f.type ((cs.drop f.offset).take (P.cellsOf f.type))).map List.flatten := by
  rw [Program.keyLits.eq_def]
  simp only [h]
  rw [if_pos ⟨hl, hn⟩]
theorem kl_array {P : Program} {t e : TypeId} {n : Nat} (h : P.underlying t = some (.array n e)) (d : Nat) (cs : List Value) (hl : cs.length = P.cellsOf t) :
    P.keyLits (d + 1) t cs = ((List.range n).mapM fun i => P.keyLits d e ((cs.drop (i * P.cellsOf e)).take (P.cellsOf e))).map List.flatten := by
  rw [Program.keyLits.eq_def]
  simp only [h]
  rw [if_pos hl]
theorem kl_i (d : Nat) {n : Int} (h : (Lit.int .i64 n).wf = true) : Try.prog.keyLits (d + 1) 3 [.int .i64 n] = some [.int .i64 n] := by simp [Program.keyLits, Try.underlying3, h]
theorem kl_opt {p : OptP} (h : p.ok) (d : Nat) : Try.prog.keyLits (d + 3) 49 p.cs = some [.int .i64 p.kind, .int .i64 p.ml, .int .i64 p.mm, .int .i64 p.mw, .bool p.nest, .int .i64 p.al, .int .i64 p.b1, .int .i64 p.b2, .int .i64 p.ae, .int .i64 p.aw, .bool p.apart, .int .i64 p.dl, .int .i64 p.de, .int .i64 p.dd] := by
  obtain ⟨h0, h1, h2, h3, h4, h5, h6, h7, h8, h9, h10, h11⟩ := h
  unfold I64 at *
  rw [kl_struct Try.underlying49 (d + 2) _ (by rw [c_opt]; rfl) (by decide +kernel)]
  have k1 := kl_mom p.nest h1 h2 h3 d
  have k2 := kl_adam p.apart h4 h5 h6 h7 h8 d
  have k3 := kl_ada h9 h10 h11 d
  simp [c_opt, c_mom, c_adam, c_ada, c_int, OptP.cs, kl_i, h0, k1, k2, k3]
theorem kl_keeps {p q : KeepP} (h : p.ok) (k : q.ok) (d : Nat) : Try.prog.keyLits (d + 3) 24 (p.cs ++ q.cs) = some [.int .i64 p.kind, .int .i64 p.size, .int .i64 p.small, .int .i64 p.out, .int .i64 q.kind, .int .i64 q.size, .int .i64 q.small, .int .i64 q.out] := by
  have k1 := kl_keep h d
  have k2 := kl_keep k d
  rw [kl_array Try.underlying24 (d + 2) _ (by rw [c_keeps]; rfl)]
  simp only [KeepP.cs] at *
  simp [c_keep, List.range_succ, List.range_zero, k1, k2]

theorem eq_of_lits {t : TypeId} {cs ds : List Value} {la lb : List Lit} {m : Nat} (hk : Try.prog.keyTypeAt m t = true) (hm : m ≤ 10000) (w : World) (fa : (Value.agg cs.toArray).formed Try.prog t = true) (fb : (Value.agg ds.toArray).formed Try.prog t = true)
    (ha : Try.prog.keyLits 5 t cs = some la) (hb : Try.prog.keyLits 5 t ds = some lb) (b : Bool) (hab : b = true ↔ la = lb) :
    (Op.equalIn 10000 t (.agg cs.toArray) (.agg ds.toArray)).run Try.prog w = .ok b w := by
  have := run_equalIn_deep (P := Try.prog) (10000 - m) m t hk
  rw [show 10000 - m + m = 10000 from by omega] at this
  obtain ⟨r, hr, hi⟩ := this w 5 5 _ _ la lb fa fb (by simpa [Value.cells] using ha) (by simpa [Value.cells] using hb)
  rw [hr]
  congr 1
  rw [Bool.eq_iff_iff, hi, hab]
theorem formed_row {t : TypeId} {n : Nat} {cs : List Value} (hc : Try.prog.cellsOf t = n) (hu : (match Try.prog.underlying t with | some (.struct _) | some (.array _ _) => true | _ => false) = true) (hl : cs.length = n) : (Value.agg cs.toArray).formed Try.prog t = true := by
  unfold Value.formed
  split at hu
  · rename_i h; rw [h]; simp [hc, hl]
  · rename_i h; rw [h]; simp [hc, hl]
  · cases hu
theorem eq_param (p q : ParamP) (h : p.ok) (k : q.ok) (b : Bool) (hb : b = decide (p = q)) (w : World) : (Op.equalIn 10000 56 (.agg p.cs.toArray) (.agg q.cs.toArray)).run Try.prog w = .ok b w := by
  refine eq_of_lits (m := 3) (by kernel_rfl) (by omega) w (formed_row c_param (by rw [Try.underlying56]) rfl) (formed_row c_param (by rw [Try.underlying56]) rfl) (kl_param h 3) (kl_param k 3) b ?_
  obtain ⟨a1, a2, a3⟩ := p
  obtain ⟨b1, b2, b3⟩ := q
  subst hb
  simp only [decide_eq_true_iff, ParamP.mk.injEq, List.cons.injEq, Lit.string.injEq, Lit.int.injEq, true_and, and_true]
  have : a1.data.toList = b1.data.toList ↔ a1 = b1 := ⟨fun e => ByteArray.ext (Array.toList_inj.1 e), fun e => by rw [e]⟩
  rw [this]
theorem eq_sched (p q : SchedP) (h : p.ok) (k : q.ok) (b : Bool) (hb : b = decide (p = q)) (w : World) : (Op.equalIn 10000 51 (.agg p.cs.toArray) (.agg q.cs.toArray)).run Try.prog w = .ok b w := by
  refine eq_of_lits (m := 3) (by kernel_rfl) (by omega) w (formed_row c_sched (by rw [Try.underlying51]) rfl) (formed_row c_sched (by rw [Try.underlying51]) rfl) (kl_sched h 3) (kl_sched k 3) b ?_
  subst hb
  cases p; cases q
  simp only [decide_eq_true_iff, SchedP.mk.injEq, List.cons.injEq, Lit.int.injEq, true_and, and_true]
theorem eq_opt (p q : OptP) (h : p.ok) (k : q.ok) (b : Bool) (hb : b = decide (p = q)) (w : World) : (Op.equalIn 10000 49 (.agg p.cs.toArray) (.agg q.cs.toArray)).run Try.prog w = .ok b w := by
  refine eq_of_lits (m := 4) (by kernel_rfl) (by omega) w (formed_row c_opt (by rw [Try.underlying49]) rfl) (formed_row c_opt (by rw [Try.underlying49]) rfl) (kl_opt h 2) (kl_opt k 2) b ?_
  subst hb
  cases p; cases q
  simp only [decide_eq_true_iff, OptP.mk.injEq, List.cons.injEq, Lit.int.injEq, Lit.bool.injEq, true_and, and_true]
theorem eq_keeps (p p' q q' : KeepP) (h : p.ok) (h' : p'.ok) (k : q.ok) (k' : q'.ok) (b : Bool) (hb : b = decide (p = q ∧ p' = q')) (w : World) : (Op.equalIn 10000 24 (.agg #[.int .i64 p.kind, .int .i64 p.size, .int .i64 p.small, .int .i64 p.out, .int .i64 p'.kind, .int .i64 p'.size, .int .i64 p'.small, .int .i64 p'.out]) (.agg #[.int .i64 q.kind, .int .i64 q.size, .int .i64 q.small, .int .i64 q.out, .int .i64 q'.kind, .int .i64 q'.size, .int .i64 q'.small, .int .i64 q'.out])).run Try.prog w = .ok b w := by
  change (Op.equalIn 10000 24 (.agg (p.cs ++ p'.cs).toArray) (.agg (q.cs ++ q'.cs).toArray)).run Try.prog w = .ok b w
  refine eq_of_lits (m := 4) (by kernel_rfl) (by omega) w (formed_row c_keeps (by rw [Try.underlying24]) rfl) (formed_row c_keeps (by rw [Try.underlying24]) rfl) (kl_keeps h h' 2) (kl_keeps k k' 2) b ?_
  subst hb
  cases p; cases q; cases p'; cases q'
  simp only [decide_eq_true_iff, KeepP.mk.injEq, List.cons.injEq, Lit.int.injEq, true_and, and_true, and_assoc]

/-- A comparison of rows whose answer is known. -/
theorem exec_neq_row {op : Oper} {ρ : Operand → Value} {w : World} (ty ty' : TypeId) (x y : Operand) (ho : op.op = .binOp .neq ty x y ty') (us vs : Array Value) (hx : ρ x = .agg us) (hy : ρ y = .agg vs)
    (hm : Try.prog.eqGuardType Try.prog.depth ty = false) (b : Bool) (hE : (Op.equalIn 10000 ty (.agg us) (.agg vs)).run Try.prog w = .ok b w) : (execOp ρ op).run Try.prog w = .ok (.value (.bool (!b))) w := by
  unfold execOp
  simp only [ho, hx, hy, Sem.run_bind, run_eqGuard_agg w .neq ty x y us vs hm, Result.andThen_ok, run_neq_struct, hE, Sem.run_pure]
theorem wpList_neq_row {ops : Array Oper} {rest : List Oper} {op : Oper} {a : Act} {w : World} {Q : Exit → Act → World → Prop} (ty ty' : TypeId) (x y : Operand) (ho : op.op = .binOp .neq ty x y ty') (hgd : Region.wanted op (yielded ops a.tmps) = true)
    (us vs : Array Value) (hx : a.eval x = .agg us) (hy : a.eval y = .agg vs) (hm : Try.prog.eqGuardType Try.prog.depth ty = false) (b : Bool) (hE : (Op.equalIn 10000 ty (.agg us) (.agg vs)).run Try.prog w = .ok b w)
    (h : wpList Try.prog ops Q rest (a.put op.dst (.bool (!b))) w) : wpList Try.prog ops Q (op :: rest) a w :=
  wpList_step fun K hK => by
    rw [if_pos hgd]
    unfold Oper.wp
    rw [exec_neq_row ty ty' x y ho us vs hx hy hm b hE, Oper.upon_value]
    exact hK _ _ h
theorem yieldsIf_neq_row {ops : Array Oper} {S : World → Prop} {op : Oper} {a : Act} (hw : Region.wanted op (yielded ops a.tmps) = true) (ty ty' : TypeId) (x y : Operand) (ho : op.op = .binOp .neq ty x y ty')
    (us vs : Array Value) (hx : a.eval x = .agg us) (hy : a.eval y = .agg vs) (hm : Try.prog.eqGuardType Try.prog.depth ty = false) (b : Bool) (hE : ∀ w, (Op.equalIn 10000 ty (.agg us) (.agg vs)).run Try.prog w = .ok b w) : YieldsIf Try.prog ops S op (.bool (!b)) a :=
  .inl ⟨hw, fun w _ => exec_neq_row ty ty' x y ho us vs hx hy hm b (hE w)⟩
/-- The walk stands at this operation. -/
theorem at_load {P : Program} {ops : Array Oper} {rest : List Oper} {a : Act} {w : World} {Q : Exit → Act → World → Prop} {d : Option Tmp} {t : TypeId} {p : String} {af : Array Edge} {g : Option (Nat × Bool)} (ty : TypeId) (x : Operand)
    (h : wpList P ops Q ({ dst := d, op := .load ty x, type := t, pos := p, after := af, guard := g } :: rest) a w) : wpList P ops Q ({ dst := d, op := .load ty x, type := t, pos := p, after := af, guard := g } :: rest) a w := h
theorem at_bin {P : Program} {ops : Array Oper} {rest : List Oper} {a : Act} {w : World} {Q : Exit → Act → World → Prop} {d : Option Tmp} {t : TypeId} {p : String} {af : Array Edge} {g : Option (Nat × Bool)} (b : BinOp) (ty ty' : TypeId) (x y : Operand)
    (h : wpList P ops Q ({ dst := d, op := .binOp b ty x y ty', type := t, pos := p, after := af, guard := g } :: rest) a w) : wpList P ops Q ({ dst := d, op := .binOp b ty x y ty', type := t, pos := p, after := af, guard := g } :: rest) a w := h
theorem g_opt : Try.prog.eqGuardType Try.prog.depth 49 = false := by kernel_rfl
theorem g_sched : Try.prog.eqGuardType Try.prog.depth 51 = false := by kernel_rfl
theorem g_param : Try.prog.eqGuardType Try.prog.depth 56 = false := by kernel_rfl
theorem g_keeps : Try.prog.eqGuardType Try.prog.depth 24 = false := by kernel_rfl
end Go.Proofs.Ytigicphmnlkjfaa
