/- From what the row's frame gives of a Conf to CF. (Printed by wip/gen_confwords.py.) -/
import Derived.Test.YtigicphmnlkjfaaRows
import Derived.Test.YtigicphmnlkjfaaConf
import Derived.ChangeSame
import Derived.ChangeArms
import Derived.ChangeOld
import Derived.OpenShut
namespace Go.Proofs.Ytigicphmnlkjfaa
open Go.RowKit Go.ChangeShapes Go.WideShapes Go.ChangeAt Go.Deep
set_option linter.unusedVariables false
set_option linter.unusedSimpArgs false

theorem split_row {cs : List Value} (a : Nat) : cs = cs.take a ++ cs.drop a := (List.take_append_drop a cs).symm

section
variable {H : Type} {enc : TypeId × Value → H} {w : World} {base : Nat} {held : Bool}

theorem struct_at {P : Program} {t : TypeId} {fs : Array Field} {fuel : Nat} {cs : List Value} {y : DataW H × List MemPlace} (hu : P.underlying t = some (.struct fs)) (h : DataW.trod enc P w base (fun _ => true) held fuel t cs = some y) :
    cs.length = P.cellsOf t ∧ ∃ n, ∀ (i : Nat) (u : TypeId) (k o : Nat), (fs[i]?).map (fun f => (f.type, f.offset)) = some (u, o) → P.cellsOf u = k → ∃ z, DataW.trod enc P w base (fun _ => true) held n u ((cs.drop o).take k) = some z := by
  obtain ⟨ys, n, _, _, hlen, hyl, hf⟩ := DataW.trod_struct hu h
  refine ⟨hlen, n, fun i u k o hi hk => ?_⟩
  obtain ⟨f, hg, he⟩ := Option.map_eq_some_iff.1 hi
  obtain ⟨rfl, rfl⟩ := Prod.mk.inj he
  subst hk
  have hil : i < fs.size := (Array.getElem?_eq_some_iff.1 hg).1
  exact ⟨ys[i]'(by omega), (hf i f hg).trans (List.getElem?_eq_getElem (by omega))⟩

theorem mom_of_trod {n : Nat} {cs : List Value} {y : DataW H × List MemPlace} (h : DataW.trod enc Try.prog w base (fun _ => true) held n 43 cs = some y) :
    ∃ (lr mu wd : Int) (ne : Bool) , cs = [.int .i64 lr, .int .i64 mu, .int .i64 wd, .bool ne] ∧ I64 lr ∧ I64 mu ∧ I64 wd := by
  obtain ⟨hlen, m, hf⟩ := struct_at Try.underlying43 h
  rw [show Try.prog.cellsOf 43 = 4 by kernel_rfl] at hlen
  obtain ⟨c0, c1, c2, c3, rfl⟩ : ∃ c0 c1 c2 c3, cs = [c0, c1, c2, c3] := by
    rcases cs with _ | ⟨c0, _ | ⟨c1, _ | ⟨c2, _ | ⟨c3, _ | ⟨c4, cs⟩⟩⟩⟩⟩ <;> simp at hlen
    exact ⟨c0, c1, c2, c3, rfl⟩
  obtain ⟨_, g0⟩ := hf 0 2 1 0 rfl (by kernel_rfl)
  simp only [List.drop, List.take] at g0
  obtain ⟨lr, e0, _, w0⟩ := DataW.trod_int Try.underlying2 g0
  injection e0 with e0
  subst e0
  obtain ⟨_, g1⟩ := hf 1 2 1 1 rfl (by kernel_rfl)
  simp only [List.drop, List.take] at g1
  obtain ⟨mu, e1, _, w1⟩ := DataW.trod_int Try.underlying2 g1
  injection e1 with e1
  subst e1
  obtain ⟨_, g2⟩ := hf 2 2 1 2 rfl (by kernel_rfl)
  simp only [List.drop, List.take] at g2
  obtain ⟨wd, e2, _, w2⟩ := DataW.trod_int Try.underlying2 g2
  injection e2 with e2
  subst e2
  obtain ⟨_, g3⟩ := hf 3 4 1 3 rfl (by kernel_rfl)
  simp only [List.drop, List.take] at g3
  obtain ⟨ne, e3, _⟩ := DataW.trod_bool Try.underlying4 g3
  injection e3 with e3
  subst e3
  exact ⟨lr, mu, wd, ne, rfl, w0, w1, w2⟩

theorem adam_of_trod {n : Nat} {cs : List Value} {y : DataW H × List MemPlace} (h : DataW.trod enc Try.prog w base (fun _ => true) held n 45 cs = some y) :
    ∃ (lr b1 b2 ep wd : Int) (ap : Bool) , cs = [.int .i64 lr, .int .i64 b1, .int .i64 b2, .int .i64 ep, .int .i64 wd, .bool ap] ∧ I64 lr ∧ I64 b1 ∧ I64 b2 ∧ I64 ep ∧ I64 wd := by
  obtain ⟨hlen, m, hf⟩ := struct_at Try.underlying45 h
  rw [show Try.prog.cellsOf 45 = 6 by kernel_rfl] at hlen
  obtain ⟨c0, c1, c2, c3, c4, c5, rfl⟩ : ∃ c0 c1 c2 c3 c4 c5, cs = [c0, c1, c2, c3, c4, c5] := by
    rcases cs with _ | ⟨c0, _ | ⟨c1, _ | ⟨c2, _ | ⟨c3, _ | ⟨c4, _ | ⟨c5, _ | ⟨c6, cs⟩⟩⟩⟩⟩⟩⟩ <;> simp at hlen
    exact ⟨c0, c1, c2, c3, c4, c5, rfl⟩
  obtain ⟨_, g0⟩ := hf 0 2 1 0 rfl (by kernel_rfl)
  simp only [List.drop, List.take] at g0
  obtain ⟨lr, e0, _, w0⟩ := DataW.trod_int Try.underlying2 g0
  injection e0 with e0
  subst e0
  obtain ⟨_, g1⟩ := hf 1 2 1 1 rfl (by kernel_rfl)
  simp only [List.drop, List.take] at g1
  obtain ⟨b1, e1, _, w1⟩ := DataW.trod_int Try.underlying2 g1
  injection e1 with e1
  subst e1
  obtain ⟨_, g2⟩ := hf 2 2 1 2 rfl (by kernel_rfl)
  simp only [List.drop, List.take] at g2
  obtain ⟨b2, e2, _, w2⟩ := DataW.trod_int Try.underlying2 g2
  injection e2 with e2
  subst e2
  obtain ⟨_, g3⟩ := hf 3 2 1 3 rfl (by kernel_rfl)
  simp only [List.drop, List.take] at g3
  obtain ⟨ep, e3, _, w3⟩ := DataW.trod_int Try.underlying2 g3
  injection e3 with e3
  subst e3
  obtain ⟨_, g4⟩ := hf 4 2 1 4 rfl (by kernel_rfl)
  simp only [List.drop, List.take] at g4
  obtain ⟨wd, e4, _, w4⟩ := DataW.trod_int Try.underlying2 g4
  injection e4 with e4
  subst e4
  obtain ⟨_, g5⟩ := hf 5 4 1 5 rfl (by kernel_rfl)
  simp only [List.drop, List.take] at g5
  obtain ⟨ap, e5, _⟩ := DataW.trod_bool Try.underlying4 g5
  injection e5 with e5
  subst e5
  exact ⟨lr, b1, b2, ep, wd, ap, rfl, w0, w1, w2, w3, w4⟩

theorem ada_of_trod {n : Nat} {cs : List Value} {y : DataW H × List MemPlace} (h : DataW.trod enc Try.prog w base (fun _ => true) held n 47 cs = some y) :
    ∃ (lr ep d : Int) , cs = [.int .i64 lr, .int .i64 ep, .int .i64 d] ∧ I64 lr ∧ I64 ep ∧ I64 d := by
  obtain ⟨hlen, m, hf⟩ := struct_at Try.underlying47 h
  rw [show Try.prog.cellsOf 47 = 3 by kernel_rfl] at hlen
  obtain ⟨c0, c1, c2, rfl⟩ : ∃ c0 c1 c2, cs = [c0, c1, c2] := by
    rcases cs with _ | ⟨c0, _ | ⟨c1, _ | ⟨c2, _ | ⟨c3, cs⟩⟩⟩⟩ <;> simp at hlen
    exact ⟨c0, c1, c2, rfl⟩
  obtain ⟨_, g0⟩ := hf 0 2 1 0 rfl (by kernel_rfl)
  simp only [List.drop, List.take] at g0
  obtain ⟨lr, e0, _, w0⟩ := DataW.trod_int Try.underlying2 g0
  injection e0 with e0
  subst e0
  obtain ⟨_, g1⟩ := hf 1 2 1 1 rfl (by kernel_rfl)
  simp only [List.drop, List.take] at g1
  obtain ⟨ep, e1, _, w1⟩ := DataW.trod_int Try.underlying2 g1
  injection e1 with e1
  subst e1
  obtain ⟨_, g2⟩ := hf 2 2 1 2 rfl (by kernel_rfl)
  simp only [List.drop, List.take] at g2
  obtain ⟨d, e2, _, w2⟩ := DataW.trod_int Try.underlying2 g2
  injection e2 with e2
  subst e2
  exact ⟨lr, ep, d, rfl, w0, w1, w2⟩

theorem sched_of_trod {n : Nat} {cs : List Value} {y : DataW H × List MemPlace} (h : DataW.trod enc Try.prog w base (fun _ => true) held n 51 cs = some y) :
    ∃ (a0 a1 a2 a3 a4 a5 a6 a7 : Int) , cs = [.int .i64 a0, .int .i64 a1, .int .i64 a2, .int .i64 a3, .int .i64 a4, .int .i64 a5, .int .i64 a6, .int .i64 a7] ∧ I64 a0 ∧ I64 a1 ∧ I64 a2 ∧ I64 a3 ∧ I64 a4 ∧ I64 a5 ∧ I64 a6 ∧ I64 a7 := by
  obtain ⟨hlen, m, hf⟩ := struct_at Try.underlying51 h
  rw [show Try.prog.cellsOf 51 = 8 by kernel_rfl] at hlen
  obtain ⟨c0, c1, c2, c3, c4, c5, c6, c7, rfl⟩ : ∃ c0 c1 c2 c3 c4 c5 c6 c7, cs = [c0, c1, c2, c3, c4, c5, c6, c7] := by
    rcases cs with _ | ⟨c0, _ | ⟨c1, _ | ⟨c2, _ | ⟨c3, _ | ⟨c4, _ | ⟨c5, _ | ⟨c6, _ | ⟨c7, _ | ⟨c8, cs⟩⟩⟩⟩⟩⟩⟩⟩⟩ <;> simp at hlen
    exact ⟨c0, c1, c2, c3, c4, c5, c6, c7, rfl⟩
  obtain ⟨_, g0⟩ := hf 0 3 1 0 rfl (by kernel_rfl)
  simp only [List.drop, List.take] at g0
  obtain ⟨a0, e0, _, w0⟩ := DataW.trod_int Try.underlying3 g0
  injection e0 with e0
  subst e0
  obtain ⟨_, g1⟩ := hf 1 2 1 1 rfl (by kernel_rfl)
  simp only [List.drop, List.take] at g1
  obtain ⟨a1, e1, _, w1⟩ := DataW.trod_int Try.underlying2 g1
  injection e1 with e1
  subst e1
  obtain ⟨_, g2⟩ := hf 2 2 1 2 rfl (by kernel_rfl)
  simp only [List.drop, List.take] at g2
  obtain ⟨a2, e2, _, w2⟩ := DataW.trod_int Try.underlying2 g2
  injection e2 with e2
  subst e2
  obtain ⟨_, g3⟩ := hf 3 2 1 3 rfl (by kernel_rfl)
  simp only [List.drop, List.take] at g3
  obtain ⟨a3, e3, _, w3⟩ := DataW.trod_int Try.underlying2 g3
  injection e3 with e3
  subst e3
  obtain ⟨_, g4⟩ := hf 4 3 1 4 rfl (by kernel_rfl)
  simp only [List.drop, List.take] at g4
  obtain ⟨a4, e4, _, w4⟩ := DataW.trod_int Try.underlying3 g4
  injection e4 with e4
  subst e4
  obtain ⟨_, g5⟩ := hf 5 3 1 5 rfl (by kernel_rfl)
  simp only [List.drop, List.take] at g5
  obtain ⟨a5, e5, _, w5⟩ := DataW.trod_int Try.underlying3 g5
  injection e5 with e5
  subst e5
  obtain ⟨_, g6⟩ := hf 6 3 1 6 rfl (by kernel_rfl)
  simp only [List.drop, List.take] at g6
  obtain ⟨a6, e6, _, w6⟩ := DataW.trod_int Try.underlying3 g6
  injection e6 with e6
  subst e6
  obtain ⟨_, g7⟩ := hf 7 3 1 7 rfl (by kernel_rfl)
  simp only [List.drop, List.take] at g7
  obtain ⟨a7, e7, _, w7⟩ := DataW.trod_int Try.underlying3 g7
  injection e7 with e7
  subst e7
  exact ⟨a0, a1, a2, a3, a4, a5, a6, a7, rfl, w0, w1, w2, w3, w4, w5, w6, w7⟩

theorem keep_of_trod {n : Nat} {cs : List Value} {y : DataW H × List MemPlace} (h : DataW.trod enc Try.prog w base (fun _ => true) held n 23 cs = some y) :
    ∃ (a0 a1 a2 a3 : Int) , cs = [.int .i64 a0, .int .i64 a1, .int .i64 a2, .int .i64 a3] ∧ I64 a0 ∧ I64 a1 ∧ I64 a2 ∧ I64 a3 := by
  obtain ⟨hlen, m, hf⟩ := struct_at Try.underlying23 h
  rw [show Try.prog.cellsOf 23 = 4 by kernel_rfl] at hlen
  obtain ⟨c0, c1, c2, c3, rfl⟩ : ∃ c0 c1 c2 c3, cs = [c0, c1, c2, c3] := by
    rcases cs with _ | ⟨c0, _ | ⟨c1, _ | ⟨c2, _ | ⟨c3, _ | ⟨c4, cs⟩⟩⟩⟩⟩ <;> simp at hlen
    exact ⟨c0, c1, c2, c3, rfl⟩
  obtain ⟨_, g0⟩ := hf 0 3 1 0 rfl (by kernel_rfl)
  simp only [List.drop, List.take] at g0
  obtain ⟨a0, e0, _, w0⟩ := DataW.trod_int Try.underlying3 g0
  injection e0 with e0
  subst e0
  obtain ⟨_, g1⟩ := hf 1 3 1 1 rfl (by kernel_rfl)
  simp only [List.drop, List.take] at g1
  obtain ⟨a1, e1, _, w1⟩ := DataW.trod_int Try.underlying3 g1
  injection e1 with e1
  subst e1
  obtain ⟨_, g2⟩ := hf 2 3 1 2 rfl (by kernel_rfl)
  simp only [List.drop, List.take] at g2
  obtain ⟨a2, e2, _, w2⟩ := DataW.trod_int Try.underlying3 g2
  injection e2 with e2
  subst e2
  obtain ⟨_, g3⟩ := hf 3 2 1 3 rfl (by kernel_rfl)
  simp only [List.drop, List.take] at g3
  obtain ⟨a3, e3, _, w3⟩ := DataW.trod_int Try.underlying2 g3
  injection e3 with e3
  subst e3
  exact ⟨a0, a1, a2, a3, rfl, w0, w1, w2, w3⟩

theorem param_of_trod {n : Nat} {cs : List Value} {y : DataW H × List MemPlace} (h : DataW.trod enc Try.prog w base (fun _ => true) held n 56 cs = some y) :
    ∃ (ro co : Int) (nm : ByteArray) , cs = [.string nm, .int .i64 ro, .int .i64 co] ∧ I64 ro ∧ I64 co ∧ nm.size ≤ maxLen := by
  obtain ⟨hlen, m, hf⟩ := struct_at Try.underlying56 h
  rw [show Try.prog.cellsOf 56 = 3 by kernel_rfl] at hlen
  obtain ⟨c0, c1, c2, rfl⟩ : ∃ c0 c1 c2, cs = [c0, c1, c2] := by
    rcases cs with _ | ⟨c0, _ | ⟨c1, _ | ⟨c2, _ | ⟨c3, cs⟩⟩⟩⟩ <;> simp at hlen
    exact ⟨c0, c1, c2, rfl⟩
  obtain ⟨_, g0⟩ := hf 0 9 1 0 rfl (by kernel_rfl)
  simp only [List.drop, List.take] at g0
  obtain ⟨nm, e0, _, w0⟩ := DataW.trod_string Try.underlying9 g0
  injection e0 with e0
  subst e0
  obtain ⟨_, g1⟩ := hf 1 3 1 1 rfl (by kernel_rfl)
  simp only [List.drop, List.take] at g1
  obtain ⟨ro, e1, _, w1⟩ := DataW.trod_int Try.underlying3 g1
  injection e1 with e1
  subst e1
  obtain ⟨_, g2⟩ := hf 2 3 1 2 rfl (by kernel_rfl)
  simp only [List.drop, List.take] at g2
  obtain ⟨co, e2, _, w2⟩ := DataW.trod_int Try.underlying3 g2
  injection e2 with e2
  subst e2
  exact ⟨ro, co, nm, rfl, w1, w2, w0⟩

theorem opt_of_trod {n : Nat} {cs : List Value} {y : DataW H × List MemPlace} (h : DataW.trod enc Try.prog w base (fun _ => true) held n 49 cs = some y) : ∃ o : OptP, cs = o.cs ∧ o.ok := by
  obtain ⟨hlen, m, hf⟩ := struct_at Try.underlying49 h
  rw [show Try.prog.cellsOf 49 = 14 by kernel_rfl] at hlen
  obtain ⟨_, g0⟩ := hf 0 3 1 0 rfl (by kernel_rfl)
  obtain ⟨_, g1⟩ := hf 1 43 4 1 rfl (by kernel_rfl)
  obtain ⟨_, g2⟩ := hf 2 45 6 5 rfl (by kernel_rfl)
  obtain ⟨_, g3⟩ := hf 3 47 3 11 rfl (by kernel_rfl)
  obtain ⟨k, e0, _, w0⟩ := DataW.trod_int Try.underlying3 g0
  obtain ⟨lr, mu, wd, ne, e1, w1⟩ := mom_of_trod g1
  obtain ⟨al, b1, b2, ep, aw, ap, e2, w2⟩ := adam_of_trod g2
  obtain ⟨dl, de, dd, e3, w3⟩ := ada_of_trod g3
  refine ⟨⟨k, lr, mu, wd, ne, al, b1, b2, ep, aw, ap, dl, de, dd⟩, ?_, w0, w1.1, w1.2.1, w1.2.2, w2.1, w2.2.1, w2.2.2.1, w2.2.2.2.1, w2.2.2.2.2, w3.1, w3.2.1, w3.2.2⟩
  have h3 : cs.drop 11 = [.int .i64 dl, .int .i64 de, .int .i64 dd] := by
    rw [← e3, List.take_of_length_le (by simp [hlen])]
  have h2 : cs.drop 5 = [.int .i64 al, .int .i64 b1, .int .i64 b2, .int .i64 ep, .int .i64 aw, .bool ap] ++ [.int .i64 dl, .int .i64 de, .int .i64 dd] := by
    rw [← e2, ← h3, show cs.drop 11 = (cs.drop 5).drop 6 by rw [List.drop_drop], List.take_append_drop]
  have h1 : cs.drop 1 = [.int .i64 lr, .int .i64 mu, .int .i64 wd, .bool ne] ++ ([.int .i64 al, .int .i64 b1, .int .i64 b2, .int .i64 ep, .int .i64 aw, .bool ap] ++ [.int .i64 dl, .int .i64 de, .int .i64 dd]) := by
    rw [← e1, ← h2, show cs.drop 5 = (cs.drop 1).drop 4 by rw [List.drop_drop], List.take_append_drop]
  have h0 : cs = [.int .i64 k] ++ cs.drop 1 := by
    rw [← e0, List.drop_zero, List.take_append_drop]
  rw [h0, h1]
  rfl

/-- A slice of weights that is read. -/
theorem params_of_trod {n : Nat} {A : Option Addr} {len cap : Nat} {y : DataW H × List MemPlace} (h : DataW.trod enc Try.prog w base (fun _ => true) held n 52 [.slice A len cap] = some y) :
    ∃ l : List ParamP, l.length = len ∧ Params w A l ∧ (∀ p ∈ l, p.ok) ∧ len ≤ cap ∧ cap ≤ maxLen := by
  rcases open_slice Try.underlying52 h with ⟨hcs, _⟩ | ⟨a, len', cap', m, n', D, Pl, hcs, hb, hl, hm, hmm, hx, hi⟩
  · simp at hcs
    obtain ⟨rfl, rfl, rfl⟩ := hcs
    exact ⟨[], rfl, fun h => absurd h (by simp), fun p h => absurd h (by simp), Nat.le_refl _, Nat.zero_le _⟩
  · simp at hcs
    obtain ⟨rfl, rfl, rfl⟩ := hcs
    simp only [if_true] at hmm
    subst hmm
    have each : ∀ i, i < len → ∃ x : ParamP, (w.cell? (a.add (i * 3)) = some (.string x.name) ∧ w.cell? (a.add (i * 3 + 1)) = some (.int .i64 x.rows) ∧ w.cell? (a.add (i * 3 + 2)) = some (.int .i64 x.cols)) ∧ x.ok := by
      intro i hil
      obtain ⟨cs', hc, ht'⟩ := hi i (by omega)
      rw [show Try.prog.cellsOf 56 = 3 by kernel_rfl] at hc
      obtain ⟨ro, co, nm, rfl, w1, w2, w0⟩ := param_of_trod ht'
      obtain ⟨_, hcl, hat⟩ := World.cells?_some hc
      have h0 := hat 0 (by omega)
      have h1 := hat 1 (by omega)
      have h2 := hat 2 (by omega)
      rw [Go.Deep.add_add] at h0 h1 h2
      unfold maxLen at w0
      exact ⟨⟨nm, ro, co⟩, ⟨h0, h1, h2⟩, w1, w2, by simp only; omega⟩
    obtain ⟨l, hll, hp⟩ := list_choose len each
    refine ⟨l, hll, fun hn => ?_, fun p hpm => ?_, hl, hm⟩
    · obtain ⟨⟨hc, _⟩, _⟩ := hp 0 hn
      have hb := block_lt_of_cell hc
      rw [block_of_add] at hb
      obtain ⟨g, o, sp⟩ := a
      have hsp : sp = none := by
        have := World.cell?_spot hc
        simpa [Addr.add] using this
      subst hsp
      refine ⟨g, o, rfl, hb, fun i hil => ?_⟩
      obtain ⟨⟨h1, h2, h3⟩, _⟩ := hp i hil
      rw [Addr.add_mid] at h1 h2 h3
      exact ⟨h1, h2, h3⟩
    · obtain ⟨i, hil, rfl⟩ := List.getElem_of_mem hpm
      exact (hp i hil).2

theorem group_of_trod {n : Nat} {cs : List Value} {y : DataW H × List MemPlace} (h : DataW.trod enc Try.prog w base (fun _ => true) held n 54 cs = some y) :
    ∃ (g : GroupP) (P : Option Addr) (c : Nat), cs = g.cs P c ∧ Params w P g.params ∧ g.params.length ≤ c ∧ g.ok := by
  obtain ⟨hlen, m, hf⟩ := struct_at Try.underlying54 h
  rw [show Try.prog.cellsOf 54 = 23 by kernel_rfl] at hlen
  obtain ⟨_, g0⟩ := hf 0 49 14 0 rfl (by kernel_rfl)
  obtain ⟨_, g1⟩ := hf 1 51 8 14 rfl (by kernel_rfl)
  obtain ⟨_, g2⟩ := hf 2 52 1 22 rfl (by kernel_rfl)
  obtain ⟨o, e0, w0⟩ := opt_of_trod g0
  obtain ⟨a0, a1, a2, a3, a4, a5, a6, a7, e1, w1⟩ := sched_of_trod g1
  obtain ⟨P, k, c, e2⟩ := Go.Joins.slice_form Try.underlying52 g2
  rw [e2] at g2
  obtain ⟨l, hl, hp, hok, hk, hc⟩ := params_of_trod g2
  unfold maxLen at hc
  subst hl
  refine ⟨⟨o, ⟨a0, a1, a2, a3, a4, a5, a6, a7⟩, l⟩, P, c, ?_, hp, hk, w0, w1, hok, by simp only; omega⟩
  have h2 : cs.drop 22 = [.slice P l.length c] := by
    rw [← e2, List.take_of_length_le (by simp [hlen])]
  have h1 : cs.drop 14 = SchedP.cs ⟨a0, a1, a2, a3, a4, a5, a6, a7⟩ ++ [.slice P l.length c] := by
    change _ = ([.int .i64 a0, .int .i64 a1, .int .i64 a2, .int .i64 a3, .int .i64 a4, .int .i64 a5, .int .i64 a6, .int .i64 a7] : List Value) ++ _
    rw [← e1, ← h2, show cs.drop 22 = (cs.drop 14).drop 8 by rw [List.drop_drop], List.take_append_drop]
  have h0 : cs = o.cs ++ cs.drop 14 := by
    rw [← e0, List.drop_zero, List.take_append_drop]
  rw [h0, h1]
  rfl

/-- A slice of groups that is read. -/
theorem groups_of_trod {n : Nat} {A : Option Addr} {len cap : Nat} {y : DataW H × List MemPlace} (h : DataW.trod enc Try.prog w base (fun _ => true) held n 25 [.slice A len cap] = some y) :
    ∃ l : List GroupP, l.length = len ∧ Groups w A l ∧ (∀ g ∈ l, g.ok) ∧ len ≤ cap ∧ cap ≤ maxLen := by
  rcases open_slice Try.underlying25 h with ⟨hcs, _⟩ | ⟨a, len', cap', m, n', D, Pl, hcs, hb, hl, hm, hmm, hx, hi⟩
  · simp at hcs
    obtain ⟨rfl, rfl, rfl⟩ := hcs
    exact ⟨[], rfl, fun h => absurd h (by simp), fun p h => absurd h (by simp), Nat.le_refl _, Nat.zero_le _⟩
  · simp at hcs
    obtain ⟨rfl, rfl, rfl⟩ := hcs
    simp only [if_true] at hmm
    subst hmm
    have each : ∀ i, i < len → ∃ x : GroupP, (∃ P c, (∀ j, j < 23 → w.cell? (a.add (i * 23 + j)) = (x.cs P c)[j]?) ∧ Params w P x.params ∧ x.params.length ≤ c) ∧ x.ok := by
      intro i hil
      obtain ⟨cs', hc, ht'⟩ := hi i (by omega)
      rw [show Try.prog.cellsOf 54 = 23 by kernel_rfl] at hc
      obtain ⟨g, P, c, rfl, hp, hpc, ok⟩ := group_of_trod ht'
      obtain ⟨_, hcl, hat⟩ := World.cells?_some hc
      refine ⟨g, ⟨P, c, fun j hj => ?_, hp, hpc⟩, ok⟩
      rw [← Go.Deep.add_add]
      exact hat j hj
    obtain ⟨l, hll, hp⟩ := list_choose len each
    refine ⟨l, hll, fun hn => ?_, fun p hpm => ?_, hl, hm⟩
    · obtain ⟨⟨P0, c0, hc, _⟩, _⟩ := hp 0 hn
      have hc := hc 0 (by omega)
      have hc' : w.cell? (a.add (0 * 23 + 0)) = some (.int .i64 l[0].opt.kind) := hc
      have hb := block_lt_of_cell hc'
      rw [block_of_add] at hb
      obtain ⟨g, o, sp⟩ := a
      have hsp : sp = none := by
        have := World.cell?_spot hc'
        simpa [Addr.add] using this
      subst hsp
      refine ⟨g, o, rfl, hb, fun i hil => ?_⟩
      obtain ⟨⟨P, c, h1, h2, h3⟩, _⟩ := hp i hil
      refine ⟨P, c, fun j v hv => ?_, h2, h3⟩
      have hj : j < 23 := by
        have := (List.getElem?_eq_some_iff.1 hv).1
        rwa [GroupP.cs_len] at this
      have := h1 j hj
      rw [Addr.add_mid, hv, ← Nat.add_assoc] at this
      exact this
    · obtain ⟨i, hil, rfl⟩ := List.getElem_of_mem hpm
      exact (hp i hil).2

/-- A Conf that is read. -/
theorem conf_of_trod {r : Reach} {b0 : Nat} {v : Value} {d : DataW H} {p : List MemPlace} (hv : Value.okWide Try.prog w r b0 27 v) (h : DataW.Trod enc Try.prog w base (fun _ => true) held 27 v d p) :
    ∃ (x : ConfP) (A : Option Addr) (c : Nat), v = x.v A c ∧ CF w A c x := by
  obtain ⟨cs, rfl, hsz, _⟩ : ∃ cs, v = .agg cs ∧ cs.size = Try.prog.cellsOf 27 ∧ Row.okWide Try.prog w r b0 27 cs := by
    simpa only [Value.okWide, Try.underlying27] using hv
  obtain ⟨fuel, hf⟩ := h
  obtain ⟨cs⟩ := cs
  obtain ⟨hlen, m, hf⟩ := struct_at Try.underlying27 hf
  simp only [Value.cells] at hlen hf
  rw [show Try.prog.cellsOf 27 = 11 by kernel_rfl] at hlen
  obtain ⟨_, g0⟩ := hf 0 3 1 0 rfl (by kernel_rfl)
  obtain ⟨_, g1⟩ := hf 1 2 1 1 rfl (by kernel_rfl)
  obtain ⟨_, g2⟩ := hf 2 24 8 2 rfl (by kernel_rfl)
  obtain ⟨_, g3⟩ := hf 3 25 1 10 rfl (by kernel_rfl)
  obtain ⟨f, e0, _, w0⟩ := DataW.trod_int Try.underlying3 g0
  obtain ⟨cl, e1, _, w1⟩ := DataW.trod_int Try.underlying2 g1
  obtain ⟨xs, m', _, _, hl2, hxl, hg⟩ := DataW.trod_array Try.underlying24 g2
  have q0 := hg 0 (by omega)
  have q1 := hg 1 (by omega)
  rw [List.getElem?_eq_getElem (by omega)] at q0 q1
  rw [show Try.prog.cellsOf 23 = 4 by kernel_rfl] at q0 q1
  obtain ⟨a0, a1, a2, a3, e2, w2⟩ := keep_of_trod q0
  obtain ⟨b0, b1, b2, b3, e3, w3⟩ := keep_of_trod q1
  obtain ⟨A, k, c, e4⟩ := Go.Joins.slice_form Try.underlying25 g3
  rw [e4] at g3
  obtain ⟨l, hl, hp, hok, hk, hc⟩ := groups_of_trod g3
  unfold maxLen at hc
  subst hl
  refine ⟨⟨f, cl, ⟨a0, a1, a2, a3⟩, ⟨b0, b1, b2, b3⟩, l⟩, A, c, ?_, hp, hk, w0, w1, w2, w3, hok, by simp only; omega⟩
  have h4 : cs.drop 10 = [.slice A l.length c] := by
    rw [← e4, List.take_of_length_le (by simp at hlen ⊢; omega)]
  have h3 : cs.drop 6 = [.int .i64 b0, .int .i64 b1, .int .i64 b2, .int .i64 b3] ++ [.slice A l.length c] := by
    rw [← e3, ← h4, show cs.drop 10 = (cs.drop 6).drop 4 by rw [List.drop_drop]]
    have : ((List.drop (1 * 4) (List.take 8 (List.drop 2 cs))).take 4) = (cs.drop 6).take 4 := by
      rw [List.drop_take, List.take_take, List.drop_drop]; rfl
    rw [this, List.take_append_drop]
  have h2 : cs.drop 2 = [.int .i64 a0, .int .i64 a1, .int .i64 a2, .int .i64 a3] ++ ([.int .i64 b0, .int .i64 b1, .int .i64 b2, .int .i64 b3] ++ [.slice A l.length c]) := by
    rw [← e2, ← h3, show cs.drop 6 = (cs.drop 2).drop 4 by rw [List.drop_drop]]
    have : ((List.drop (0 * 4) (List.take 8 (List.drop 2 cs))).take 4) = (cs.drop 2).take 4 := by
      rw [List.drop_take, List.take_take, List.drop_drop]; rfl
    rw [this, List.take_append_drop]
  have h1 : cs.drop 1 = [.int .i64 cl] ++ cs.drop 2 := by
    rw [← e1, show cs.drop 2 = (cs.drop 1).drop 1 by rw [List.drop_drop], List.take_append_drop]
  have h0 : cs = [.int .i64 f] ++ cs.drop 1 := by
    rw [← e0, List.drop_zero, List.take_append_drop]
  unfold ConfP.v
  rw [h0, h1, h2]
  rfl
end
end Go.Proofs.Ytigicphmnlkjfaa
