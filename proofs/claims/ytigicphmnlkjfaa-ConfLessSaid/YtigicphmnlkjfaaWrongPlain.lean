/- The place of the first weights that may not be: plain; the names that a map holds. -/
import Derived.Test.YtigicphmnlkjfaaNames
import Derived.Test.YtigicphmnlkjfaaMany
import Derived.Maps.Own
import Derived.Maps.Views
import Derived.StringKeys
namespace Go.Proofs.Ytigicphmnlkjfaa
open Go.RowKit Go.Maps Go.WideMaps
set_option linter.unusedVariables false

def sumP (l : List ParamP) : Int := (l.map fun p => p.rows * p.cols).sum
theorem sumP_snoc (l : List ParamP) (p : ParamP) : sumP (l ++ [p]) = sumP l + p.rows * p.cols := by
  unfold sumP
  rw [List.map_append, List.sum_append]
  simp
def sideB (n : Int) : Bool := decide (1 ≤ n ∧ n ≤ 512)
/-- May these weights be, behind those? -/
def goodE (pre : List ParamP) (p : ParamP) : Prop := NameP p.name ∧ (1 ≤ p.rows ∧ p.rows ≤ 512) ∧ (1 ≤ p.cols ∧ p.cols ≤ 512) ∧ sumP pre + p.rows * p.cols ≤ 512 ∧ ¬ ∃ q ∈ pre, q.name = p.name
instance (pre : List ParamP) (p : ParamP) : Decidable (goodE pre p) := by unfold goodE; infer_instance
/-- The place of the first that may not be. -/
def badF (pre : List ParamP) : List ParamP → Int
  | [] => -1
  | p :: r => if goodE pre p then badF (pre ++ [p]) r else pre.length
def badP (l : List ParamP) : Int := badF [] l
theorem badF_good {pre : List ParamP} {p : ParamP} (h : goodE pre p) (r : List ParamP) : badF pre (p :: r) = badF (pre ++ [p]) r := by rw [badF, if_pos h]
theorem badF_bad {pre : List ParamP} {p : ParamP} (h : ¬ goodE pre p) (r : List ParamP) : badF pre (p :: r) = pre.length := by rw [badF, if_neg h]
def flatP (gs : List GroupP) : List ParamP := gs.flatMap (·.params)
theorem flatP_drop (gs : List GroupP) (k : Nat) (h : k < gs.length) : flatP (gs.drop k) = gs[k].params ++ flatP (gs.drop (k + 1)) := by
  unfold flatP
  rw [List.drop_eq_getElem_cons h, List.flatMap_cons]
theorem side_mul {r c : Int} (h1 : 1 ≤ r ∧ r ≤ 512) (h2 : 1 ≤ c ∧ c ≤ 512) : 1 ≤ r * c ∧ r * c ≤ 262144 := by
  constructor
  · have : 1 * 1 ≤ r * c := Int.mul_le_mul h1.1 h2.1 (by omega) (by omega)
    omega
  · have : r * c ≤ 512 * 512 := Int.mul_le_mul h1.2 h2.2 (by omega) (by omega)
    omega

theorem ret_i {a b : Int} (h : b = a) : Ending.returned (.int .i64 a) = .returned (.int .i64 b) := by rw [h]

/-- A map of names, in block B. -/
def Seen (w : World) (B : Nat) (pre : List ParamP) : Prop := ∃ D : DataW Unit, w.ownsMap Try.prog 9 (plainElem Try.prog 4) B pre.length D ∧
  ∀ s : ByteArray, D.atKey (.string s.data.toList) (.lit (.bool false)) = .lit (.bool (decide (∃ q ∈ pre, q.name = s)))
theorem map_keyed : Keyed Try.prog 9 := string_keyed Try.underlying9
theorem zero_bool (w : World) : (zeroValue 4).run Try.prog w = .ok (.bool false) w := by kernel_rfl
theorem Seen.bl {w w' : World} {B : Nat} {pre : List ParamP} (h : Seen w B pre) (hb : Bl w w') : Seen w' B pre := by
  obtain ⟨D, ho, hd⟩ := h
  have hlt := ho.lt
  obtain ⟨es, clock, hh, F, hs, hD⟩ := ho
  exact ⟨D, ⟨es, clock, (hb.block B hlt).trans hh, F, hs, hD⟩, hd⟩
theorem plainElem_bool_inv {H : Type} {P : Program} {e : TypeId} (he : P.underlying e = some .bool) {v : Value} {z : DataW H × List MemPlace} (h : plainElem P e v = some z) : ∃ x, v = .bool x ∧ z = (.lit (.bool x), []) := by
  unfold plainElem at h
  rw [he] at h
  cases v <;> simp at h
  exact ⟨_, rfl, h.symm⟩
theorem Seen.look {w : World} {B : Nat} {pre : List ParamP} (h : Seen w B pre) (s : ByteArray) (hs : s.size ≤ 9223372036854775807) :
    (Instr.lookup 77 (.map (some B)) (.string s) false).run Try.prog w = .ok (.bool (decide (∃ q ∈ pre, q.name = s))) w := by
  obtain ⟨D, ho, hd⟩ := h
  obtain ⟨v, ps, hrun, hv⟩ := ho.lookup map_keyed Try.underlying77 (zero_bool w) (plainElem_bool Try.underlying4 false) (keyOf_string_mk Try.underlying9 (by unfold maxLen; omega))
  obtain ⟨x, rfl, hx⟩ := plainElem_bool_inv Try.underlying4 hv
  rw [hd s] at hx
  simp only [Prod.mk.injEq] at hx
  have hx1 := hx.1
  injection hx1 with hx1
  injection hx1 with hx1
  rw [hrun, hx1]
theorem bytes_eq {a b : ByteArray} (h : a.data.toList = b.data.toList) : a = b := by
  cases a; cases b
  simp only [ByteArray.mk.injEq]
  exact Array.toList_inj.1 h
theorem Seen.put {w : World} {B : Nat} {pre : List ParamP} (h : Seen w B pre) (p : ParamP) (hs : p.name.size ≤ 9223372036854775807) (hn : pre.length ≤ 1000) :
    ∃ w', (Instr.mapUpdate 77 (.map (some B)) (.string p.name) (.bool true)).run Try.prog w = .ok () w' ∧ Seen w' B (pre ++ [p]) ∧ w.grownBy w' (some B) := by
  obtain ⟨D, ho, hd⟩ := h
  have hm : IsMap D := by
    obtain ⟨es, clock, _, _, _, hD⟩ := ho
    exact ⟨_, hD⟩
  obtain ⟨w', hrun, ho', hg⟩ := ho.update map_keyed Try.underlying77 (by unfold maxLen; omega) (keyOf_string_mk Try.underlying9 (by unfold maxLen; omega)) (plainElem_bool Try.underlying4 true)
  refine ⟨w', hrun, ⟨_, by simpa using ho', fun s => ?_⟩, hg⟩
  by_cases e : s = p.name
  · subst e
    rw [atKey_put_same hm (by simp [WideAt.IsKeyLit])]
    congr 2
    exact (decide_eq_true ⟨p, by simp, rfl⟩).symm
  · rw [atKey_put_other (by intro h; injection h with h; exact e (bytes_eq h)), hd s]
    congr 2
    apply decide_eq_decide.2
    constructor
    · rintro ⟨q, hq, hn⟩
      exact ⟨q, by simp [hq], hn⟩
    · rintro ⟨q, hq, hn⟩
      rcases List.mem_append.1 hq with hq | hq
      · exact ⟨q, hq, hn⟩
      · obtain rfl : q = p := by simpa using hq
        exact absurd hn.symm e
theorem Seen.made (w : World) : Seen (w.alloc (.map #[] 0)) w.heap.size [] := ⟨.map [], World.ownsMap_made _ _ _ _, fun s => by simp [DataW.atKey]⟩
end Go.Proofs.Ytigicphmnlkjfaa
