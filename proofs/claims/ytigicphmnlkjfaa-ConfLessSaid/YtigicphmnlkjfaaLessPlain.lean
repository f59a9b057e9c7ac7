/- LESS: what may be may be without its last group, and without that's last weights; with a name twice it may not; plain. -/
import Derived.Test.YtigicphmnlkjfaaCheck
import Derived.Test.YtigicphmnlkjfaaBytesPlain
namespace Go.Proofs.Ytigicphmnlkjfaa
open Go.RowKit
set_option linter.unusedVariables false
set_option linter.unusedSimpArgs false

/-- May it be? -/
def Fine (x : ConfP) : Prop := (0 ≤ x.f ∧ x.f ≤ 40) ∧ ¬ x.clip < 0 ∧ keepB x.k0 true = true ∧ keepB x.k1 false = true ∧ (1 ≤ x.groups.length ∧ x.groups.length ≤ 8) ∧ (∀ g ∈ x.groups, groupB x.f g = true) ∧ badP (flatP x.groups) < 0

theorem oddF_neg {f : Int} : ∀ (n : Nat) (l : List GroupP), (∀ g ∈ l, groupB f g = true) → oddF f n l = -1
  | _, [], _ => rfl
  | n, g :: r, h => by
    rw [oddF_good (h g (List.mem_cons_self ..))]
    exact oddF_neg (n + 1) r fun g hg => h g (List.mem_cons_of_mem _ hg)
theorem oddF_pos {f : Int} : ∀ (n : Nat) (l : List GroupP), (∃ g ∈ l, groupB f g = false) → 0 ≤ oddF f n l
  | _, [], h => by obtain ⟨g, hg, _⟩ := h; cases hg
  | n, g :: r, h => by
    by_cases hg : groupB f g = true
    · rw [oddF_good hg]
      refine oddF_pos (n + 1) r ?_
      obtain ⟨k, hk, hf⟩ := h
      rcases List.mem_cons.1 hk with rfl | hk
      · rw [hg] at hf; cases hf
      · exact ⟨k, hk, hf⟩
    · rw [oddF_bad (by simpa using hg)]
      omega
theorem odd_iff (f : Int) (l : List GroupP) : ¬ 0 ≤ oddF f 0 l ↔ ∀ g ∈ l, groupB f g = true := by
  constructor
  · intro h g hg
    cases e : groupB f g
    · exact absurd (oddF_pos 0 l ⟨g, hg, e⟩) h
    · rfl
  · intro h
    rw [oddF_neg 0 l h]
    omega
theorem fine_check {x : ConfP} (h : Fine x) : checkC x = (0, 0, 0) := by
  obtain ⟨h1, h2, h3, h4, h5, h6, h7⟩ := h
  unfold checkC
  rw [if_neg (by simpa using h1), if_neg h2, if_neg (by rw [h3]; simp), if_neg (by rw [h4]; simp), if_neg (by simpa using h5), if_neg ((odd_iff _ _).2 h6), if_neg (by omega)]
theorem not_fine_check {x : ConfP} (h : ¬ Fine x) : (checkC x).2.2 = 1 := by
  unfold checkC
  repeat' split
  all_goals first | rfl | skip
  rename_i h1 h2 h3 h4 h5 h6 h7
  exact absurd ⟨by simpa using h1, h2, by simpa using h3, by simpa using h4, by simpa using h5, (odd_iff _ _).1 h6, by omega⟩ h
theorem check_zero {x : ConfP} (h : (checkC x).2.2 = 0) : Fine x := by
  refine Classical.byContradiction fun hn => ?_
  rw [not_fine_check hn] at h
  omega
theorem check_one {x : ConfP} (h : (checkC x).2.2 ≠ 0) : (checkC x).2.2 = 1 := by
  refine not_fine_check fun hf => ?_
  rw [fine_check hf] at h
  exact h rfl
theorem badF_prefix : ∀ (l k pre : List ParamP), badF pre (l ++ k) < 0 → badF pre l < 0
  | [], k, pre, _ => by rw [badF]; omega
  | p :: l, k, pre, h => by
    rw [List.cons_append] at h
    by_cases hg : goodE pre p
    · rw [badF_good hg] at h ⊢
      exact badF_prefix l k _ h
    · rw [badF_bad hg] at h
      omega
theorem badF_twice : ∀ (l pre : List ParamP) (p : ParamP), (∃ q ∈ pre ++ l, q.name = p.name) → 0 ≤ badF pre (l ++ [p])
  | [], pre, p, h => by
    rw [List.nil_append, badF_bad]
    · omega
    · intro hg
      rw [List.append_nil] at h
      exact hg.2.2.2.2 h
  | q :: l, pre, p, h => by
    rw [List.cons_append]
    by_cases hg : goodE pre q
    · rw [badF_good hg]
      refine badF_twice l _ p ?_
      rw [List.append_assoc]
      exact h
    · rw [badF_bad hg]
      omega
theorem flatP_append (l k : List GroupP) : flatP (l ++ k) = flatP l ++ flatP k := List.flatMap_append

/-- Without the last group. -/
def lessG (x : ConfP) (m : Nat) : ConfP := { x with groups := x.groups.take m }
/-- With another last group. -/
def lastG (x : ConfP) (m : Nat) (ps : List ParamP) (g : GroupP) : ConfP := { x with groups := x.groups.take m ++ [{ g with params := ps }] }
theorem split_last {gs : List GroupP} {m : Nat} {g : GroupP} (hm : gs.length = m + 1) (hg : gs[m]? = some g) : gs = gs.take m ++ [g] := by
  obtain ⟨h, e⟩ := List.getElem?_eq_some_iff.1 hg
  have := List.take_succ_eq_append_getElem h
  rw [List.take_of_length_le (by omega), e] at this
  exact this
theorem less_fine {x : ConfP} {m : Nat} (h : Fine x) (hm : x.groups.length = m + 1) : Fine (lessG x m) ↔ m ≠ 0 := by
  obtain ⟨h1, h2, h3, h4, h5, h6, h7⟩ := h
  constructor
  · intro ⟨_, _, _, _, k, _⟩ e
    subst e
    simp [lessG] at k
  · intro hm0
    refine ⟨h1, h2, h3, h4, ?_, fun g hg => h6 g (List.mem_of_mem_take hg), ?_⟩
    · simp only [lessG, List.length_take]; omega
    · show badF [] (flatP (x.groups.take m)) < 0
      refine badF_prefix _ (flatP (x.groups.drop m)) _ ?_
      rw [← flatP_append, List.take_append_drop]
      exact h7
theorem shorter_fine {x : ConfP} {m q : Nat} {g : GroupP} (h : Fine x) (hm : x.groups.length = m + 1) (hg : x.groups[m]? = some g) (hq : g.params.length = q + 1) : Fine (lastG x m (g.params.take q) g) ↔ q ≠ 0 := by
  obtain ⟨h1, h2, h3, h4, h5, h6, h7⟩ := h
  have hs := split_last hm hg
  have hgm : g ∈ x.groups := List.mem_of_getElem? hg
  have hgb := h6 g hgm
  constructor
  · intro ⟨_, _, _, _, _, k, _⟩ e
    subst e
    have := k { g with params := g.params.take 0 } (by simp [lastG])
    simp [groupB] at this
  · intro hq0
    refine ⟨h1, h2, h3, h4, ?_, fun k hk => ?_, ?_⟩
    · simp only [lastG, List.length_append, List.length_take, List.length_cons, List.length_nil]; omega
    · rcases List.mem_append.1 hk with hk | hk
      · exact h6 k (List.mem_of_mem_take hk)
      · obtain rfl := List.mem_singleton.1 hk
        simp only [groupB, Bool.and_eq_true, decide_eq_true_eq] at hgb ⊢
        refine ⟨hgb.1, hgb.2.1, ?_⟩
        simp only [List.length_take]; omega
    · show badF [] (flatP (x.groups.take m ++ [{ g with params := g.params.take q }])) < 0
      have e : flatP x.groups = flatP (x.groups.take m ++ [{ g with params := g.params.take q }]) ++ g.params.drop q := by
        conv => lhs; rw [hs]
        rw [flatP_append, flatP_append, List.append_assoc]
        simp [flatP]
      refine badF_prefix _ (g.params.drop q) _ ?_
      rw [← e]
      exact h7
theorem longer_check {x : ConfP} {m q : Nat} {g : GroupP} {p : ParamP} (h : Fine x) (hm : x.groups.length = m + 1) (hg : x.groups[m]? = some g) (hp : g.params[0]? = some p) :
    (checkC (lastG x m (g.params ++ [p]) g)).2.2 = 1 ∧ ((checkC (lastG x m (g.params ++ [p]) g)).1 = 5 ∨ (checkC (lastG x m (g.params ++ [p]) g)).1 = 6) := by
  obtain ⟨h1, h2, h3, h4, h5, h6, h7⟩ := h
  have hgm : g ∈ x.groups := List.mem_of_getElem? hg
  have hpm : p ∈ g.params := List.mem_of_getElem? hp
  have hb : 0 ≤ badP (flatP (lastG x m (g.params ++ [p]) g).groups) := by
    show 0 ≤ badF [] (flatP (x.groups.take m ++ [{ g with params := g.params ++ [p] }]))
    have e : flatP (x.groups.take m ++ [{ g with params := g.params ++ [p] }]) = (flatP (x.groups.take m) ++ g.params) ++ [p] := by
      rw [flatP_append, List.append_assoc]
      simp [flatP]
    rw [e]
    exact badF_twice _ _ _ ⟨p, by simp [hpm], rfl⟩
  have hl : 1 ≤ (lastG x m (g.params ++ [p]) g).groups.length ∧ (lastG x m (g.params ++ [p]) g).groups.length ≤ 8 := by
    simp only [lastG, List.length_append, List.length_take, List.length_cons, List.length_nil]; omega
  unfold checkC
  rw [if_neg (by simpa [lastG] using h1), if_neg (by simpa [lastG] using h2), if_neg (by simp [lastG, h3]), if_neg (by simp [lastG, h4]), if_neg (by simpa using hl)]
  by_cases ho : 0 ≤ oddF (lastG x m (g.params ++ [p]) g).f 0 (lastG x m (g.params ++ [p]) g).groups
  · rw [if_pos ho]
    exact ⟨rfl, .inl rfl⟩
  · rw [if_neg ho, if_pos hb]
    exact ⟨rfl, .inr rfl⟩
end Go.Proofs.Ytigicphmnlkjfaa
