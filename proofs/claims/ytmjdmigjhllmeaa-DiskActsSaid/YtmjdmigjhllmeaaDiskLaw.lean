/- Plain laws of a disk's acts. -/
import Derived.Test.YtmjdmigjhllmeaaAct
import Derived.Test.YtmjdmigjhllmeaaFew
namespace Go.Proofs.Ytmjdmigjhllmeaa
set_option linter.unusedVariables false

/-- What every disk is. -/
structure Tidy (D : DS) : Prop where
  lt : D.there.length = 64
  ls : D.seen.length = 64
  bt : ∀ x ∈ D.there, x.length ≤ 64
  bs : ∀ x ∈ D.seen, x.length ≤ 64
  bw : ∀ x ∈ D.waits, x.1 < 64 ∧ x.2.length ≤ 64
theorem Tidy.short {D : DS} (h : Tidy D) : Short D := fun x hx => by have := h.bs x hx; omega
theorem tidy_fresh : Tidy DS.fresh := by
  refine ⟨by simp [DS.fresh], by simp [DS.fresh], fun x hx => ?_, fun x hx => ?_, fun x hx => by simp [DS.fresh] at hx⟩
  all_goals
    have := List.eq_of_mem_replicate hx
    subst this
    simp
theorem mem_set_le {l : List (List UInt8)} {k : Nat} {b : List UInt8} (h : ∀ x ∈ l, x.length ≤ 64) (hb : b.length ≤ 64) : ∀ x ∈ l.set k b, x.length ≤ 64 := fun x hx => by
  rcases List.mem_or_eq_of_mem_set hx with h' | h'
  · exact h x h'
  · subst h'; exact hb
theorem tidy_write {D : DS} (h : Tidy D) (at_ : Int) (b : List UInt8) : Tidy (dWrite D at_ b) := by
  unfold dWrite
  split
  · rename_i he
    obtain ⟨_, h1, h2, hl⟩ := eWrite_zero.1 he
    refine ⟨h.lt, by simpa using h.ls, h.bt, mem_set_le h.bs hl, fun x hx => ?_⟩
    rcases List.mem_append.1 hx with h' | h'
    · exact h.bw x h'
    · simp at h'; subst h'; exact ⟨by show at_.toNat < 64; omega, hl⟩
  · exact h
theorem tidy_sync {D : DS} (h : Tidy D) : Tidy (dSync D) := by
  unfold dSync; split
  · exact h
  · exact ⟨h.ls, h.ls, h.bs, h.bs, fun x hx => by simp at hx⟩
theorem layK_le : ∀ (ws : List (Nat × List UInt8)) (ks : List Bool) (l : List (List UInt8)), (∀ x ∈ l, x.length ≤ 64) → (∀ x ∈ ws, x.1 < 64 ∧ x.2.length ≤ 64) → ∀ x ∈ layK l ws ks, x.length ≤ 64
  | [], ks, l, hl, _ => by intro x hx; simp only [layK] at hx; exact hl x hx
  | y :: ws, [], l, hl, _ => by intro x hx; simp only [layK] at hx; exact hl x hx
  | y :: ws, k :: ks, l, hl, hw => by
    simp only [layK]
    refine layK_le ws ks _ ?_ (fun x hx => hw x (List.mem_cons_of_mem _ hx))
    split
    · exact mem_set_le hl (hw y (List.mem_cons_self ..)).2
    · exact hl
theorem tidy_crash {D : DS} (h : Tidy D) (ks : List Bool) : Tidy (dCrash D ks) := by
  unfold dCrash; split
  · exact h
  · have hb := layK_le D.waits ks D.there h.bt h.bw
    exact ⟨by rw [layK_len]; exact h.lt, by rw [layK_len]; exact h.lt, hb, hb, fun x hx => by simp at hx⟩
theorem tidy_up {D : DS} (h : Tidy D) : Tidy (dUp D) := ⟨h.lt, h.ls, h.bt, h.bs, h.bw⟩
theorem tidy_act {D : DS} (h : Tidy D) (x : ActP) : Tidy (actD D x) := by
  unfold actD
  split
  · exact tidy_write h _ _
  · split
    · exact tidy_sync h
    · split
      · exact tidy_crash h _
      · split
        · exact tidy_up h
        · exact h
theorem waits_write (D : DS) (at_ : Int) (b : List UInt8) : (dWrite D at_ b).waits.length ≤ D.waits.length + 1 := by
  unfold dWrite; split
  · simp
  · omega
theorem waits_act (D : DS) (x : ActP) : (actD D x).waits.length ≤ D.waits.length + 1 := by
  unfold actD
  split
  · exact waits_write _ _ _
  · split
    · unfold dSync; split <;> simp
    · split
      · unfold dCrash; split <;> simp
      · split
        · simp [dUp]
        · omega
theorem fewB_iff {l : List ActP} {n : Nat} : fewB l n = true ↔ (∀ x ∈ l, smallAct x) ∧ l.length ≤ n := by unfold fewB; simp

/-! ### A disk that is down -/
theorem down_d {D : DS} (h : D.down = true) {x : ActP} (h0 : 0 ≤ x.kind) (h2 : x.kind ≤ 2) : actD D x = D ∧ actE D x = 10 ∧ actB D x = [] := by
  unfold actD actE actB dWrite eWrite dSync eSync bRead eWrong
  rw [h]
  by_cases k0 : x.kind = 0
  · simp [k0]
  · by_cases k1 : x.kind = 1
    · simp [k1]
    · have k2 : x.kind = 2 := by omega
      simp [k2]
theorem down_put {b : List UInt8} (hb : b.length ≤ 64) : eWrite DS.fresh 1 b = 0 ∧ dWrite DS.fresh 1 b = ⟨DS.fresh.there, DS.fresh.seen.set 1 b, [(1, b)], false⟩ := by
  have h : eWrite DS.fresh 1 b = 0 := eWrite_zero.2 ⟨rfl, by omega, by omega, hb⟩
  refine ⟨h, ?_⟩
  unfold dWrite; rw [if_pos h]; rfl
theorem down_crash {b : List UInt8} (ks : List Bool) : dCrash ⟨DS.fresh.there, DS.fresh.seen.set 1 b, [(1, b)], false⟩ ks = ⟨layK DS.fresh.there [(1, b)] ks, layK DS.fresh.there [(1, b)] ks, [], true⟩ := rfl
theorem down_lay (b : List UInt8) (ks : List Bool) : bRead (dUp ⟨layK DS.fresh.there [(1, b)] ks, layK DS.fresh.there [(1, b)] ks, [], true⟩) 1 = if ks.getD 0 false then b else [] := by
  cases ks with
  | nil => rfl
  | cons k ks => cases k <;> cases ks <;> rfl
/-! ### What was synced -/
/-- Sector k has b, and nothing that waits is for it. -/
structure Synced (k : Nat) (b : List UInt8) (D : DS) : Prop where
  tidy : Tidy D
  th : D.there[k]? = some b
  se : D.seen[k]? = some b
  wa : ∀ x ∈ D.waits, x.1 ≠ k
theorem layK_far : ∀ (ws : List (Nat × List UInt8)) (ks : List Bool) (l : List (List UInt8)) (k : Nat), (∀ x ∈ ws, x.1 ≠ k) → (layK l ws ks)[k]? = l[k]?
  | [], ks, l, k, _ => rfl
  | y :: ws, [], l, k, _ => rfl
  | y :: ws, q :: ks, l, k, hw => by
    simp only [layK]
    rw [layK_far ws ks _ k (fun x hx => hw x (List.mem_cons_of_mem _ hx))]
    split
    · rw [List.getElem?_set, if_neg (hw y (List.mem_cons_self ..))]
    · rfl
theorem synced_act {k : Nat} {b : List UInt8} {D : DS} (h : Synced k b D) (x : ActP) (hx : ¬ (x.kind = 0 ∧ x.at_ = (k : Int))) : Synced k b (actD D x) := by
  refine ⟨tidy_act h.tidy x, ?_, ?_, ?_⟩ <;> unfold actD
  · split
    · unfold dWrite; split <;> exact h.th
    · split
      · unfold dSync; split
        · exact h.th
        · exact h.se
      · split
        · unfold dCrash; split
          · exact h.th
          · show (layK _ _ _)[k]? = _
            rw [layK_far _ _ _ _ h.wa]; exact h.th
        · split <;> exact h.th
  · split
    · rename_i h0
      unfold dWrite; split
      · rename_i he
        obtain ⟨_, h1, h2, _⟩ := eWrite_zero.1 he
        show (D.seen.set _ _)[k]? = _
        rw [List.getElem?_set, if_neg (fun e => hx ⟨h0, by omega⟩)]
        exact h.se
      · exact h.se
    · split
      · unfold dSync; split <;> exact h.se
      · split
        · unfold dCrash; split
          · exact h.se
          · show (layK _ _ _)[k]? = _
            rw [layK_far _ _ _ _ h.wa]; exact h.th
        · split <;> exact h.se
  · split
    · rename_i h0
      unfold dWrite; split
      · rename_i he
        obtain ⟨_, h1, h2, _⟩ := eWrite_zero.1 he
        intro y hy
        rcases List.mem_append.1 hy with h' | h'
        · exact h.wa y h'
        · simp at h'; subst h'
          intro e
          exact hx ⟨h0, by have : x.at_.toNat = k := e; omega⟩
      · exact h.wa
    · split
      · unfold dSync; split
        · exact h.wa
        · intro y hy; simp at hy
      · split
        · unfold dCrash; split
          · exact h.wa
          · intro y hy; simp at hy
        · split <;> exact h.wa
theorem synced_start {k : Nat} {b : List UInt8} (hk : k < 64) (hb : b.length ≤ 64) : eWrite DS.fresh k b = 0 ∧ eSync (dWrite DS.fresh k b) = 0 ∧ Synced k b (dSync (dWrite DS.fresh k b)) ∧ (dWrite DS.fresh k b).waits.length = 1 ∧ (dSync (dWrite DS.fresh k b)).waits.length = 0 := by
  have h : eWrite DS.fresh k b = 0 := eWrite_zero.2 ⟨rfl, by omega, by omega, hb⟩
  have hd : dWrite DS.fresh k b = ⟨DS.fresh.there, DS.fresh.seen.set k b, [(k, b)], false⟩ := by
    unfold dWrite; rw [if_pos h, Int.toNat_natCast]; rfl
  have ht := tidy_sync (tidy_write tidy_fresh k b)
  have hs : (DS.fresh.seen.set k b)[k]? = some b := by
    rw [List.getElem?_set, if_pos rfl, if_pos (by simpa [DS.fresh] using hk)]
  rw [hd] at ht ⊢
  exact ⟨h, rfl, ⟨ht, hs, hs, fun x hx => by simp [dSync] at hx⟩, rfl, rfl⟩
theorem synced_end {k : Nat} {b : List UInt8} {D : DS} (h : Synced k b D) (hk : k < 64) : bRead (dUp D) k = b ∧ eWrong (dUp D) k = 0 := by
  have he : eWrong (dUp D) k = 0 := eWrong_zero.2 ⟨rfl, by omega, by omega⟩
  refine ⟨?_, he⟩
  unfold bRead
  rw [if_pos he, Int.toNat_natCast, List.getD_eq_getElem?_getD]
  show (D.seen[k]?).getD [] = b
  rw [h.se]; rfl

/-- An act out of a slice that was there before the disk. -/
theorem Acts.news {w wr : World} {A : Option Addr} {l : List ActP} (h : Acts w A l) (hn : New w wr) {i : Nat} (hi : i < l.length) : ∃ g o B c K d, A = some ⟨g, o, none⟩ ∧
  wr.cell? ⟨g, o + i * 4, none⟩ = some (.int .i64 l[i].kind) ∧ wr.cell? ⟨g, o + i * 4 + 1, none⟩ = some (.int .i64 l[i].at_) ∧ wr.cell? ⟨g, o + i * 4 + 2, none⟩ = some (.slice B l[i].b.length c) ∧ wr.cell? ⟨g, o + i * 4 + 3, none⟩ = some (.slice K l[i].keep.length d) ∧
  SL wr B c l[i].b ∧ RVs w.heap.size wr K (l[i].keep.map Value.bool) ∧ l[i].keep.length ≤ 9223372036854775807 ∧ l[i].b.length ≤ 9223372036854775807 := by
  obtain ⟨g, o, B, c, K, d, e, c0, c1, c2, c3, sb, sk, hb⟩ := h.at_ hi
  exact ⟨g, o, B, c, K, d, e, Bl.some' hn.bl c0, Bl.some' hn.bl c1, Bl.some' hn.bl c2, Bl.some' hn.bl c3, sb.step hn.bl, sk.rv.news hn.safe hn.bl, sk.max, hb⟩
end Go.Proofs.Ytmjdmigjhllmeaa
