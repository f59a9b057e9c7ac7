/- The plain law of saves: what a disk's commits are, what a save's acts make of a disk, what is loaded. -/
import Derived.Test.YtebillkojmafoaaDecEnc
import Derived.Test.YtebillkojmafoaaUni25
import Derived.Test.YtebillkojmafoaaCrc
import Derived.Test.YtebillkojmafoaaDiskPlain
namespace Go.Proofs.Ytebillkojmafoaa
set_option linter.unusedVariables false

/-- A commit: its number, area, and how many bytes; of number 0: none. -/
structure Com where
  n : Nat
  a : Nat
  long : Nat
def Com.none_ : Com := ⟨0, 0, 0⟩
/-- Its sector's bytes. -/
def sec (c : Com) : List UInt8 := crcPut ((enc c.n ++ enc c.a) ++ enc c.long)
/-- The error's number, of four. -/
def comE (l : List UInt8) : Int := max (max (max (dCut l).2 (dE (dCut l).1)) (dE (dR (dCut l).1))) (dE (dR (dR (dCut l).1)))
def comRest (l : List UInt8) : List UInt8 := dR (dR (dR (dCut l).1))
def comRaw (l : List UInt8) : Com := ⟨dN (dCut l).1, dN (dR (dCut l).1), dN (dR (dR (dCut l).1))⟩
/-- The commit of a sector's bytes. -/
def comOf (l : List UInt8) (at_ : Nat) : Com :=
  if comE l ≠ 0 ∨ 0 < (comRest l).length ∨ (comRaw l).n % 2 ≠ at_ ∨ 2 ≤ (comRaw l).a ∨ 1984 < (comRaw l).long then Com.none_ else comRaw l

theorem dCut_put (l : List UInt8) : dCut (crcPut l) = (l, 0) := by
  have e : (crcPut l).take ((crcPut l).length - 4) = l := by
    rw [crcPut_len, Nat.add_sub_cancel]; unfold crcPut; exact List.take_left
  unfold dCut
  rw [if_neg (by rw [crcPut_len]; omega), e, if_pos rfl]
theorem d_enc {n : Nat} (h : n < 2 ^ 64) (r : List UInt8) : dN (enc n ++ r) = n ∧ dR (enc n ++ r) = r ∧ dE (enc n ++ r) = 0 := by
  unfold dN dR dE
  rw [dec_enc h r]; exact ⟨rfl, rfl, rfl⟩
theorem comOf_sec (c : Com) (at_ : Nat) (h : c.n < 2 ^ 64) (ha : c.a < 2) (hl : c.long ≤ 1984) (hat : c.n % 2 = at_) : comOf (sec c) at_ = c := by
  have e1 := d_enc h (enc c.a ++ enc c.long)
  have e2 := d_enc (n := c.a) (by omega) (enc c.long)
  have e3 := d_enc (n := c.long) (by omega) []
  rw [List.append_nil] at e3
  have hc : dCut (sec c) = (enc c.n ++ (enc c.a ++ enc c.long), 0) := by unfold sec; rw [dCut_put, List.append_assoc]
  have h1 : comE (sec c) = 0 := by unfold comE; rw [hc]; simp only; rw [e1.2.1, e2.2.1, e1.2.2, e2.2.2, e3.2.2]; rfl
  have h2 : comRest (sec c) = [] := by unfold comRest; rw [hc]; simp only; rw [e1.2.1, e2.2.1, e3.2.1]
  have h3 : comRaw (sec c) = c := by unfold comRaw; rw [hc]; simp only; rw [e1.2.1, e2.2.1, e1.1, e2.1, e3.1]
  unfold comOf
  rw [h1, h2, h3, if_neg (by simp; omega)]
theorem comOf_nil (at_ : Nat) : comOf [] at_ = Com.none_ := by
  unfold comOf
  rw [if_pos (.inl (by unfold comE; decide))]
theorem enc_len3 {n : Nat} (h : n < 2 ^ 64) : (enc n).length ≤ 10 := enc_len10 h
theorem sec_len (c : Com) (h : c.n < 2 ^ 64) (ha : c.a < 2) (hl : c.long ≤ 1984) : (sec c).length ≤ 64 := by
  unfold sec
  rw [crcPut_len, List.length_append, List.length_append]
  have := enc_len10 h; have := enc_len10 (n := c.a) (by omega); have := enc_len10 (n := c.long) (by omega)
  omega

def comD (D : DS) (at_ : Nat) : Com := comOf (bRead D at_) at_
def lastD (D : DS) : Com := if (comD D 1).n < (comD D 0).n then comD D 0 else comD D 1

/-- Sixty-four bytes. -/
def chunk (b : List UInt8) (i : Nat) : List UInt8 := (b.drop (64 * i)).take 64
def many (b : List UInt8) : Nat := (b.length + 63) / 64
theorem chunk_len (b : List UInt8) (i : Nat) : (chunk b i).length ≤ 64 := by unfold chunk; rw [List.length_take]; omega
def nextOf (c : Com) (b : List UInt8) : Com := ⟨c.n + 1, if 0 < c.n then 1 - c.a else 0, b.length⟩
/-- A save's acts. -/
def actS (c : Com) (b : List UInt8) (j : Nat) (D : DS) : DS :=
  if j < many b then dWrite D ((2 + 31 * (nextOf c b).a + j : Nat) : Int) (chunk b j)
  else if j = many b then dSync D
  else if j = many b + 1 then dWrite D (((nextOf c b).n % 2 : Nat) : Int) (sec (nextOf c b))
  else dSync D
def runS (c : Com) (b : List UInt8) (D : DS) : Nat → DS
  | 0 => D
  | j + 1 => actS c b j (runS c b D j)

/-- What is loaded. -/
def allD (D : DS) (a : Nat) : Nat → List UInt8
  | 0 => []
  | i + 1 => allD D a i ++ bRead D ((2 + 31 * a + i : Nat) : Int)
def eLoad (D : DS) : Int :=
  if eWrong D 0 ≠ 0 then eWrong D 0 else if (lastD D).n = 0 then 9 else if (allD D (lastD D).a (((lastD D).long + 63) / 64)).length < (lastD D).long then 3 else 0
def bLoad (D : DS) : List UInt8 := if eLoad D = 0 then (allD D (lastD D).a (((lastD D).long + 63) / 64)).take (lastD D).long else []
/-- What a save tells, and leaves. -/
def whole (b : List UInt8) : Nat := many b + 3
def nSave (D : DS) (b : List UInt8) (stop : Int) : Nat := if eWrong D 0 ≠ 0 ∨ 1984 < b.length then 0 else if 0 ≤ stop ∧ stop < (whole b : Nat) then stop.toNat else whole b
def eSave (D : DS) (b : List UInt8) (stop : Int) : Int := if eWrong D 0 ≠ 0 then eWrong D 0 else if 1984 < b.length then 6 else if 0 ≤ stop ∧ stop < (whole b : Nat) then 9 else 0
def dSave (D : DS) (b : List UInt8) (stop : Int) : DS := runS (lastD D) b D (nSave D b stop)

/-! ### A disk that is calm -/
structure Calm (D : DS) : Prop where
  len : D.seen.length = 64
  le : ∀ x ∈ D.seen, x.length ≤ 64
  down : D.down = false
  waits : D.waits = []
  there : D.there = D.seen
/-- What was saved last: number, area, bytes. -/
structure Good (D : DS) (n a : Nat) (b : List UInt8) : Prop where
  calm : Calm D
  c1 : comD D (n % 2) = if n = 0 then Com.none_ else ⟨n, a, b.length⟩
  c2 : (comD D ((n + 1) % 2)).n < n ∨ (n = 0 ∧ comD D ((n + 1) % 2) = Com.none_)
  ha : 0 < n → a < 2
  hb : 0 < n → b.length ≤ 1984
  data : 0 < n → ∀ i, i < many b → D.seen[2 + 31 * a + i]? = some (chunk b i)

theorem bRead_calm {D : DS} (hd : D.down = false) {k : Nat} (hk : k < 64) : bRead D (k : Int) = (D.seen[k]?).getD [] := by
  have he : eWrong D (k : Int) = 0 := eWrong_zero.2 ⟨hd, by omega, by omega⟩
  unfold bRead
  rw [if_pos he, Int.toNat_natCast, List.getD_eq_getElem?_getD]
theorem comD_eq {D D' : DS} (hd : D.down = false) (hd' : D'.down = false) {k : Nat} (hk : k < 2) (h : D'.seen[k]? = D.seen[k]?) : comD D' k = comD D k := by
  unfold comD
  rw [bRead_calm hd (by omega), bRead_calm hd' (by omega), h]
theorem good_fresh : Good DS.fresh 0 0 [] := by
  have hc : ∀ k, k < 2 → comD DS.fresh k = Com.none_ := by
    intro k hk
    unfold comD
    rw [bRead_calm rfl (by omega)]
    have : (DS.fresh.seen[k]?).getD [] = [] := by
      show ((List.replicate 64 ([] : List UInt8))[k]?).getD [] = []
      rw [List.getElem?_replicate]; split <;> rfl
    rw [this, comOf_nil]
  refine ⟨⟨by simp [DS.fresh], fun x hx => ?_, rfl, rfl, rfl⟩, ?_, .inr ⟨rfl, hc _ (by decide)⟩, fun h => by omega, fun h => by omega, fun h => by omega⟩
  · have := List.eq_of_mem_replicate hx; subst this; simp
  · rw [if_pos rfl]; exact hc _ (by decide)
theorem lastD_good {D : DS} {n a : Nat} {b : List UInt8} (h : Good D n a b) : lastD D = if n = 0 then Com.none_ else ⟨n, a, b.length⟩ := by
  have h1 := h.c1; have h2 := h.c2
  unfold lastD
  by_cases hn : n = 0
  · subst hn
    rw [if_pos rfl] at h1 ⊢
    have h2' : comD D 1 = Com.none_ := by
      rcases h2 with h2 | h2
      · exact absurd h2 (by omega)
      · exact h2.2
    have h1' : comD D 0 = Com.none_ := h1
    rw [h1', h2', if_neg (by simp)]
  · rw [if_neg hn] at h1 ⊢
    have h2' : (comD D ((n + 1) % 2)).n < n := by rcases h2 with h2 | h2 <;> omega
    rcases Nat.mod_two_eq_zero_or_one n with e | e
    · rw [e] at h1
      rw [show (n + 1) % 2 = 1 by omega] at h2'
      rw [h1, if_pos (by simpa using h2')]
    · rw [e] at h1
      rw [show (n + 1) % 2 = 0 by omega] at h2'
      rw [h1, if_neg (by simp; omega)]
/-- Another disk, alike outside the other area. -/
theorem Good.agree {D D' : DS} {n a a' : Nat} {b : List UInt8} (h : Good D n a b) (hc : Calm D') (ha' : 0 < n → a' = 1 - a) (hs : ∀ i, (i < 2 + 31 * a' ∨ 2 + 31 * a' + 31 ≤ i) → D'.seen[i]? = D.seen[i]?) : Good D' n a b := by
  have e : ∀ k, k < 2 → comD D' k = comD D k := fun k hk => comD_eq h.calm.down hc.down hk (hs k (.inl (by omega)))
  refine ⟨hc, by rw [e _ (Nat.mod_lt _ (by omega))]; exact h.c1, by rw [e _ (Nat.mod_lt _ (by omega))]; exact h.c2, h.ha, h.hb, fun hn i hi => ?_⟩
  rw [← h.data hn i hi]
  have h1 := h.ha hn; have h2 := ha' hn; have h3 := h.hb hn
  have hi31 : i < 31 := by unfold many at hi; omega
  refine hs _ ?_
  rcases Nat.lt_or_ge a 1 with h4 | h4
  · obtain rfl : a = 0 := by omega
    left; rw [h2]; omega
  · obtain rfl : a = 1 := by omega
    right; rw [h2]; omega

/-! ### The acts -/
theorem dWrite_calm {D : DS} (hd : D.down = false) {k : Nat} (hk : k < 64) {b : List UInt8} (hb : b.length ≤ 64) : dWrite D (k : Int) b = { D with seen := D.seen.set k b, waits := D.waits ++ [(k, b)] } := by
  unfold dWrite
  rw [if_pos (eWrite_zero.2 ⟨hd, by omega, by omega, hb⟩), Int.toNat_natCast]
/-- The state while the parts are written. -/
structure Mid (D D' : DS) (a' : Nat) (b : List UInt8) (j : Nat) : Prop where
  len : D'.seen.length = 64
  le : ∀ x ∈ D'.seen, x.length ≤ 64
  down : D'.down = false
  there : D'.there = D.seen
  waits : ∀ x ∈ D'.waits, 2 + 31 * a' ≤ x.1 ∧ x.1 < 2 + 31 * a' + 31 ∧ x.2.length ≤ 64
  cnt : D'.waits.length = j
  far : ∀ i, (i < 2 + 31 * a' ∨ 2 + 31 * a' + 31 ≤ i) → D'.seen[i]? = D.seen[i]?
  data : ∀ i, i < j → D'.seen[2 + 31 * a' + i]? = some (chunk b i)
theorem mem_set_le' {l : List (List UInt8)} {k : Nat} {b : List UInt8} (h : ∀ x ∈ l, x.length ≤ 64) (hb : b.length ≤ 64) : ∀ x ∈ l.set k b, x.length ≤ 64 := fun x hx => by
  rcases List.mem_or_eq_of_mem_set hx with h' | h'
  · exact h x h'
  · subst h'; exact hb
theorem runS_parts {c : Com} {b : List UInt8} {D : DS} (hc : Calm D) (ha : (nextOf c b).a < 2) (hb : b.length ≤ 1984) : ∀ j, j ≤ many b → Mid D (runS c b D j) (nextOf c b).a b j
  | 0, _ => ⟨hc.len, hc.le, hc.down, hc.there, fun x hx => by rw [show (runS c b D 0).waits = [] from hc.waits] at hx; simp at hx, by show D.waits.length = 0; rw [hc.waits]; rfl, fun i _ => rfl, fun i hi => by omega⟩
  | j + 1, hj => by
    have ih := runS_parts hc ha hb j (by omega)
    have hj31 : j < 31 := by unfold many at hj; omega
    have e : runS c b D (j + 1) = { (runS c b D j) with seen := (runS c b D j).seen.set (2 + 31 * (nextOf c b).a + j) (chunk b j), waits := (runS c b D j).waits ++ [(2 + 31 * (nextOf c b).a + j, chunk b j)] } := by
      show actS c b j (runS c b D j) = _
      unfold actS
      rw [if_pos (by omega), dWrite_calm ih.down (by omega) (chunk_len b j)]
    rw [e]
    refine ⟨by simpa using ih.len, mem_set_le' ih.le (chunk_len b j), ih.down, ih.there, fun x hx => ?_, by simp [ih.cnt], fun i hi => ?_, fun i hi => ?_⟩
    · rcases List.mem_append.1 hx with h' | h'
      · exact ih.waits x h'
      · simp at h'; subst h'; exact ⟨by simp, by simp; omega, chunk_len b j⟩
    · show ((runS c b D j).seen.set _ _)[i]? = _
      rw [List.getElem?_set, if_neg (by omega)]; exact ih.far i hi
    · show ((runS c b D j).seen.set _ _)[_]? = _
      by_cases e' : i = j
      · subst e'
        rw [List.getElem?_set, if_pos rfl, if_pos (by rw [ih.len]; omega)]
      · rw [List.getElem?_set, if_neg (by omega)]; exact ih.data i (by omega)
theorem layK_far' : ∀ (ws : List (Nat × List UInt8)) (ks : List Bool) (l : List (List UInt8)) (k : Nat), (∀ x ∈ ws, x.1 ≠ k) → (layK l ws ks)[k]? = l[k]?
  | [], ks, l, k, _ => rfl
  | y :: ws, [], l, k, _ => rfl
  | y :: ws, q :: ks, l, k, hw => by
    simp only [layK]
    rw [layK_far' ws ks _ k (fun x hx => hw x (List.mem_cons_of_mem _ hx))]
    split
    · rw [List.getElem?_set, if_neg (hw y (List.mem_cons_self ..))]
    · rfl
theorem layK_le' : ∀ (ws : List (Nat × List UInt8)) (ks : List Bool) (l : List (List UInt8)), (∀ x ∈ l, x.length ≤ 64) → (∀ x ∈ ws, x.2.length ≤ 64) → ∀ x ∈ layK l ws ks, x.length ≤ 64
  | [], ks, l, hl, _ => by intro x hx; simp only [layK] at hx; exact hl x hx
  | y :: ws, [], l, hl, _ => by intro x hx; simp only [layK] at hx; exact hl x hx
  | y :: ws, k :: ks, l, hl, hw => by
    simp only [layK]
    refine layK_le' ws ks _ ?_ (fun x hx => hw x (List.mem_cons_of_mem _ hx))
    split
    · exact mem_set_le' hl (hw y (List.mem_cons_self ..))
    · exact hl
/-- A crash, and up again. -/
def dBack (D : DS) (ks : List Bool) : DS := dUp (dCrash D ks)
theorem dBack_eq {D : DS} (hd : D.down = false) (ks : List Bool) : dBack D ks = ⟨layK D.there D.waits ks, layK D.there D.waits ks, [], false⟩ := by
  unfold dBack dCrash; rw [if_neg (by simp [hd])]; rfl
section
variable {D : DS} {n a : Nat} {b b' : List UInt8}
theorem next_good (h : Good D n a b) : nextOf (lastD D) b' = ⟨n + 1, if 0 < n then 1 - a else 0, b'.length⟩ := by
  rw [lastD_good h]
  unfold nextOf
  by_cases hn : n = 0
  · subst hn; rfl
  · rw [if_neg hn]
theorem next_lt (h : Good D n a b) : (nextOf (lastD D) b').a < 2 := by
  rw [next_good h]; simp only; split <;> omega
/-- Stopped ahead of its commit, with a crash behind. -/
theorem back_parts (h : Good D n a b) (hb : b'.length ≤ 1984) {j : Nat} (hj : j ≤ many b' + 1) (ks : List Bool) : Good (dBack (runS (lastD D) b' D j) ks) n a b := by
  have ha := next_lt (b' := b') h
  have hna : 0 < n → (nextOf (lastD D) b').a = 1 - a := fun hn => by rw [next_good h]; simp [hn]
  by_cases h1 : j ≤ many b'
  · have m := runS_parts h.calm ha hb j h1
    rw [dBack_eq m.down]
    have hw : ∀ i, (i < 2 + 31 * (nextOf (lastD D) b').a ∨ 2 + 31 * (nextOf (lastD D) b').a + 31 ≤ i) → ∀ x ∈ (runS (lastD D) b' D j).waits, x.1 ≠ i := fun i hi x hx => by have := m.waits x hx; omega
    refine h.agree ⟨?_, ?_, rfl, rfl, rfl⟩ hna fun i hi => ?_
    · show (layK _ _ _).length = 64
      rw [layK_len, m.there]; exact h.calm.len
    · exact layK_le' _ _ _ (by rw [m.there]; exact h.calm.le) (fun x hx => (m.waits x hx).2.2)
    · show (layK _ _ _)[i]? = _
      rw [layK_far' _ _ _ _ (hw i hi), m.there]
  · obtain rfl : j = many b' + 1 := by omega
    have m := runS_parts h.calm ha hb (many b') (Nat.le_refl _)
    have e : runS (lastD D) b' D (many b' + 1) = ⟨(runS (lastD D) b' D (many b')).seen, (runS (lastD D) b' D (many b')).seen, [], false⟩ := by
      show actS _ _ _ _ = _
      unfold actS
      rw [if_neg (by omega), if_pos rfl]
      unfold dSync
      rw [if_neg (by simp [m.down]), m.down]
    rw [e, dBack_eq rfl]
    exact h.agree ⟨m.len, m.le, rfl, rfl, rfl⟩ hna fun i hi => m.far i hi
/-- The disk behind the first Sync. -/
theorem mid_sync (h : Good D n a b) (hb : b'.length ≤ 1984) : Good (runS (lastD D) b' D (many b' + 1)) n a b ∧ ∀ i, i < many b' → (runS (lastD D) b' D (many b' + 1)).seen[2 + 31 * (nextOf (lastD D) b').a + i]? = some (chunk b' i) := by
  have ha := next_lt (b' := b') h
  have hna : 0 < n → (nextOf (lastD D) b').a = 1 - a := fun hn => by rw [next_good h]; simp [hn]
  have m := runS_parts h.calm ha hb (many b') (Nat.le_refl _)
  have e : runS (lastD D) b' D (many b' + 1) = ⟨(runS (lastD D) b' D (many b')).seen, (runS (lastD D) b' D (many b')).seen, [], false⟩ := by
    show actS _ _ _ _ = _
    unfold actS
    rw [if_neg (by omega), if_pos rfl]
    unfold dSync
    rw [if_neg (by simp [m.down]), m.down]
  rw [e]
  exact ⟨h.agree ⟨m.len, m.le, rfl, rfl, rfl⟩ hna fun i hi => m.far i hi, m.data⟩
/-- With its commit there. -/
theorem good_next (h : Good D n a b) (hn : n < 2 ^ 63) (hb : b'.length ≤ 1984) {l : List (List UInt8)} (hl : l = (runS (lastD D) b' D (many b' + 1)).seen.set ((n + 1) % 2) (sec (nextOf (lastD D) b'))) :
    Good ⟨l, l, [], false⟩ (n + 1) (nextOf (lastD D) b').a b' := by
  obtain ⟨g, hd⟩ := mid_sync (b' := b') h hb
  have ha := next_lt (b' := b') h
  have hN : (nextOf (lastD D) b').n = n + 1 := by rw [next_good h]
  have hL : (nextOf (lastD D) b').long = b'.length := rfl
  obtain ⟨S, hS⟩ : ∃ S, S = runS (lastD D) b' D (many b' + 1) := ⟨_, rfl⟩
  rw [← hS] at g hd hl
  have hsl := sec_len (nextOf (lastD D) b') (by omega) ha (by omega)
  have hlt : (n + 1) % 2 < 2 := Nat.mod_lt _ (by omega)
  have hget : l[(n + 1) % 2]? = some (sec (nextOf (lastD D) b')) := by
    rw [hl, List.getElem?_set, if_pos rfl, if_pos (by rw [g.calm.len]; omega)]
  have hother : ∀ i, i ≠ (n + 1) % 2 → l[i]? = S.seen[i]? := fun i hi => by rw [hl, List.getElem?_set, if_neg (Ne.symm hi)]
  have hcalm : Calm ⟨l, l, [], false⟩ := ⟨by rw [hl]; simpa using g.calm.len, by rw [hl]; exact mem_set_le' g.calm.le hsl, rfl, rfl, rfl⟩
  refine ⟨hcalm, ?_, ?_, fun _ => ha, fun _ => hb, fun _ i hi => ?_⟩
  · rw [if_neg (by omega)]
    unfold comD
    rw [bRead_calm rfl (by omega)]
    show comOf ((l[(n + 1) % 2]?).getD []) _ = _
    rw [hget]
    show comOf (sec _) _ = _
    rw [comOf_sec _ _ (by omega) ha (by omega) (by rw [hN])]
    rw [next_good h]
  · have e : comD ⟨l, l, [], false⟩ ((n + 1 + 1) % 2) = comD S (n % 2) := by
      rw [show (n + 1 + 1) % 2 = n % 2 by omega]
      exact comD_eq g.calm.down rfl (by omega) (hother _ (by omega))
    rw [e, g.c1]
    left
    split
    · show 0 < n + 1; omega
    · show n < n + 1; omega
  · show l[_]? = _
    rw [hother _ (by omega)]
    exact hd i hi
theorem run_commit (h : Good D n a b) (hn : n < 2 ^ 63) (hb : b'.length ≤ 1984) :
    runS (lastD D) b' D (many b' + 2) = ⟨(runS (lastD D) b' D (many b' + 1)).seen, (runS (lastD D) b' D (many b' + 1)).seen.set ((n + 1) % 2) (sec (nextOf (lastD D) b')), [((n + 1) % 2, sec (nextOf (lastD D) b'))], false⟩ := by
  obtain ⟨g, hd⟩ := mid_sync (b' := b') h hb
  have ha := next_lt (b' := b') h
  have hN : (nextOf (lastD D) b').n = n + 1 := by rw [next_good h]
  have hsl := sec_len (nextOf (lastD D) b') (by omega) ha (by show b'.length ≤ 1984; omega)
  show actS _ _ (many b' + 1) _ = _
  unfold actS
  rw [if_neg (by omega), if_neg (by omega), if_pos rfl, hN, dWrite_calm g.calm.down (by omega) hsl, g.calm.waits, g.calm.there, g.calm.down]
  rfl
theorem back_commit (h : Good D n a b) (hn : n < 2 ^ 63) (hb : b'.length ≤ 1984) (ks : List Bool) :
    if ks.getD 0 false = true then Good (dBack (runS (lastD D) b' D (many b' + 2)) ks) (n + 1) (nextOf (lastD D) b').a b' else Good (dBack (runS (lastD D) b' D (many b' + 2)) ks) n a b := by
  rw [run_commit h hn hb, dBack_eq rfl]
  have g := (mid_sync (b' := b') h hb).1
  have hs : ⟨(runS (lastD D) b' D (many b' + 1)).seen, (runS (lastD D) b' D (many b' + 1)).seen, [], false⟩ = runS (lastD D) b' D (many b' + 1) := by
    have h1 := g.calm.there; have h2 := g.calm.waits; have h3 := g.calm.down
    generalize runS (lastD D) b' D (many b' + 1) = S at *
    obtain ⟨t, s, ws, dn⟩ := S
    simp only at h1 h2 h3
    subst h1 h2 h3; rfl
  cases ks with
  | nil => simp only [List.getD_nil, Bool.false_eq_true, if_false, layK]; rw [hs]; exact g
  | cons k ks =>
    cases k with
    | false =>
      simp only [List.getD_cons_zero, Bool.false_eq_true, if_false, layK]
      rw [hs]; exact g
    | true =>
      simp only [List.getD_cons_zero, if_true, layK]
      exact good_next h hn hb rfl
theorem run_whole (h : Good D n a b) (hn : n < 2 ^ 63) (hb : b'.length ≤ 1984) : Good (runS (lastD D) b' D (many b' + 3)) (n + 1) (nextOf (lastD D) b').a b' := by
  have e : runS (lastD D) b' D (many b' + 3) = dSync (runS (lastD D) b' D (many b' + 2)) := by
    show actS _ _ (many b' + 2) _ = _
    unfold actS
    rw [if_neg (by omega), if_neg (by omega), if_neg (by omega)]
  rw [e, run_commit h hn hb]
  exact good_next h hn hb rfl
theorem back_good (h : Good D n a b) (ks : List Bool) : Good (dBack D ks) n a b := by
  rw [dBack_eq h.calm.down, h.calm.waits, h.calm.there]
  have hs : (⟨D.seen, D.seen, [], false⟩ : DS) = D := by
    have h1 := h.calm.there; have h2 := h.calm.waits; have h3 := h.calm.down
    obtain ⟨t, s, ws, dn⟩ := D
    simp only at h1 h2 h3
    subst h1 h2 h3; rfl
  simp only [layK]
  rw [hs]; exact h
theorem all_chunks (b : List UInt8) (f : Nat → List UInt8) (hf : ∀ i, i < many b → f i = chunk b i) (D : DS) (a : Nat) (hD : ∀ i, i < many b → bRead D ((2 + 31 * a + i : Nat) : Int) = f i) : ∀ i, i ≤ many b → allD D a i = b.take (64 * i)
  | 0, _ => by simp [allD]
  | i + 1, hi => by
    show allD D a i ++ bRead D ((2 + 31 * a + i : Nat) : Int) = _
    rw [all_chunks b f hf D a hD i (by omega), hD i (by omega), hf i (by omega)]
    unfold chunk
    rw [show 64 * (i + 1) = 64 * i + 64 by omega, List.take_add]
/-- What was saved last is loaded. -/
theorem load_good (h : Good D n a b) : eLoad D = (if n = 0 then 9 else 0) ∧ (n ≠ 0 → bLoad D = b) ∧ (n = 0 → bLoad D = []) := by
  have hw : eWrong D 0 = 0 := eWrong_zero.2 ⟨h.calm.down, by omega, by omega⟩
  have hl := lastD_good h
  by_cases hn : n = 0
  · rw [if_pos hn] at hl
    have e : eLoad D = 9 := by unfold eLoad; rw [if_neg (by simp [hw]), hl]; exact if_pos rfl
    exact ⟨by rw [e, if_pos hn], fun h' => absurd hn h', fun _ => by unfold bLoad; rw [if_neg (by rw [e]; decide)]⟩
  · rw [if_neg hn] at hl
    have hp : 0 < n := by omega
    have ha := h.ha hp
    have hb := h.hb hp
    have hall : allD D a (many b) = b.take (64 * many b) := all_chunks b (chunk b) (fun _ _ => rfl) D a (fun i hi => by
      have hi31 : i < 31 := by unfold many at hi; omega
      rw [bRead_calm h.calm.down (by omega), h.data hp i hi]; rfl) _ (Nat.le_refl _)
    have htk : b.take (64 * many b) = b := List.take_of_length_le (by unfold many; omega)
    rw [htk] at hall
    have e : eLoad D = 0 := by
      unfold eLoad
      rw [if_neg (by simp [hw]), hl, if_neg hn, if_neg (by show ¬ (allD D a (many b)).length < b.length; rw [hall]; omega)]
    refine ⟨by rw [e, if_neg hn], fun _ => ?_, fun h' => absurd h' hn⟩
    unfold bLoad
    rw [if_pos e, hl]
    show (allD D a (many b)).take b.length = b
    rw [hall, List.take_of_length_le (Nat.le_refl _)]
end
end Go.Proofs.Ytebillkojmafoaa
