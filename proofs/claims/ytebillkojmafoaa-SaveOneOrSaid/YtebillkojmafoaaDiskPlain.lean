/- The plain law of a disk: what its acts do to what it is. Nothing of the program. -/
namespace Go.Proofs.Ytebillkojmafoaa

/-- What a disk is: what is there, what is read, what waits, whether it is down. -/
structure DS where
  there : List (List UInt8)
  seen : List (List UInt8)
  waits : List (Nat × List UInt8)
  down : Bool

def DS.fresh : DS := ⟨List.replicate 64 [], List.replicate 64 [], [], false⟩

/-- Sectors, with those of the writes that are kept. -/
def layK (l : List (List UInt8)) : List (Nat × List UInt8) → List Bool → List (List UInt8)
  | [], _ => l
  | _ :: _, [] => l
  | x :: ws, k :: ks => layK (if k then l.set x.1 x.2 else l) ws ks

theorem layK_len : ∀ (ws : List (Nat × List UInt8)) (ks : List Bool) (l : List (List UInt8)), (layK l ws ks).length = l.length := by
  intro ws
  induction ws with
  | nil => intro ks l; rfl
  | cons x ws ih =>
    intro ks l
    cases ks with
    | nil => rfl
    | cons k ks => simp only [layK]; rw [ih]; split <;> simp
theorem layK_nil (l : List (List UInt8)) (ws : List (Nat × List UInt8)) : layK l ws [] = l := by cases ws <;> rfl
theorem layK_succ : ∀ (ws : List (Nat × List UInt8)) (ks : List Bool) (l : List (List UInt8)) (i : Nat) (h : i < ws.length),
    layK l (ws.take (i + 1)) ks = if ks.getD i false then (layK l (ws.take i) ks).set ws[i].1 ws[i].2 else layK l (ws.take i) ks := by
  intro ws
  induction ws with
  | nil => intro ks l i h; simp at h
  | cons x ws ih =>
    intro ks l i h
    cases ks with
    | nil => simp [layK_nil]
    | cons k ks =>
      cases i with
      | zero => simp [layK]
      | succ i =>
        simp only [List.take_succ_cons, layK, List.getD_cons_succ, List.getElem_cons_succ]
        exact ih ks _ i (by simpa using h)

/-- Why a sector can't be asked for. -/
def eWrong (d : DS) (at_ : Int) : Int := if d.down then 10 else if at_ < 0 ∨ 64 ≤ at_ then 1 else 0
def eWrite (d : DS) (at_ : Int) (b : List UInt8) : Int := if d.down then 10 else if at_ < 0 ∨ 64 ≤ at_ then 1 else if 64 < b.length then 6 else 0
def dWrite (d : DS) (at_ : Int) (b : List UInt8) : DS :=
  if eWrite d at_ b = 0 then { d with seen := d.seen.set at_.toNat b, waits := d.waits ++ [(at_.toNat, b)] } else d
def eSync (d : DS) : Int := if d.down then 10 else 0
def dSync (d : DS) : DS := if d.down then d else { d with there := d.seen, waits := [] }
def bRead (d : DS) (at_ : Int) : List UInt8 := if eWrong d at_ = 0 then d.seen.getD at_.toNat [] else []
def dCrash (d : DS) (ks : List Bool) : DS := if d.down then d else ⟨layK d.there d.waits ks, layK d.there d.waits ks, [], true⟩
def dUp (d : DS) : DS := { d with down := false }

theorem eWrite_zero {d : DS} {at_ : Int} {b : List UInt8} : eWrite d at_ b = 0 ↔ d.down = false ∧ 0 ≤ at_ ∧ at_ < 64 ∧ b.length ≤ 64 := by
  unfold eWrite
  by_cases h1 : d.down = true
  · simp [h1]
  · by_cases h2 : at_ < 0 ∨ 64 ≤ at_
    · simp [h1, h2]; omega
    · by_cases h3 : 64 < b.length
      · simp [h1, h2, h3]
      · simp [h1, h2, h3]; omega
theorem eWrong_zero {d : DS} {at_ : Int} : eWrong d at_ = 0 ↔ d.down = false ∧ 0 ≤ at_ ∧ at_ < 64 := by
  unfold eWrong
  by_cases h1 : d.down = true
  · simp [h1]
  · by_cases h2 : at_ < 0 ∨ 64 ≤ at_
    · simp [h1, h2]; omega
    · simp [h1, h2]; omega
end Go.Proofs.Ytebillkojmafoaa
