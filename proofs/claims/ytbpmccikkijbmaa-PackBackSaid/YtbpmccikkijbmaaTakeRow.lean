/- The contracts of TakeRow, both texts. -/
import Derived.Test.YtbpmccikkijbmaaTake
namespace Go.Proofs.Ytbpmccikkijbmaa
open Go.RowKit
set_option linter.unusedVariables false

def TRowNot (w : World) (k : Int) (e : Ending) (w' : World) : Prop := e = .returned (.tuple #[.slice none 0 0, .slice none 0 0, .int .i64 k]) ∧ ∃ j, w' = w.drewN j
def TRowGives (w : World) (B : Nat) (x r : List UInt8) (e : Ending) (w' : World) : Prop :=
  ∃ A c A' c' j, e = .returned (.tuple #[.slice A x.length c, .slice A' r.length c', .int .i64 0]) ∧ RB w B A x ∧ x.length ≤ c ∧ (A = none → c = 0) ∧ RB w B A' r ∧ r.length ≤ c' ∧ (A' = none → c' = 0) ∧ w' = w.drewN j
def TRowPost (w : World) (B : Nat) (m : Int) (o : Option (Nat × List UInt8)) (e : Ending) (w' : World) : Prop :=
  match o with
  | none => TRowNot w 3 e w'
  | some (n, r) => if m < 0 ∨ m < n then TRowNot w 6 e w' else if r.length < n then TRowNot w 3 e w' else TRowGives w B (r.take n) (r.drop n) e w'

theorem tRowGives_mk {w : World} {B n a b c d j : Nat} {A A' : Option Addr} {r : List UInt8} (hn : n ≤ r.length) (ha : a = n) (hb : b = r.length - n) (h : RB w B A r) (hc : r.length ≤ c)
    {w' : World} (hw : w' = w.drewN j) (hA : A = none → c = 0) (hA' : A' = if c = n then A else A.map (·.add n)) (hd : d = c - n) :
    TRowGives w B (r.take n) (r.drop n) (.returned (.tuple #[.slice A a c, .slice A' b d, .int .i64 0])) w' := by
  subst ha hb hd hA' hw
  refine ⟨A, c, _, _, j, by rw [List.length_take, List.length_drop, Nat.min_eq_left hn], h.take _, by rw [List.length_take]; omega, hA, h.cut hn hc, by rw [List.length_drop]; omega, ?_, rfl⟩
  intro e
  split at e
  · omega
  · rcases A with _ | ad
    · have := hA rfl; omega
    · cases e
theorem u64_of_pos {m : Int} (h0 : 0 ≤ m) (hm : m ≤ 9223372036854775807) : IntKind.u64.wrap m = m := IntWalk.u64_in _ (by omega)
theorem i64_bd' {n : Int} (hn : (Lit.int .i64 n).wf = true) : -9223372036854775808 ≤ n ∧ n ≤ 9223372036854775807 := by
  simpa [Lit.wf, IntKind.min, IntKind.max, IntKind.signed, IntKind.bits] using hn

/-- What is left is no longer than what it was taken of. -/
theorem decF_len (l : List UInt8) : ∀ (k N : Nat) {n : Nat} {r : List UInt8}, decF k N l = some (n, r) → r.length ≤ l.length := by
  induction l with
  | nil => intro k N n r h; simp [decF] at h
  | cons c l ih =>
    intro k N n r h
    rw [decF] at h
    split at h
    · cases h
    · split at h
      · injection h with h; injection h with h1 h2
        subst h2
        simp
      · have := ih _ _ h
        simp; omega
theorem dec_len {l : List UInt8} {n : Nat} {r : List UInt8} (h : dec l = some (n, r)) : r.length ≤ l.length := decF_len l 0 0 h

set_option maxRecDepth 100000 in
set_option maxHeartbeats 1000000 in
theorem takeRow_any (A : Option Addr) (c B : Nat) (l : List UInt8) (m : Int) (w : World) (h : RB w B A l) (hc : l.length ≤ c) (hA : A = none → c = 0) (hl : l.length ≤ 140737488355328) (hm : (Lit.int .i64 m).wf = true) :
    Calls Try.prog 19 #[.slice A l.length c, .int .i64 m] w (TRowPost w B m (dec l)) := by
  have hT := take_any A c B l w h hc hA hl
  have hmb := (i64_bd' hm).2
  rcases hd : dec l with _ | ⟨n, r⟩
  · rw [hd] at hT
    have HT := Lib.hid hT
    clear hT hd h hA hl hc hm hmb
    go_enter Try.func19, Try.ntmps19
    go_wp2_with fail
    refine HT.out.mono ?_
    rintro e w' ⟨rfl, j, rfl⟩
    go_wp2
    go_ret3
    exact ⟨rfl, j, rfl⟩
  · have hrl : r.length ≤ l.length := dec_len hd
    rw [hd] at hT
    have HT := Lib.hid hT
    have HL := Lib.hid (Nat.le_trans hrl hl)
    clear hT hd h hA hl hc hm hrl
    by_cases h1 : m < 0
    · have HI := Lib.hid (show m < 0 ∨ m < n from .inl h1)
      clear hmb
      go_enter Try.func19, Try.ntmps19
      go_wp2_with fail
      refine HT.out.mono ?_
      rintro e w' ⟨A', c', j, rfl, hr, hrc, hA', rfl⟩
      clear hr hA'
      go_wp2
      go_ret3
      show ite _ _ _
      rw [if_pos HI.out]
      exact ⟨rfl, j, rfl⟩
    · have hw := u64_of_pos (by omega) hmb
      by_cases h2 : m < (n : Int)
      · have HI := Lib.hid (show m < 0 ∨ m < n from .inr h2)
        clear hmb
        go_enter Try.func19, Try.ntmps19
        go_wp2_with fail
        refine HT.out.mono ?_
        rintro e w' ⟨A', c', j, rfl, hr, hrc, hA', rfl⟩
        clear hr hA'
        go_wp2
        go_ret3
        show ite _ _ _
        rw [if_pos HI.out]
        exact ⟨rfl, j, rfl⟩
      · have HI := Lib.hid (show ¬ (m < 0 ∨ m < n) from by omega)
        clear hmb
        have hw2 : IntKind.u64.wrap (r.length : Int) = (r.length : Int) := IntWalk.u64_in _ (by have := HL.out; omega)
        by_cases h3 : r.length < n
        · go_enter Try.func19, Try.ntmps19
          go_wp2_with fail
          refine HT.out.mono ?_
          rintro e w' ⟨A', c', j, rfl, hr, hrc, hA', rfl⟩
          clear hr hA'
          go_wp2
          go_ret3
          show ite _ _ _
          rw [if_neg HI.out, if_pos h3]
          exact ⟨rfl, j, rfl⟩
        · go_enter Try.func19, Try.ntmps19
          go_wp2_with fail
          refine HT.out.mono ?_
          rintro e w' ⟨A', c', j, rfl, hr, hrc, hA', rfl⟩
          have HR := Lib.hid hr
          have HA' := Lib.hid hA'
          clear hr
          have i0 : (0 : Int) ≤ (n : Int) := by omega
          have i1 : (n : Int) ≤ (r.length : Int) := by omega
          have i2 : (r.length : Int) ≤ (c' : Int) := by omega
          have i3 : (n : Int) ≤ (c' : Int) := by omega
          have i4 : n ≤ r.length := by omega
          have hg3 : n < c' ∨ ¬ n < c' := by omega
          rcases A' with _ | ad
          · have := hA' rfl
            subst this
            clear hA'
            obtain rfl : n = 0 := by omega
            go_wp2
            go_quiet (fail)
            go_wp2
            go_ret3
            show ite _ _ _
            rw [if_neg HI.out, if_neg h3]
            exact tRowGives_mk (A := none) (A' := none) i4 (by rfl) (by omega) HR.out hrc (World.drewN_drewN ..) (fun _ => rfl) (by simp) (by rfl)
          · clear hA'
            rcases hg3 with hg3 | hg3
            all_goals
              go_wp2
              go_quiet (fail)
              go_wp2
              go_ret3
              show ite _ _ _
              rw [if_neg HI.out, if_neg h3]
              refine tRowGives_mk (A := some ad) i4 (by rfl) (by rfl) HR.out hrc (World.drewN_drewN ..) HA'.out ?_ (by rfl)
              first
                | rw [if_neg (by omega)]; simp [Addr.add]; done
                | rw [if_pos (by omega)]

set_option maxRecDepth 100000 in
set_option maxHeartbeats 1000000 in
theorem rtakeRow_any (A : Option Addr) (c B : Nat) (l : List UInt8) (m : Int) (w : World) (h : RB w B A l) (hc : l.length ≤ c) (hA : A = none → c = 0) (hl : l.length ≤ 140737488355328) (hm : (Lit.int .i64 m).wf = true) :
    Calls Try.prog 20 #[.slice A l.length c, .int .i64 m] w (TRowPost w B m (dec l)) := by
  have hT := rtake_any A c B l w h hc hA hl
  have hmb := (i64_bd' hm).2
  rcases hd : dec l with _ | ⟨n, r⟩
  · rw [hd] at hT
    have HT := Lib.hid hT
    clear hT hd h hA hl hc hm hmb
    go_enter Try.func20, Try.ntmps20
    go_wp2_with fail
    refine HT.out.mono ?_
    rintro e w' ⟨rfl, j, rfl⟩
    go_wp2
    go_ret3
    exact ⟨rfl, j, rfl⟩
  · have hrl : r.length ≤ l.length := dec_len hd
    rw [hd] at hT
    have HT := Lib.hid hT
    have HL := Lib.hid (Nat.le_trans hrl hl)
    clear hT hd h hA hl hc hm hrl
    by_cases h1 : m < 0
    · have HI := Lib.hid (show m < 0 ∨ m < n from .inl h1)
      clear hmb
      go_enter Try.func20, Try.ntmps20
      go_wp2_with fail
      refine HT.out.mono ?_
      rintro e w' ⟨A', c', j, rfl, hr, hrc, hA', rfl⟩
      clear hr hA'
      go_wp2
      go_ret3
      show ite _ _ _
      rw [if_pos HI.out]
      exact ⟨rfl, j, rfl⟩
    · have hw := u64_of_pos (by omega) hmb
      by_cases h2 : m < (n : Int)
      · have HI := Lib.hid (show m < 0 ∨ m < n from .inr h2)
        clear hmb
        go_enter Try.func20, Try.ntmps20
        go_wp2_with fail
        refine HT.out.mono ?_
        rintro e w' ⟨A', c', j, rfl, hr, hrc, hA', rfl⟩
        clear hr hA'
        go_wp2
        go_ret3
        show ite _ _ _
        rw [if_pos HI.out]
        exact ⟨rfl, j, rfl⟩
      · have HI := Lib.hid (show ¬ (m < 0 ∨ m < n) from by omega)
        clear hmb
        have hw2 : IntKind.u64.wrap (r.length : Int) = (r.length : Int) := IntWalk.u64_in _ (by have := HL.out; omega)
        by_cases h3 : r.length < n
        · go_enter Try.func20, Try.ntmps20
          go_wp2_with fail
          refine HT.out.mono ?_
          rintro e w' ⟨A', c', j, rfl, hr, hrc, hA', rfl⟩
          clear hr hA'
          go_wp2
          go_ret3
          show ite _ _ _
          rw [if_neg HI.out, if_pos h3]
          exact ⟨rfl, j, rfl⟩
        · go_enter Try.func20, Try.ntmps20
          go_wp2_with fail
          refine HT.out.mono ?_
          rintro e w' ⟨A', c', j, rfl, hr, hrc, hA', rfl⟩
          have HR := Lib.hid hr
          have HA' := Lib.hid hA'
          clear hr
          have i0 : (0 : Int) ≤ (n : Int) := by omega
          have i1 : (n : Int) ≤ (r.length : Int) := by omega
          have i2 : (r.length : Int) ≤ (c' : Int) := by omega
          have i3 : (n : Int) ≤ (c' : Int) := by omega
          have i4 : n ≤ r.length := by omega
          have hg3 : n < c' ∨ ¬ n < c' := by omega
          rcases A' with _ | ad
          · have := hA' rfl
            subst this
            clear hA'
            obtain rfl : n = 0 := by omega
            go_wp2
            go_quiet (fail)
            go_wp2
            go_ret3
            show ite _ _ _
            rw [if_neg HI.out, if_neg h3]
            exact tRowGives_mk (A := none) (A' := none) i4 (by rfl) (by omega) HR.out hrc (World.drewN_drewN ..) (fun _ => rfl) (by simp) (by rfl)
          · clear hA'
            rcases hg3 with hg3 | hg3
            all_goals
              go_wp2
              go_quiet (fail)
              go_wp2
              go_ret3
              show ite _ _ _
              rw [if_neg HI.out, if_neg h3]
              refine tRowGives_mk (A := some ad) i4 (by rfl) (by rfl) HR.out hrc (World.drewN_drewN ..) HA'.out ?_ (by rfl)
              first
                | rw [if_neg (by omega)]; simp [Addr.add]; done
                | rw [if_pos (by omega)]
end Go.Proofs.Ytbpmccikkijbmaa
