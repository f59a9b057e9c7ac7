/- SaveOneOr's walk. -/
import Derived.Test.YtebillkojmafoaaTryWords
import Derived.BigQuiet
import Derived.Deep.QuietTactic
import Derived.Deep.RegionHeld3
import Derived.StillTailTactics
namespace Go.Proofs.Ytebillkojmafoaa
open Go.RowKit
set_option linter.unusedVariables false

section
variable {p : Nat} {X : Nat → Prop} {w : World} {D : DS} {n a : Nat} {b : List UInt8}
/-- A save, stopped or not. -/
theorem sv_run (h : IsDisk p X w D) (hX : ∀ x, w.heap.size ≤ x → X x) (g : Good D n a b) (hn : n < 2 ^ 63) (A : Option Addr) (cap len : Nat) (b' : List UInt8) (hlen : len = b'.length) (hs : SLs p w A cap b') (hb : b'.length ≤ 1984) (stop : Int) (j : Nat) (q k : Int)
    (hj : (j = many b' + 3 ∧ ((j : Nat) : Int) = q ∧ k = 0 ∧ (stop < 0 ∨ q ≤ stop)) ∨ (j < many b' + 3 ∧ stop = (j : Int) ∧ q = stop ∧ k = 9)) :
    Calls Try.prog 9 #[.pointer (some ⟨p, 0, none⟩), .slice A len cap, .int .i64 stop] w fun e w' => e = .returned (.tuple #[.int .i64 q, .int .i64 k]) ∧ IsDisk p X w' (runS (lastD D) b' D j) ∧ Fr p w w' := by
  rcases hj with ⟨rfl, h1, rfl, h2⟩ | ⟨h1, h2, rfl, rfl⟩
  · obtain ⟨e1, e2, _⟩ := save_whole g hn hb (stop := stop) (by omega)
    exact save_to h hX g.calm (g.n_lt hn) A cap len b' hlen hs hb stop q 0 _ (by rw [e1, h1]) e2 (by unfold dSave; rw [e1])
  · exact sv_part h hX g hn A cap len b' hlen hs hb _ j h1 h2
end
section
variable {D : DS} {n a : Nat} {b b' : List UInt8}
theorem back_yes (h : Good D n a b) (hn : n < 2 ^ 63) (hb : b'.length ≤ 1984) (ks : List Bool) {j : Nat} (hj : j = many b' + 3 ∨ (j = many b' + 2 ∧ ks.getD 0 false = true)) : ∃ a', Good (dBack (runS (lastD D) b' D j) ks) (n + 1) a' b' := by
  rcases hj with rfl | ⟨rfl, hk⟩
  · exact ⟨_, back_good (run_whole h hn hb) ks⟩
  · have := back_commit h hn hb ks
    rw [if_pos hk] at this
    exact ⟨_, this⟩
theorem back_no (h : Good D n a b) (hn : n < 2 ^ 63) (hb : b'.length ≤ 1984) (ks : List Bool) {j : Nat} (hj : (j = many b' + 2 ∧ ks.getD 0 false = false) ∨ j ≤ many b' + 1) : Good (dBack (runS (lastD D) b' D j) ks) n a b := by
  rcases hj with ⟨rfl, hk⟩ | hj
  · have := back_commit h hn hb ks
    rw [if_neg (by rw [hk]; decide)] at this
    exact this
  · exact back_parts h hb hj ks
theorem back_le {D0 : DS} {n0 a0 : Nat} {b0 : List UInt8} {ks : List Bool} (h : Good (dBack D0 ks) n0 a0 b0) : ∀ x ∈ (dCrash D0 ks).seen, x.length ≤ 64 := h.calm.le
end

set_option maxRecDepth 100000 in
set_option maxHeartbeats 12000000 in
theorem saveOneOr_walk (A : Option Addr) (c : Nat) (l : List TryP) (w : World) (hr : Tries w A l) (hl : l.length ≤ 9223372036854775807) :
    Calls Try.prog 5 #[.slice A l.length c] w fun e w' => e = .returned (.bool true) ∧ Bl w w' := by
  have HR := Lib.hid hr
  clear hr
  by_cases g1 : 20 < l.length
  · have g1' : (20 : Int) < (l.length : Int) := by omega
    go_enter Try.func5, Try.ntmps5
    go_wp2_with fail
    refine (dNew_to (fun _ => True) _).mono ?_
    rintro e w1 ⟨rfl, dd, nw⟩
    have N := Lib.hid (And.intro nw dd.plt); clear dd nw
    go_wp2_with fail
    refine (alive25 _).mono ?_
    rintro e w2 ⟨rfl, bl⟩
    replace N := Lib.hid (N.out.1.bl_ N.out.2 bl); clear bl
    go_wp2
    go_ret
    exact ⟨rfl, N.out.bl⟩
  have g1' : ¬ (20 : Int) < (l.length : Int) := by omega
  go_enter Try.func5, Try.ntmps5
  go_wp2_with fail
  refine (dNew_to (fun _ => True) _).mono ?_
  rintro e w1 ⟨rfl, dd, nw⟩
  have D := Lib.hid dd; have N := Lib.hid nw; clear dd nw
  go_wp2
  go_loopw [4, 5, 6] (fun v s i wr => ∃ (k n : Nat) (L : Option Addr) (cl : Nat) (last : List UInt8) (sm : Bool), k ≤ l.length ∧ n ≤ k ∧ i = .int .i64 k ∧ v = .slice L last.length cl ∧ s = .bool sm ∧ Hid (∃ D' a, IsDisk w.heap.size (fun _ => True) wr D' ∧ Good D' n a last) ∧ Hid (SL w L cl last) ∧ Hid (last.length ≤ 1984) ∧ Hid (sm = true ↔ n ≠ 0) ∧ Hid (New w wr)) (fun _ _ i _ => l.length - (intOf i).toNat)
  case atStart => exact ⟨0, 0, none, 0, [], false, Nat.zero_le _, Nat.le_refl _, rfl, rfl, rfl, ⟨_, _, D.out, good_fresh⟩, SL.nil_ _, Nat.zero_le _, ⟨fun h => (by cases h), fun h => absurd rfl h⟩, N⟩
  case round =>
    clear D N
    obtain ⟨k, n, L, cl, last, sm, hkl, hnk, rfl, rfl, rfl, HD, HL, HLL, HSM, N⟩ := hrel
    by_cases hlt : k < l.length
    · obtain ⟨g, o, B, bd, K, kd, rfl, hc1, hc2, hc3, hsb, hkk, hbm'⟩ := HR.out.at_ hlt
      obtain ⟨t, hx⟩ : ∃ t, t = l[k] := ⟨_, rfl⟩
      rw [← hx] at hc1 hc2 hc3 hsb hkk hbm'
      obtain ⟨x, st, ks⟩ := t
      simp only at hc1 hc2 hc3 hsb hkk hbm'
      have e1 := Bl.some' N.out.bl hc1; have e2 := Bl.some' N.out.bl hc2; have e3 := Bl.some' N.out.bl hc3
      have HX := Lib.hid hsb; have HK := Lib.hid hkk
      have HC1 := Lib.hid hc1; have HC2 := Lib.hid hc2; have HC3 := Lib.hid hc3
      have hk0 : (0 : Int) ≤ (k : Int) := by omega
      have hk1 : (k : Int) < (l.length : Int) := by omega
      clear hc1 hc2 hc3 hx hsb hkk
      obtain ⟨D', a, dd, gg⟩ := HD.out
      have D := Lib.hid dd; have G := Lib.hid gg
      clear dd gg HD
      by_cases h1 : 1984 < x.length
      · have h1' : (1984 : Int) < (x.length : Int) := by omega
        go_wp2_with fail
        refine (alive25 _).mono ?_
        rintro e w4 ⟨rfl, b4⟩
        replace N := Lib.hid (N.out.bl_ D.out.plt b4); clear b4 D G
        go_wp2
        go_ret
        exact ⟨rfl, N.out.bl⟩
      have h1' : ¬ (1984 : Int) < (x.length : Int) := by omega
      by_cases h2 : 100 < ks.length
      · have h2' : (100 : Int) < (ks.length : Int) := by omega
        go_wp2_with fail
        refine (alive25 _).mono ?_
        rintro e w4 ⟨rfl, b4⟩
        replace N := Lib.hid (N.out.bl_ D.out.plt b4); clear b4 D G
        go_wp2
        go_ret
        exact ⟨rfl, N.out.bl⟩
      have h2' : ¬ (100 : Int) < (ks.length : Int) := by omega
      go_wp2_with fail
      refine (acts_any B bd x.length (by omega) _).mono ?_
      rintro e w4 ⟨rfl, rfl⟩
      obtain ⟨q, hq⟩ : ∃ q : Int, (((x.length + 63) / 64 + 3 : Nat) : Int) = q := ⟨_, rfl⟩
      have hq2 : ((many x + 3 : Nat) : Int) = q := hq
      rw [hq]
      have hq0 : -9223372036854775808 ≤ q - 1 ∧ q - 1 ≤ 9223372036854775807 := by omega
      have hq3 : 3 ≤ q := by omega
      have HQ2 := Lib.hid hq2; have HWQ := Lib.hid (And.intro (IntWalk.wrap64_in _ hq0) (IntWalk.i64_in _ hq0))
      have HXL : Hid (x.length ≤ 1984) := by show x.length ≤ 1984; omega
      clear hq hq2 hq0
      by_cases hs0 : st < 0
      · skip
        as_aux_lemma =>
          have HSV := Lib.hid (sv_run (D.out.bl (Bl.drew wr)) (fun _ _ => trivial) G.out (by omega) B bd _ x rfl ((N.out.bl_ D.out.plt (Bl.drew wr)).sls HX.out) (by omega) st (many x + 3) q 0 (.inl ⟨rfl, HQ2.out, rfl, by have := HQ2.out; omega⟩))
          have HRW := Lib.hid (run_waits (b' := x) G.out (by omega) (by omega) (Nat.le_refl (many x + 3)))
          obtain ⟨a', ga'⟩ := back_yes G.out (by omega) (b' := x) (by omega) ks (j := many x + 3) (.inl rfl)
          have HG := Lib.hid ga'
          have HLE := Lib.hid (back_le ga')
          clear ga'
          go_wp2
          refine wp_region_noPanic ?_
          refine wp_region_held_drew (S := (fun w' : World => w'.cell? ⟨g, o + k * 3, none⟩ = some (.slice B x.length bd) ∧ w'.cell? ⟨g, o + k * 3 + 1, none⟩ = some (.int .i64 st))) (by kernel_rfl) ⟨e1, e2⟩ (fun hHeld => ?_)
          refine wpAnyH_take (i := 0) (oi := { dst := some 58, op := Op.move (Operand.tmp 3), type := 24, pos := "law.go:94", after := #[], guard := none }) (v := ?_) rfl (by kernel_rfl) (by kernel_rfl) (by kernel_rfl) (fun _ _ _ h => h) (Or.inl ⟨by rfl, ?_⟩) hHeld ?_
          rotate_left
          · intro w' hSw
            obtain ⟨s1, s2⟩ := hSw
            go_simp
            with_reducible rfl
          try simp only [Act.put, List.setIfInBounds_toArray, List.set_cons_zero, List.set_cons_succ]
          refine wpAnyH_take (i := 1) (oi := { dst := some 59, op := Op.move (Operand.tmp 0), type := 37, pos := "law.go:94", after := #[], guard := none }) (v := ?_) rfl (by kernel_rfl) (by kernel_rfl) (by kernel_rfl) (fun _ _ _ h => h) (Or.inl ⟨by rfl, ?_⟩) hHeld ?_
          rotate_left
          · intro w' hSw
            obtain ⟨s1, s2⟩ := hSw
            go_simp
            with_reducible rfl
          try simp only [Act.put, List.setIfInBounds_toArray, List.set_cons_zero, List.set_cons_succ]
          refine wpAnyH_take (i := 2) (oi := { dst := some 60, op := Op.move (Operand.tmp 6), type := 3, pos := "law.go:94", after := #[], guard := none }) (v := ?_) rfl (by kernel_rfl) (by kernel_rfl) (by kernel_rfl) (fun _ _ _ h => h) (Or.inl ⟨by rfl, ?_⟩) hHeld ?_
          rotate_left
          · intro w' hSw
            obtain ⟨s1, s2⟩ := hSw
            go_simp
            with_reducible rfl
          try simp only [Act.put, List.setIfInBounds_toArray, List.set_cons_zero, List.set_cons_succ]
          refine wpAnyH_take (i := 3) (oi := { dst := some 61, op := Op.indexAddr 37 (Operand.tmp 59) (Operand.tmp 60), type := 0, pos := "law.go:94", after := #[{ on := 1, ground := Ground.data }, { on := 2, ground := Ground.data }], guard := none }) (v := ?_) rfl (by kernel_rfl) (by kernel_rfl) (by kernel_rfl) (fun _ _ _ h => h) (Or.inl ⟨by rfl, ?_⟩) hHeld ?_
          rotate_left
          · intro w' hSw
            obtain ⟨s1, s2⟩ := hSw
            go_simp
            with_reducible rfl
          try simp only [Act.put, List.setIfInBounds_toArray, List.set_cons_zero, List.set_cons_succ]
          refine wpAnyH_take (i := 4) (oi := { dst := some 62, op := Op.fieldAddr 40 (Operand.tmp 61) 0, type := 0, pos := "law.go:94", after := #[{ on := 3, ground := Ground.data }], guard := none }) (v := ?_) rfl (by kernel_rfl) (by kernel_rfl) (by kernel_rfl) (fun _ _ _ h => h) (Or.inl ⟨by rfl, ?_⟩) hHeld ?_
          rotate_left
          · intro w' hSw
            obtain ⟨s1, s2⟩ := hSw
            go_simp
            with_reducible rfl
          try simp only [Act.put, List.setIfInBounds_toArray, List.set_cons_zero, List.set_cons_succ]
          refine wpAnyH_take (i := 5) (oi := { dst := some 63, op := Op.load 22 (Operand.tmp 62), type := 22, pos := "law.go:94", after := #[{ on := 4, ground := Ground.data }], guard := none }) (v := ?_) rfl (by kernel_rfl) (by kernel_rfl) (by kernel_rfl) (fun _ _ _ h => h) (Or.inl ⟨by rfl, ?_⟩) hHeld ?_
          rotate_left
          · intro w' hSw
            obtain ⟨s1, s2⟩ := hSw
            go_simp
            with_reducible rfl
          try simp only [Act.put, List.setIfInBounds_toArray, List.set_cons_zero, List.set_cons_succ]
          refine wpAnyH_take (i := 6) (oi := { dst := some 64, op := Op.move (Operand.tmp 0), type := 37, pos := "law.go:94", after := #[], guard := none }) (v := ?_) rfl (by kernel_rfl) (by kernel_rfl) (by kernel_rfl) (fun _ _ _ h => h) (Or.inl ⟨by rfl, ?_⟩) hHeld ?_
          rotate_left
          · intro w' hSw
            obtain ⟨s1, s2⟩ := hSw
            go_simp
            with_reducible rfl
          try simp only [Act.put, List.setIfInBounds_toArray, List.set_cons_zero, List.set_cons_succ]
          refine wpAnyH_take (i := 7) (oi := { dst := some 65, op := Op.move (Operand.tmp 6), type := 3, pos := "law.go:94", after := #[], guard := none }) (v := ?_) rfl (by kernel_rfl) (by kernel_rfl) (by kernel_rfl) (fun _ _ _ h => h) (Or.inl ⟨by rfl, ?_⟩) hHeld ?_
          rotate_left
          · intro w' hSw
            obtain ⟨s1, s2⟩ := hSw
            go_simp
            with_reducible rfl
          try simp only [Act.put, List.setIfInBounds_toArray, List.set_cons_zero, List.set_cons_succ]
          refine wpAnyH_take (i := 8) (oi := { dst := some 66, op := Op.indexAddr 37 (Operand.tmp 64) (Operand.tmp 65), type := 0, pos := "law.go:94", after := #[{ on := 6, ground := Ground.data }, { on := 7, ground := Ground.data }], guard := none }) (v := ?_) rfl (by kernel_rfl) (by kernel_rfl) (by kernel_rfl) (fun _ _ _ h => h) (Or.inl ⟨by rfl, ?_⟩) hHeld ?_
          rotate_left
          · intro w' hSw
            obtain ⟨s1, s2⟩ := hSw
            go_simp
            with_reducible rfl
          try simp only [Act.put, List.setIfInBounds_toArray, List.set_cons_zero, List.set_cons_succ]
          refine wpAnyH_take (i := 9) (oi := { dst := some 67, op := Op.fieldAddr 40 (Operand.tmp 66) 1, type := 0, pos := "law.go:94", after := #[{ on := 8, ground := Ground.data }], guard := none }) (v := ?_) rfl (by kernel_rfl) (by kernel_rfl) (by kernel_rfl) (fun _ _ _ h => h) (Or.inl ⟨by rfl, ?_⟩) hHeld ?_
          rotate_left
          · intro w' hSw
            obtain ⟨s1, s2⟩ := hSw
            go_simp
            with_reducible rfl
          try simp only [Act.put, List.setIfInBounds_toArray, List.set_cons_zero, List.set_cons_succ]
          refine wpAnyH_take (i := 10) (oi := { dst := some 68, op := Op.load 3 (Operand.tmp 67), type := 3, pos := "law.go:94", after := #[{ on := 9, ground := Ground.data }], guard := none }) (v := ?_) rfl (by kernel_rfl) (by kernel_rfl) (by kernel_rfl) (fun _ _ _ h => h) (Or.inl ⟨by rfl, ?_⟩) hHeld ?_
          rotate_left
          · intro w' hSw
            obtain ⟨s1, s2⟩ := hSw
            go_simp
            with_reducible rfl
          try simp only [Act.put, List.setIfInBounds_toArray, List.set_cons_zero, List.set_cons_succ]
          refine wpAnyH_ready (rs := [11]) (by kernel_rfl) (by simp) ?_
          refine AllReadyH.cons (o := { dst := some 69, op := Op.call { callee := Callee.value (Operand.func 9), args := #[Operand.tmp 58, Operand.tmp 63, Operand.tmp 68], argTypes := #[24, 22, 3] }, type := 27, pos := "law.go:94", after := #[{ on := 0, ground := Ground.data }, { on := 5, ground := Ground.data }, { on := 10, ground := Ground.data }], guard := none }) rfl (fun K hK => ?_) AllReadyH.nil
          go_simp
          refine HSV.out.mono ?_
          rintro e w6 ⟨rfl, d6, f⟩
          replace N := Lib.hid ((N.out.bl_ D.out.plt (Bl.drew wr)).fr f); replace D := Lib.hid d6; clear d6 f HSV e1 e2 e3
          have e1 := Bl.some' N.out.bl HC1.out; have e2 := Bl.some' N.out.bl HC2.out; have e3 := Bl.some' N.out.bl HC3.out
          try go_wp2_with fail
          refine hK.out _ _ ⟨e1, e2⟩ (fun hHeld => ?_)
          clear hK K
          try simp only [Act.put, List.setIfInBounds_toArray, List.set_cons_zero, List.set_cons_succ]
          refine wpAnyH_take (i := 12) (oi := { dst := some 57, op := Op.move (Operand.tmp 69), type := 27, pos := "law.go:94", after := #[{ on := 11, ground := Ground.data }], guard := none }) (v := ?_) rfl (by kernel_rfl) (by kernel_rfl) (by kernel_rfl) (fun _ _ _ h => h) (Or.inl ⟨by rfl, ?_⟩) hHeld ?_
          rotate_left
          · intro w' hSw
            skip
            go_simp
            with_reducible rfl
          try simp only [Act.put, List.setIfInBounds_toArray, List.set_cons_zero, List.set_cons_succ]
          refine wpAnyH_take (i := 13) (oi := { dst := some 70, op := Op.extract (Operand.tmp 57) 0, type := 3, pos := "law.go:94", after := #[{ on := 12, ground := Ground.data }], guard := none }) (v := ?_) rfl (by kernel_rfl) (by kernel_rfl) (by kernel_rfl) (fun _ _ _ h => h) (Or.inl ⟨by rfl, ?_⟩) hHeld ?_
          rotate_left
          · intro w' hSw
            skip
            go_simp
            with_reducible rfl
          try simp only [Act.put, List.setIfInBounds_toArray, List.set_cons_zero, List.set_cons_succ]
          refine wpAnyH_take (i := 14) (oi := { dst := some 71, op := Op.extract (Operand.tmp 57) 1, type := 26, pos := "law.go:94", after := #[{ on := 12, ground := Ground.data }, { on := 15, ground := Ground.gcOnly Departure.lateStores }], guard := none }) (v := ?_) rfl (by kernel_rfl) (by kernel_rfl) (by kernel_rfl) (fun _ _ _ h => h) (Or.inl ⟨by rfl, ?_⟩) hHeld ?_
          rotate_left
          · intro w' hSw
            skip
            go_simp
            with_reducible rfl
          try simp only [Act.put, List.setIfInBounds_toArray, List.set_cons_zero, List.set_cons_succ]
          refine wpAnyH_take (i := 15) (oi := { dst := some 8, op := Op.assign (Operand.tmp 70), type := 3, pos := "law.go:94", after := #[{ on := 13, ground := Ground.data }, { on := 11, ground := Ground.chain }, { on := 0, ground := Ground.phase }, { on := 1, ground := Ground.phase }, { on := 2, ground := Ground.phase }, { on := 3, ground := Ground.phase }, { on := 4, ground := Ground.phase }, { on := 5, ground := Ground.phase }, { on := 6, ground := Ground.phase }, { on := 7, ground := Ground.phase }, { on := 8, ground := Ground.phase }, { on := 9, ground := Ground.phase }, { on := 10, ground := Ground.phase }, { on := 11, ground := Ground.phase }, { on := 12, ground := Ground.phase }, { on := 13, ground := Ground.phase }, { on := 14, ground := Ground.textOnly Departure.lateStores }], guard := none }) (v := ?_) rfl (by kernel_rfl) (by kernel_rfl) (by kernel_rfl) (fun _ _ _ h => h) (Or.inl ⟨by rfl, ?_⟩) hHeld ?_
          rotate_left
          · intro w' hSw
            skip
            go_simp
            with_reducible rfl
          try simp only [Act.put, List.setIfInBounds_toArray, List.set_cons_zero, List.set_cons_succ]
          refine wpAnyH_take (i := 16) (oi := { dst := some 9, op := Op.assign (Operand.tmp 71), type := 26, pos := "law.go:94", after := #[{ on := 14, ground := Ground.data }, { on := 15, ground := Ground.chain }, { on := 0, ground := Ground.phase }, { on := 1, ground := Ground.phase }, { on := 2, ground := Ground.phase }, { on := 3, ground := Ground.phase }, { on := 4, ground := Ground.phase }, { on := 5, ground := Ground.phase }, { on := 6, ground := Ground.phase }, { on := 7, ground := Ground.phase }, { on := 8, ground := Ground.phase }, { on := 9, ground := Ground.phase }, { on := 10, ground := Ground.phase }, { on := 11, ground := Ground.phase }, { on := 12, ground := Ground.phase }, { on := 13, ground := Ground.phase }, { on := 14, ground := Ground.phase }, { on := 15, ground := Ground.phase }], guard := none }) (v := ?_) rfl (by kernel_rfl) (by kernel_rfl) (by kernel_rfl) (fun _ _ _ h => h) (Or.inl ⟨by rfl, ?_⟩) hHeld ?_
          rotate_left
          · intro w' hSw
            skip
            go_simp
            with_reducible rfl
          try simp only [Act.put, List.setIfInBounds_toArray, List.set_cons_zero, List.set_cons_succ]
          refine wpAnyH_done (by kernel_rfl) ?_ _
          refine NoPanic.normal ?_
          try simp only [Act.put, List.setIfInBounds_toArray, List.set_cons_zero, List.set_cons_succ]
          go_wp2_with fail
          refine (cr_to D.out HRW.out.1 K kd _ ks rfl (HK.out.news N.out) HK.out.max).mono ?_
          rintro e w7 ⟨rfl, d7, f⟩
          replace N := Lib.hid (N.out.fr f); replace D := Lib.hid d7; clear d7 f e1 e2 e3
          go_wp2_with fail
          refine (ld_down D.out (crash_down ks) HLE.out).mono ?_
          rintro e w8 ⟨A8, c8, rfl, _, b8, _⟩
          replace N := Lib.hid (N.out.bl_ D.out.plt b8); replace D := Lib.hid (D.out.bl b8); clear b8
          go_wp2_with fail
          refine (up_to ks D.out).mono ?_
          rintro e w9 ⟨rfl, d9, f⟩
          replace N := Lib.hid (N.out.fr f); replace D := Lib.hid d9; clear d9 f
          have e1 := Bl.some' N.out.bl HC1.out; have e2 := Bl.some' N.out.bl HC2.out; have e3 := Bl.some' N.out.bl HC3.out
          go_wp2_with fail
          refine (ld_good D.out HG.out (by omega)).mono ?_
          rintro e w10 ⟨A10, c10, rfl, s10, b10, _⟩
          replace N := Lib.hid (N.out.bl_ D.out.plt b10); replace D := Lib.hid (D.out.bl b10); clear b10 e1 e2 e3
          try clear e4 e5
          go_wp2_with fail
          refine (same_sl s10 (HX.out.step N.out.bl) (by omega)).mono ?_
          rintro e w11 ⟨rfl, b11⟩
          have N6 := Lib.hid (N.out.bl_ D.out.plt b11); have D6 := Lib.hid (D.out.bl b11); clear b11 s10 N D
          go_wp2
          go_roundw
          case rel => exact ⟨k + 1, n + 1, B, bd, x, true, by omega, by omega, by go_num, rfl, rfl, ⟨_, _, D6.out, HG.out⟩, HX, HXL, ⟨fun _ => Nat.succ_ne_zero _, fun _ => rfl⟩, N6⟩
          case measure => simp [intOf]; omega
      by_cases hs1 : q ≤ st
      · have hs1' : 0 ≤ st := by omega
        as_aux_lemma =>
          have HSV := Lib.hid (sv_run (D.out.bl (Bl.drew wr)) (fun _ _ => trivial) G.out (by omega) B bd _ x rfl ((N.out.bl_ D.out.plt (Bl.drew wr)).sls HX.out) (by omega) st (many x + 3) q 0 (.inl ⟨rfl, HQ2.out, rfl, by have := HQ2.out; omega⟩))
          have HRW := Lib.hid (run_waits (b' := x) G.out (by omega) (by omega) (Nat.le_refl (many x + 3)))
          obtain ⟨a', ga'⟩ := back_yes G.out (by omega) (b' := x) (by omega) ks (j := many x + 3) (.inl rfl)
          have HG := Lib.hid ga'
          have HLE := Lib.hid (back_le ga')
          clear ga'
          go_wp2
          refine wp_region_noPanic ?_
          refine wp_region_held_drew (S := (fun w' : World => w'.cell? ⟨g, o + k * 3, none⟩ = some (.slice B x.length bd) ∧ w'.cell? ⟨g, o + k * 3 + 1, none⟩ = some (.int .i64 st))) (by kernel_rfl) ⟨e1, e2⟩ (fun hHeld => ?_)
          refine wpAnyH_take (i := 0) (oi := { dst := some 58, op := Op.move (Operand.tmp 3), type := 24, pos := "law.go:94", after := #[], guard := none }) (v := ?_) rfl (by kernel_rfl) (by kernel_rfl) (by kernel_rfl) (fun _ _ _ h => h) (Or.inl ⟨by rfl, ?_⟩) hHeld ?_
          rotate_left
          · intro w' hSw
            obtain ⟨s1, s2⟩ := hSw
            go_simp
            with_reducible rfl
          try simp only [Act.put, List.setIfInBounds_toArray, List.set_cons_zero, List.set_cons_succ]
          refine wpAnyH_take (i := 1) (oi := { dst := some 59, op := Op.move (Operand.tmp 0), type := 37, pos := "law.go:94", after := #[], guard := none }) (v := ?_) rfl (by kernel_rfl) (by kernel_rfl) (by kernel_rfl) (fun _ _ _ h => h) (Or.inl ⟨by rfl, ?_⟩) hHeld ?_
          rotate_left
          · intro w' hSw
            obtain ⟨s1, s2⟩ := hSw
            go_simp
            with_reducible rfl
          try simp only [Act.put, List.setIfInBounds_toArray, List.set_cons_zero, List.set_cons_succ]
          refine wpAnyH_take (i := 2) (oi := { dst := some 60, op := Op.move (Operand.tmp 6), type := 3, pos := "law.go:94", after := #[], guard := none }) (v := ?_) rfl (by kernel_rfl) (by kernel_rfl) (by kernel_rfl) (fun _ _ _ h => h) (Or.inl ⟨by rfl, ?_⟩) hHeld ?_
          rotate_left
          · intro w' hSw
            obtain ⟨s1, s2⟩ := hSw
            go_simp
            with_reducible rfl
          try simp only [Act.put, List.setIfInBounds_toArray, List.set_cons_zero, List.set_cons_succ]
          refine wpAnyH_take (i := 3) (oi := { dst := some 61, op := Op.indexAddr 37 (Operand.tmp 59) (Operand.tmp 60), type := 0, pos := "law.go:94", after := #[{ on := 1, ground := Ground.data }, { on := 2, ground := Ground.data }], guard := none }) (v := ?_) rfl (by kernel_rfl) (by kernel_rfl) (by kernel_rfl) (fun _ _ _ h => h) (Or.inl ⟨by rfl, ?_⟩) hHeld ?_
          rotate_left
          · intro w' hSw
            obtain ⟨s1, s2⟩ := hSw
            go_simp
            with_reducible rfl
          try simp only [Act.put, List.setIfInBounds_toArray, List.set_cons_zero, List.set_cons_succ]
          refine wpAnyH_take (i := 4) (oi := { dst := some 62, op := Op.fieldAddr 40 (Operand.tmp 61) 0, type := 0, pos := "law.go:94", after := #[{ on := 3, ground := Ground.data }], guard := none }) (v := ?_) rfl (by kernel_rfl) (by kernel_rfl) (by kernel_rfl) (fun _ _ _ h => h) (Or.inl ⟨by rfl, ?_⟩) hHeld ?_
          rotate_left
          · intro w' hSw
            obtain ⟨s1, s2⟩ := hSw
            go_simp
            with_reducible rfl
          try simp only [Act.put, List.setIfInBounds_toArray, List.set_cons_zero, List.set_cons_succ]
          refine wpAnyH_take (i := 5) (oi := { dst := some 63, op := Op.load 22 (Operand.tmp 62), type := 22, pos := "law.go:94", after := #[{ on := 4, ground := Ground.data }], guard := none }) (v := ?_) rfl (by kernel_rfl) (by kernel_rfl) (by kernel_rfl) (fun _ _ _ h => h) (Or.inl ⟨by rfl, ?_⟩) hHeld ?_
          rotate_left
          · intro w' hSw
            obtain ⟨s1, s2⟩ := hSw
            go_simp
            with_reducible rfl
          try simp only [Act.put, List.setIfInBounds_toArray, List.set_cons_zero, List.set_cons_succ]
          refine wpAnyH_take (i := 6) (oi := { dst := some 64, op := Op.move (Operand.tmp 0), type := 37, pos := "law.go:94", after := #[], guard := none }) (v := ?_) rfl (by kernel_rfl) (by kernel_rfl) (by kernel_rfl) (fun _ _ _ h => h) (Or.inl ⟨by rfl, ?_⟩) hHeld ?_
          rotate_left
          · intro w' hSw
            obtain ⟨s1, s2⟩ := hSw
            go_simp
            with_reducible rfl
          try simp only [Act.put, List.setIfInBounds_toArray, List.set_cons_zero, List.set_cons_succ]
          refine wpAnyH_take (i := 7) (oi := { dst := some 65, op := Op.move (Operand.tmp 6), type := 3, pos := "law.go:94", after := #[], guard := none }) (v := ?_) rfl (by kernel_rfl) (by kernel_rfl) (by kernel_rfl) (fun _ _ _ h => h) (Or.inl ⟨by rfl, ?_⟩) hHeld ?_
          rotate_left
          · intro w' hSw
            obtain ⟨s1, s2⟩ := hSw
            go_simp
            with_reducible rfl
          try simp only [Act.put, List.setIfInBounds_toArray, List.set_cons_zero, List.set_cons_succ]
          refine wpAnyH_take (i := 8) (oi := { dst := some 66, op := Op.indexAddr 37 (Operand.tmp 64) (Operand.tmp 65), type := 0, pos := "law.go:94", after := #[{ on := 6, ground := Ground.data }, { on := 7, ground := Ground.data }], guard := none }) (v := ?_) rfl (by kernel_rfl) (by kernel_rfl) (by kernel_rfl) (fun _ _ _ h => h) (Or.inl ⟨by rfl, ?_⟩) hHeld ?_
          rotate_left
          · intro w' hSw
            obtain ⟨s1, s2⟩ := hSw
            go_simp
            with_reducible rfl
          try simp only [Act.put, List.setIfInBounds_toArray, List.set_cons_zero, List.set_cons_succ]
          refine wpAnyH_take (i := 9) (oi := { dst := some 67, op := Op.fieldAddr 40 (Operand.tmp 66) 1, type := 0, pos := "law.go:94", after := #[{ on := 8, ground := Ground.data }], guard := none }) (v := ?_) rfl (by kernel_rfl) (by kernel_rfl) (by kernel_rfl) (fun _ _ _ h => h) (Or.inl ⟨by rfl, ?_⟩) hHeld ?_
          rotate_left
          · intro w' hSw
            obtain ⟨s1, s2⟩ := hSw
            go_simp
            with_reducible rfl
          try simp only [Act.put, List.setIfInBounds_toArray, List.set_cons_zero, List.set_cons_succ]
          refine wpAnyH_take (i := 10) (oi := { dst := some 68, op := Op.load 3 (Operand.tmp 67), type := 3, pos := "law.go:94", after := #[{ on := 9, ground := Ground.data }], guard := none }) (v := ?_) rfl (by kernel_rfl) (by kernel_rfl) (by kernel_rfl) (fun _ _ _ h => h) (Or.inl ⟨by rfl, ?_⟩) hHeld ?_
          rotate_left
          · intro w' hSw
            obtain ⟨s1, s2⟩ := hSw
            go_simp
            with_reducible rfl
          try simp only [Act.put, List.setIfInBounds_toArray, List.set_cons_zero, List.set_cons_succ]
          refine wpAnyH_ready (rs := [11]) (by kernel_rfl) (by simp) ?_
          refine AllReadyH.cons (o := { dst := some 69, op := Op.call { callee := Callee.value (Operand.func 9), args := #[Operand.tmp 58, Operand.tmp 63, Operand.tmp 68], argTypes := #[24, 22, 3] }, type := 27, pos := "law.go:94", after := #[{ on := 0, ground := Ground.data }, { on := 5, ground := Ground.data }, { on := 10, ground := Ground.data }], guard := none }) rfl (fun K hK => ?_) AllReadyH.nil
          go_simp
          refine HSV.out.mono ?_
          rintro e w6 ⟨rfl, d6, f⟩
          replace N := Lib.hid ((N.out.bl_ D.out.plt (Bl.drew wr)).fr f); replace D := Lib.hid d6; clear d6 f HSV e1 e2 e3
          have e1 := Bl.some' N.out.bl HC1.out; have e2 := Bl.some' N.out.bl HC2.out; have e3 := Bl.some' N.out.bl HC3.out
          try go_wp2_with fail
          refine hK.out _ _ ⟨e1, e2⟩ (fun hHeld => ?_)
          clear hK K
          try simp only [Act.put, List.setIfInBounds_toArray, List.set_cons_zero, List.set_cons_succ]
          refine wpAnyH_take (i := 12) (oi := { dst := some 57, op := Op.move (Operand.tmp 69), type := 27, pos := "law.go:94", after := #[{ on := 11, ground := Ground.data }], guard := none }) (v := ?_) rfl (by kernel_rfl) (by kernel_rfl) (by kernel_rfl) (fun _ _ _ h => h) (Or.inl ⟨by rfl, ?_⟩) hHeld ?_
          rotate_left
          · intro w' hSw
            skip
            go_simp
            with_reducible rfl
          try simp only [Act.put, List.setIfInBounds_toArray, List.set_cons_zero, List.set_cons_succ]
          refine wpAnyH_take (i := 13) (oi := { dst := some 70, op := Op.extract (Operand.tmp 57) 0, type := 3, pos := "law.go:94", after := #[{ on := 12, ground := Ground.data }], guard := none }) (v := ?_) rfl (by kernel_rfl) (by kernel_rfl) (by kernel_rfl) (fun _ _ _ h => h) (Or.inl ⟨by rfl, ?_⟩) hHeld ?_
          rotate_left
          · intro w' hSw
            skip
            go_simp
            with_reducible rfl
          try simp only [Act.put, List.setIfInBounds_toArray, List.set_cons_zero, List.set_cons_succ]
          refine wpAnyH_take (i := 14) (oi := { dst := some 71, op := Op.extract (Operand.tmp 57) 1, type := 26, pos := "law.go:94", after := #[{ on := 12, ground := Ground.data }, { on := 15, ground := Ground.gcOnly Departure.lateStores }], guard := none }) (v := ?_) rfl (by kernel_rfl) (by kernel_rfl) (by kernel_rfl) (fun _ _ _ h => h) (Or.inl ⟨by rfl, ?_⟩) hHeld ?_
          rotate_left
          · intro w' hSw
            skip
            go_simp
            with_reducible rfl
          try simp only [Act.put, List.setIfInBounds_toArray, List.set_cons_zero, List.set_cons_succ]
          refine wpAnyH_take (i := 15) (oi := { dst := some 8, op := Op.assign (Operand.tmp 70), type := 3, pos := "law.go:94", after := #[{ on := 13, ground := Ground.data }, { on := 11, ground := Ground.chain }, { on := 0, ground := Ground.phase }, { on := 1, ground := Ground.phase }, { on := 2, ground := Ground.phase }, { on := 3, ground := Ground.phase }, { on := 4, ground := Ground.phase }, { on := 5, ground := Ground.phase }, { on := 6, ground := Ground.phase }, { on := 7, ground := Ground.phase }, { on := 8, ground := Ground.phase }, { on := 9, ground := Ground.phase }, { on := 10, ground := Ground.phase }, { on := 11, ground := Ground.phase }, { on := 12, ground := Ground.phase }, { on := 13, ground := Ground.phase }, { on := 14, ground := Ground.textOnly Departure.lateStores }], guard := none }) (v := ?_) rfl (by kernel_rfl) (by kernel_rfl) (by kernel_rfl) (fun _ _ _ h => h) (Or.inl ⟨by rfl, ?_⟩) hHeld ?_
          rotate_left
          · intro w' hSw
            skip
            go_simp
            with_reducible rfl
          try simp only [Act.put, List.setIfInBounds_toArray, List.set_cons_zero, List.set_cons_succ]
          refine wpAnyH_take (i := 16) (oi := { dst := some 9, op := Op.assign (Operand.tmp 71), type := 26, pos := "law.go:94", after := #[{ on := 14, ground := Ground.data }, { on := 15, ground := Ground.chain }, { on := 0, ground := Ground.phase }, { on := 1, ground := Ground.phase }, { on := 2, ground := Ground.phase }, { on := 3, ground := Ground.phase }, { on := 4, ground := Ground.phase }, { on := 5, ground := Ground.phase }, { on := 6, ground := Ground.phase }, { on := 7, ground := Ground.phase }, { on := 8, ground := Ground.phase }, { on := 9, ground := Ground.phase }, { on := 10, ground := Ground.phase }, { on := 11, ground := Ground.phase }, { on := 12, ground := Ground.phase }, { on := 13, ground := Ground.phase }, { on := 14, ground := Ground.phase }, { on := 15, ground := Ground.phase }], guard := none }) (v := ?_) rfl (by kernel_rfl) (by kernel_rfl) (by kernel_rfl) (fun _ _ _ h => h) (Or.inl ⟨by rfl, ?_⟩) hHeld ?_
          rotate_left
          · intro w' hSw
            skip
            go_simp
            with_reducible rfl
          try simp only [Act.put, List.setIfInBounds_toArray, List.set_cons_zero, List.set_cons_succ]
          refine wpAnyH_done (by kernel_rfl) ?_ _
          refine NoPanic.normal ?_
          try simp only [Act.put, List.setIfInBounds_toArray, List.set_cons_zero, List.set_cons_succ]
          go_wp2_with fail
          refine (cr_to D.out HRW.out.1 K kd _ ks rfl (HK.out.news N.out) HK.out.max).mono ?_
          rintro e w7 ⟨rfl, d7, f⟩
          replace N := Lib.hid (N.out.fr f); replace D := Lib.hid d7; clear d7 f e1 e2 e3
          go_wp2_with fail
          refine (ld_down D.out (crash_down ks) HLE.out).mono ?_
          rintro e w8 ⟨A8, c8, rfl, _, b8, _⟩
          replace N := Lib.hid (N.out.bl_ D.out.plt b8); replace D := Lib.hid (D.out.bl b8); clear b8
          go_wp2_with fail
          refine (up_to ks D.out).mono ?_
          rintro e w9 ⟨rfl, d9, f⟩
          replace N := Lib.hid (N.out.fr f); replace D := Lib.hid d9; clear d9 f
          have e1 := Bl.some' N.out.bl HC1.out; have e2 := Bl.some' N.out.bl HC2.out; have e3 := Bl.some' N.out.bl HC3.out
          go_wp2_with fail
          refine (ld_good D.out HG.out (by omega)).mono ?_
          rintro e w10 ⟨A10, c10, rfl, s10, b10, _⟩
          replace N := Lib.hid (N.out.bl_ D.out.plt b10); replace D := Lib.hid (D.out.bl b10); clear b10 e1 e2 e3
          try clear e4 e5
          go_wp2_with fail
          refine (same_sl s10 (HX.out.step N.out.bl) (by omega)).mono ?_
          rintro e w11 ⟨rfl, b11⟩
          have N6 := Lib.hid (N.out.bl_ D.out.plt b11); have D6 := Lib.hid (D.out.bl b11); clear b11 s10 N D
          go_wp2
          go_roundw
          case rel => exact ⟨k + 1, n + 1, B, bd, x, true, by omega, by omega, by go_num, rfl, rfl, ⟨_, _, D6.out, HG.out⟩, HX, HXL, ⟨fun _ => Nat.succ_ne_zero _, fun _ => rfl⟩, N6⟩
          case measure => simp [intOf]; omega
      by_cases hs2 : st = q - 1
      · subst hs2
        have hne : ¬ q - 1 = q := by omega
        obtain ⟨hw1, hw2⟩ := HWQ.out
        have hs3 : q - 1 < q := by omega
        have hs4 : 0 ≤ q - 1 := by omega
        rcases ks with _ | ⟨kb, ks'⟩
        · skip
          as_aux_lemma =>
            have h0 : ¬ (0 : Int) < 0 := by omega
            have HSV := Lib.hid (sv_run (D.out.bl (Bl.drew wr)) (fun _ _ => trivial) G.out (by omega) B bd _ x rfl ((N.out.bl_ D.out.plt (Bl.drew wr)).sls HX.out) (by omega) (q - 1) (many x + 2) (q - 1) 9 (.inr ⟨by have := HQ2.out; omega, by have := HQ2.out; omega, rfl, rfl⟩))
            have HRW := Lib.hid (run_waits (b' := x) G.out (by omega) (by omega) (j := (many x + 2)) (by have := HQ2.out; omega))
            have ga' := back_no G.out (by omega) (b' := x) (by omega) ([] : List Bool) (j := (many x + 2)) (.inl ⟨rfl, rfl⟩)
            have HG := Lib.hid ga'
            have HLE := Lib.hid (back_le ga')
            clear ga'
            go_wp2
            refine wp_region_noPanic ?_
            refine wp_region_held_drew (S := (fun w' : World => w'.cell? ⟨g, o + k * 3, none⟩ = some (.slice B x.length bd) ∧ w'.cell? ⟨g, o + k * 3 + 1, none⟩ = some (.int .i64 (q - 1)))) (by kernel_rfl) ⟨e1, e2⟩ (fun hHeld => ?_)
            refine wpAnyH_take (i := 0) (oi := { dst := some 58, op := Op.move (Operand.tmp 3), type := 24, pos := "law.go:94", after := #[], guard := none }) (v := ?_) rfl (by kernel_rfl) (by kernel_rfl) (by kernel_rfl) (fun _ _ _ h => h) (Or.inl ⟨by rfl, ?_⟩) hHeld ?_
            rotate_left
            · intro w' hSw
              obtain ⟨s1, s2⟩ := hSw
              go_simp
              with_reducible rfl
            try simp only [Act.put, List.setIfInBounds_toArray, List.set_cons_zero, List.set_cons_succ]
            refine wpAnyH_take (i := 1) (oi := { dst := some 59, op := Op.move (Operand.tmp 0), type := 37, pos := "law.go:94", after := #[], guard := none }) (v := ?_) rfl (by kernel_rfl) (by kernel_rfl) (by kernel_rfl) (fun _ _ _ h => h) (Or.inl ⟨by rfl, ?_⟩) hHeld ?_
            rotate_left
            · intro w' hSw
              obtain ⟨s1, s2⟩ := hSw
              go_simp
              with_reducible rfl
            try simp only [Act.put, List.setIfInBounds_toArray, List.set_cons_zero, List.set_cons_succ]
            refine wpAnyH_take (i := 2) (oi := { dst := some 60, op := Op.move (Operand.tmp 6), type := 3, pos := "law.go:94", after := #[], guard := none }) (v := ?_) rfl (by kernel_rfl) (by kernel_rfl) (by kernel_rfl) (fun _ _ _ h => h) (Or.inl ⟨by rfl, ?_⟩) hHeld ?_
            rotate_left
            · intro w' hSw
              obtain ⟨s1, s2⟩ := hSw
              go_simp
              with_reducible rfl
            try simp only [Act.put, List.setIfInBounds_toArray, List.set_cons_zero, List.set_cons_succ]
            refine wpAnyH_take (i := 3) (oi := { dst := some 61, op := Op.indexAddr 37 (Operand.tmp 59) (Operand.tmp 60), type := 0, pos := "law.go:94", after := #[{ on := 1, ground := Ground.data }, { on := 2, ground := Ground.data }], guard := none }) (v := ?_) rfl (by kernel_rfl) (by kernel_rfl) (by kernel_rfl) (fun _ _ _ h => h) (Or.inl ⟨by rfl, ?_⟩) hHeld ?_
            rotate_left
            · intro w' hSw
              obtain ⟨s1, s2⟩ := hSw
              go_simp
              with_reducible rfl
            try simp only [Act.put, List.setIfInBounds_toArray, List.set_cons_zero, List.set_cons_succ]
            refine wpAnyH_take (i := 4) (oi := { dst := some 62, op := Op.fieldAddr 40 (Operand.tmp 61) 0, type := 0, pos := "law.go:94", after := #[{ on := 3, ground := Ground.data }], guard := none }) (v := ?_) rfl (by kernel_rfl) (by kernel_rfl) (by kernel_rfl) (fun _ _ _ h => h) (Or.inl ⟨by rfl, ?_⟩) hHeld ?_
            rotate_left
            · intro w' hSw
              obtain ⟨s1, s2⟩ := hSw
              go_simp
              with_reducible rfl
            try simp only [Act.put, List.setIfInBounds_toArray, List.set_cons_zero, List.set_cons_succ]
            refine wpAnyH_take (i := 5) (oi := { dst := some 63, op := Op.load 22 (Operand.tmp 62), type := 22, pos := "law.go:94", after := #[{ on := 4, ground := Ground.data }], guard := none }) (v := ?_) rfl (by kernel_rfl) (by kernel_rfl) (by kernel_rfl) (fun _ _ _ h => h) (Or.inl ⟨by rfl, ?_⟩) hHeld ?_
            rotate_left
            · intro w' hSw
              obtain ⟨s1, s2⟩ := hSw
              go_simp
              with_reducible rfl
            try simp only [Act.put, List.setIfInBounds_toArray, List.set_cons_zero, List.set_cons_succ]
            refine wpAnyH_take (i := 6) (oi := { dst := some 64, op := Op.move (Operand.tmp 0), type := 37, pos := "law.go:94", after := #[], guard := none }) (v := ?_) rfl (by kernel_rfl) (by kernel_rfl) (by kernel_rfl) (fun _ _ _ h => h) (Or.inl ⟨by rfl, ?_⟩) hHeld ?_
            rotate_left
            · intro w' hSw
              obtain ⟨s1, s2⟩ := hSw
              go_simp
              with_reducible rfl
            try simp only [Act.put, List.setIfInBounds_toArray, List.set_cons_zero, List.set_cons_succ]
            refine wpAnyH_take (i := 7) (oi := { dst := some 65, op := Op.move (Operand.tmp 6), type := 3, pos := "law.go:94", after := #[], guard := none }) (v := ?_) rfl (by kernel_rfl) (by kernel_rfl) (by kernel_rfl) (fun _ _ _ h => h) (Or.inl ⟨by rfl, ?_⟩) hHeld ?_
            rotate_left
            · intro w' hSw
              obtain ⟨s1, s2⟩ := hSw
              go_simp
              with_reducible rfl
            try simp only [Act.put, List.setIfInBounds_toArray, List.set_cons_zero, List.set_cons_succ]
            refine wpAnyH_take (i := 8) (oi := { dst := some 66, op := Op.indexAddr 37 (Operand.tmp 64) (Operand.tmp 65), type := 0, pos := "law.go:94", after := #[{ on := 6, ground := Ground.data }, { on := 7, ground := Ground.data }], guard := none }) (v := ?_) rfl (by kernel_rfl) (by kernel_rfl) (by kernel_rfl) (fun _ _ _ h => h) (Or.inl ⟨by rfl, ?_⟩) hHeld ?_
            rotate_left
            · intro w' hSw
              obtain ⟨s1, s2⟩ := hSw
              go_simp
              with_reducible rfl
            try simp only [Act.put, List.setIfInBounds_toArray, List.set_cons_zero, List.set_cons_succ]
            refine wpAnyH_take (i := 9) (oi := { dst := some 67, op := Op.fieldAddr 40 (Operand.tmp 66) 1, type := 0, pos := "law.go:94", after := #[{ on := 8, ground := Ground.data }], guard := none }) (v := ?_) rfl (by kernel_rfl) (by kernel_rfl) (by kernel_rfl) (fun _ _ _ h => h) (Or.inl ⟨by rfl, ?_⟩) hHeld ?_
            rotate_left
            · intro w' hSw
              obtain ⟨s1, s2⟩ := hSw
              go_simp
              with_reducible rfl
            try simp only [Act.put, List.setIfInBounds_toArray, List.set_cons_zero, List.set_cons_succ]
            refine wpAnyH_take (i := 10) (oi := { dst := some 68, op := Op.load 3 (Operand.tmp 67), type := 3, pos := "law.go:94", after := #[{ on := 9, ground := Ground.data }], guard := none }) (v := ?_) rfl (by kernel_rfl) (by kernel_rfl) (by kernel_rfl) (fun _ _ _ h => h) (Or.inl ⟨by rfl, ?_⟩) hHeld ?_
            rotate_left
            · intro w' hSw
              obtain ⟨s1, s2⟩ := hSw
              go_simp
              with_reducible rfl
            try simp only [Act.put, List.setIfInBounds_toArray, List.set_cons_zero, List.set_cons_succ]
            refine wpAnyH_ready (rs := [11]) (by kernel_rfl) (by simp) ?_
            refine AllReadyH.cons (o := { dst := some 69, op := Op.call { callee := Callee.value (Operand.func 9), args := #[Operand.tmp 58, Operand.tmp 63, Operand.tmp 68], argTypes := #[24, 22, 3] }, type := 27, pos := "law.go:94", after := #[{ on := 0, ground := Ground.data }, { on := 5, ground := Ground.data }, { on := 10, ground := Ground.data }], guard := none }) rfl (fun K hK => ?_) AllReadyH.nil
            go_simp
            refine HSV.out.mono ?_
            rintro e w6 ⟨rfl, d6, f⟩
            replace N := Lib.hid ((N.out.bl_ D.out.plt (Bl.drew wr)).fr f); replace D := Lib.hid d6; clear d6 f HSV e1 e2 e3
            have e1 := Bl.some' N.out.bl HC1.out; have e2 := Bl.some' N.out.bl HC2.out; have e3 := Bl.some' N.out.bl HC3.out
            try go_wp2_with fail
            refine hK.out _ _ ⟨e1, e2⟩ (fun hHeld => ?_)
            clear hK K
            try simp only [Act.put, List.setIfInBounds_toArray, List.set_cons_zero, List.set_cons_succ]
            refine wpAnyH_take (i := 12) (oi := { dst := some 57, op := Op.move (Operand.tmp 69), type := 27, pos := "law.go:94", after := #[{ on := 11, ground := Ground.data }], guard := none }) (v := ?_) rfl (by kernel_rfl) (by kernel_rfl) (by kernel_rfl) (fun _ _ _ h => h) (Or.inl ⟨by rfl, ?_⟩) hHeld ?_
            rotate_left
            · intro w' hSw
              skip
              go_simp
              with_reducible rfl
            try simp only [Act.put, List.setIfInBounds_toArray, List.set_cons_zero, List.set_cons_succ]
            refine wpAnyH_take (i := 13) (oi := { dst := some 70, op := Op.extract (Operand.tmp 57) 0, type := 3, pos := "law.go:94", after := #[{ on := 12, ground := Ground.data }], guard := none }) (v := ?_) rfl (by kernel_rfl) (by kernel_rfl) (by kernel_rfl) (fun _ _ _ h => h) (Or.inl ⟨by rfl, ?_⟩) hHeld ?_
            rotate_left
            · intro w' hSw
              skip
              go_simp
              with_reducible rfl
            try simp only [Act.put, List.setIfInBounds_toArray, List.set_cons_zero, List.set_cons_succ]
            refine wpAnyH_take (i := 14) (oi := { dst := some 71, op := Op.extract (Operand.tmp 57) 1, type := 26, pos := "law.go:94", after := #[{ on := 12, ground := Ground.data }, { on := 15, ground := Ground.gcOnly Departure.lateStores }], guard := none }) (v := ?_) rfl (by kernel_rfl) (by kernel_rfl) (by kernel_rfl) (fun _ _ _ h => h) (Or.inl ⟨by rfl, ?_⟩) hHeld ?_
            rotate_left
            · intro w' hSw
              skip
              go_simp
              with_reducible rfl
            try simp only [Act.put, List.setIfInBounds_toArray, List.set_cons_zero, List.set_cons_succ]
            refine wpAnyH_take (i := 15) (oi := { dst := some 8, op := Op.assign (Operand.tmp 70), type := 3, pos := "law.go:94", after := #[{ on := 13, ground := Ground.data }, { on := 11, ground := Ground.chain }, { on := 0, ground := Ground.phase }, { on := 1, ground := Ground.phase }, { on := 2, ground := Ground.phase }, { on := 3, ground := Ground.phase }, { on := 4, ground := Ground.phase }, { on := 5, ground := Ground.phase }, { on := 6, ground := Ground.phase }, { on := 7, ground := Ground.phase }, { on := 8, ground := Ground.phase }, { on := 9, ground := Ground.phase }, { on := 10, ground := Ground.phase }, { on := 11, ground := Ground.phase }, { on := 12, ground := Ground.phase }, { on := 13, ground := Ground.phase }, { on := 14, ground := Ground.textOnly Departure.lateStores }], guard := none }) (v := ?_) rfl (by kernel_rfl) (by kernel_rfl) (by kernel_rfl) (fun _ _ _ h => h) (Or.inl ⟨by rfl, ?_⟩) hHeld ?_
            rotate_left
            · intro w' hSw
              skip
              go_simp
              with_reducible rfl
            try simp only [Act.put, List.setIfInBounds_toArray, List.set_cons_zero, List.set_cons_succ]
            refine wpAnyH_take (i := 16) (oi := { dst := some 9, op := Op.assign (Operand.tmp 71), type := 26, pos := "law.go:94", after := #[{ on := 14, ground := Ground.data }, { on := 15, ground := Ground.chain }, { on := 0, ground := Ground.phase }, { on := 1, ground := Ground.phase }, { on := 2, ground := Ground.phase }, { on := 3, ground := Ground.phase }, { on := 4, ground := Ground.phase }, { on := 5, ground := Ground.phase }, { on := 6, ground := Ground.phase }, { on := 7, ground := Ground.phase }, { on := 8, ground := Ground.phase }, { on := 9, ground := Ground.phase }, { on := 10, ground := Ground.phase }, { on := 11, ground := Ground.phase }, { on := 12, ground := Ground.phase }, { on := 13, ground := Ground.phase }, { on := 14, ground := Ground.phase }, { on := 15, ground := Ground.phase }], guard := none }) (v := ?_) rfl (by kernel_rfl) (by kernel_rfl) (by kernel_rfl) (fun _ _ _ h => h) (Or.inl ⟨by rfl, ?_⟩) hHeld ?_
            rotate_left
            · intro w' hSw
              skip
              go_simp
              with_reducible rfl
            try simp only [Act.put, List.setIfInBounds_toArray, List.set_cons_zero, List.set_cons_succ]
            refine wpAnyH_done (by kernel_rfl) ?_ _
            refine NoPanic.normal ?_
            try simp only [Act.put, List.setIfInBounds_toArray, List.set_cons_zero, List.set_cons_succ]
            go_wp2_with fail
            refine (cr_to D.out HRW.out.1 K kd _ ([] : List Bool) rfl (HK.out.news N.out) HK.out.max).mono ?_
            rintro e w7 ⟨rfl, d7, f⟩
            replace N := Lib.hid (N.out.fr f); replace D := Lib.hid d7; clear d7 f e1 e2 e3
            go_wp2_with fail
            refine (ld_down D.out (crash_down ([] : List Bool)) HLE.out).mono ?_
            rintro e w8 ⟨A8, c8, rfl, _, b8, _⟩
            replace N := Lib.hid (N.out.bl_ D.out.plt b8); replace D := Lib.hid (D.out.bl b8); clear b8
            go_wp2_with fail
            refine (up_to ([] : List Bool) D.out).mono ?_
            rintro e w9 ⟨rfl, d9, f⟩
            replace N := Lib.hid (N.out.fr f); replace D := Lib.hid d9; clear d9 f
            have e1 := Bl.some' N.out.bl HC1.out; have e2 := Bl.some' N.out.bl HC2.out; have e3 := Bl.some' N.out.bl HC3.out
            cases sm with
            | true =>
              have HN0 := Lib.hid (HSM.out.1 rfl)
              have hn0 := HN0.out
              have hll := HLL.out
              go_wp2_with fail
              refine (ld_good D.out HG.out (by omega)).mono ?_
              rintro e w10 ⟨A10, c10, rfl, s10, b10, _⟩
              replace N := Lib.hid (N.out.bl_ D.out.plt b10); replace D := Lib.hid (D.out.bl b10); clear b10 e1 e2 e3
              try clear e4 e5
              go_wp2_with fail
              refine (same_sl s10 (HL.out.step N.out.bl) (by omega)).mono ?_
              rintro e w11 ⟨rfl, b11⟩
              have N6 := Lib.hid (N.out.bl_ D.out.plt b11); have D6 := Lib.hid (D.out.bl b11); clear b11 s10 N D
              go_wp2
              go_roundw
              case rel => exact ⟨k + 1, n, L, cl, last, true, by omega, by omega, by go_num, rfl, rfl, ⟨_, _, D6.out, HG.out⟩, HL, HLL, ⟨fun _ => hn0, fun _ => rfl⟩, N6⟩
              case measure => simp [intOf]; omega
            | false =>
              have HN0 := Lib.hid (show n = 0 from Decidable.byContradiction fun h => by have := HSM.out.2 h; cases this)
              go_wp2_with fail
              refine (ld_none D.out HG.out HN0.out).mono ?_
              rintro e w10 ⟨A10, c10, rfl, s10, b10, _⟩
              have N6 := Lib.hid (N.out.bl_ D.out.plt b10); have D6 := Lib.hid (D.out.bl b10); clear b10 s10 N D e1 e2 e3
              try clear e4 e5
              go_wp2
              go_roundw
              case rel => exact ⟨k + 1, n, L, cl, last, false, by omega, by omega, by go_num, rfl, rfl, ⟨_, _, D6.out, HG.out⟩, HL, HLL, ⟨fun h => (by cases h), fun h => absurd HN0.out h⟩, N6⟩
              case measure => simp [intOf]; omega
        by_cases hkb : kb = true
        · subst hkb
          as_aux_lemma =>
            obtain ⟨ad, rfl, hc4⟩ := HK.out.rv.at_ (k := 0) (by simp)
            rw [List.getElem_map, List.getElem_cons_zero] at hc4
            have HC4 := Lib.hid hc4
            clear hc4
            have h0 : (0 : Int) < ((ks'.length : Int) + 1) := by omega
            have HSV := Lib.hid (sv_run (D.out.bl (Bl.drew wr)) (fun _ _ => trivial) G.out (by omega) B bd _ x rfl ((N.out.bl_ D.out.plt (Bl.drew wr)).sls HX.out) (by omega) (q - 1) (many x + 2) (q - 1) 9 (.inr ⟨by have := HQ2.out; omega, by have := HQ2.out; omega, rfl, rfl⟩))
            have HRW := Lib.hid (run_waits (b' := x) G.out (by omega) (by omega) (j := (many x + 2)) (by have := HQ2.out; omega))
            obtain ⟨a', ga'⟩ := back_yes G.out (by omega) (b' := x) (by omega) (true :: ks') (j := (many x + 2)) (.inr ⟨rfl, rfl⟩)
            have HG := Lib.hid ga'
            have HLE := Lib.hid (back_le ga')
            clear ga'
            go_wp2
            refine wp_region_noPanic ?_
            refine wp_region_held_drew (S := (fun w' : World => w'.cell? ⟨g, o + k * 3, none⟩ = some (.slice B x.length bd) ∧ w'.cell? ⟨g, o + k * 3 + 1, none⟩ = some (.int .i64 (q - 1)))) (by kernel_rfl) ⟨e1, e2⟩ (fun hHeld => ?_)
            refine wpAnyH_take (i := 0) (oi := { dst := some 58, op := Op.move (Operand.tmp 3), type := 24, pos := "law.go:94", after := #[], guard := none }) (v := ?_) rfl (by kernel_rfl) (by kernel_rfl) (by kernel_rfl) (fun _ _ _ h => h) (Or.inl ⟨by rfl, ?_⟩) hHeld ?_
            rotate_left
            · intro w' hSw
              obtain ⟨s1, s2⟩ := hSw
              go_simp
              with_reducible rfl
            try simp only [Act.put, List.setIfInBounds_toArray, List.set_cons_zero, List.set_cons_succ]
            refine wpAnyH_take (i := 1) (oi := { dst := some 59, op := Op.move (Operand.tmp 0), type := 37, pos := "law.go:94", after := #[], guard := none }) (v := ?_) rfl (by kernel_rfl) (by kernel_rfl) (by kernel_rfl) (fun _ _ _ h => h) (Or.inl ⟨by rfl, ?_⟩) hHeld ?_
            rotate_left
            · intro w' hSw
              obtain ⟨s1, s2⟩ := hSw
              go_simp
              with_reducible rfl
            try simp only [Act.put, List.setIfInBounds_toArray, List.set_cons_zero, List.set_cons_succ]
            refine wpAnyH_take (i := 2) (oi := { dst := some 60, op := Op.move (Operand.tmp 6), type := 3, pos := "law.go:94", after := #[], guard := none }) (v := ?_) rfl (by kernel_rfl) (by kernel_rfl) (by kernel_rfl) (fun _ _ _ h => h) (Or.inl ⟨by rfl, ?_⟩) hHeld ?_
            rotate_left
            · intro w' hSw
              obtain ⟨s1, s2⟩ := hSw
              go_simp
              with_reducible rfl
            try simp only [Act.put, List.setIfInBounds_toArray, List.set_cons_zero, List.set_cons_succ]
            refine wpAnyH_take (i := 3) (oi := { dst := some 61, op := Op.indexAddr 37 (Operand.tmp 59) (Operand.tmp 60), type := 0, pos := "law.go:94", after := #[{ on := 1, ground := Ground.data }, { on := 2, ground := Ground.data }], guard := none }) (v := ?_) rfl (by kernel_rfl) (by kernel_rfl) (by kernel_rfl) (fun _ _ _ h => h) (Or.inl ⟨by rfl, ?_⟩) hHeld ?_
            rotate_left
            · intro w' hSw
              obtain ⟨s1, s2⟩ := hSw
              go_simp
              with_reducible rfl
            try simp only [Act.put, List.setIfInBounds_toArray, List.set_cons_zero, List.set_cons_succ]
            refine wpAnyH_take (i := 4) (oi := { dst := some 62, op := Op.fieldAddr 40 (Operand.tmp 61) 0, type := 0, pos := "law.go:94", after := #[{ on := 3, ground := Ground.data }], guard := none }) (v := ?_) rfl (by kernel_rfl) (by kernel_rfl) (by kernel_rfl) (fun _ _ _ h => h) (Or.inl ⟨by rfl, ?_⟩) hHeld ?_
            rotate_left
            · intro w' hSw
              obtain ⟨s1, s2⟩ := hSw
              go_simp
              with_reducible rfl
            try simp only [Act.put, List.setIfInBounds_toArray, List.set_cons_zero, List.set_cons_succ]
            refine wpAnyH_take (i := 5) (oi := { dst := some 63, op := Op.load 22 (Operand.tmp 62), type := 22, pos := "law.go:94", after := #[{ on := 4, ground := Ground.data }], guard := none }) (v := ?_) rfl (by kernel_rfl) (by kernel_rfl) (by kernel_rfl) (fun _ _ _ h => h) (Or.inl ⟨by rfl, ?_⟩) hHeld ?_
            rotate_left
            · intro w' hSw
              obtain ⟨s1, s2⟩ := hSw
              go_simp
              with_reducible rfl
            try simp only [Act.put, List.setIfInBounds_toArray, List.set_cons_zero, List.set_cons_succ]
            refine wpAnyH_take (i := 6) (oi := { dst := some 64, op := Op.move (Operand.tmp 0), type := 37, pos := "law.go:94", after := #[], guard := none }) (v := ?_) rfl (by kernel_rfl) (by kernel_rfl) (by kernel_rfl) (fun _ _ _ h => h) (Or.inl ⟨by rfl, ?_⟩) hHeld ?_
            rotate_left
            · intro w' hSw
              obtain ⟨s1, s2⟩ := hSw
              go_simp
              with_reducible rfl
            try simp only [Act.put, List.setIfInBounds_toArray, List.set_cons_zero, List.set_cons_succ]
            refine wpAnyH_take (i := 7) (oi := { dst := some 65, op := Op.move (Operand.tmp 6), type := 3, pos := "law.go:94", after := #[], guard := none }) (v := ?_) rfl (by kernel_rfl) (by kernel_rfl) (by kernel_rfl) (fun _ _ _ h => h) (Or.inl ⟨by rfl, ?_⟩) hHeld ?_
            rotate_left
            · intro w' hSw
              obtain ⟨s1, s2⟩ := hSw
              go_simp
              with_reducible rfl
            try simp only [Act.put, List.setIfInBounds_toArray, List.set_cons_zero, List.set_cons_succ]
            refine wpAnyH_take (i := 8) (oi := { dst := some 66, op := Op.indexAddr 37 (Operand.tmp 64) (Operand.tmp 65), type := 0, pos := "law.go:94", after := #[{ on := 6, ground := Ground.data }, { on := 7, ground := Ground.data }], guard := none }) (v := ?_) rfl (by kernel_rfl) (by kernel_rfl) (by kernel_rfl) (fun _ _ _ h => h) (Or.inl ⟨by rfl, ?_⟩) hHeld ?_
            rotate_left
            · intro w' hSw
              obtain ⟨s1, s2⟩ := hSw
              go_simp
              with_reducible rfl
            try simp only [Act.put, List.setIfInBounds_toArray, List.set_cons_zero, List.set_cons_succ]
            refine wpAnyH_take (i := 9) (oi := { dst := some 67, op := Op.fieldAddr 40 (Operand.tmp 66) 1, type := 0, pos := "law.go:94", after := #[{ on := 8, ground := Ground.data }], guard := none }) (v := ?_) rfl (by kernel_rfl) (by kernel_rfl) (by kernel_rfl) (fun _ _ _ h => h) (Or.inl ⟨by rfl, ?_⟩) hHeld ?_
            rotate_left
            · intro w' hSw
              obtain ⟨s1, s2⟩ := hSw
              go_simp
              with_reducible rfl
            try simp only [Act.put, List.setIfInBounds_toArray, List.set_cons_zero, List.set_cons_succ]
            refine wpAnyH_take (i := 10) (oi := { dst := some 68, op := Op.load 3 (Operand.tmp 67), type := 3, pos := "law.go:94", after := #[{ on := 9, ground := Ground.data }], guard := none }) (v := ?_) rfl (by kernel_rfl) (by kernel_rfl) (by kernel_rfl) (fun _ _ _ h => h) (Or.inl ⟨by rfl, ?_⟩) hHeld ?_
            rotate_left
            · intro w' hSw
              obtain ⟨s1, s2⟩ := hSw
              go_simp
              with_reducible rfl
            try simp only [Act.put, List.setIfInBounds_toArray, List.set_cons_zero, List.set_cons_succ]
            refine wpAnyH_ready (rs := [11]) (by kernel_rfl) (by simp) ?_
            refine AllReadyH.cons (o := { dst := some 69, op := Op.call { callee := Callee.value (Operand.func 9), args := #[Operand.tmp 58, Operand.tmp 63, Operand.tmp 68], argTypes := #[24, 22, 3] }, type := 27, pos := "law.go:94", after := #[{ on := 0, ground := Ground.data }, { on := 5, ground := Ground.data }, { on := 10, ground := Ground.data }], guard := none }) rfl (fun K hK => ?_) AllReadyH.nil
            go_simp
            refine HSV.out.mono ?_
            rintro e w6 ⟨rfl, d6, f⟩
            replace N := Lib.hid ((N.out.bl_ D.out.plt (Bl.drew wr)).fr f); replace D := Lib.hid d6; clear d6 f HSV e1 e2 e3
            have e1 := Bl.some' N.out.bl HC1.out; have e2 := Bl.some' N.out.bl HC2.out; have e3 := Bl.some' N.out.bl HC3.out
            try go_wp2_with fail
            refine hK.out _ _ ⟨e1, e2⟩ (fun hHeld => ?_)
            clear hK K
            try simp only [Act.put, List.setIfInBounds_toArray, List.set_cons_zero, List.set_cons_succ]
            refine wpAnyH_take (i := 12) (oi := { dst := some 57, op := Op.move (Operand.tmp 69), type := 27, pos := "law.go:94", after := #[{ on := 11, ground := Ground.data }], guard := none }) (v := ?_) rfl (by kernel_rfl) (by kernel_rfl) (by kernel_rfl) (fun _ _ _ h => h) (Or.inl ⟨by rfl, ?_⟩) hHeld ?_
            rotate_left
            · intro w' hSw
              skip
              go_simp
              with_reducible rfl
            try simp only [Act.put, List.setIfInBounds_toArray, List.set_cons_zero, List.set_cons_succ]
            refine wpAnyH_take (i := 13) (oi := { dst := some 70, op := Op.extract (Operand.tmp 57) 0, type := 3, pos := "law.go:94", after := #[{ on := 12, ground := Ground.data }], guard := none }) (v := ?_) rfl (by kernel_rfl) (by kernel_rfl) (by kernel_rfl) (fun _ _ _ h => h) (Or.inl ⟨by rfl, ?_⟩) hHeld ?_
            rotate_left
            · intro w' hSw
              skip
              go_simp
              with_reducible rfl
            try simp only [Act.put, List.setIfInBounds_toArray, List.set_cons_zero, List.set_cons_succ]
            refine wpAnyH_take (i := 14) (oi := { dst := some 71, op := Op.extract (Operand.tmp 57) 1, type := 26, pos := "law.go:94", after := #[{ on := 12, ground := Ground.data }, { on := 15, ground := Ground.gcOnly Departure.lateStores }], guard := none }) (v := ?_) rfl (by kernel_rfl) (by kernel_rfl) (by kernel_rfl) (fun _ _ _ h => h) (Or.inl ⟨by rfl, ?_⟩) hHeld ?_
            rotate_left
            · intro w' hSw
              skip
              go_simp
              with_reducible rfl
            try simp only [Act.put, List.setIfInBounds_toArray, List.set_cons_zero, List.set_cons_succ]
            refine wpAnyH_take (i := 15) (oi := { dst := some 8, op := Op.assign (Operand.tmp 70), type := 3, pos := "law.go:94", after := #[{ on := 13, ground := Ground.data }, { on := 11, ground := Ground.chain }, { on := 0, ground := Ground.phase }, { on := 1, ground := Ground.phase }, { on := 2, ground := Ground.phase }, { on := 3, ground := Ground.phase }, { on := 4, ground := Ground.phase }, { on := 5, ground := Ground.phase }, { on := 6, ground := Ground.phase }, { on := 7, ground := Ground.phase }, { on := 8, ground := Ground.phase }, { on := 9, ground := Ground.phase }, { on := 10, ground := Ground.phase }, { on := 11, ground := Ground.phase }, { on := 12, ground := Ground.phase }, { on := 13, ground := Ground.phase }, { on := 14, ground := Ground.textOnly Departure.lateStores }], guard := none }) (v := ?_) rfl (by kernel_rfl) (by kernel_rfl) (by kernel_rfl) (fun _ _ _ h => h) (Or.inl ⟨by rfl, ?_⟩) hHeld ?_
            rotate_left
            · intro w' hSw
              skip
              go_simp
              with_reducible rfl
            try simp only [Act.put, List.setIfInBounds_toArray, List.set_cons_zero, List.set_cons_succ]
            refine wpAnyH_take (i := 16) (oi := { dst := some 9, op := Op.assign (Operand.tmp 71), type := 26, pos := "law.go:94", after := #[{ on := 14, ground := Ground.data }, { on := 15, ground := Ground.chain }, { on := 0, ground := Ground.phase }, { on := 1, ground := Ground.phase }, { on := 2, ground := Ground.phase }, { on := 3, ground := Ground.phase }, { on := 4, ground := Ground.phase }, { on := 5, ground := Ground.phase }, { on := 6, ground := Ground.phase }, { on := 7, ground := Ground.phase }, { on := 8, ground := Ground.phase }, { on := 9, ground := Ground.phase }, { on := 10, ground := Ground.phase }, { on := 11, ground := Ground.phase }, { on := 12, ground := Ground.phase }, { on := 13, ground := Ground.phase }, { on := 14, ground := Ground.phase }, { on := 15, ground := Ground.phase }], guard := none }) (v := ?_) rfl (by kernel_rfl) (by kernel_rfl) (by kernel_rfl) (fun _ _ _ h => h) (Or.inl ⟨by rfl, ?_⟩) hHeld ?_
            rotate_left
            · intro w' hSw
              skip
              go_simp
              with_reducible rfl
            try simp only [Act.put, List.setIfInBounds_toArray, List.set_cons_zero, List.set_cons_succ]
            refine wpAnyH_done (by kernel_rfl) ?_ _
            refine NoPanic.normal ?_
            try simp only [Act.put, List.setIfInBounds_toArray, List.set_cons_zero, List.set_cons_succ]
            go_wp2_with fail
            refine (cr_to D.out HRW.out.1 (some ad) kd _ (true :: ks') rfl (HK.out.news N.out) HK.out.max).mono ?_
            rintro e w7 ⟨rfl, d7, f⟩
            replace N := Lib.hid (N.out.fr f); replace D := Lib.hid d7; clear d7 f e1 e2 e3
            go_wp2_with fail
            refine (ld_down D.out (crash_down (true :: ks')) HLE.out).mono ?_
            rintro e w8 ⟨A8, c8, rfl, _, b8, _⟩
            replace N := Lib.hid (N.out.bl_ D.out.plt b8); replace D := Lib.hid (D.out.bl b8); clear b8
            go_wp2_with fail
            refine (up_to (true :: ks') D.out).mono ?_
            rintro e w9 ⟨rfl, d9, f⟩
            replace N := Lib.hid (N.out.fr f); replace D := Lib.hid d9; clear d9 f
            have e1 := Bl.some' N.out.bl HC1.out; have e2 := Bl.some' N.out.bl HC2.out; have e3 := Bl.some' N.out.bl HC3.out
            have e4 := Bl.some' N.out.bl HC4.out
            have e5 := e4
            rw [show ad.add 0 = ad from by cases ad; rfl] at e5
            go_wp2_with fail
            refine (ld_good D.out HG.out (by omega)).mono ?_
            rintro e w10 ⟨A10, c10, rfl, s10, b10, _⟩
            replace N := Lib.hid (N.out.bl_ D.out.plt b10); replace D := Lib.hid (D.out.bl b10); clear b10 e1 e2 e3
            try clear e4 e5
            go_wp2_with fail
            refine (same_sl s10 (HX.out.step N.out.bl) (by omega)).mono ?_
            rintro e w11 ⟨rfl, b11⟩
            have N6 := Lib.hid (N.out.bl_ D.out.plt b11); have D6 := Lib.hid (D.out.bl b11); clear b11 s10 N D
            go_wp2
            go_roundw
            case rel => exact ⟨k + 1, n + 1, B, bd, x, true, by omega, by omega, by go_num, rfl, rfl, ⟨_, _, D6.out, HG.out⟩, HX, HXL, ⟨fun _ => Nat.succ_ne_zero _, fun _ => rfl⟩, N6⟩
            case measure => simp [intOf]; omega
        · obtain rfl : kb = false := by simpa using hkb
          as_aux_lemma =>
            obtain ⟨ad, rfl, hc4⟩ := HK.out.rv.at_ (k := 0) (by simp)
            rw [List.getElem_map, List.getElem_cons_zero] at hc4
            have HC4 := Lib.hid hc4
            clear hc4
            have h0 : (0 : Int) < ((ks'.length : Int) + 1) := by omega
            have HSV := Lib.hid (sv_run (D.out.bl (Bl.drew wr)) (fun _ _ => trivial) G.out (by omega) B bd _ x rfl ((N.out.bl_ D.out.plt (Bl.drew wr)).sls HX.out) (by omega) (q - 1) (many x + 2) (q - 1) 9 (.inr ⟨by have := HQ2.out; omega, by have := HQ2.out; omega, rfl, rfl⟩))
            have HRW := Lib.hid (run_waits (b' := x) G.out (by omega) (by omega) (j := (many x + 2)) (by have := HQ2.out; omega))
            have ga' := back_no G.out (by omega) (b' := x) (by omega) (false :: ks') (j := (many x + 2)) (.inl ⟨rfl, rfl⟩)
            have HG := Lib.hid ga'
            have HLE := Lib.hid (back_le ga')
            clear ga'
            go_wp2
            refine wp_region_noPanic ?_
            refine wp_region_held_drew (S := (fun w' : World => w'.cell? ⟨g, o + k * 3, none⟩ = some (.slice B x.length bd) ∧ w'.cell? ⟨g, o + k * 3 + 1, none⟩ = some (.int .i64 (q - 1)))) (by kernel_rfl) ⟨e1, e2⟩ (fun hHeld => ?_)
            refine wpAnyH_take (i := 0) (oi := { dst := some 58, op := Op.move (Operand.tmp 3), type := 24, pos := "law.go:94", after := #[], guard := none }) (v := ?_) rfl (by kernel_rfl) (by kernel_rfl) (by kernel_rfl) (fun _ _ _ h => h) (Or.inl ⟨by rfl, ?_⟩) hHeld ?_
            rotate_left
            · intro w' hSw
              obtain ⟨s1, s2⟩ := hSw
              go_simp
              with_reducible rfl
            try simp only [Act.put, List.setIfInBounds_toArray, List.set_cons_zero, List.set_cons_succ]
            refine wpAnyH_take (i := 1) (oi := { dst := some 59, op := Op.move (Operand.tmp 0), type := 37, pos := "law.go:94", after := #[], guard := none }) (v := ?_) rfl (by kernel_rfl) (by kernel_rfl) (by kernel_rfl) (fun _ _ _ h => h) (Or.inl ⟨by rfl, ?_⟩) hHeld ?_
            rotate_left
            · intro w' hSw
              obtain ⟨s1, s2⟩ := hSw
              go_simp
              with_reducible rfl
            try simp only [Act.put, List.setIfInBounds_toArray, List.set_cons_zero, List.set_cons_succ]
            refine wpAnyH_take (i := 2) (oi := { dst := some 60, op := Op.move (Operand.tmp 6), type := 3, pos := "law.go:94", after := #[], guard := none }) (v := ?_) rfl (by kernel_rfl) (by kernel_rfl) (by kernel_rfl) (fun _ _ _ h => h) (Or.inl ⟨by rfl, ?_⟩) hHeld ?_
            rotate_left
            · intro w' hSw
              obtain ⟨s1, s2⟩ := hSw
              go_simp
              with_reducible rfl
            try simp only [Act.put, List.setIfInBounds_toArray, List.set_cons_zero, List.set_cons_succ]
            refine wpAnyH_take (i := 3) (oi := { dst := some 61, op := Op.indexAddr 37 (Operand.tmp 59) (Operand.tmp 60), type := 0, pos := "law.go:94", after := #[{ on := 1, ground := Ground.data }, { on := 2, ground := Ground.data }], guard := none }) (v := ?_) rfl (by kernel_rfl) (by kernel_rfl) (by kernel_rfl) (fun _ _ _ h => h) (Or.inl ⟨by rfl, ?_⟩) hHeld ?_
            rotate_left
            · intro w' hSw
              obtain ⟨s1, s2⟩ := hSw
              go_simp
              with_reducible rfl
            try simp only [Act.put, List.setIfInBounds_toArray, List.set_cons_zero, List.set_cons_succ]
            refine wpAnyH_take (i := 4) (oi := { dst := some 62, op := Op.fieldAddr 40 (Operand.tmp 61) 0, type := 0, pos := "law.go:94", after := #[{ on := 3, ground := Ground.data }], guard := none }) (v := ?_) rfl (by kernel_rfl) (by kernel_rfl) (by kernel_rfl) (fun _ _ _ h => h) (Or.inl ⟨by rfl, ?_⟩) hHeld ?_
            rotate_left
            · intro w' hSw
              obtain ⟨s1, s2⟩ := hSw
              go_simp
              with_reducible rfl
            try simp only [Act.put, List.setIfInBounds_toArray, List.set_cons_zero, List.set_cons_succ]
            refine wpAnyH_take (i := 5) (oi := { dst := some 63, op := Op.load 22 (Operand.tmp 62), type := 22, pos := "law.go:94", after := #[{ on := 4, ground := Ground.data }], guard := none }) (v := ?_) rfl (by kernel_rfl) (by kernel_rfl) (by kernel_rfl) (fun _ _ _ h => h) (Or.inl ⟨by rfl, ?_⟩) hHeld ?_
            rotate_left
            · intro w' hSw
              obtain ⟨s1, s2⟩ := hSw
              go_simp
              with_reducible rfl
            try simp only [Act.put, List.setIfInBounds_toArray, List.set_cons_zero, List.set_cons_succ]
            refine wpAnyH_take (i := 6) (oi := { dst := some 64, op := Op.move (Operand.tmp 0), type := 37, pos := "law.go:94", after := #[], guard := none }) (v := ?_) rfl (by kernel_rfl) (by kernel_rfl) (by kernel_rfl) (fun _ _ _ h => h) (Or.inl ⟨by rfl, ?_⟩) hHeld ?_
            rotate_left
            · intro w' hSw
              obtain ⟨s1, s2⟩ := hSw
              go_simp
              with_reducible rfl
            try simp only [Act.put, List.setIfInBounds_toArray, List.set_cons_zero, List.set_cons_succ]
            refine wpAnyH_take (i := 7) (oi := { dst := some 65, op := Op.move (Operand.tmp 6), type := 3, pos := "law.go:94", after := #[], guard := none }) (v := ?_) rfl (by kernel_rfl) (by kernel_rfl) (by kernel_rfl) (fun _ _ _ h => h) (Or.inl ⟨by rfl, ?_⟩) hHeld ?_
            rotate_left
            · intro w' hSw
              obtain ⟨s1, s2⟩ := hSw
              go_simp
              with_reducible rfl
            try simp only [Act.put, List.setIfInBounds_toArray, List.set_cons_zero, List.set_cons_succ]
            refine wpAnyH_take (i := 8) (oi := { dst := some 66, op := Op.indexAddr 37 (Operand.tmp 64) (Operand.tmp 65), type := 0, pos := "law.go:94", after := #[{ on := 6, ground := Ground.data }, { on := 7, ground := Ground.data }], guard := none }) (v := ?_) rfl (by kernel_rfl) (by kernel_rfl) (by kernel_rfl) (fun _ _ _ h => h) (Or.inl ⟨by rfl, ?_⟩) hHeld ?_
            rotate_left
            · intro w' hSw
              obtain ⟨s1, s2⟩ := hSw
              go_simp
              with_reducible rfl
            try simp only [Act.put, List.setIfInBounds_toArray, List.set_cons_zero, List.set_cons_succ]
            refine wpAnyH_take (i := 9) (oi := { dst := some 67, op := Op.fieldAddr 40 (Operand.tmp 66) 1, type := 0, pos := "law.go:94", after := #[{ on := 8, ground := Ground.data }], guard := none }) (v := ?_) rfl (by kernel_rfl) (by kernel_rfl) (by kernel_rfl) (fun _ _ _ h => h) (Or.inl ⟨by rfl, ?_⟩) hHeld ?_
            rotate_left
            · intro w' hSw
              obtain ⟨s1, s2⟩ := hSw
              go_simp
              with_reducible rfl
            try simp only [Act.put, List.setIfInBounds_toArray, List.set_cons_zero, List.set_cons_succ]
            refine wpAnyH_take (i := 10) (oi := { dst := some 68, op := Op.load 3 (Operand.tmp 67), type := 3, pos := "law.go:94", after := #[{ on := 9, ground := Ground.data }], guard := none }) (v := ?_) rfl (by kernel_rfl) (by kernel_rfl) (by kernel_rfl) (fun _ _ _ h => h) (Or.inl ⟨by rfl, ?_⟩) hHeld ?_
            rotate_left
            · intro w' hSw
              obtain ⟨s1, s2⟩ := hSw
              go_simp
              with_reducible rfl
            try simp only [Act.put, List.setIfInBounds_toArray, List.set_cons_zero, List.set_cons_succ]
            refine wpAnyH_ready (rs := [11]) (by kernel_rfl) (by simp) ?_
            refine AllReadyH.cons (o := { dst := some 69, op := Op.call { callee := Callee.value (Operand.func 9), args := #[Operand.tmp 58, Operand.tmp 63, Operand.tmp 68], argTypes := #[24, 22, 3] }, type := 27, pos := "law.go:94", after := #[{ on := 0, ground := Ground.data }, { on := 5, ground := Ground.data }, { on := 10, ground := Ground.data }], guard := none }) rfl (fun K hK => ?_) AllReadyH.nil
            go_simp
            refine HSV.out.mono ?_
            rintro e w6 ⟨rfl, d6, f⟩
            replace N := Lib.hid ((N.out.bl_ D.out.plt (Bl.drew wr)).fr f); replace D := Lib.hid d6; clear d6 f HSV e1 e2 e3
            have e1 := Bl.some' N.out.bl HC1.out; have e2 := Bl.some' N.out.bl HC2.out; have e3 := Bl.some' N.out.bl HC3.out
            try go_wp2_with fail
            refine hK.out _ _ ⟨e1, e2⟩ (fun hHeld => ?_)
            clear hK K
            try simp only [Act.put, List.setIfInBounds_toArray, List.set_cons_zero, List.set_cons_succ]
            refine wpAnyH_take (i := 12) (oi := { dst := some 57, op := Op.move (Operand.tmp 69), type := 27, pos := "law.go:94", after := #[{ on := 11, ground := Ground.data }], guard := none }) (v := ?_) rfl (by kernel_rfl) (by kernel_rfl) (by kernel_rfl) (fun _ _ _ h => h) (Or.inl ⟨by rfl, ?_⟩) hHeld ?_
            rotate_left
            · intro w' hSw
              skip
              go_simp
              with_reducible rfl
            try simp only [Act.put, List.setIfInBounds_toArray, List.set_cons_zero, List.set_cons_succ]
            refine wpAnyH_take (i := 13) (oi := { dst := some 70, op := Op.extract (Operand.tmp 57) 0, type := 3, pos := "law.go:94", after := #[{ on := 12, ground := Ground.data }], guard := none }) (v := ?_) rfl (by kernel_rfl) (by kernel_rfl) (by kernel_rfl) (fun _ _ _ h => h) (Or.inl ⟨by rfl, ?_⟩) hHeld ?_
            rotate_left
            · intro w' hSw
              skip
              go_simp
              with_reducible rfl
            try simp only [Act.put, List.setIfInBounds_toArray, List.set_cons_zero, List.set_cons_succ]
            refine wpAnyH_take (i := 14) (oi := { dst := some 71, op := Op.extract (Operand.tmp 57) 1, type := 26, pos := "law.go:94", after := #[{ on := 12, ground := Ground.data }, { on := 15, ground := Ground.gcOnly Departure.lateStores }], guard := none }) (v := ?_) rfl (by kernel_rfl) (by kernel_rfl) (by kernel_rfl) (fun _ _ _ h => h) (Or.inl ⟨by rfl, ?_⟩) hHeld ?_
            rotate_left
            · intro w' hSw
              skip
              go_simp
              with_reducible rfl
            try simp only [Act.put, List.setIfInBounds_toArray, List.set_cons_zero, List.set_cons_succ]
            refine wpAnyH_take (i := 15) (oi := { dst := some 8, op := Op.assign (Operand.tmp 70), type := 3, pos := "law.go:94", after := #[{ on := 13, ground := Ground.data }, { on := 11, ground := Ground.chain }, { on := 0, ground := Ground.phase }, { on := 1, ground := Ground.phase }, { on := 2, ground := Ground.phase }, { on := 3, ground := Ground.phase }, { on := 4, ground := Ground.phase }, { on := 5, ground := Ground.phase }, { on := 6, ground := Ground.phase }, { on := 7, ground := Ground.phase }, { on := 8, ground := Ground.phase }, { on := 9, ground := Ground.phase }, { on := 10, ground := Ground.phase }, { on := 11, ground := Ground.phase }, { on := 12, ground := Ground.phase }, { on := 13, ground := Ground.phase }, { on := 14, ground := Ground.textOnly Departure.lateStores }], guard := none }) (v := ?_) rfl (by kernel_rfl) (by kernel_rfl) (by kernel_rfl) (fun _ _ _ h => h) (Or.inl ⟨by rfl, ?_⟩) hHeld ?_
            rotate_left
            · intro w' hSw
              skip
              go_simp
              with_reducible rfl
            try simp only [Act.put, List.setIfInBounds_toArray, List.set_cons_zero, List.set_cons_succ]
            refine wpAnyH_take (i := 16) (oi := { dst := some 9, op := Op.assign (Operand.tmp 71), type := 26, pos := "law.go:94", after := #[{ on := 14, ground := Ground.data }, { on := 15, ground := Ground.chain }, { on := 0, ground := Ground.phase }, { on := 1, ground := Ground.phase }, { on := 2, ground := Ground.phase }, { on := 3, ground := Ground.phase }, { on := 4, ground := Ground.phase }, { on := 5, ground := Ground.phase }, { on := 6, ground := Ground.phase }, { on := 7, ground := Ground.phase }, { on := 8, ground := Ground.phase }, { on := 9, ground := Ground.phase }, { on := 10, ground := Ground.phase }, { on := 11, ground := Ground.phase }, { on := 12, ground := Ground.phase }, { on := 13, ground := Ground.phase }, { on := 14, ground := Ground.phase }, { on := 15, ground := Ground.phase }], guard := none }) (v := ?_) rfl (by kernel_rfl) (by kernel_rfl) (by kernel_rfl) (fun _ _ _ h => h) (Or.inl ⟨by rfl, ?_⟩) hHeld ?_
            rotate_left
            · intro w' hSw
              skip
              go_simp
              with_reducible rfl
            try simp only [Act.put, List.setIfInBounds_toArray, List.set_cons_zero, List.set_cons_succ]
            refine wpAnyH_done (by kernel_rfl) ?_ _
            refine NoPanic.normal ?_
            try simp only [Act.put, List.setIfInBounds_toArray, List.set_cons_zero, List.set_cons_succ]
            go_wp2_with fail
            refine (cr_to D.out HRW.out.1 (some ad) kd _ (false :: ks') rfl (HK.out.news N.out) HK.out.max).mono ?_
            rintro e w7 ⟨rfl, d7, f⟩
            replace N := Lib.hid (N.out.fr f); replace D := Lib.hid d7; clear d7 f e1 e2 e3
            go_wp2_with fail
            refine (ld_down D.out (crash_down (false :: ks')) HLE.out).mono ?_
            rintro e w8 ⟨A8, c8, rfl, _, b8, _⟩
            replace N := Lib.hid (N.out.bl_ D.out.plt b8); replace D := Lib.hid (D.out.bl b8); clear b8
            go_wp2_with fail
            refine (up_to (false :: ks') D.out).mono ?_
            rintro e w9 ⟨rfl, d9, f⟩
            replace N := Lib.hid (N.out.fr f); replace D := Lib.hid d9; clear d9 f
            have e1 := Bl.some' N.out.bl HC1.out; have e2 := Bl.some' N.out.bl HC2.out; have e3 := Bl.some' N.out.bl HC3.out
            have e4 := Bl.some' N.out.bl HC4.out
            have e5 := e4
            rw [show ad.add 0 = ad from by cases ad; rfl] at e5
            cases sm with
            | true =>
              have HN0 := Lib.hid (HSM.out.1 rfl)
              have hn0 := HN0.out
              have hll := HLL.out
              go_wp2_with fail
              refine (ld_good D.out HG.out (by omega)).mono ?_
              rintro e w10 ⟨A10, c10, rfl, s10, b10, _⟩
              replace N := Lib.hid (N.out.bl_ D.out.plt b10); replace D := Lib.hid (D.out.bl b10); clear b10 e1 e2 e3
              try clear e4 e5
              go_wp2_with fail
              refine (same_sl s10 (HL.out.step N.out.bl) (by omega)).mono ?_
              rintro e w11 ⟨rfl, b11⟩
              have N6 := Lib.hid (N.out.bl_ D.out.plt b11); have D6 := Lib.hid (D.out.bl b11); clear b11 s10 N D
              go_wp2
              go_roundw
              case rel => exact ⟨k + 1, n, L, cl, last, true, by omega, by omega, by go_num, rfl, rfl, ⟨_, _, D6.out, HG.out⟩, HL, HLL, ⟨fun _ => hn0, fun _ => rfl⟩, N6⟩
              case measure => simp [intOf]; omega
            | false =>
              have HN0 := Lib.hid (show n = 0 from Decidable.byContradiction fun h => by have := HSM.out.2 h; cases this)
              go_wp2_with fail
              refine (ld_none D.out HG.out HN0.out).mono ?_
              rintro e w10 ⟨A10, c10, rfl, s10, b10, _⟩
              have N6 := Lib.hid (N.out.bl_ D.out.plt b10); have D6 := Lib.hid (D.out.bl b10); clear b10 s10 N D e1 e2 e3
              try clear e4 e5
              go_wp2
              go_roundw
              case rel => exact ⟨k + 1, n, L, cl, last, false, by omega, by omega, by go_num, rfl, rfl, ⟨_, _, D6.out, HG.out⟩, HL, HLL, ⟨fun h => (by cases h), fun h => absurd HN0.out h⟩, N6⟩
              case measure => simp [intOf]; omega
      obtain ⟨j, rfl⟩ := Int.eq_ofNat_of_zero_le (show 0 ≤ st by omega)
      as_aux_lemma =>
        have hne : ¬ (j : Int) = q := by omega
        have hne2 : ¬ (j : Int) = q - 1 := hs2
        obtain ⟨hw1, hw2⟩ := HWQ.out
        have hs3 : (j : Int) < q := by omega
        have hs4 : 0 ≤ (j : Int) := by omega
        have HSV := Lib.hid (sv_run (D.out.bl (Bl.drew wr)) (fun _ _ => trivial) G.out (by omega) B bd _ x rfl ((N.out.bl_ D.out.plt (Bl.drew wr)).sls HX.out) (by omega) (j : Int) j (j : Int) 9 (.inr ⟨by have := HQ2.out; omega, by have := HQ2.out; omega, rfl, rfl⟩))
        have HRW := Lib.hid (run_waits (b' := x) G.out (by omega) (by omega) (j := j) (by have := HQ2.out; omega))
        have ga' := back_no G.out (by omega) (b' := x) (by omega) ks (j := j) (.inr (by have := HQ2.out; omega))
        have HG := Lib.hid ga'
        have HLE := Lib.hid (back_le ga')
        clear ga'
        go_wp2
        refine wp_region_noPanic ?_
        refine wp_region_held_drew (S := (fun w' : World => w'.cell? ⟨g, o + k * 3, none⟩ = some (.slice B x.length bd) ∧ w'.cell? ⟨g, o + k * 3 + 1, none⟩ = some (.int .i64 (j : Int)))) (by kernel_rfl) ⟨e1, e2⟩ (fun hHeld => ?_)
        refine wpAnyH_take (i := 0) (oi := { dst := some 58, op := Op.move (Operand.tmp 3), type := 24, pos := "law.go:94", after := #[], guard := none }) (v := ?_) rfl (by kernel_rfl) (by kernel_rfl) (by kernel_rfl) (fun _ _ _ h => h) (Or.inl ⟨by rfl, ?_⟩) hHeld ?_
        rotate_left
        · intro w' hSw
          obtain ⟨s1, s2⟩ := hSw
          go_simp
          with_reducible rfl
        try simp only [Act.put, List.setIfInBounds_toArray, List.set_cons_zero, List.set_cons_succ]
        refine wpAnyH_take (i := 1) (oi := { dst := some 59, op := Op.move (Operand.tmp 0), type := 37, pos := "law.go:94", after := #[], guard := none }) (v := ?_) rfl (by kernel_rfl) (by kernel_rfl) (by kernel_rfl) (fun _ _ _ h => h) (Or.inl ⟨by rfl, ?_⟩) hHeld ?_
        rotate_left
        · intro w' hSw
          obtain ⟨s1, s2⟩ := hSw
          go_simp
          with_reducible rfl
        try simp only [Act.put, List.setIfInBounds_toArray, List.set_cons_zero, List.set_cons_succ]
        refine wpAnyH_take (i := 2) (oi := { dst := some 60, op := Op.move (Operand.tmp 6), type := 3, pos := "law.go:94", after := #[], guard := none }) (v := ?_) rfl (by kernel_rfl) (by kernel_rfl) (by kernel_rfl) (fun _ _ _ h => h) (Or.inl ⟨by rfl, ?_⟩) hHeld ?_
        rotate_left
        · intro w' hSw
          obtain ⟨s1, s2⟩ := hSw
          go_simp
          with_reducible rfl
        try simp only [Act.put, List.setIfInBounds_toArray, List.set_cons_zero, List.set_cons_succ]
        refine wpAnyH_take (i := 3) (oi := { dst := some 61, op := Op.indexAddr 37 (Operand.tmp 59) (Operand.tmp 60), type := 0, pos := "law.go:94", after := #[{ on := 1, ground := Ground.data }, { on := 2, ground := Ground.data }], guard := none }) (v := ?_) rfl (by kernel_rfl) (by kernel_rfl) (by kernel_rfl) (fun _ _ _ h => h) (Or.inl ⟨by rfl, ?_⟩) hHeld ?_
        rotate_left
        · intro w' hSw
          obtain ⟨s1, s2⟩ := hSw
          go_simp
          with_reducible rfl
        try simp only [Act.put, List.setIfInBounds_toArray, List.set_cons_zero, List.set_cons_succ]
        refine wpAnyH_take (i := 4) (oi := { dst := some 62, op := Op.fieldAddr 40 (Operand.tmp 61) 0, type := 0, pos := "law.go:94", after := #[{ on := 3, ground := Ground.data }], guard := none }) (v := ?_) rfl (by kernel_rfl) (by kernel_rfl) (by kernel_rfl) (fun _ _ _ h => h) (Or.inl ⟨by rfl, ?_⟩) hHeld ?_
        rotate_left
        · intro w' hSw
          obtain ⟨s1, s2⟩ := hSw
          go_simp
          with_reducible rfl
        try simp only [Act.put, List.setIfInBounds_toArray, List.set_cons_zero, List.set_cons_succ]
        refine wpAnyH_take (i := 5) (oi := { dst := some 63, op := Op.load 22 (Operand.tmp 62), type := 22, pos := "law.go:94", after := #[{ on := 4, ground := Ground.data }], guard := none }) (v := ?_) rfl (by kernel_rfl) (by kernel_rfl) (by kernel_rfl) (fun _ _ _ h => h) (Or.inl ⟨by rfl, ?_⟩) hHeld ?_
        rotate_left
        · intro w' hSw
          obtain ⟨s1, s2⟩ := hSw
          go_simp
          with_reducible rfl
        try simp only [Act.put, List.setIfInBounds_toArray, List.set_cons_zero, List.set_cons_succ]
        refine wpAnyH_take (i := 6) (oi := { dst := some 64, op := Op.move (Operand.tmp 0), type := 37, pos := "law.go:94", after := #[], guard := none }) (v := ?_) rfl (by kernel_rfl) (by kernel_rfl) (by kernel_rfl) (fun _ _ _ h => h) (Or.inl ⟨by rfl, ?_⟩) hHeld ?_
        rotate_left
        · intro w' hSw
          obtain ⟨s1, s2⟩ := hSw
          go_simp
          with_reducible rfl
        try simp only [Act.put, List.setIfInBounds_toArray, List.set_cons_zero, List.set_cons_succ]
        refine wpAnyH_take (i := 7) (oi := { dst := some 65, op := Op.move (Operand.tmp 6), type := 3, pos := "law.go:94", after := #[], guard := none }) (v := ?_) rfl (by kernel_rfl) (by kernel_rfl) (by kernel_rfl) (fun _ _ _ h => h) (Or.inl ⟨by rfl, ?_⟩) hHeld ?_
        rotate_left
        · intro w' hSw
          obtain ⟨s1, s2⟩ := hSw
          go_simp
          with_reducible rfl
        try simp only [Act.put, List.setIfInBounds_toArray, List.set_cons_zero, List.set_cons_succ]
        refine wpAnyH_take (i := 8) (oi := { dst := some 66, op := Op.indexAddr 37 (Operand.tmp 64) (Operand.tmp 65), type := 0, pos := "law.go:94", after := #[{ on := 6, ground := Ground.data }, { on := 7, ground := Ground.data }], guard := none }) (v := ?_) rfl (by kernel_rfl) (by kernel_rfl) (by kernel_rfl) (fun _ _ _ h => h) (Or.inl ⟨by rfl, ?_⟩) hHeld ?_
        rotate_left
        · intro w' hSw
          obtain ⟨s1, s2⟩ := hSw
          go_simp
          with_reducible rfl
        try simp only [Act.put, List.setIfInBounds_toArray, List.set_cons_zero, List.set_cons_succ]
        refine wpAnyH_take (i := 9) (oi := { dst := some 67, op := Op.fieldAddr 40 (Operand.tmp 66) 1, type := 0, pos := "law.go:94", after := #[{ on := 8, ground := Ground.data }], guard := none }) (v := ?_) rfl (by kernel_rfl) (by kernel_rfl) (by kernel_rfl) (fun _ _ _ h => h) (Or.inl ⟨by rfl, ?_⟩) hHeld ?_
        rotate_left
        · intro w' hSw
          obtain ⟨s1, s2⟩ := hSw
          go_simp
          with_reducible rfl
        try simp only [Act.put, List.setIfInBounds_toArray, List.set_cons_zero, List.set_cons_succ]
        refine wpAnyH_take (i := 10) (oi := { dst := some 68, op := Op.load 3 (Operand.tmp 67), type := 3, pos := "law.go:94", after := #[{ on := 9, ground := Ground.data }], guard := none }) (v := ?_) rfl (by kernel_rfl) (by kernel_rfl) (by kernel_rfl) (fun _ _ _ h => h) (Or.inl ⟨by rfl, ?_⟩) hHeld ?_
        rotate_left
        · intro w' hSw
          obtain ⟨s1, s2⟩ := hSw
          go_simp
          with_reducible rfl
        try simp only [Act.put, List.setIfInBounds_toArray, List.set_cons_zero, List.set_cons_succ]
        refine wpAnyH_ready (rs := [11]) (by kernel_rfl) (by simp) ?_
        refine AllReadyH.cons (o := { dst := some 69, op := Op.call { callee := Callee.value (Operand.func 9), args := #[Operand.tmp 58, Operand.tmp 63, Operand.tmp 68], argTypes := #[24, 22, 3] }, type := 27, pos := "law.go:94", after := #[{ on := 0, ground := Ground.data }, { on := 5, ground := Ground.data }, { on := 10, ground := Ground.data }], guard := none }) rfl (fun K hK => ?_) AllReadyH.nil
        go_simp
        refine HSV.out.mono ?_
        rintro e w6 ⟨rfl, d6, f⟩
        replace N := Lib.hid ((N.out.bl_ D.out.plt (Bl.drew wr)).fr f); replace D := Lib.hid d6; clear d6 f HSV e1 e2 e3
        have e1 := Bl.some' N.out.bl HC1.out; have e2 := Bl.some' N.out.bl HC2.out; have e3 := Bl.some' N.out.bl HC3.out
        try go_wp2_with fail
        refine hK.out _ _ ⟨e1, e2⟩ (fun hHeld => ?_)
        clear hK K
        try simp only [Act.put, List.setIfInBounds_toArray, List.set_cons_zero, List.set_cons_succ]
        refine wpAnyH_take (i := 12) (oi := { dst := some 57, op := Op.move (Operand.tmp 69), type := 27, pos := "law.go:94", after := #[{ on := 11, ground := Ground.data }], guard := none }) (v := ?_) rfl (by kernel_rfl) (by kernel_rfl) (by kernel_rfl) (fun _ _ _ h => h) (Or.inl ⟨by rfl, ?_⟩) hHeld ?_
        rotate_left
        · intro w' hSw
          skip
          go_simp
          with_reducible rfl
        try simp only [Act.put, List.setIfInBounds_toArray, List.set_cons_zero, List.set_cons_succ]
        refine wpAnyH_take (i := 13) (oi := { dst := some 70, op := Op.extract (Operand.tmp 57) 0, type := 3, pos := "law.go:94", after := #[{ on := 12, ground := Ground.data }], guard := none }) (v := ?_) rfl (by kernel_rfl) (by kernel_rfl) (by kernel_rfl) (fun _ _ _ h => h) (Or.inl ⟨by rfl, ?_⟩) hHeld ?_
        rotate_left
        · intro w' hSw
          skip
          go_simp
          with_reducible rfl
        try simp only [Act.put, List.setIfInBounds_toArray, List.set_cons_zero, List.set_cons_succ]
        refine wpAnyH_take (i := 14) (oi := { dst := some 71, op := Op.extract (Operand.tmp 57) 1, type := 26, pos := "law.go:94", after := #[{ on := 12, ground := Ground.data }, { on := 15, ground := Ground.gcOnly Departure.lateStores }], guard := none }) (v := ?_) rfl (by kernel_rfl) (by kernel_rfl) (by kernel_rfl) (fun _ _ _ h => h) (Or.inl ⟨by rfl, ?_⟩) hHeld ?_
        rotate_left
        · intro w' hSw
          skip
          go_simp
          with_reducible rfl
        try simp only [Act.put, List.setIfInBounds_toArray, List.set_cons_zero, List.set_cons_succ]
        refine wpAnyH_take (i := 15) (oi := { dst := some 8, op := Op.assign (Operand.tmp 70), type := 3, pos := "law.go:94", after := #[{ on := 13, ground := Ground.data }, { on := 11, ground := Ground.chain }, { on := 0, ground := Ground.phase }, { on := 1, ground := Ground.phase }, { on := 2, ground := Ground.phase }, { on := 3, ground := Ground.phase }, { on := 4, ground := Ground.phase }, { on := 5, ground := Ground.phase }, { on := 6, ground := Ground.phase }, { on := 7, ground := Ground.phase }, { on := 8, ground := Ground.phase }, { on := 9, ground := Ground.phase }, { on := 10, ground := Ground.phase }, { on := 11, ground := Ground.phase }, { on := 12, ground := Ground.phase }, { on := 13, ground := Ground.phase }, { on := 14, ground := Ground.textOnly Departure.lateStores }], guard := none }) (v := ?_) rfl (by kernel_rfl) (by kernel_rfl) (by kernel_rfl) (fun _ _ _ h => h) (Or.inl ⟨by rfl, ?_⟩) hHeld ?_
        rotate_left
        · intro w' hSw
          skip
          go_simp
          with_reducible rfl
        try simp only [Act.put, List.setIfInBounds_toArray, List.set_cons_zero, List.set_cons_succ]
        refine wpAnyH_take (i := 16) (oi := { dst := some 9, op := Op.assign (Operand.tmp 71), type := 26, pos := "law.go:94", after := #[{ on := 14, ground := Ground.data }, { on := 15, ground := Ground.chain }, { on := 0, ground := Ground.phase }, { on := 1, ground := Ground.phase }, { on := 2, ground := Ground.phase }, { on := 3, ground := Ground.phase }, { on := 4, ground := Ground.phase }, { on := 5, ground := Ground.phase }, { on := 6, ground := Ground.phase }, { on := 7, ground := Ground.phase }, { on := 8, ground := Ground.phase }, { on := 9, ground := Ground.phase }, { on := 10, ground := Ground.phase }, { on := 11, ground := Ground.phase }, { on := 12, ground := Ground.phase }, { on := 13, ground := Ground.phase }, { on := 14, ground := Ground.phase }, { on := 15, ground := Ground.phase }], guard := none }) (v := ?_) rfl (by kernel_rfl) (by kernel_rfl) (by kernel_rfl) (fun _ _ _ h => h) (Or.inl ⟨by rfl, ?_⟩) hHeld ?_
        rotate_left
        · intro w' hSw
          skip
          go_simp
          with_reducible rfl
        try simp only [Act.put, List.setIfInBounds_toArray, List.set_cons_zero, List.set_cons_succ]
        refine wpAnyH_done (by kernel_rfl) ?_ _
        refine NoPanic.normal ?_
        try simp only [Act.put, List.setIfInBounds_toArray, List.set_cons_zero, List.set_cons_succ]
        go_wp2_with fail
        refine (cr_to D.out HRW.out.1 K kd _ ks rfl (HK.out.news N.out) HK.out.max).mono ?_
        rintro e w7 ⟨rfl, d7, f⟩
        replace N := Lib.hid (N.out.fr f); replace D := Lib.hid d7; clear d7 f e1 e2 e3
        go_wp2_with fail
        refine (ld_down D.out (crash_down ks) HLE.out).mono ?_
        rintro e w8 ⟨A8, c8, rfl, _, b8, _⟩
        replace N := Lib.hid (N.out.bl_ D.out.plt b8); replace D := Lib.hid (D.out.bl b8); clear b8
        go_wp2_with fail
        refine (up_to ks D.out).mono ?_
        rintro e w9 ⟨rfl, d9, f⟩
        replace N := Lib.hid (N.out.fr f); replace D := Lib.hid d9; clear d9 f
        have e1 := Bl.some' N.out.bl HC1.out; have e2 := Bl.some' N.out.bl HC2.out; have e3 := Bl.some' N.out.bl HC3.out
        cases sm with
        | true =>
          have HN0 := Lib.hid (HSM.out.1 rfl)
          have hn0 := HN0.out
          have hll := HLL.out
          go_wp2_with fail
          refine (ld_good D.out HG.out (by omega)).mono ?_
          rintro e w10 ⟨A10, c10, rfl, s10, b10, _⟩
          replace N := Lib.hid (N.out.bl_ D.out.plt b10); replace D := Lib.hid (D.out.bl b10); clear b10 e1 e2 e3
          try clear e4 e5
          go_wp2_with fail
          refine (same_sl s10 (HL.out.step N.out.bl) (by omega)).mono ?_
          rintro e w11 ⟨rfl, b11⟩
          have N6 := Lib.hid (N.out.bl_ D.out.plt b11); have D6 := Lib.hid (D.out.bl b11); clear b11 s10 N D
          go_wp2
          go_roundw
          case rel => exact ⟨k + 1, n, L, cl, last, true, by omega, by omega, by go_num, rfl, rfl, ⟨_, _, D6.out, HG.out⟩, HL, HLL, ⟨fun _ => hn0, fun _ => rfl⟩, N6⟩
          case measure => simp [intOf]; omega
        | false =>
          have HN0 := Lib.hid (show n = 0 from Decidable.byContradiction fun h => by have := HSM.out.2 h; cases this)
          go_wp2_with fail
          refine (ld_none D.out HG.out HN0.out).mono ?_
          rintro e w10 ⟨A10, c10, rfl, s10, b10, _⟩
          have N6 := Lib.hid (N.out.bl_ D.out.plt b10); have D6 := Lib.hid (D.out.bl b10); clear b10 s10 N D e1 e2 e3
          try clear e4 e5
          go_wp2
          go_roundw
          case rel => exact ⟨k + 1, n, L, cl, last, false, by omega, by omega, by go_num, rfl, rfl, ⟨_, _, D6.out, HG.out⟩, HL, HLL, ⟨fun h => (by cases h), fun h => absurd HN0.out h⟩, N6⟩
          case measure => simp [intOf]; omega
    · obtain ⟨D', a, dd, gg⟩ := HD.out
      have PL := Lib.hid dd.plt
      clear dd gg HD
      go_wp2_with fail
      refine (alive25 _).mono ?_
      rintro e w4 ⟨rfl, b4⟩
      have N4 := Lib.hid (N.out.bl_ PL.out b4); clear b4 N
      go_wp2
      go_ret
      exact ⟨rfl, N4.out.bl⟩
end Go.Proofs.Ytebillkojmafoaa
