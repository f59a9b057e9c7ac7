/- The contracts of slices.Chunk and of what it gives. -/
import Derived.Test.YtebillkojmafoaaSave2
import Derived.RangeFuncBox
import Derived.RangeFuncLeaves
import Derived.RangeFuncCalls
import Derived.RangeFuncNested
import Derived.Shelf.Abstract
import Derived.Shelf.RegionOpen
import Derived.WalkKit
import Derived.OwnWalkIn
import Derived.TacticsInMore
import Derived.LoopNIn
import Derived.LoopIn
namespace Go.Proofs.Ytebillkojmafoaa
open Go.RowKit
set_option linter.unusedVariables false
attribute [local go_sem] Oper.semAt_some

/-- The k-th part of a slice. -/
def partV (ad : Option Addr) (len k : Nat) : Value := .slice (ad.map (·.add (64 * k))) (min 64 (len - 64 * k)) (min 64 (len - 64 * k))

set_option maxRecDepth 100000 in
set_option maxHeartbeats 2000000 in
theorem chunk1_any (n l2 Bs Bn len cap : Nat) (A : Option Addr) (hA : 0 < len → ∃ ad, A = some ad) (hlen : len ≤ 1984) (hcap : len ≤ cap) (J : Nat → World → Prop) (Jx : World → Prop)
    (hJd : ∀ k W n, J k W → J k (W.drewN n)) (hJc : ∀ k W, J k W → W.cell? ⟨Bs, 0, none⟩ = some (.slice A len cap) ∧ W.cell? ⟨Bn, 0, none⟩ = some (.int .i64 64))
    (hY : ∀ k W, k < (len + 63) / 64 → J k W → YieldAt Fence.wide (n - 1) Try.prog l2 #[partV A len k] W fun e W' => (e = .returned (.bool true) ∧ J (k + 1) W') ∨ (e = .returned (.bool false) ∧ Jx W'))
    (W : World) (h0 : J 0 W) :
    CallsIn Fence.wide n Try.prog 31 #[.func (.yield l2) #[] #[], .pointer (some ⟨Bs, 0, none⟩), .pointer (some ⟨Bn, 0, none⟩)] W fun e W' => (∃ v, e = .returned v) ∧ (J ((len + 63) / 64) W' ∨ Jx W') := by
  have hmix : Try.prog.follows .mixedOrders = true := by kernel_rfl
  obtain ⟨M, hM⟩ : ∃ M, M = (len + 63) / 64 := ⟨_, rfl⟩
  have HM := Lib.hid hM
  rw [← hM] at hY ⊢
  clear hM
  refine callsIn_of_wp Try.func31 rfl trivial ?_ rfl
  simp only [Try.ntmps31, List.size_toArray, List.length_cons, List.length_nil, Nat.reduceAdd, Nat.reduceSub, Array.replicate_succ, Array.replicate_zero, List.push_toArray, List.append_toArray, List.nil_append, List.cons_append]
  gi_wp2
  gi_loopw [4] (fun i wr => ∃ k : Nat, k ≤ M ∧ i = .int .i64 ((64 * k : Nat) : Int) ∧ Hid (J k wr)) (fun i _ => 64 * M - (intOf i).toNat)
  case atStart => exact ⟨0, Nat.zero_le _, rfl, h0⟩
  case round =>
    obtain ⟨k, hk, rfl, HJ⟩ := hrel
    obtain ⟨x1, x2⟩ := hJc _ _ HJ.out
    by_cases hlt : k < M
    · have hkl : 64 * k < len := by have := HM.out; omega
      obtain ⟨ad, rfl⟩ := hA (by omega)
      have g1 : ((64 * k : Nat) : Int) < (len : Int) := by omega
      have g0 : (0 : Int) ≤ ((64 * k : Nat) : Int) := by omega
      have g2 : ((64 * k : Nat) : Int) ≤ (len : Int) := by omega
      have g3 : ((64 * k : Nat) : Int) ≤ (cap : Int) := by omega
      have hY' := hY k
      by_cases hs : len - 64 * k < 64
      · rw [show partV (some ad) len k = .slice (some (ad.add (64 * k))) (len - 64 * k) (len - 64 * k) from by unfold partV; rw [Nat.min_eq_right (by omega)]; rfl] at hY'
        have hs' : ((len - 64 * k : Nat) : Int) < 64 := by omega
        gi_wp2
        gi_big_quiet_th_o (fail)
        obtain ⟨fn, tmps, assign, body, hy, hR⟩ := hY' _ hlt (hJd k wr nq HJ.out)
        gi_wp2
        refine ⟨fun h => absurd h (by decide), hR.mono ?_⟩
        rintro e W3 (⟨rfl, hJ3⟩ | ⟨rfl, hJx3⟩)
        · obtain ⟨y1, y2⟩ := hJc _ _ hJ3
          have HJ3 := Lib.hid hJ3
          clear hJ3 hR hy x1 x2
          gi_wp2
          go_roundw
          case rel => exact ⟨k + 1, by omega, by congr 1, HJ3⟩
          case measure => simp [intOf]; omega
        · gi_wp2
          refine bodyPost_ret (results_none rfl _ _ _) rfl ?_
          exact ⟨⟨_, rfl⟩, .inr hJx3⟩
      · rw [show partV (some ad) len k = .slice (some (ad.add (64 * k))) 64 64 from by unfold partV; rw [Nat.min_eq_left (by omega)]; rfl] at hY'
        have hs' : ¬ ((len - 64 * k : Nat) : Int) < 64 := by omega
        gi_wp2
        gi_big_quiet_th_o (fail)
        obtain ⟨fn, tmps, assign, body, hy, hR⟩ := hY' _ hlt (hJd k wr nq HJ.out)
        gi_wp2
        refine ⟨fun h => absurd h (by decide), hR.mono ?_⟩
        rintro e W3 (⟨rfl, hJ3⟩ | ⟨rfl, hJx3⟩)
        · obtain ⟨y1, y2⟩ := hJc _ _ hJ3
          have HJ3 := Lib.hid hJ3
          clear hJ3 hR hy x1 x2
          gi_wp2
          go_roundw
          case rel => exact ⟨k + 1, by omega, by congr 1, HJ3⟩
          case measure => simp [intOf]; omega
        · gi_wp2
          refine bodyPost_ret (results_none rfl _ _ _) rfl ?_
          exact ⟨⟨_, rfl⟩, .inr hJx3⟩
    · obtain rfl : k = M := by omega
      have g1 : ¬ ((64 * k : Nat) : Int) < (len : Int) := by have := HM.out; omega
      gi_wp2
      go_end0
      exact ⟨⟨_, rfl⟩, .inl HJ.out⟩

theorem chunk_any (A : Option Addr) (len cap : Nat) (w : World) : Calls Try.prog 24 #[.slice A len cap, .int .i64 64] w fun e w' =>
    e = .returned (.func (.func 31) #[] #[.pointer (some ⟨w.heap.size, 0, none⟩), .pointer (some ⟨w.heap.size + 1, 0, none⟩)]) ∧ w' = (w.alloc (.cells #[.slice A len cap] 22)).alloc (.cells #[.int .i64 64] 3) := by
  go_enter Try.func24, Try.ntmps24
  go_wp2
  go_ret
  exact ⟨rfl, rfl⟩
end Go.Proofs.Ytebillkojmafoaa
