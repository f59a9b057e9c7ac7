/- The contract of ratchetref21.Few. -/
import Derived.Test.YtigicphmnlkjfaaMany
namespace Go.Proofs.Ytigicphmnlkjfaa
open Go.RowKit
set_option linter.unusedVariables false

set_option maxRecDepth 100000 in
set_option maxHeartbeats 1000000 in
theorem few_any {w : World} {A : Option Addr} {c : Nat} {x : ConfP} (h : CF w A c x) :
    Calls Try.prog 8 #[x.v A c] w fun e w' => e = .returned (.bool (fewC x)) ∧ Bl w w' := by
  obtain ⟨f, clip, ⟨k1, k2, k3, k4⟩, ⟨l1, l2, l3, l4⟩, gs⟩ := x
  have hg : Groups w A gs := h.gs
  obtain ⟨_, _, _, _, hok, hlen⟩ := h.ok
  simp only at hok hlen
  have HG := Lib.hid hg
  have HOK := Lib.hid hok
  obtain ⟨b, hb⟩ : ∃ b, b = fewC ⟨f, clip, ⟨k1, k2, k3, k4⟩, ⟨l1, l2, l3, l4⟩, gs⟩ := ⟨_, rfl⟩
  rw [← hb]
  have HB : Hid (b = decide (gs.length ≤ 10 ∧ ∀ g ∈ gs, fewG g)) := Lib.hid hb
  clear h hok hg hb
  unfold ConfP.v
  go_enter Try.func8, Try.ntmps8
  by_cases h10 : gs.length ≤ 10
  · go_wp2
    go_loop [3] (fun i => ∃ k : Nat, k ≤ gs.length ∧ i = .int .i64 k ∧ Hid (∀ j, (hj : j < gs.length) → j < k → fewG gs[j])) (fun i => gs.length - (intOf i).toNat)
    case atStart => exact ⟨0, Nat.zero_le _, rfl, fun j hj h => absurd h (by omega)⟩
    case round =>
      obtain ⟨k, hk, rfl, HS⟩ := hrel
      by_cases hlt : k < gs.length
      · obtain ⟨g, o, P, d, rfl, hs, hc, hp, hcap⟩ := HG.out.at_ hlt
        have c22 := hc 22 _ rfl
        have hne : g ≠ w.heap.size := by omega
        have hp10 := (HOK.out _ (List.getElem_mem hlt)).2.2.2
        have HPok := Lib.hid (HOK.out _ (List.getElem_mem hlt)).2.2.1
        have HP := Lib.hid hp
        obtain ⟨ps, hps⟩ : ∃ ps, ps = gs[k].params := ⟨_, rfl⟩
        have HPS := Lib.hid hps
        rw [← hps] at HP HPok c22 hp10
        clear hc hp hps hcap
        by_cases hp10' : ps.length ≤ 10
        · go_wp2
          go_loop [4] (fun i => ∃ j : Nat, j ≤ ps.length ∧ i = .int .i64 j ∧ Hid (∀ n, (hn : n < ps.length) → n < j → ps[n].name.size ≤ 40)) (fun i => ps.length - (intOf i).toNat)
          case atStart => exact ⟨0, Nat.zero_le _, rfl, fun j hj h => absurd h (by omega)⟩
          case round =>
            obtain ⟨j, hj, rfl, HT⟩ := hrel
            by_cases hjl : j < ps.length
            · obtain ⟨g2, o2, rfl, q0, q1, q2⟩ := HP.out.at_ hjl
              have hs2 : g2 < w.heap.size := block_lt_of_cell q0
              have hg2 : g2 ≠ w.heap.size := by omega
              have hnm := (HPok.out _ (List.getElem_mem hjl)).2.2
              obtain ⟨nm, hnm'⟩ : ∃ nm, nm = ps[j].name := ⟨_, rfl⟩
              rw [← hnm'] at q0 hnm
              have HNM := Lib.hid hnm'
              clear hnm' q1 q2
              by_cases h40 : nm.size ≤ 40
              · have HT2 : Hid (∀ n, (hn : n < ps.length) → n < j + 1 → ps[n].name.size ≤ 40) := fun n hn h => by
                  by_cases e : n < j
                  · exact HT.out n hn e
                  · obtain rfl : n = j := by omega
                    rw [← HNM.out]; exact h40
                clear HT
                have i40 : (nm.size : Int) ≤ 40 := by omega
                go_wp2
                go_round
                case rel => exact ⟨j + 1, by omega, by go_num, HT2⟩
                case measure => simp [intOf]; omega
              · have HF : Hid (b = false) := by
                  show _ = _
                  rw [HB.out, decide_eq_false_iff_not]
                  intro ⟨_, h⟩
                  have h := (h _ (List.getElem_mem hlt)).2 ps[j] (by rw [← HPS.out]; exact List.getElem_mem hjl)
                  rw [← HNM.out] at h
                  exact h40 h
                clear HT
                go_wp2
                go_ret
                exact ⟨by rw [HF.out]; rfl, Bl.alloc _ _⟩
            · have HS2 : Hid (∀ j, (hj : j < gs.length) → j < k + 1 → fewG gs[j]) := fun j hj h => by
                by_cases e : j < k
                · exact HS.out j hj e
                · obtain rfl : j = k := by omega
                  refine ⟨by rw [← HPS.out]; exact hp10', fun p hp => ?_⟩
                  rw [← HPS.out] at hp
                  obtain ⟨n, hn, rfl⟩ := List.getElem_of_mem hp
                  exact HT.out n hn (by omega)
              clear HT HS
              go_wp2
              go_round
              case rel => exact ⟨k + 1, by omega, by go_num, HS2⟩
              case measure => simp [intOf]; omega
        · have HF : Hid (b = false) := by
            show _ = _
            rw [HB.out, decide_eq_false_iff_not]
            intro ⟨_, h⟩
            have h := (h _ (List.getElem_mem hlt)).1
            rw [← HPS.out] at h
            exact hp10' h
          clear HS HP HPok
          go_wp2
          go_ret
          exact ⟨by rw [HF.out]; rfl, Bl.alloc _ _⟩
      · have HF : Hid (b = true) := by
          show _ = _
          rw [HB.out, decide_eq_true_iff]
          refine ⟨h10, fun g hg => ?_⟩
          obtain ⟨n, hn, rfl⟩ := List.getElem_of_mem hg
          exact HS.out n hn (by omega)
        clear HS
        go_wp2
        go_ret
        exact ⟨by rw [HF.out]; rfl, Bl.alloc _ _⟩
  · have HF : Hid (b = false) := by
      show _ = _
      rw [HB.out, decide_eq_false_iff_not]
      intro ⟨h, _⟩
      exact h10 h
    go_wp2
    go_ret
    exact ⟨by rw [HF.out]; rfl, Bl.alloc _ _⟩
end Go.Proofs.Ytigicphmnlkjfaa
