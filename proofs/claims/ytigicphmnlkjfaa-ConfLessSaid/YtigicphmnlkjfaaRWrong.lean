/- The contract of ratchetref21.params. -/
import Derived.Test.YtigicphmnlkjfaaParams
namespace Go.Proofs.Ytigicphmnlkjfaa
open Go.RowKit
set_option linter.unusedVariables false

theorem str_beq (a b : ByteArray) : (a.toList == b.toList) = decide (a = b) := by
  rw [Lib.toList_data, Lib.toList_data]
  by_cases e : a = b
  · subst e; simp
  · rw [decide_eq_false e]
    apply beq_false_of_ne
    exact fun h => e (bytes_eq h)

set_option maxRecDepth 100000 in
set_option maxHeartbeats 4000000 in
theorem rparams_any {w : World} {A : Option Addr} {c : Nat} {l : List ParamP} (h : Params w A l) (hok : ∀ p ∈ l, p.ok) (hl : l.length ≤ 1000) :
    Calls Try.prog 35 #[.slice A l.length c] w fun e w' => e = .returned (.int .i64 (badP l)) ∧ Bl w w' := by
  have HP := Lib.hid h
  have HOK := Lib.hid hok
  obtain ⟨r, hr⟩ : ∃ r, r = badP l := ⟨_, rfl⟩
  rw [← hr]
  have HR : Hid (r = badF (l.take 0) (l.drop 0)) := Lib.hid hr
  clear h hr hok
  go_enter Try.func35, Try.ntmps35
  go_wp2
  go_loopw [3, 4] (fun s i wr => ∃ (k : Nat) (m : Int), k ≤ l.length ∧ i = .int .i64 k ∧ s = .int .i64 m ∧ 0 ≤ m ∧ m ≤ 512 ∧ Hid (m = sumP (l.take k)) ∧ Hid (r = badF (l.take k) (l.drop k)) ∧ Hid (Bl w wr)) (fun _ i _ => l.length - (intOf i).toNat)
  case atStart => exact ⟨0, 0, Nat.zero_le _, rfl, rfl, by omega, by omega, Lib.hid rfl, HR, Lib.hid (Bl.refl _)⟩
  case round =>
    clear HR
    obtain ⟨k, m, hk, rfl, rfl, hm0, hm1, HM, HR, HB⟩ := hrel
    by_cases hlt : k < l.length
    · obtain ⟨g2, o2, rfl, hrg⟩ := (HP.out.step HB.out).range hlt
      have hpok := HOK.out _ (List.getElem_mem hlt)
      obtain ⟨p, hp⟩ : ∃ p, p = l[k] := ⟨_, rfl⟩
      rw [← hp] at hrg hpok
      have HR2 : Hid (r = badF (l.take k) (p :: l.drop (k + 1))) := Lib.hid (by rw [HR.out, hp, List.drop_eq_getElem_cons hlt])
      have HT : Hid (l.take (k + 1) = l.take k ++ [p]) := Lib.hid (by rw [hp, List.take_succ_eq_append_getElem hlt])
      have HKL : Hid ((l.take k).length = k) := Lib.hid (by rw [List.length_take]; omega)
      obtain ⟨nm, rows, cols⟩ := p
      have hsz : nm.size ≤ 9223372036854775807 := hpok.2.2
      have hrw := hpok.1.bd; have hcw := hpok.2.1.bd
      simp only at hrw hcw
      obtain ⟨us2, hus2⟩ : ∃ us2, us2 = (ParamP.cs ⟨nm, rows, cols⟩) := ⟨_, rfl⟩
      have hlen : us2.length = 3 := by rw [hus2]; rfl
      have hone : us2.toArray.all (·.oneCell') = true := by rw [hus2]; simp [ParamP.cs, Value.oneCell']
      have h0 : us2[0]? = some (.string nm) := by rw [hus2]; rfl
      have h1 : us2[1]? = some (.int .i64 rows) := by rw [hus2]; rfl
      have h2 : us2[2]? = some (.int .i64 cols) := by rw [hus2]; rfl
      rw [← hus2] at hrg
      obtain ⟨hk1, hb1⟩ := prm_copied wr us2
      have c0 := hk1.cell 0; have c1 := hk1.cell 1; have c2 := hk1.cell 2
      rw [List.getElem?_toArray] at c0 c1 c2
      rw [h0] at c0
      rw [h1] at c1
      rw [h2] at c2
      have HRg := Lib.hid hrg
      have HZ := Lib.hid (Blk.new wr 56 zp.toArray)
      have hz := zero_p
      have HL := Lib.hid hlen
      have HO := Lib.hid hone
      have HB1 := Lib.hid (HB.out.trans hb1)
      have HLt := Lib.hid hk1.lt
      have RF : ∀ k', k' = k → (r = ((l.take k).length : Nat) → Ending.returned (.int .i64 (k' : Nat)) = .returned (.int .i64 r)) := fun k' e h => ret_i (by rw [h, HKL.out, e])
      have HRF := Lib.hid RF
      clear hrg hk1 hb1 hus2 hlen hone hp HR h0 h1 h2 hpok RF
      by_cases q1 : NameP nm
      rotate_left
      · have HF1 := Lib.hid (HRF.out k rfl (by rw [HR2.out]; exact badF_bad (fun h => q1 h.1) _))
        go_wp2_with (first
          | (refine wpList_load_mid rfl 56 (.tmp 15) rfl g2 (o2 + k * 3) rfl us2 _ HRg.out Try.underlying56 rfl (by rw [HL.out]; exact p_size) ?_)
          | (refine wpList_store_row rfl 56 (.tmp 5) (.tmp 16) rfl wr.heap.size us2.toArray rfl rfl 56 zp.toArray HZ.out (by simpa [HL.out] using p_size) (by simp [HL.out, zp]) HO.out ?_)
          | fail)
        refine (risName_to nm false (decide_eq_false q1).symm _ hsz).mono ?_
        rintro e w2 ⟨rfl, rfl⟩
        go_wp2
        go_ret
        exact ⟨HF1.out, HB1.out⟩
      by_cases q3 : (1 ≤ rows ∧ rows ≤ 512) ∧ (1 ≤ cols ∧ cols ≤ 512)
      rotate_left
      · have HF1 := Lib.hid (HRF.out k rfl (by rw [HR2.out]; exact badF_bad (fun h => q3 ⟨h.2.1, h.2.2.1⟩) _))
        go_wp2_with (first
          | (refine wpList_load_mid rfl 56 (.tmp 15) rfl g2 (o2 + k * 3) rfl us2 _ HRg.out Try.underlying56 rfl (by rw [HL.out]; exact p_size) ?_)
          | (refine wpList_store_row rfl 56 (.tmp 5) (.tmp 16) rfl wr.heap.size us2.toArray rfl rfl 56 zp.toArray HZ.out (by simpa [HL.out] using p_size) (by simp [HL.out, zp]) HO.out ?_)
          | fail)
        refine (risName_to nm true (decide_eq_true q1).symm _ hsz).mono ?_
        rintro e w2 ⟨rfl, rfl⟩
        clear HRg HZ hz HL HO
        by_cases r1 : rows < 1
        · go_wp2
          go_ret
          exact ⟨HF1.out, HB1.out⟩
        by_cases r2 : cols < 1
        · go_wp2
          go_ret
          exact ⟨HF1.out, HB1.out⟩
        by_cases r3 : 512 < rows
        · go_wp2
          go_ret
          exact ⟨HF1.out, HB1.out⟩
        have r4 : 512 < cols := by omega
        go_wp2
        go_ret
        exact ⟨HF1.out, HB1.out⟩
      obtain ⟨hp1, hp2⟩ := side_mul q3.1 q3.2
      have HQ := Lib.hid (And.intro q1 q3)
      have r1 : ¬ rows < 1 := by omega
      have r2 : ¬ cols < 1 := by omega
      have r3 : ¬ 512 < rows := by omega
      have r4 : ¬ 512 < cols := by omega
      clear q3
      go_wp2_with (first
        | (refine wpList_load_mid rfl 56 (.tmp 15) rfl g2 (o2 + k * 3) rfl us2 _ HRg.out Try.underlying56 rfl (by rw [HL.out]; exact p_size) ?_)
        | (refine wpList_store_row rfl 56 (.tmp 5) (.tmp 16) rfl wr.heap.size us2.toArray rfl rfl 56 zp.toArray HZ.out (by simpa [HL.out] using p_size) (by simp [HL.out, zp]) HO.out ?_)
        | fail)
      refine (risName_to nm true (decide_eq_true q1).symm _ hsz).mono ?_
      rintro e w2 ⟨rfl, rfl⟩
      clear HRg HZ hz HL HO q1
      by_cases q5 : 512 < m + rows * cols
      · have HF1 := Lib.hid (HRF.out k rfl (by rw [HR2.out]; exact badF_bad (fun h => by have := h.2.2.2.1; rw [← HM.out] at this; simp only at this; omega) _))
        go_wp2
        go_ret
        exact ⟨HF1.out, HB1.out⟩
      go_wp2
      have HC0 : Hid (∀ n, (((wr.alloc (.cells zp.toArray 56)).setRow wr.heap.size us2.toArray).drewN n).cell? ⟨wr.heap.size, 0, none⟩ = some (.string nm)) := Lib.hid fun n => c0
      have HPl : Hid (∀ n, Bl w (((wr.alloc (.cells zp.toArray 56)).setRow wr.heap.size us2.toArray).drewN n)) := Lib.hid fun n => HB1.out.trans (Bl.drewN _ _)
      generalize ((wr.alloc (.cells zp.toArray 56)).setRow wr.heap.size us2.toArray) = W1 at *
      clear c0 c1 c2
      go_loopw [6] (fun i w' => ∃ (t n : Nat), t ≤ k ∧ i = .int .i64 t ∧ w' = W1.drewN n ∧ Hid (∀ q ∈ l.take t, q.name ≠ nm)) (fun i _ => k - (intOf i).toNat)
      case atStart => exact ⟨0, 0, Nat.zero_le _, rfl, rfl, Lib.hid (fun q hq => by simp at hq)⟩
      case round =>
        obtain ⟨t, n, ht, rfl, rfl, HN⟩ := hrel
        by_cases htk : t < k
        · obtain ⟨g3, o3, e3, n0, _, _⟩ := (HP.out.step (HPl.out n)).at_ (show t < l.length by omega)
          injection e3 with e3
          injection e3 with e3 e4
          subst e3 e4
          have c0 := HC0.out n
          obtain ⟨nt, hnt⟩ : ∃ nt, nt = (l[t]).name := ⟨_, rfl⟩
          rw [← hnt] at n0
          replace n0 : W1.cell? ⟨g2, o2 + t * 3, none⟩ = some (.string nt) := n0
          replace c0 : W1.cell? ⟨wr.heap.size, 0, none⟩ = some (.string nm) := c0
          have HNT := Lib.hid hnt
          have i1 : (t : Int) < (l.length : Int) := by omega
          clear hnt
          by_cases e : nt = nm
          · have he : (nt.toList == nm.toList) = true := by rw [str_beq]; exact decide_eq_true e
            have HF1 := Lib.hid (HRF.out k rfl (by
              rw [HR2.out]
              exact badF_bad (fun h => h.2.2.2.2 ⟨l[t], by rw [List.mem_take_iff_getElem]; exact ⟨t, by omega, rfl⟩, by rw [← HNT.out]; exact e⟩) _))
            clear e
            go_wp2
            go_quiet (fail)
            go_wp2
            go_ret
            exact ⟨HF1.out, (HPl.out n).trans (Bl.drewN _ _)⟩
          · have he : (nt.toList == nm.toList) = false := by rw [str_beq]; exact decide_eq_false e
            have HN2 : Hid (∀ q ∈ l.take (t + 1), q.name ≠ nm) := Lib.hid (by
              intro q hq
              rw [List.take_succ_eq_append_getElem (by omega)] at hq
              rcases List.mem_append.1 hq with hq | hq
              · exact HN.out q hq
              · obtain rfl : q = l[t] := by simpa using hq
                rw [← HNT.out]; exact e)
            clear e HN
            go_wp2
            go_quiet (fail)
            go_wp2
            go_roundw
            case rel => exact ⟨t + 1, n + nq, by omega, by go_num, rfl, HN2⟩
            case measure => simp [intOf]; omega
        · have HNo : Hid (¬ ∃ q ∈ l.take k, q.name = nm) := Lib.hid (by
            rintro ⟨q, hq, e⟩
            rw [show t = k by omega] at HN
            exact HN.out q hq e)
          have hG : goodE (l.take k) ⟨nm, rows, cols⟩ := ⟨HQ.out.1, HQ.out.2.1, HQ.out.2.2, by rw [← HM.out]; simp only; omega, HNo.out⟩
          have HR5 : Hid (r = badF (l.take (k + 1)) (l.drop (k + 1))) := Lib.hid (by rw [HR2.out, HT.out]; exact badF_good hG _)
          have HM5 : Hid (m + rows * cols = sumP (l.take (k + 1))) := Lib.hid (by rw [HT.out, sumP_snoc, HM.out])
          have HB5 := Lib.hid (HPl.out n)
          clear HR2 HM HQ HN HPl HC0 HNo hG
          go_wp2
          go_roundw
          case rel => exact ⟨k + 1, m + rows * cols, by omega, by go_num, by go_num, by omega, by omega, HM5, HR5, HB5⟩
          case measure => simp [intOf]; omega
    · have HR2 : Hid (r = -1) := Lib.hid (by rw [HR.out, List.drop_eq_nil_of_le (by omega)]; rfl)
      clear HR HP
      go_wp2
      go_ret
      exact ⟨ret_i HR2.out, HB.out⟩
end Go.Proofs.Ytigicphmnlkjfaa
