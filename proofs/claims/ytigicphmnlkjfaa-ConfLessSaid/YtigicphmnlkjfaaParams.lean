/- The contracts of ratchetref21.Params and params. -/
import Derived.Test.YtigicphmnlkjfaaWrong
import Derived.Test.YtigicphmnlkjfaaAppV
namespace Go.Proofs.Ytigicphmnlkjfaa
open Go.RowKit
set_option linter.unusedVariables false

def prmCs (l : List ParamP) : List Value := l.flatMap ParamP.cs
theorem prmCs_len (l : List ParamP) : (prmCs l).length = l.length * 3 := by
  induction l with
  | nil => rfl
  | cons p l ih =>
    show (p.cs ++ prmCs l).length = _
    rw [List.length_append, ih]
    simp [ParamP.cs]; omega
theorem prmCs_one (l : List ParamP) : ∀ u ∈ prmCs l, u.oneCell' = true := by
  intro u hu
  obtain ⟨p, _, hu⟩ := List.mem_flatMap.1 hu
  simp [ParamP.cs] at hu
  rcases hu with rfl | rfl | rfl <;> rfl
theorem prmCs_append (l k : List ParamP) : prmCs (l ++ k) = prmCs l ++ prmCs k := List.flatMap_append
theorem prmCs_get (l : List ParamP) : ∀ (i : Nat) (h : i < l.length) (j : Nat), j < 3 → (prmCs l)[i * 3 + j]? = (l[i]).cs[j]? := by
  induction l with
  | nil => intro i h; simp at h
  | cons p l ih =>
    intro i h j hj
    show (p.cs ++ prmCs l)[i * 3 + j]? = _
    cases i with
    | zero => rw [List.getElem?_append_left (by show 0 * 3 + j < 3; omega)]; simp
    | succ i =>
      rw [List.getElem?_append_right (by show 3 ≤ (i + 1) * 3 + j; omega), show (i + 1) * 3 + j - p.cs.length = i * 3 + j from by show (i + 1) * 3 + j - 3 = _; omega]
      simpa using ih i (by simpa using h) j hj
theorem Params.rc {w : World} {A : Option Addr} {l : List ParamP} (h : Params w A l) : RC w A (prmCs l) := fun hn => by
  have hl : 0 < l.length := by rw [prmCs_len] at hn; omega
  obtain ⟨g, o, e, hs, hc⟩ := h hl
  refine ⟨⟨g, o, none⟩, e, hs, fun j u hu => ?_⟩
  have hj : j < l.length * 3 := by rw [← prmCs_len]; exact (List.getElem?_eq_some_iff.1 hu).1
  obtain ⟨h1, h2, h3⟩ := hc (j / 3) (by omega)
  have hg := prmCs_get l (j / 3) (by omega) (j % 3) (by omega)
  rw [show j / 3 * 3 + j % 3 = j by omega, hu] at hg
  rw [Addr.add_mid]
  have h3' : j % 3 = 0 ∨ j % 3 = 1 ∨ j % 3 = 2 := by omega
  rcases h3' with e | e | e <;> rw [e] at hg <;> simp [ParamP.cs] at hg <;> rw [hg]
  · rw [show o + j = o + j / 3 * 3 by omega]; exact h1
  · rw [show o + j = o + j / 3 * 3 + 1 by omega]; exact h2
  · rw [show o + j = o + j / 3 * 3 + 2 by omega]; exact h3
theorem Params.of_rc {w : World} {A : Option Addr} {l : List ParamP} (h : RC w A (prmCs l)) : Params w A l := fun hl => by
  obtain ⟨⟨g, o, sp⟩, e, hs, hc⟩ := h (by rw [prmCs_len]; omega)
  have hsp : sp = none := by
    have h0 := hc 0 (.string (l[0]).name) ((prmCs_get l 0 hl 0 (by omega)).trans rfl)
    have := World.cell?_spot h0
    simpa [Addr.add] using this
  subst hsp
  have at_ : ∀ i (h : i < l.length) j u, j < 3 → (l[i]).cs[j]? = some u → w.cell? ⟨g, o + (i * 3 + j), none⟩ = some u := fun i h j u hj hu => by
    have := hc (i * 3 + j) u (by rw [prmCs_get l i h j hj]; exact hu)
    rwa [Addr.add_mid] at this
  exact ⟨g, o, e, hs, fun i hi => ⟨at_ i hi 0 _ (by omega) rfl, by have := at_ i hi 1 _ (by omega) rfl; rwa [← Nat.add_assoc] at this, by have := at_ i hi 2 _ (by omega) rfl; rwa [← Nat.add_assoc] at this⟩⟩

theorem prmT : IsRows Try.prog 52 56 (.agg zp.toArray) 3 32 := ⟨by kernel_rfl, by kernel_rfl, by kernel_rfl, by omega⟩

theorem flatP_take (gs : List GroupP) (k : Nat) (h : k < gs.length) : flatP (gs.take (k + 1)) = flatP (gs.take k) ++ gs[k].params := by
  unfold flatP
  rw [List.take_succ_eq_append_getElem h, List.flatMap_append]
  simp
theorem flatP_le {l : List GroupP} (h : ∀ g ∈ l, fewG g) : ∀ k, (flatP (l.take k)).length ≤ k * 10
  | 0 => by simp [flatP]
  | k + 1 => by
    have ih := flatP_le h k
    by_cases hk : k < l.length
    · rw [flatP_take l k hk, List.length_append]
      have := few_params h hk
      omega
    · rw [List.take_of_length_le (by omega)] at ih ⊢
      omega

/-- Weights were given. -/
def GivesPrm (w : World) (l : List ParamP) (e : Ending) (w' : World) : Prop := ∃ A c, e = .returned (.slice A l.length c) ∧ Params w' A l ∧ Bl w w'

set_option maxRecDepth 100000 in
set_option maxHeartbeats 2000000 in
theorem rParams_any {w : World} {A : Option Addr} {c : Nat} {x : ConfP} (h : CF w A c x) (hf : fewC x = true) :
    Calls Try.prog 36 #[x.v A c] w (GivesPrm w (flatP x.groups)) := by
  obtain ⟨f, clip, ⟨k1, k2, k3, k4⟩, ⟨l1, l2, l3, l4⟩, gs⟩ := x
  simp only [fewC, decide_eq_true_eq] at hf
  obtain ⟨hl, hf⟩ := hf
  have HG := Lib.hid h.gs
  have HF := Lib.hid hf
  simp only at HG hl
  simp only
  clear h hf
  unfold ConfP.v
  obtain ⟨cv, hcv⟩ : ∃ cv, cv = #[Value.int .i64 f, .int .i64 clip, .int .i64 k1, .int .i64 k2, .int .i64 k3, .int .i64 k4, .int .i64 l1, .int .i64 l2, .int .i64 l3, .int .i64 l4, .slice A gs.length c] := ⟨_, rfl⟩
  have HC : Hid (Blk (w.alloc (.cells cv 27)) w.heap.size 27 cv) := Lib.hid (Blk.new w _ cv)
  have H10 : Hid (cv[10]? = some (.slice A gs.length c)) := by rw [hcv]; exact Lib.hid rfl
  have B0 := Lib.hid (Bl.alloc w (.cells cv 27))
  rw [← hcv]
  clear hcv
  go_enter Try.func36, Try.ntmps36
  go_wp2
  have HA0 : Hid (ApV ((w.alloc (.cells cv 27)).alloc (.cells #[] 56)) 56 3 (w.heap.size + 1) (some ⟨w.heap.size + 1, 0, none⟩) (flatP (gs.take 0)).length 0 (prmCs (flatP (gs.take 0)))) := Lib.hid (ApV.empty _)
  have HC2 := Lib.hid (HC.out.alloc (.cells #[] 56))
  have HB2 := Lib.hid (B0.out.trans (Bl.alloc _ (.cells #[] 56)))
  clear HC B0
  go_loopw [3, 4] (fun v i wr => ∃ (k : Nat) (A' : Option Addr) (c' : Nat), k ≤ gs.length ∧ i = .int .i64 k ∧ v = .slice A' (flatP (gs.take k)).length c' ∧ Hid (ApV wr 56 3 (w.heap.size + 1) A' (flatP (gs.take k)).length c' (prmCs (flatP (gs.take k)))) ∧ Hid (Blk wr w.heap.size 27 cv) ∧ Hid (Bl w wr)) (fun _ i _ => gs.length - (intOf i).toNat)
  case atStart => exact ⟨0, _, 0, Nat.zero_le _, rfl, rfl, HA0, HC2, HB2⟩
  case round =>
    clear HA0 HC2 HB2
    obtain ⟨k, A', c', hk, rfl, rfl, HA, HC, HB⟩ := hrel
    have c10 := HC.out.cell 10
    rw [H10.out] at c10
    by_cases hlt : k < gs.length
    · obtain ⟨g, o, P, d, rfl, hs, hc, hp, hcap⟩ := (HG.out.step HB.out).at_ hlt
      have h10 := few_params HF.out hlt
      have hle := flatP_le HF.out k
      have c22 := hc 22 _ (GroupP.cs_params _ _ _)
      have HP := Lib.hid hp.rc
      have HE : Hid ((flatP (gs.take (k + 1))).length = (flatP (gs.take k)).length + gs[k].params.length) := Lib.hid (by rw [flatP_take gs k hlt, List.length_append])
      have HE2 : Hid (prmCs (flatP (gs.take (k + 1))) = prmCs (flatP (gs.take k)) ++ prmCs gs[k].params) := Lib.hid (by rw [flatP_take gs k hlt, prmCs_append])
      have hbs : w.heap.size + 1 ≤ wr.heap.size := HC.out.lt
      obtain ⟨n, hn⟩ : ∃ n, n = (flatP (gs.take k)).length := ⟨_, rfl⟩
      rw [← hn] at HA hle HE ⊢
      clear hp hcap hc hn
      go_wp2_with (first
        | (refine wpList_append_apv _ rfl (.tmp 13) (.tmp 19) _ rfl prmT HA.out rfl HP.out rfl (by rw [prmCs_len]) (prmCs_one _) (by unfold maxLen; omega) (by omega) hbs ?_; intro A2 c2 w2 hd)
        | fail)
      have HA2 : Hid (ApV w2 56 3 (w.heap.size + 1) A2 (flatP (gs.take (k + 1))).length c2 (prmCs (flatP (gs.take (k + 1))))) := Lib.hid (by rw [HE.out, HE2.out]; exact hd.ap)
      have HC2 := Lib.hid (HC.out.below hd.below (Nat.lt_succ_self _))
      have HB2 : Hid (Bl w w2) := Lib.hid (Below.trans HB.out (hd.below.mono (by omega)))
      have HE3 := Lib.hid HE.out.symm
      clear hd HA HC HB HE HE2 HP
      go_wp2
      go_roundw
      case rel => exact ⟨k + 1, A2, c2, by omega, by go_num, by rw [HE3.out], HA2, HC2, HB2⟩
      case measure => simp [intOf]; omega
    · have hk' : k = gs.length := by omega
      subst hk'
      rw [List.take_of_length_le (Nat.le_refl _)] at HA ⊢
      have HO : Hid (GivesPrm w (flatP gs) (.returned (.slice A' (flatP gs).length c')) wr) := Lib.hid ⟨A', c', rfl, Params.of_rc HA.out.rb, HB.out⟩
      clear HA HC HB
      go_wp2
      go_ret
      exact HO.out
end Go.Proofs.Ytigicphmnlkjfaa
