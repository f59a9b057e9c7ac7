/- The contracts of conf.Many, the reference's Many and Few. -/
import Derived.Test.YtigicphmnlkjfaaConf
import Derived.Outline
import Derived.Laws.Tables
import Derived.Laws.CopyOwn
namespace Go.Proofs.Ytigicphmnlkjfaa
open Go.RowKit
set_option linter.unusedVariables false

/-- How many weights. -/
def manyP (l : List GroupP) : Nat := (l.map fun g => g.params.length).sum
theorem manyP_take (l : List GroupP) (k : Nat) (h : k < l.length) : manyP (l.take (k + 1)) = manyP (l.take k) + l[k].params.length := by
  unfold manyP
  rw [List.take_succ_eq_append_getElem h, List.map_append, List.sum_append]
  simp only [List.map_cons, List.map_nil, List.sum_cons, List.sum_nil, Nat.add_zero]
theorem few_params {l : List GroupP} (h : ∀ g ∈ l, fewG g) {k : Nat} (hk : k < l.length) : l[k].params.length ≤ 10 := (h _ (List.getElem_mem hk)).1
theorem manyP_le {l : List GroupP} (h : ∀ g ∈ l, fewG g) : ∀ k, manyP (l.take k) ≤ k * 10
  | 0 => by simp [manyP]
  | k + 1 => by
    have ih := manyP_le h k
    by_cases hk : k < l.length
    · rw [manyP_take l k hk]
      have := few_params h hk
      omega
    · rw [List.take_of_length_le (by omega)] at ih ⊢
      omega

set_option maxRecDepth 100000 in
set_option maxHeartbeats 1000000 in
theorem rmany_any {w : World} {A : Option Addr} {c : Nat} {x : ConfP} (h : CF w A c x) (hf : fewC x = true) :
    Calls Try.prog 13 #[x.v A c] w fun e w' => e = .returned (.int .i64 (manyP x.groups : Nat)) ∧ Bl w w' := by
  obtain ⟨f, clip, ⟨k1, k2, k3, k4⟩, ⟨l1, l2, l3, l4⟩, gs⟩ := x
  simp only [fewC, decide_eq_true_eq] at hf
  obtain ⟨hl, hf⟩ := hf
  have hg : Groups w A gs := h.gs
  have HF := Lib.hid hf
  clear h hf
  unfold ConfP.v
  go_enter Try.func13, Try.ntmps13
  go_wp2
  go_loop [3, 4] (fun v i => ∃ k m : Nat, k ≤ gs.length ∧ i = .int .i64 k ∧ v = .int .i64 m ∧ m ≤ k * 10 ∧ Hid (m = manyP (gs.take k))) (fun v i => gs.length - (intOf i).toNat)
  case atStart => exact ⟨0, 0, Nat.zero_le _, rfl, rfl, Nat.le_refl _, Lib.hid (by simp [manyP])⟩
  case round =>
    obtain ⟨k, m, hk, rfl, rfl, hm, HM⟩ := hrel
    by_cases hlt : k < gs.length
    · obtain ⟨g, o, P, d, rfl, hs, hc, hp, hcap⟩ := hg.at_ hlt
      have h10 := few_params HF.out hlt
      have c22 := hc 22 _ rfl
      have HM2 : Hid (m + gs[k].params.length = manyP (gs.take (k + 1))) := Lib.hid (by rw [manyP_take gs k hlt, HM.out])
      have hsz : g ≠ w.heap.size := by omega
      clear hg hc hp HM
      go_wp2
      go_round
      case rel => exact ⟨k + 1, m + gs[k].params.length, by omega, by go_num, by go_num, by omega, HM2⟩
      case measure => simp [intOf]; omega
    · have HM2 : Hid (m = manyP gs) := Lib.hid (by rw [HM.out, List.take_of_length_le (by omega)])
      clear hg HM
      go_wp2
      go_ret
      exact ⟨congrArg (fun n : Nat => Ending.returned (.int .i64 (n : Int))) HM2.out, Bl.alloc _ _⟩

/-- A group's zero value. -/
def zg : List Value := [.int .i64 0, .int .i64 0, .int .i64 0, .int .i64 0, .bool false, .int .i64 0, .int .i64 0, .int .i64 0, .int .i64 0, .int .i64 0, .bool false, .int .i64 0, .int .i64 0, .int .i64 0, .int .i64 0, .int .i64 0, .int .i64 0, .int .i64 0, .int .i64 0, .int .i64 0, .int .i64 0, .int .i64 0, .slice none 0 0]
theorem zero_g (w : World) : (zeroValue 54).run Try.prog w = .ok (.agg zg.toArray) w := by kernel_rfl
/-- A group, copied into a new block. -/
theorem grp_copied (w : World) (us : List Value) : Blk ((w.alloc (.cells zg.toArray 54)).setRow w.heap.size us.toArray) w.heap.size 54 us.toArray ∧ Bl w ((w.alloc (.cells zg.toArray 54)).setRow w.heap.size us.toArray) :=
  ⟨setRow_heap _ _ _ _ _ _ (Blk.new w 54 zg.toArray), below_setRow (Bl.alloc w _) (Nat.le_refl _) _⟩
theorem g_isRow : ∃ d, Try.prog.underlying 54 = some d ∧ TypeDesc.isRow d = true := ⟨_, Try.underlying54, rfl⟩
theorem g_size : (Try.prog.info? 54).map (·.size) = some 23 := by kernel_rfl

set_option maxRecDepth 100000 in
set_option maxHeartbeats 1000000 in
theorem many_any {w : World} {A : Option Addr} {c : Nat} {x : ConfP} (h : CF w A c x) (hf : fewC x = true) :
    Calls Try.prog 12 #[x.v A c] w fun e w' => e = .returned (.int .i64 (manyP x.groups : Nat)) ∧ Bl w w' := by
  obtain ⟨f, clip, ⟨k1, k2, k3, k4⟩, ⟨l1, l2, l3, l4⟩, gs⟩ := x
  simp only [fewC, decide_eq_true_eq] at hf
  obtain ⟨hl, hf⟩ := hf
  have hg : Groups w A gs := h.gs
  have HG := Lib.hid hg
  have HF := Lib.hid hf
  clear h hf hg
  unfold ConfP.v
  go_enter Try.func12, Try.ntmps12
  go_wp2
  have B0 := Lib.hid (Bl.alloc w (.cells #[.int .i64 f, .int .i64 clip, .int .i64 k1, .int .i64 k2, .int .i64 k3, .int .i64 k4, .int .i64 l1, .int .i64 l2, .int .i64 l3, .int .i64 l4, .slice A gs.length c] 27))
  go_loopw [3, 9] (fun v i wr => ∃ k m : Nat, k ≤ gs.length ∧ i = .int .i64 k ∧ v = .int .i64 m ∧ m ≤ k * 10 ∧ Hid (m = manyP (gs.take k)) ∧ Hid (Bl w wr)) (fun v i _ => gs.length - (intOf i).toNat)
  case atStart => exact ⟨0, 0, Nat.zero_le _, rfl, rfl, Nat.le_refl _, Lib.hid (by simp [manyP]), B0⟩
  case round =>
    clear B0
    obtain ⟨k, m, hk, rfl, rfl, hm, HM, HB⟩ := hrel
    by_cases hlt : k < gs.length
    · obtain ⟨g, o, P, d, rfl, hs, hc, hp, hcap⟩ := (HG.out.step HB.out).at_ hlt
      have h10 := few_params HF.out hlt
      have HM2 : Hid (m + gs[k].params.length = manyP (gs.take (k + 1))) := Lib.hid (by rw [manyP_take gs k hlt, HM.out])
      obtain ⟨us, hus⟩ : ∃ us, us = (gs[k]).cs P d := ⟨_, rfl⟩
      have hlen : us.length = 23 := by rw [hus]; rfl
      have h22 : us[22]? = some (.slice P gs[k].params.length d) := by rw [hus]; rfl
      have hone : us.toArray.all (·.oneCell') = true := by rw [hus]; exact GroupP.cs_one _ _ _
      rw [← hus] at hc
      obtain ⟨hk1, hb1⟩ := grp_copied wr us
      have c22 := hk1.cell 22
      rw [List.getElem?_toArray, h22] at c22
      have HR := Lib.hid hc
      have HB2 := Lib.hid (HB.out.trans hb1)
      have HZ := Lib.hid (Blk.new wr 54 zg.toArray)
      have hz := zero_g
      have HL := Lib.hid hlen
      have HO := Lib.hid hone
      clear hp HM hk1 hb1 hc hus h22 hlen hone
      go_wp2_with (first
        | (refine wpList_load_mid rfl 54 (.tmp 11) rfl g (o + k * 23) rfl us _ HR.out Try.underlying54 rfl (by rw [HL.out]; exact g_size) ?_)
        | (refine wpList_store_row rfl 54 (.tmp 5) (.tmp 12) rfl wr.heap.size us.toArray rfl rfl 54 zg.toArray HZ.out (by simpa [HL.out] using g_size) (by simp [HL.out, zg]) HO.out ?_))
      go_roundw
      case rel => exact ⟨k + 1, m + gs[k].params.length, by omega, by go_num, by go_num, by omega, HM2, HB2⟩
      case measure => simp [intOf]; omega
    · have HM2 : Hid (m = manyP gs) := Lib.hid (by rw [HM.out, List.take_of_length_le (by omega)])
      clear HM HG
      go_wp2
      go_ret
      exact ⟨congrArg (fun n : Nat => Ending.returned (.int .i64 (n : Int))) HM2.out, HB.out⟩
end Go.Proofs.Ytigicphmnlkjfaa
