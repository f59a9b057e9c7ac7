/- The contracts of save's lastOf, Acts, Load. -/
import Derived.Test.YtebillkojmafoaaSave1
namespace Go.Proofs.Ytebillkojmafoaa
open Go.RowKit
set_option linter.unusedVariables false

theorem com_end' {w wr : World} {x0 x1 x2 : Value} (h : Blk wr w.heap.size 53 #[x0, x1, x2]) (hb : Bl w wr) (u v x : Value) :
    Blk (((wr.setCell ⟨w.heap.size, 0, none⟩ u).setCell ⟨w.heap.size, 1, none⟩ v).setCell ⟨w.heap.size, 2, none⟩ x) w.heap.size 53 #[u, v, x] ∧ Bl w (((wr.setCell ⟨w.heap.size, 0, none⟩ u).setCell ⟨w.heap.size, 1, none⟩ v).setCell ⟨w.heap.size, 2, none⟩ x) := by
  have e := ((h.set_ 0 u).set_ 1 v).set_ 2 x
  have b := Below.setCell (Below.setCell (Below.setCell hb (p := ⟨w.heap.size, 0, none⟩) (Nat.le_refl _) u) (p := ⟨w.heap.size, 1, none⟩) (Nat.le_refl _) v) (p := ⟨w.heap.size, 2, none⟩) (Nat.le_refl _) x
  exact ⟨by simpa using e, b⟩
theorem bRead_le {D : DS} (h : ∀ x ∈ D.seen, x.length ≤ 64) (a : Int) : (bRead D a).length ≤ 64 := by
  unfold bRead; split
  · rw [List.getD_eq_getElem?_getD]
    cases he : D.seen[a.toNat]? with
    | none => simp
    | some y => exact h y (List.mem_of_getElem? he)
  · simp
theorem short_of_le {D : DS} (h : ∀ x ∈ D.seen, x.length ≤ 64) : Short D := fun x hx => by have := h x hx; omega
theorem comOf_bound (l : List UInt8) (k : Nat) : (comOf l k).a < 2 ∧ (comOf l k).long ≤ 1984 := by
  unfold comOf
  split
  · exact ⟨by decide, by decide⟩
  · rename_i h
    exact ⟨by omega, by omega⟩
theorem lastD_bound (D : DS) : (lastD D).a < 2 ∧ (lastD D).long ≤ 1984 := by
  unfold lastD; split <;> exact comOf_bound _ _

section
variable {p : Nat} {X : Nat → Prop} {w : World} {D : DS}
set_option maxRecDepth 100000 in
theorem lastOf_any (h : IsDisk p X w D) (hle : ∀ x ∈ D.seen, x.length ≤ 64) (c : Com) (hc : lastD D = c) :
    Calls Try.prog 18 #[.pointer (some ⟨p, 0, none⟩)] w fun e w' => e = .returned (.agg (comV c)) ∧ Bl w w' := by
  obtain ⟨c0, hc0⟩ : ∃ c0, comD D 0 = c0 := ⟨_, rfl⟩
  obtain ⟨c1, hc1⟩ : ∃ c1, comD D 1 = c1 := ⟨_, rfl⟩
  unfold lastD at hc
  rw [hc0, hc1] at hc
  have H := Lib.hid (h.bl (Bl.alloc w (.cells #[.int .u64 0, .int .u64 0, .int .u64 0] 53)))
  have HBL := Lib.hid (Bl.alloc w (.cells #[.int .u64 0, .int .u64 0, .int .u64 0] 53))
  have HK := Lib.hid (Blk.new w 53 #[.int .u64 0, .int .u64 0, .int .u64 0])
  have HC := Lib.hid hc; have HC0 := Lib.hid hc0; have HC1 := Lib.hid hc1; have HLE := Lib.hid hle
  clear h hc hc0 hc1 hle
  go_enter Try.func18, Try.ntmps18
  go_wp2_with fail
  refine (commitOf_any H.out (short_of_le HLE.out) 0 (by decide) (bRead_le HLE.out _) c0 HC0.out).mono ?_
  rintro e w1 ⟨rfl, b1⟩
  have H1 := Lib.hid (H.out.bl b1); have BL1 := Lib.hid (HBL.out.trans b1); have K1 := Lib.hid (HK.out.below b1 HK.out.lt)
  clear b1 H HBL HK
  unfold comV
  go_wp2_with fail
  refine (commitOf_any H1.out (short_of_le HLE.out) 1 (by decide) (bRead_le HLE.out _) c1 HC1.out).mono ?_
  rintro e w2 ⟨rfl, b2⟩
  have BL2 := Lib.hid (BL1.out.trans b2); have K2 := Lib.hid (K1.out.below b2 K1.out.lt)
  clear b2 H1 BL1 K1
  unfold comV
  have B4 := Lib.hid ((BL2.out.trans (Bl.alloc w2 (.cells #[.int .u64 (c0.n : Int), .int .u64 (c0.a : Int), .int .u64 (c0.long : Int)] 53))).trans (Bl.alloc _ (.cells #[.int .u64 (c1.n : Int), .int .u64 (c1.a : Int), .int .u64 (c1.long : Int)] 53)))
  have K4 := Lib.hid ((K2.out.alloc (.cells #[.int .u64 (c0.n : Int), .int .u64 (c0.a : Int), .int .u64 (c0.long : Int)] 53)).alloc (.cells #[.int .u64 (c1.n : Int), .int .u64 (c1.a : Int), .int .u64 (c1.long : Int)] 53))
  have z0 := K2.out.cell 0; have z1 := K2.out.cell 1; have z2 := K2.out.cell 2
  have f0 := K2.out.frozen 0; have f1 := K2.out.frozen 1; have f2 := K2.out.frozen 2
  simp only [List.getElem?_toArray, List.getElem?_cons_zero, List.getElem?_cons_succ] at z0 z1 z2
  have hg := K2.out.lt
  have hg2 : w.heap.size < w2.heap.size + 1 := by omega
  clear B4 K4
  by_cases hlt : c1.n < c0.n
  · obtain rfl : c0 = c := by rw [← HC.out, if_pos hlt]
    have hlt' : (c1.n : Int) < (c0.n : Int) := by omega
    go_wp2
    obtain ⟨h1, h2⟩ := com_end' K2.out BL2.out (.int .u64 (c0.n : Int)) (.int .u64 (c0.a : Int)) (.int .u64 (c0.long : Int))
    exact com_ret (c := c0) rfl rfl rfl ((h1.alloc _).alloc _) ⟨rfl, (h2.trans (Bl.alloc _ _)).trans (Bl.alloc _ _)⟩
  · obtain rfl : c1 = c := by rw [← HC.out, if_neg hlt]
    have hlt' : ¬ (c1.n : Int) < (c0.n : Int) := by omega
    go_wp2
    obtain ⟨h1, h2⟩ := com_end' K2.out BL2.out (.int .u64 (c1.n : Int)) (.int .u64 (c1.a : Int)) (.int .u64 (c1.long : Int))
    exact com_ret (c := c1) rfl rfl rfl ((h1.alloc _).alloc _) ⟨rfl, (h2.trans (Bl.alloc _ _)).trans (Bl.alloc _ _)⟩

theorem acts_any (A : Option Addr) (c n : Nat) (hn : n ≤ 9223372036854775000) (w : World) : Calls Try.prog 13 #[.slice A n c] w fun e w' => e = .returned (.int .i64 (((n + 63) / 64 + 3 : Nat) : Int)) ∧ w = w' := by
  have h1 : wrap64 ((n : Int) + 64) = (n : Int) + 64 := IntWalk.wrap64_in _ (by omega)
  go_enter Try.func13, Try.ntmps13
  go_wp2
  go_ret
  exact ⟨by rw [show ((n : Int) + 64 - 1) / 64 + 3 = (((n + 63) / 64 + 3 : Nat) : Int) from by omega]; rfl, rfl⟩

/-- What Load gives. -/
def GivesLoad (w : World) (b : List UInt8) (k : Int) (e : Ending) (w' : World) : Prop :=
  ∃ A c, e = .returned (.tuple #[.slice A b.length c, .int .i64 k]) ∧ SL w' A c b ∧ Bl w w' ∧ (0 < b.length → ∀ a, A = some a → w.heap.size ≤ a.block)
theorem givesLoad_mk {w w' : World} {b : List UInt8} {k : Int} {A : Option Addr} {c n : Nat} (hn : n = b.length) (h : SL w' A c b) (hb : Bl w w') (ho : 0 < b.length → ∀ a, A = some a → w.heap.size ≤ a.block) : GivesLoad w b k (.returned (.tuple #[.slice A n c, .int .i64 k])) w' := by
  subst hn; exact ⟨A, c, rfl, h, hb, ho⟩
theorem allD_len {D : DS} (h : ∀ x ∈ D.seen, x.length ≤ 64) (a : Nat) : ∀ i, (allD D a i).length ≤ 64 * i
  | 0 => by simp [allD]
  | i + 1 => by
    show (allD D a i ++ _).length ≤ _
    rw [List.length_append]
    have := allD_len h a i; have := bRead_le h ((2 + 31 * a + i : Nat) : Int)
    omega

set_option maxRecDepth 100000 in
set_option maxHeartbeats 2000000 in
theorem load_any (h : IsDisk p X w D) (hle : ∀ x ∈ D.seen, x.length ≤ 64) (b : List UInt8) (k : Int) (hb : bLoad D = b) (hk : eLoad D = k) :
    Calls Try.prog 10 #[.pointer (some ⟨p, 0, none⟩)] w (GivesLoad w b k) := by
  obtain ⟨e0, he0⟩ : ∃ e0, eWrong D 0 = e0 := ⟨_, rfl⟩
  obtain ⟨b0, hb0⟩ : ∃ b0, bRead D 0 = b0 := ⟨_, rfl⟩
  have H := Lib.hid h; have HLE := Lib.hid hle; have HE0 := Lib.hid he0; have HB0 := Lib.hid hb0; have HB := Lib.hid hb; have HK := Lib.hid hk
  clear h hle he0 hb0 hb hk
  by_cases hz : e0 = 0
  · obtain ⟨c, hc⟩ : ∃ c, lastD D = c := ⟨_, rfl⟩
    subst hz
    have hcb := lastD_bound D
    rw [hc] at hcb
    have HC := Lib.hid hc
    clear hc
    go_enter Try.func10, Try.ntmps10
    go_wp2_with fail
    refine (dRead_to H.out 0 (short_of_le HLE.out) b0 0 HB0.out HE0.out).mono ?_
    rintro e w1 ⟨A1, c1, rfl, _, b1, _, _⟩
    have H1 := Lib.hid (H.out.bl b1); have B1 := Lib.hid b1
    clear b1
    go_wp2_with fail
    refine (lastOf_any H1.out HLE.out c HC.out).mono ?_
    rintro e w2 ⟨rfl, b2⟩
    have H2 := Lib.hid ((H1.out.bl b2).bl (Bl.alloc w2 (.cells #[.int .u64 (c.n : Int), .int .u64 (c.a : Int), .int .u64 (c.long : Int)] 53)))
    have B2 := Lib.hid ((B1.out.trans b2).trans (Bl.alloc w2 (.cells #[.int .u64 (c.n : Int), .int .u64 (c.a : Int), .int .u64 (c.long : Int)] 53)))
    have K2 := Lib.hid (Blk.new w2 53 #[.int .u64 (c.n : Int), .int .u64 (c.a : Int), .int .u64 (c.long : Int)])
    have b2s := Lib.hid b2.size
    clear b2 H1
    unfold comV
    by_cases hn : c.n = 0
    · have hk9 : k = 9 := by rw [← HK.out]; unfold eLoad; rw [HE0.out, HC.out, if_neg (by simp), if_pos hn]
      have hbn : b = [] := by rw [← HB.out]; unfold bLoad; rw [HK.out, hk9, if_neg (by decide)]
      subst hk9 hbn
      go_wp2
      go_ret2
      exact ⟨none, 0, rfl, SL.nil_ _, by have := B2.out; simpa [hn] using this, fun h => absurd h (by simp)⟩
    · have hn' : ((c.n : Int) == 0) = false := by simpa using hn
      have hn2 : (c.n == 0) = false := by simpa using hn
      have w1' : IntKind.i64.wrap (c.long : Int) = (c.long : Int) := IntWalk.i64_in _ (by omega)
      have w2' : IntKind.i64.wrap (c.a : Int) = (c.a : Int) := IntWalk.i64_in _ (by omega)
      have HG := Lib.hid (show w.heap.size ≤ w2.heap.size from by have := B2.out.size; have := K2.out.lt; have h3 := (B1.out).size; have := H2.out.plt; exact Nat.le_trans h3 (by have := b2s.out; omega))
      obtain ⟨M, hM⟩ : ∃ M, M = (c.long + 63) / 64 := ⟨_, rfl⟩
      have hMi : ((c.long : Int) + 64 - 1) / 64 = (M : Int) := by omega
      have hM31 : M ≤ 31 := by omega
      have HM := Lib.hid hM
      clear hM
      clear H2
      go_wp2_with fail
      rw [hMi]
      clear hMi
      go_loopw [32, 8] (fun i x wr => ∃ (k' : Nat) (A' : Option Addr) (c' : Nat), k' ≤ M ∧ i = .int .i64 k' ∧ x = .slice A' (allD D c.a k').length c' ∧ Hid (Ap wr 5 (w2.heap.size + 1) A' (allD D c.a k').length c' (allD D c.a k')) ∧ Hid (Bl w wr ∧ Blk wr w2.heap.size 53 #[.int .u64 (c.n : Int), .int .u64 (c.a : Int), .int .u64 (c.long : Int)]) ∧ Hid (∀ a, A' = some a → w.heap.size ≤ a.block)) (fun i _ _ => M - (intOf i).toNat)
      case atStart => exact ⟨0, none, 0, Nat.zero_le _, rfl, rfl, Ap.nil_ _ _ _, ⟨B2.out, K2.out⟩, fun _ h => by cases h⟩
      case round =>
        clear B2 K2
        obtain ⟨j, A', c', hj, rfl, rfl, HA, HBW, HOW⟩ := hrel
        have x1 := HBW.out.2.cell 1
        simp only [List.getElem?_toArray, List.getElem?_cons_zero, List.getElem?_cons_succ] at x1
        have hal := allD_len HLE.out c.a j
        by_cases hlt : j < M
        · have HIJ := Lib.hid (show (2 : Int) + 31 * (c.a : Int) + (j : Int) = ((2 + 31 * c.a + j : Nat) : Int) from by omega)
          obtain ⟨bj, hbj⟩ : ∃ bj, bRead D ((2 + 31 * c.a + j : Nat) : Int) = bj := ⟨_, rfl⟩
          obtain ⟨ej, hej⟩ : ∃ ej, eWrong D ((2 + 31 * c.a + j : Nat) : Int) = ej := ⟨_, rfl⟩
          have hbl := bRead_le HLE.out ((2 + 31 * c.a + j : Nat) : Int)
          rw [hbj] at hbl
          have HBJ := Lib.hid hbj; have HEJ := Lib.hid hej
          clear hbj hej
          go_wp2_with fail
          rw [HIJ.out]
          refine (dRead_to (H.out.bl HBW.out.1) _ (short_of_le HLE.out) bj ej HBJ.out HEJ.out).mono ?_
          rintro e w4 ⟨A4, c4, rfl, s4, b4, _, _⟩
          have ap := HA.out.keep b4
          have HS4 := Lib.hid s4
          have HB4 := Lib.hid (And.intro (HBW.out.1.trans b4) (HBW.out.2.below b4 HBW.out.2.lt))
          have HLE4 := Lib.hid (show w2.heap.size + 1 ≤ w4.heap.size from Nat.le_trans HBW.out.2.lt b4.size)
          clear s4 b4 HBW HA x1
          go_wp2_with (at_builtin; refine wpList_append_ap _ rfl (.tmp 47) (.tmp 48) _ rfl bytesT ap rfl HS4.out.rb rfl rfl (by omega) HLE4.out ?_; intro A5 c5 w5 hd)
          have HO5 := Lib.hid (hd.new w.heap.size HB4.out.1.size HOW.out)
          have HB5 := Lib.hid (And.intro (Below.trans HB4.out.1 (hd.below.mono (Nat.le_succ_of_le HG.out))) (HB4.out.2.below hd.below (Nat.lt_succ_self _)))
          have hlen : (allD D c.a j).length + bj.length = (allD D c.a (j + 1)).length := by
            show _ = (allD D c.a j ++ bRead D ((2 + 31 * c.a + j : Nat) : Int)).length
            rw [List.length_append, HBJ.out]
          have hap := hd.ap
          rw [hlen, ← HBJ.out] at hap
          have HA5 := Lib.hid (show Ap w5 5 (w2.heap.size + 1) A5 (allD D c.a (j + 1)).length c5 (allD D c.a (j + 1)) from hap)
          go_roundw
          case rel => exact ⟨j + 1, A5, c5, by omega, by go_num, by rw [hlen], HA5, HB5, HO5⟩
          case measure => simp [intOf]; omega
        · obtain rfl : j = M := by omega
          obtain ⟨al, hal2⟩ : ∃ al, al = allD D c.a j := ⟨_, rfl⟩
          have hke : k = if al.length < c.long then 3 else 0 := by
            rw [← HK.out]; unfold eLoad; rw [HE0.out, HC.out, if_neg (by simp), if_neg hn, ← HM.out, ← hal2]
          have hbe : b = if k = 0 then al.take c.long else [] := by
            rw [← HB.out]; unfold bLoad; rw [HK.out, HC.out, ← HM.out, ← hal2]
          rw [← hal2] at HA hal ⊢
          have HKE := Lib.hid hke; have HBE := Lib.hid hbe
          clear hke hbe hal2
          by_cases hs : al.length < c.long
          · obtain rfl : k = 3 := by rw [HKE.out, if_pos hs]
            obtain rfl : b = [] := by rw [HBE.out, if_neg (by decide)]
            have hs' : (al.length : Int) < (c.long : Int) := by omega
            go_wp2
            go_ret2
            exact ⟨none, 0, rfl, SL.nil_ _, HBW.out.1, fun h => absurd h (by simp)⟩
          · obtain rfl : k = 0 := by rw [HKE.out, if_neg hs]
            obtain rfl : b = al.take c.long := by rw [HBE.out, if_pos rfl]
            have hs' : ¬ (al.length : Int) < (c.long : Int) := by omega
            have hcap := HA.out.cap
            have i1 : (0 : Int) ≤ (c.long : Int) := by omega
            have i2 : (c.long : Int) ≤ (c' : Int) := by omega
            have hsl : SL wr A' c' (al.take c.long) := ⟨HA.out.rb.take _, by rw [List.length_take]; omega, HA.out.none_⟩
            have HSL := Lib.hid hsl
            have hn1 := HA.out.none_
            clear hsl
            have HBL := Lib.hid HBW.out.1
            have hlk : c.long = (al.take c.long).length := by rw [List.length_take]; omega
            have HLK := Lib.hid hlk
            clear hlk HBW HA
            go_wp2
            go_ret2
            exact givesLoad_mk HLK.out HSL.out HBL.out (fun _ => HOW.out)
  · have hk' : k = e0 := by rw [← HK.out]; unfold eLoad; rw [HE0.out, if_pos hz]
    have hbn : b = [] := by rw [← HB.out]; unfold bLoad; rw [HK.out, hk', if_neg hz]
    subst hk' hbn
    have hz' : (k != 0) = true := by simp [hz]
    go_enter Try.func10, Try.ntmps10
    go_wp2_with fail
    refine (dRead_to H.out 0 (short_of_le HLE.out) b0 k HB0.out HE0.out).mono ?_
    rintro e w1 ⟨A1, c1, rfl, _, b1, _, _⟩
    go_wp2
    go_ret2
    exact ⟨none, 0, rfl, SL.nil_ _, b1, fun h => absurd h (by simp)⟩
end
end Go.Proofs.Ytebillkojmafoaa
