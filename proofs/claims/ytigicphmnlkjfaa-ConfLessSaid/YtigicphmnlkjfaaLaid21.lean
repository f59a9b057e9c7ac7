/- The contracts of conf.laid, ratchetref21.ints, ratchetref21.flag. -/
import Derived.Test.YtigicphmnlkjfaaUni21
import Derived.Test.YtigicphmnlkjfaaConf
import Derived.Laws.IdiomStrings
namespace Go.Proofs.Ytigicphmnlkjfaa
open Go.RowKit
set_option linter.unusedVariables false

/-- Bytes were given. -/
def GivesB (w : World) (l : List UInt8) (e : Ending) (w' : World) : Prop := ∃ A c, e = .returned (.slice A l.length c) ∧ SL w' A c l ∧ Bl w w'
theorem GivesSL.b {w : World} {l : List UInt8} {e : Ending} {w' : World} (h : GivesSL w l e w') : GivesB w l e w' := by
  obtain ⟨A, c, e, h1, _, h3⟩ := h
  exact ⟨A, c, e, h1, h3⟩

/-- A number, a text or a flag, to be laid. -/
inductive It where
  | int (n : Int)
  | i64 (n : Int)
  | str (s : ByteArray)
  | flag (b : Bool)
def It.v : It → Value
  | .int n => .iface 3 (.int .i64 n)
  | .i64 n => .iface 2 (.int .i64 n)
  | .str s => .iface 9 (.string s)
  | .flag b => .iface 4 (.bool b)
def flagN (b : Bool) : Int := if b then 1 else 0
def It.enc : It → List UInt8
  | .int n => Proofs.Ytigicphmnlkjfaa.enc (zig n)
  | .i64 n => Proofs.Ytigicphmnlkjfaa.enc (zig n)
  | .str s => Proofs.Ytigicphmnlkjfaa.enc s.data.toList.length ++ s.data.toList
  | .flag b => Proofs.Ytigicphmnlkjfaa.enc (zig (flagN b))
def It.ok : It → Prop
  | .int n => I64 n
  | .i64 n => I64 n
  | .str s => s.size ≤ 1000
  | .flag _ => True
def encIts (l : List It) : List UInt8 := l.flatMap It.enc
theorem encIts_take (l : List It) (k : Nat) (h : k < l.length) : encIts (l.take (k + 1)) = encIts (l.take k) ++ (l[k]).enc := by
  unfold encIts
  rw [List.take_succ_eq_append_getElem h, List.flatMap_append]
  simp
theorem zig_small {n : Int} (h : I64 n) : (enc (zig n)).length ≤ 10 := enc_len10 (zig_lt h.bd.1 h.bd.2)
theorem It.enc_len {x : It} (h : x.ok) : x.enc.length ≤ 2000 := by
  cases x with
  | int n => have := zig_small h; simp only [It.enc]; omega
  | i64 n => have := zig_small h; simp only [It.enc]; omega
  | str s =>
    have h1 : s.data.toList.length ≤ 1000 := by simpa [It.ok] using h
    have := enc_len10 (n := s.data.toList.length) (by omega)
    simp only [It.enc, List.length_append]
    omega
  | flag b => have := zig_small (n := flagN b) (by cases b <;> (show (Lit.int .i64 _).wf = true) <;> decide); simp only [It.enc]; omega
set_option maxRecDepth 100000 in
theorem encIts_len {l : List It} (h : ∀ x ∈ l, x.ok) : ∀ k, (encIts (l.take k)).length ≤ k * 2000
  | 0 => by simp [encIts]
  | k + 1 => by
    have ih := encIts_len h k
    by_cases hk : k < l.length
    · rw [encIts_take l k hk, List.length_append]
      have := It.enc_len (h _ (List.getElem_mem hk))
      omega
    · rw [List.take_of_length_le (by omega)] at ih ⊢
      omega

theorem toNat_ba (s : ByteArray) : s.data.toList.length = s.size := Array.length_toList
/-- A text's bytes, as the model lays them. -/
theorem sl_new (w : World) (s : ByteArray) (cap : Nat) (hg : s.size ≤ cap) (fr : Nat × Nat) : SL (w.alloc (.cells (bytesRow s cap) 5 fr)) (some ⟨w.heap.size, 0, none⟩) cap s.data.toList := by
  refine ⟨fun hn => ⟨_, rfl, ?_, fun j hj => ?_⟩, by rw [toNat_ba]; exact hg, fun e => by cases e⟩
  · have h1 : (w.alloc (.cells (bytesRow s cap) 5 fr)).heap.size = w.heap.size + 1 := by simp
    show w.heap.size < _
    rw [h1]; exact Nat.lt_succ_self _
  · have hj' : j < s.data.size := by simpa using hj
    rw [Addr.add_mid, Nat.zero_add]
    have hh : (w.alloc (.cells (bytesRow s cap) 5 fr)).heap[w.heap.size]? = some (.cells (bytesRow s cap) 5 fr) := heap_alloc_new w _
    rw [cell_of_row _ _ j _ _ _ hh, bytesRow_at s _ j hj', Array.getElem_toList]
    rfl
theorem sl_row (w : World) (s : ByteArray) (cap : Nat) (hg : s.size ≤ cap) (fr : Nat × Nat) : SL (w.drew.alloc (.cells (bytesRow s cap) 5 fr)) (some ⟨w.heap.size, 0, none⟩) cap s.data.toList := sl_new w.drew s cap hg fr
theorem conv_bytes (w : World) (s : ByteArray) : (convert 9 37 (.string s)).run Try.prog w = .ok (.slice (some ⟨w.heap.size, 0, none⟩) s.size (grownCap w s.size 0 5))
      (w.drew.alloc (.cells (bytesRow s (grownCap w s.size 0 5)) 5 ((bytesRow s (grownCap w s.size 0 5)).size, (bytesRow s (grownCap w s.size 0 5)).size + 1))) :=
  run_bytes_of_string w 9 37 5 s Try.underlying9 Try.underlying37 Try.underlying5

theorem flag_to (b : Bool) (w : World) : Calls Try.prog 56 #[.bool b] w fun e w' => e = .returned (.int .i64 (flagN b)) ∧ w' = w := by
  cases b
  · go_enter Try.func56, Try.ntmps56
    go_wp2
    go_ret
    exact ⟨rfl, rfl⟩
  · go_enter Try.func56, Try.ntmps56
    go_wp2
    go_ret
    exact ⟨rfl, rfl⟩

theorem ta_int_int (x : Int) (w : World) : (Instr.typeAssert (.iface 3 (.int .i64 x)) 20 3 true).run Try.prog w = .ok (.tuple #[.int .i64 x, .bool true]) w := by kernel_rfl
theorem ta_int64_int (x : Int) (w : World) : (Instr.typeAssert (.iface 2 (.int .i64 x)) 20 3 true).run Try.prog w = .ok (.tuple #[.int .i64 0, .bool false]) w := by kernel_rfl
theorem ta_int64_int64 (x : Int) (w : World) : (Instr.typeAssert (.iface 2 (.int .i64 x)) 20 2 true).run Try.prog w = .ok (.tuple #[.int .i64 x, .bool true]) w := by kernel_rfl
theorem ta_string_int (x : ByteArray) (w : World) : (Instr.typeAssert (.iface 9 (.string x)) 20 3 true).run Try.prog w = .ok (.tuple #[.int .i64 0, .bool false]) w := by kernel_rfl
theorem ta_string_int64 (x : ByteArray) (w : World) : (Instr.typeAssert (.iface 9 (.string x)) 20 2 true).run Try.prog w = .ok (.tuple #[.int .i64 0, .bool false]) w := by kernel_rfl
theorem ta_string_string (x : ByteArray) (w : World) : (Instr.typeAssert (.iface 9 (.string x)) 20 9 true).run Try.prog w = .ok (.tuple #[.string x, .bool true]) w := by kernel_rfl
theorem ta_bool_int (x : Bool) (w : World) : (Instr.typeAssert (.iface 4 (.bool x)) 20 3 true).run Try.prog w = .ok (.tuple #[.int .i64 0, .bool false]) w := by kernel_rfl
theorem ta_bool_int64 (x : Bool) (w : World) : (Instr.typeAssert (.iface 4 (.bool x)) 20 2 true).run Try.prog w = .ok (.tuple #[.int .i64 0, .bool false]) w := by kernel_rfl
theorem ta_bool_string (x : Bool) (w : World) : (Instr.typeAssert (.iface 4 (.bool x)) 20 9 true).run Try.prog w = .ok (.tuple #[.string .empty, .bool false]) w := by kernel_rfl
theorem ta_bool_bool (x : Bool) (w : World) : (Instr.typeAssert (.iface 4 (.bool x)) 20 4 true).run Try.prog w = .ok (.tuple #[.bool x, .bool true]) w := by kernel_rfl

set_option maxRecDepth 100000 in
set_option maxHeartbeats 2000000 in
theorem laid_any {w : World} {A : Option Addr} {c : Nat} {l : List UInt8} (h : SL w A c l) (hl : l.length ≤ 1000000000) {D : Option Addr} (d : Nat) (its : List It) (hD : RV w D (its.map It.v)) (hok : ∀ x ∈ its, x.ok) (hn : its.length ≤ 1000)
    (x : List UInt8) (hx : x = l ++ encIts its) :
    Calls Try.prog 38 #[.slice A l.length c, .slice D its.length d] w (GivesB w x) := by
  have HX := Lib.hid hx
  have HD := Lib.hid hD
  have HOK := Lib.hid hok
  have HS := Lib.hid (show SL w A c (l ++ encIts (its.take 0)) by simpa [encIts] using h)
  have hl0 : (l ++ encIts (its.take 0)).length = l.length := by simp [encIts]
  clear hx hD hok h
  go_enter Try.func38, Try.ntmps38
  go_wp2
  go_loopw [0, 14] (fun b i wr => ∃ (k : Nat) (A' : Option Addr) (c' : Nat), k ≤ its.length ∧ i = .int .i64 k ∧ b = .slice A' (l ++ encIts (its.take k)).length c' ∧ Hid (SL wr A' c' (l ++ encIts (its.take k))) ∧ Hid (Bl w wr)) (fun _ i _ => its.length - (intOf i).toNat)
  case atStart => exact ⟨0, A, c, Nat.zero_le _, rfl, by rw [hl0], HS, Lib.hid (Bl.refl _)⟩
  case round =>
    clear HS hl0
    obtain ⟨k, A', c', hk, rfl, rfl, HS, HB⟩ := hrel
    by_cases hlt : k < its.length
    · obtain ⟨ad, rfl, hc⟩ := (HD.out.step HB.out).at_ (k := k) (by simpa using hlt)
      rw [List.getElem_map] at hc
      have hxok := HOK.out _ (List.getElem_mem hlt)
      have hle := encIts_len HOK.out k
      obtain ⟨y, hy⟩ : ∃ y, y = l ++ encIts (its.take k) := ⟨_, rfl⟩
      have hyl : y.length ≤ 1000000000 + 2000000 := by rw [hy, List.length_append]; omega
      have HN : Hid (y ++ (its[k]).enc = l ++ encIts (its.take (k + 1))) := Lib.hid (by rw [hy, encIts_take its k hlt, List.append_assoc])
      rw [← hy] at HS ⊢
      obtain ⟨y', hy'⟩ : ∃ y', y' = l ++ encIts (its.take (k + 1)) := ⟨_, rfl⟩
      have hY := HN.out
      rw [← hy'] at hY
      have HY' := Lib.hid hy'
      have hb : ∀ {wz : World} {A2 : Option Addr} {c2 : Nat}, SL wz A2 c2 y' → Hid (SL wz A2 c2 (l ++ encIts (its.take (k + 1)))) := fun h => Lib.hid (by rw [← HY'.out]; exact h)
      have HBB := @hb
      generalize its[k] = it at hc hxok hY
      have HYY := Lib.hid hY
      have HLL := Lib.hid (congrArg List.length hy')
      clear hy HN hy' hY hle hb HY'
      have HLEN : Hid (∀ (c2 : Nat) (A2 : Option Addr), Value.slice A2 y'.length c2 = .slice A2 (l ++ encIts (its.take (k + 1))).length c2) := Lib.hid fun c2 A2 => by rw [HLL.out]
      cases it with
      | int n =>
        have HP := Lib.hid (putInt_sl HS.out n y' HYY.out.symm (by omega) hxok)
        simp only [It.v] at hc
        have t1 := ta_int_int n
        go_wp2_with fail
        refine HP.out.mono ?_
        rintro e w2 ⟨A2, c2, rfl, hs2, _, b2⟩
        have HS2 := HBB hs2
        have HB2 := Lib.hid (HB.out.trans b2)
        clear hs2 b2 HS HB
        go_wp2
        go_roundw
        case rel => exact ⟨k + 1, A2, c2, by omega, by go_num, HLEN.out c2 A2, HS2, HB2⟩
        case measure => simp [intOf]; omega
      | i64 n =>
        have HP := Lib.hid (putInt_sl HS.out n y' HYY.out.symm (by omega) hxok)
        simp only [It.v] at hc
        have t1 := ta_int64_int n
        have t2 := ta_int64_int64 n
        go_wp2_with fail
        refine HP.out.mono ?_
        rintro e w2 ⟨A2, c2, rfl, hs2, _, b2⟩
        have HS2 := HBB hs2
        have HB2 := Lib.hid (HB.out.trans b2)
        clear hs2 b2 HS HB
        go_wp2
        go_roundw
        case rel => exact ⟨k + 1, A2, c2, by omega, by go_num, HLEN.out c2 A2, HS2, HB2⟩
        case measure => simp [intOf]; omega
      | str s =>
        have hb1 : Bl wr (wr.drew.alloc (.cells (bytesRow s (grownCap wr s.size 0 5)) 5 ((bytesRow s (grownCap wr s.size 0 5)).size, (bytesRow s (grownCap wr s.size 0 5)).size + 1))) := (Bl.drewN wr 1).trans (Bl.alloc _ _)
        have HP := Lib.hid (putRow_sl (HS.out.step hb1) (sl_row wr s _ (grownCap_ge wr s.size 0 5) _) y' HYY.out.symm (by rw [toNat_ba]; have : s.size ≤ 1000 := hxok; omega))
        rw [toNat_ba] at HP
        have hcv := conv_bytes wr s
        have HB1 := Lib.hid (HB.out.trans hb1)
        clear hb1
        simp only [It.v] at hc
        have t1 := ta_string_int s
        have t2 := ta_string_int64 s
        have t3 := ta_string_string s
        go_wp2_with fail
        refine HP.out.mono ?_
        rintro e w2 ⟨A2, c2, rfl, hs2, _, b2⟩
        have HS2 := HBB hs2
        have HB2 := Lib.hid (HB1.out.trans b2)
        clear hs2 b2 HS HB
        go_wp2
        go_roundw
        case rel => exact ⟨k + 1, A2, c2, by omega, by go_num, HLEN.out c2 A2, HS2, HB2⟩
        case measure => simp [intOf]; omega
      | flag b =>
        have HP := Lib.hid (putInt_sl HS.out (flagN b) y' HYY.out.symm (by omega) (by cases b <;> decide))
        simp only [It.v] at hc
        have t1 := ta_bool_int b
        have t2 := ta_bool_int64 b
        have t3 := ta_bool_string b
        have t4 := ta_bool_bool b
        cases b with
        | true =>
          go_wp2_with fail
          refine HP.out.mono ?_
          rintro e w2 ⟨A2, c2, rfl, hs2, _, b2⟩
          have HS2 := HBB hs2
          have HB2 := Lib.hid (HB.out.trans b2)
          clear hs2 b2 HS HB
          go_wp2
          go_roundw
          case rel => exact ⟨k + 1, A2, c2, by omega, by go_num, HLEN.out c2 A2, HS2, HB2⟩
          case measure => simp [intOf]; omega
        | false =>
          go_wp2_with fail
          refine HP.out.mono ?_
          rintro e w2 ⟨A2, c2, rfl, hs2, _, b2⟩
          have HS2 := HBB hs2
          have HB2 := Lib.hid (HB.out.trans b2)
          clear hs2 b2 HS HB
          go_wp2
          go_roundw
          case rel => exact ⟨k + 1, A2, c2, by omega, by go_num, HLEN.out c2 A2, HS2, HB2⟩
          case measure => simp [intOf]; omega
    · have e : its.take k = its := List.take_of_length_le (by omega)
      rw [e] at HS ⊢
      have HO : Hid (GivesB w x (.returned (.slice A' (l ++ encIts its).length c')) wr) := Lib.hid ⟨A', c', by rw [HX.out], by rw [HX.out]; exact HS.out, HB.out⟩
      clear HS HD HX HB
      go_wp2
      go_ret
      exact HO.out
end Go.Proofs.Ytigicphmnlkjfaa
