/- The live question of layer 21 answers yes. -/
import Derived.Test.YtigicphmnlkjfaaRBytes
import Derived.Test.YtigicphmnlkjfaaRCheck
import Derived.Deep.RegionHeld3
import Derived.Deep.MidRow
namespace Go.Proofs.Ytigicphmnlkjfaa
open Go.RowKit
set_option linter.unusedVariables false
set_option linter.unusedSimpArgs false

theorem check_trip {w : World} {A : Option Addr} {c : Nat} {x : ConfP} (h : CF w A c x) (hf : fewC x = true) (p a e : Int) (ht : checkC x = (p, a, e)) :
    Calls Try.prog 10 #[x.v A c] w fun r w' => r = .returned (.tuple #[.int .i64 p, .int .i64 a, .int .i64 e]) ∧ Bl w w' :=
  (check_any h hf).mono fun r w' ⟨h1, h2⟩ => ⟨by rw [h1, ht]; rfl, h2⟩
theorem rcheck_trip {w : World} {A : Option Addr} {c : Nat} {x : ConfP} (h : CF w A c x) (hf : fewC x = true) (p a e : Int) (ht : checkC x = (p, a, e)) :
    Calls Try.prog 11 #[x.v A c] w fun r w' => r = .returned (.tuple #[.int .i64 p, .int .i64 a, .int .i64 e]) ∧ Bl w w' :=
  (rcheck_any h hf).mono fun r w' ⟨h1, h2⟩ => ⟨by rw [h1, ht]; rfl, h2⟩
theorem encNs_ge (l : List Int) : l.length ≤ (encNs l).length := by
  induction l with
  | nil => exact Nat.zero_le _
  | cons n l ih =>
    show l.length + 1 ≤ (enc (zig n) ++ encNs l).length
    have := enc_pos (zig n)
    rw [List.length_append]; omega

def kz : KeepP := ⟨0, 0, 0, 0⟩
def xA : ConfP := ⟨41, 0, kz, kz, []⟩
def gB : GroupP := ⟨⟨0, 0, 200, 0, false, 0, 0, 0, 0, 0, false, 0, 0, 0⟩, ⟨0, 0, 0, 0, 0, 0, 0, 0⟩, [⟨⟨#[119]⟩, 2, 3⟩]⟩
def xB : ConfP := ⟨8, 0, ⟨0, 8, 0, 0⟩, ⟨1, 8, 0, 0⟩, [gB]⟩
theorem check_A : checkC xA = (1, 0, 1) := by decide +kernel
theorem check_B : checkC xB = (0, 0, 0) := by decide +kernel
theorem i64_lit (n : Int) (h : (Lit.int .i64 n).wf = true) : I64 n := h
theorem ok_A : xA.ok := ⟨i64_lit _ (by decide), i64_lit _ (by decide), ⟨i64_lit _ (by decide), i64_lit _ (by decide), i64_lit _ (by decide), i64_lit _ (by decide)⟩, ⟨i64_lit _ (by decide), i64_lit _ (by decide), i64_lit _ (by decide), i64_lit _ (by decide)⟩, (fun g h => by cases h), by decide⟩
theorem few_B : fewC xB = true := by decide +kernel
theorem ok_gB : gB.ok := by
  refine ⟨⟨?_, ?_, ?_, ?_, ?_, ?_, ?_, ?_, ?_, ?_, ?_, ?_⟩, ⟨?_, ?_, ?_, ?_, ?_, ?_, ?_, ?_⟩, ?_, by decide⟩
  all_goals first | exact i64_lit _ (by decide) | skip
  intro p hp
  obtain rfl : p = ⟨⟨#[119]⟩, 2, 3⟩ := by simpa [gB] using hp
  exact ⟨i64_lit _ (by decide), i64_lit _ (by decide), by decide⟩
theorem ok_B : xB.ok := by
  refine ⟨i64_lit _ (by decide), i64_lit _ (by decide), ⟨i64_lit _ (by decide), i64_lit _ (by decide), i64_lit _ (by decide), i64_lit _ (by decide)⟩, ⟨i64_lit _ (by decide), i64_lit _ (by decide), i64_lit _ (by decide), i64_lit _ (by decide)⟩, ?_, by decide⟩
  intro g hg
  obtain rfl : g = gB := by simpa [xB] using hg
  exact ok_gB
theorem len_B : 30 < (confE xB).length := by
  have h1 := encNs_ge [xB.f, xB.clip]
  have h2 := encNs_ge (keepNs xB.k0)
  have h3 := encNs_ge (keepNs xB.k1)
  have h4 := encNs_ge [(xB.groups.length : Int)]
  have h5 := encNs_ge (optNs gB.opt)
  have h6 := encNs_ge (schedNs gB.sched ++ [(gB.params.length : Int)])
  have e2 : (keepNs xB.k0).length = 4 := rfl
  have e3 : (keepNs xB.k1).length = 4 := rfl
  have e5 : (optNs gB.opt).length = 14 := rfl
  have e6 : (schedNs gB.sched ++ [(gB.params.length : Int)]).length = 9 := rfl
  have eg : groupsE xB.groups = groupE gB := by simp [groupsE, xB]
  simp only [confE, headE, eg, groupE, List.length_append, List.length_cons, List.length_nil] at *
  omega

theorem Blk.params1 {w : World} {g : Nat} {t : TypeId} {p : ParamP} (h : Blk w g t p.cs.toArray) : Params w (some ⟨g, 0, none⟩) [p] := fun _ => by
  refine ⟨g, 0, rfl, h.lt, fun i hi => ?_⟩
  obtain rfl : i = 0 := by simpa using hi
  exact ⟨h.cell 0, h.cell 1, h.cell 2⟩
theorem Blk.groups1 {w : World} {g : Nat} {t : TypeId} {x : GroupP} {P : Option Addr} {c : Nat} (h : Blk w g t (x.cs P c).toArray) (hp : Params w P x.params) (hc : x.params.length ≤ c) : Groups w (some ⟨g, 0, none⟩) [x] := fun _ => by
  refine ⟨g, 0, rfl, h.lt, fun i hi => ?_⟩
  obtain rfl : i = 0 := by simpa using hi
  exact ⟨P, c, h.rangeL, hp, hc⟩
theorem sz_alloc (w : World) (o : Obj) : (w.alloc o).heap.size = w.heap.size + 1 := by simp
theorem setup_B (w1 : World) : CF ((((w1.alloc (.cells #[.int .i64 0, .int .i64 8, .int .i64 0, .int .i64 0, .int .i64 1, .int .i64 8, .int .i64 0, .int .i64 0] 24)).alloc (.cells #[.string ⟨#[119]⟩, .int .i64 2, .int .i64 3] 56)).alloc (.cells #[.int .i64 0, .int .i64 0, .int .i64 200, .int .i64 0, .bool false, .int .i64 0, .int .i64 0, .int .i64 0, .int .i64 0, .int .i64 0, .bool false, .int .i64 0, .int .i64 0, .int .i64 0, .int .i64 0, .int .i64 0, .int .i64 0, .int .i64 0, .int .i64 0, .int .i64 0, .int .i64 0, .int .i64 0, .slice (some ⟨w1.heap.size + 1, 0, none⟩) 1 1] 54)).alloc (.cells #[.int .i64 8, .int .i64 0, .int .i64 0, .int .i64 8, .int .i64 0, .int .i64 0, .int .i64 1, .int .i64 8, .int .i64 0, .int .i64 0, .slice (some ⟨w1.heap.size + 1 + 1, 0, none⟩) 1 1] 27)) (some ⟨w1.heap.size + 1 + 1, 0, none⟩) 1 xB ∧ ((((w1.alloc (.cells #[.int .i64 0, .int .i64 8, .int .i64 0, .int .i64 0, .int .i64 1, .int .i64 8, .int .i64 0, .int .i64 0] 24)).alloc (.cells #[.string ⟨#[119]⟩, .int .i64 2, .int .i64 3] 56)).alloc (.cells #[.int .i64 0, .int .i64 0, .int .i64 200, .int .i64 0, .bool false, .int .i64 0, .int .i64 0, .int .i64 0, .int .i64 0, .int .i64 0, .bool false, .int .i64 0, .int .i64 0, .int .i64 0, .int .i64 0, .int .i64 0, .int .i64 0, .int .i64 0, .int .i64 0, .int .i64 0, .int .i64 0, .int .i64 0, .slice (some ⟨w1.heap.size + 1, 0, none⟩) 1 1] 54)).alloc (.cells #[.int .i64 8, .int .i64 0, .int .i64 0, .int .i64 8, .int .i64 0, .int .i64 0, .int .i64 1, .int .i64 8, .int .i64 0, .int .i64 0, .slice (some ⟨w1.heap.size + 1 + 1, 0, none⟩) 1 1] 27)).rangeAt (w1.heap.size + 1 + 1 + 1) 0 (xB.cs (some ⟨w1.heap.size + 1 + 1, 0, none⟩) 1) ∧ Bl w1 ((((w1.alloc (.cells #[.int .i64 0, .int .i64 8, .int .i64 0, .int .i64 0, .int .i64 1, .int .i64 8, .int .i64 0, .int .i64 0] 24)).alloc (.cells #[.string ⟨#[119]⟩, .int .i64 2, .int .i64 3] 56)).alloc (.cells #[.int .i64 0, .int .i64 0, .int .i64 200, .int .i64 0, .bool false, .int .i64 0, .int .i64 0, .int .i64 0, .int .i64 0, .int .i64 0, .bool false, .int .i64 0, .int .i64 0, .int .i64 0, .int .i64 0, .int .i64 0, .int .i64 0, .int .i64 0, .int .i64 0, .int .i64 0, .int .i64 0, .int .i64 0, .slice (some ⟨w1.heap.size + 1, 0, none⟩) 1 1] 54)).alloc (.cells #[.int .i64 8, .int .i64 0, .int .i64 0, .int .i64 8, .int .i64 0, .int .i64 0, .int .i64 1, .int .i64 8, .int .i64 0, .int .i64 0, .slice (some ⟨w1.heap.size + 1 + 1, 0, none⟩) 1 1] 27)) := by
  have s1 := sz_alloc w1 (.cells #[.int .i64 0, .int .i64 8, .int .i64 0, .int .i64 0, .int .i64 1, .int .i64 8, .int .i64 0, .int .i64 0] 24)
  have b1 := Bl.alloc w1 (.cells #[.int .i64 0, .int .i64 8, .int .i64 0, .int .i64 0, .int .i64 1, .int .i64 8, .int .i64 0, .int .i64 0] 24)
  generalize w1.alloc (.cells #[.int .i64 0, .int .i64 8, .int .i64 0, .int .i64 0, .int .i64 1, .int .i64 8, .int .i64 0, .int .i64 0] 24) = a1 at *
  have s2 := sz_alloc a1 (.cells #[.string ⟨#[119]⟩, .int .i64 2, .int .i64 3] 56)
  have k2 : Blk (a1.alloc (.cells #[.string ⟨#[119]⟩, .int .i64 2, .int .i64 3] 56)) a1.heap.size 56 (ParamP.cs ⟨⟨#[119]⟩, 2, 3⟩).toArray := Blk.new a1 _ _
  have b2 := Bl.alloc a1 (.cells #[.string ⟨#[119]⟩, .int .i64 2, .int .i64 3] 56)
  rw [s1] at k2 s2
  generalize a1.alloc (.cells #[.string ⟨#[119]⟩, .int .i64 2, .int .i64 3] 56) = a2 at *
  have k3 := Blk.new a2 54 (gB.cs (some ⟨w1.heap.size + 1, 0, none⟩) 1).toArray
  have s3 := sz_alloc a2 (.cells (gB.cs (some ⟨w1.heap.size + 1, 0, none⟩) 1).toArray 54)
  have b3 := Bl.alloc a2 (.cells (gB.cs (some ⟨w1.heap.size + 1, 0, none⟩) 1).toArray 54)
  rw [s2] at k3 s3
  have hp3 := k2.params1.step b3
  have hg3 := k3.groups1 (P := some ⟨w1.heap.size + 1, 0, none⟩) (c := 1) hp3 (by decide)
  show CF ((a2.alloc (.cells (gB.cs (some ⟨w1.heap.size + 1, 0, none⟩) 1).toArray 54)).alloc (.cells (xB.cs (some ⟨w1.heap.size + 1 + 1, 0, none⟩) 1).toArray 27)) (some ⟨w1.heap.size + 1 + 1, 0, none⟩) 1 xB ∧
    ((a2.alloc (.cells (gB.cs (some ⟨w1.heap.size + 1, 0, none⟩) 1).toArray 54)).alloc (.cells (xB.cs (some ⟨w1.heap.size + 1 + 1, 0, none⟩) 1).toArray 27)).rangeAt (w1.heap.size + 1 + 1 + 1) 0 (xB.cs (some ⟨w1.heap.size + 1 + 1, 0, none⟩) 1) ∧
    Bl w1 ((a2.alloc (.cells (gB.cs (some ⟨w1.heap.size + 1, 0, none⟩) 1).toArray 54)).alloc (.cells (xB.cs (some ⟨w1.heap.size + 1 + 1, 0, none⟩) 1).toArray 27))
  generalize a2.alloc (.cells (gB.cs (some ⟨w1.heap.size + 1, 0, none⟩) 1).toArray 54) = a3 at *
  have k4 := Blk.new a3 27 (xB.cs (some ⟨w1.heap.size + 1 + 1, 0, none⟩) 1).toArray
  rw [s3] at k4
  exact ⟨⟨hg3.step (Bl.alloc _ _), by decide, ok_B⟩, k4.rangeL, ((b1.trans b2).trans b3).trans (Bl.alloc _ _)⟩

set_option maxRecDepth 100000 in
set_option maxHeartbeats 8000000 in
theorem alive21 (w : World) : Calls Try.prog 9 #[] w fun e w' => e = .returned (.bool true) ∧ Bl w w' := by
  go_enter Try.func9, Try.ntmps9
  go_wp2_with fail
  refine (check_trip (x := xA) (A := none) (c := 0) ⟨Groups.nil_ _ _, by decide, ok_A⟩ (by decide +kernel) 1 0 1 check_A).mono ?_
  rintro e w1 ⟨rfl, b1⟩
  obtain ⟨hcf, hrg, hbl⟩ := setup_B w1
  have HB2 := Lib.hid (b1.trans hbl)
  have HCF := Lib.hid hcf
  have HRg := Lib.hid hrg
  clear b1 hcf hrg hbl
  go_wp2_with fail
  generalize hW2 : ((((w1.alloc (.cells #[.int .i64 0, .int .i64 8, .int .i64 0, .int .i64 0, .int .i64 1, .int .i64 8, .int .i64 0, .int .i64 0] 24)).alloc (.cells #[.string ⟨#[119]⟩, .int .i64 2, .int .i64 3] 56)).alloc (.cells #[.int .i64 0, .int .i64 0, .int .i64 200, .int .i64 0, .bool false, .int .i64 0, .int .i64 0, .int .i64 0, .int .i64 0, .int .i64 0, .bool false, .int .i64 0, .int .i64 0, .int .i64 0, .int .i64 0, .int .i64 0, .int .i64 0, .int .i64 0, .int .i64 0, .int .i64 0, .int .i64 0, .int .i64 0, .slice (some ⟨w1.heap.size + 1, 0, none⟩) 1 1] 54)).alloc (.cells #[.int .i64 8, .int .i64 0, .int .i64 0, .int .i64 8, .int .i64 0, .int .i64 0, .int .i64 1, .int .i64 8, .int .i64 0, .int .i64 0, .slice (some ⟨w1.heap.size + 1 + 1, 0, none⟩) 1 1] 27)) = W2 at *
  clear hW2
  obtain ⟨bx, hbx⟩ : ∃ bx, bx = w1.heap.size + 1 + 1 + 1 := ⟨_, rfl⟩
  obtain ⟨ag, hag⟩ : ∃ ag : Option Addr, ag = some ⟨w1.heap.size + 1 + 1, 0, none⟩ := ⟨_, rfl⟩
  rw [← hag] at HCF HRg
  rw [← hbx] at HRg
  obtain ⟨cv, hcv⟩ : ∃ cv, cv = xB.cs ag 1 := ⟨_, rfl⟩
  have HV : Hid (xB.v ag 1 = .agg cv.toArray) := Lib.hid (by rw [hcv]; rfl)
  have HCL : Hid (cv.length = 11) := Lib.hid (by rw [hcv]; rfl)
  rw [← hcv] at HRg
  have hck := check_trip HCF.out few_B 0 0 0 check_B
  rw [HV.out] at hck
  have HCK := Lib.hid (show Calls Try.prog 10 #[.agg #[.int .i64 8, .int .i64 0, .int .i64 0, .int .i64 8, .int .i64 0, .int .i64 0, .int .i64 1, .int .i64 8, .int .i64 0, .int .i64 0, .slice (some ⟨w1.heap.size + 1 + 1, 0, none⟩) 1 1]] W2 _ from by rw [hcv, hag] at hck; exact hck)
  clear hck hcv
  refine HCK.out.mono ?_
  rintro e w3 ⟨rfl, b3⟩
  have HB3 := Lib.hid (HB2.out.trans b3)
  have HCF3 := Lib.hid (HCF.out.step b3)
  have hblt : bx < W2.heap.size := by
    have := HRg.out 0 (cv[0]'(by rw [HCL.out]; omega)) (List.getElem?_eq_getElem _)
    exact block_lt_of_cell this
  have HRg3 := Lib.hid (rangeAt_step HRg.out hblt b3)
  have hblt3 : bx < w3.heap.size := Nat.lt_of_lt_of_le hblt b3.size
  clear b3 HCK HB2 HCF HRg hblt
  go_wp2
  rw [← hbx]
  clear hbx hag
  have hRg : ∀ w', Bl w3 w' → w'.rangeAt bx 0 cv := fun w' h => rangeAt_step HRg3.out hblt3 h
  have HNm := Lib.hid (show true = decide (NameP ⟨#[119, 95, 49]⟩) by decide +kernel)
  have HNo := Lib.hid (show false = decide (NameP ⟨#[49, 119]⟩) by decide +kernel)
  have hMany := fun w' (h : Bl w3 w') => many_any (HCF3.out.step h) few_B
  have hBytes := fun w' (h : Bl w3 w') => bytes_any (HCF3.out.step h) few_B
  have hDig := fun w' (h : Bl w3 w') n (hn : n = crcOf (confE xB)) => digest_any (HCF3.out.step h) few_B n hn
  rw [HV.out] at hMany hBytes hDig
  obtain ⟨n, hn⟩ : ∃ n, n = crcOf (confE xB) := ⟨_, rfl⟩
  have HN := Lib.hid hn
  obtain ⟨y, hy⟩ : ∃ y, y = confE xB := ⟨_, rfl⟩
  have hyl : 30 < y.length := by rw [hy]; exact len_B
  have hyi : (30 : Int) < (y.length : Int) := by omega
  have hyl2 : y.length ≤ 20000 := by rw [hy]; exact confE_le ok_B few_B
  rw [← hy] at hBytes HN
  have HMany := Lib.hid hMany; have HBytes := Lib.hid hBytes; have HDig := Lib.hid (fun w' h => hDig w' h n hn)
  have hm1 : manyP xB.groups = 1 := by decide +kernel
  rw [hm1] at HMany
  clear hMany hBytes hDig hn hy hm1
  have hdr : Bl w3 w3.drew := Bl.drewN w3 1
  refine wp_region_noPanic ?_
  refine wp_region_held_drew (S := fun w' => Bl w3 w') (by kernel_rfl) hdr (fun hHeld => ?_)

  refine wpAnyH_take (i := 0) (oi := { dst := some 32, op := Op.move (Operand.tmp 1), type := 3, pos := "law.go:17", after := #[], guard := none }) (v := ?_) rfl (by kernel_rfl) (by kernel_rfl) (by kernel_rfl) (fun _ _ _ h => h) (Or.inl ⟨by rfl, ?_⟩) hHeld ?_
  rotate_left
  · intro w' hSw
    go_simp
    try with_reducible rfl
  try simp only [Act.put, List.setIfInBounds_toArray, List.set_cons_zero, List.set_cons_succ]
  refine wpAnyH_take (i := 1) (oi := { dst := some 33, op := Op.binOp BinOp.eql 3 (Operand.tmp 32) (Operand.const (Value.int IntKind.i64 1)) 3, type := 4, pos := "law.go:17", after := #[{ on := 0, ground := Ground.data }], guard := none }) (v := ?_) rfl (by kernel_rfl) (by kernel_rfl) (by kernel_rfl) (fun _ _ _ h => h) (Or.inl ⟨by rfl, ?_⟩) hHeld ?_
  rotate_left
  · intro w' hSw
    go_simp
    try with_reducible rfl
  try simp only [Act.put, List.setIfInBounds_toArray, List.set_cons_zero, List.set_cons_succ]
  refine wpAnyH_take (i := 2) (oi := { dst := some 34, op := Op.move (Operand.tmp 33), type := 4, pos := "law.go:17", after := #[{ on := 1, ground := Ground.data }], guard := none }) (v := ?_) rfl (by kernel_rfl) (by kernel_rfl) (by kernel_rfl) (fun _ _ _ h => h) (Or.inl ⟨by rfl, ?_⟩) hHeld ?_
  rotate_left
  · intro w' hSw
    go_simp
    try with_reducible rfl
  try simp only [Act.put, List.setIfInBounds_toArray, List.set_cons_zero, List.set_cons_succ]
  refine wpAnyH_take (i := 3) (oi := { dst := some 35, op := Op.move (Operand.tmp 2), type := 3, pos := "law.go:17", after := #[{ on := 2, ground := Ground.guard }], guard := some (2, true) }) (v := ?_) rfl (by kernel_rfl) (by kernel_rfl) (by kernel_rfl) (fun _ _ _ h => h) (Or.inl ⟨by rfl, ?_⟩) hHeld ?_
  rotate_left
  · intro w' hSw
    go_simp
    try with_reducible rfl
  try simp only [Act.put, List.setIfInBounds_toArray, List.set_cons_zero, List.set_cons_succ]
  refine wpAnyH_take (i := 4) (oi := { dst := some 36, op := Op.binOp BinOp.eql 3 (Operand.tmp 35) (Operand.const (Value.int IntKind.i64 0)) 3, type := 4, pos := "law.go:17", after := #[{ on := 3, ground := Ground.data }, { on := 2, ground := Ground.guard }], guard := some (2, true) }) (v := ?_) rfl (by kernel_rfl) (by kernel_rfl) (by kernel_rfl) (fun _ _ _ h => h) (Or.inl ⟨by rfl, ?_⟩) hHeld ?_
  rotate_left
  · intro w' hSw
    go_simp
    try with_reducible rfl
  try simp only [Act.put, List.setIfInBounds_toArray, List.set_cons_zero, List.set_cons_succ]
  refine wpAnyH_take (i := 5) (oi := { dst := some 37, op := Op.pick (Operand.tmp 34) (Operand.tmp 36) (Operand.const (Value.bool false)), type := 4, pos := "law.go:17", after := #[{ on := 2, ground := Ground.data }, { on := 4, ground := Ground.data }], guard := none }) (v := ?_) rfl (by kernel_rfl) (by kernel_rfl) (by kernel_rfl) (fun _ _ _ h => h) (Or.inl ⟨by rfl, ?_⟩) hHeld ?_
  rotate_left
  · intro w' hSw
    go_simp
    try with_reducible rfl
  try simp only [Act.put, List.setIfInBounds_toArray, List.set_cons_zero, List.set_cons_succ]
  refine wpAnyH_take (i := 6) (oi := { dst := some 38, op := Op.move (Operand.tmp 37), type := 4, pos := "law.go:17", after := #[{ on := 5, ground := Ground.data }, { on := 2, ground := Ground.chain }], guard := none }) (v := ?_) rfl (by kernel_rfl) (by kernel_rfl) (by kernel_rfl) (fun _ _ _ h => h) (Or.inl ⟨by rfl, ?_⟩) hHeld ?_
  rotate_left
  · intro w' hSw
    go_simp
    try with_reducible rfl
  try simp only [Act.put, List.setIfInBounds_toArray, List.set_cons_zero, List.set_cons_succ]
  refine wpAnyH_take (i := 7) (oi := { dst := some 39, op := Op.move (Operand.tmp 3), type := 30, pos := "law.go:17", after := #[{ on := 6, ground := Ground.guard }], guard := some (6, true) }) (v := ?_) rfl (by kernel_rfl) (by kernel_rfl) (by kernel_rfl) (fun _ _ _ h => h) (Or.inl ⟨by rfl, ?_⟩) hHeld ?_
  rotate_left
  · intro w' hSw
    go_simp
    try with_reducible rfl
  try simp only [Act.put, List.setIfInBounds_toArray, List.set_cons_zero, List.set_cons_succ]
  refine wpAnyH_take (i := 8) (oi := { dst := some 40, op := Op.binOp BinOp.eql 30 (Operand.tmp 39) (Operand.const (Value.int IntKind.i64 1)) 30, type := 4, pos := "law.go:17", after := #[{ on := 7, ground := Ground.data }, { on := 6, ground := Ground.guard }], guard := some (6, true) }) (v := ?_) rfl (by kernel_rfl) (by kernel_rfl) (by kernel_rfl) (fun _ _ _ h => h) (Or.inl ⟨by rfl, ?_⟩) hHeld ?_
  rotate_left
  · intro w' hSw
    go_simp
    try with_reducible rfl
  try simp only [Act.put, List.setIfInBounds_toArray, List.set_cons_zero, List.set_cons_succ]
  refine wpAnyH_take (i := 9) (oi := { dst := some 41, op := Op.pick (Operand.tmp 38) (Operand.tmp 40) (Operand.const (Value.bool false)), type := 4, pos := "law.go:17", after := #[{ on := 6, ground := Ground.data }, { on := 8, ground := Ground.data }], guard := none }) (v := ?_) rfl (by kernel_rfl) (by kernel_rfl) (by kernel_rfl) (fun _ _ _ h => h) (Or.inl ⟨by rfl, ?_⟩) hHeld ?_
  rotate_left
  · intro w' hSw
    go_simp
    try with_reducible rfl
  try simp only [Act.put, List.setIfInBounds_toArray, List.set_cons_zero, List.set_cons_succ]
  refine wpAnyH_take (i := 10) (oi := { dst := some 42, op := Op.move (Operand.tmp 41), type := 4, pos := "law.go:17", after := #[{ on := 9, ground := Ground.data }, { on := 6, ground := Ground.chain }], guard := none }) (v := ?_) rfl (by kernel_rfl) (by kernel_rfl) (by kernel_rfl) (fun _ _ _ h => h) (Or.inl ⟨by rfl, ?_⟩) hHeld ?_
  rotate_left
  · intro w' hSw
    go_simp
    try with_reducible rfl
  try simp only [Act.put, List.setIfInBounds_toArray, List.set_cons_zero, List.set_cons_succ]
  refine wpAnyH_take (i := 11) (oi := { dst := some 43, op := Op.move (Operand.tmp 8), type := 30, pos := "law.go:17", after := #[{ on := 10, ground := Ground.guard }], guard := some (10, true) }) (v := ?_) rfl (by kernel_rfl) (by kernel_rfl) (by kernel_rfl) (fun _ _ _ h => h) (Or.inl ⟨by rfl, ?_⟩) hHeld ?_
  rotate_left
  · intro w' hSw
    go_simp
    try with_reducible rfl
  try simp only [Act.put, List.setIfInBounds_toArray, List.set_cons_zero, List.set_cons_succ]
  refine wpAnyH_take (i := 12) (oi := { dst := some 44, op := Op.binOp BinOp.eql 30 (Operand.tmp 43) (Operand.const (Value.int IntKind.i64 0)) 30, type := 4, pos := "law.go:17", after := #[{ on := 11, ground := Ground.data }, { on := 10, ground := Ground.guard }], guard := some (10, true) }) (v := ?_) rfl (by kernel_rfl) (by kernel_rfl) (by kernel_rfl) (fun _ _ _ h => h) (Or.inl ⟨by rfl, ?_⟩) hHeld ?_
  rotate_left
  · intro w' hSw
    go_simp
    try with_reducible rfl
  try simp only [Act.put, List.setIfInBounds_toArray, List.set_cons_zero, List.set_cons_succ]
  refine wpAnyH_take (i := 13) (oi := { dst := some 45, op := Op.pick (Operand.tmp 42) (Operand.tmp 44) (Operand.const (Value.bool false)), type := 4, pos := "law.go:17", after := #[{ on := 10, ground := Ground.data }, { on := 12, ground := Ground.data }], guard := none }) (v := ?_) rfl (by kernel_rfl) (by kernel_rfl) (by kernel_rfl) (fun _ _ _ h => h) (Or.inl ⟨by rfl, ?_⟩) hHeld ?_
  rotate_left
  · intro w' hSw
    go_simp
    try with_reducible rfl
  try simp only [Act.put, List.setIfInBounds_toArray, List.set_cons_zero, List.set_cons_succ]
  refine wpAnyH_take (i := 14) (oi := { dst := some 46, op := Op.move (Operand.tmp 45), type := 4, pos := "law.go:17", after := #[{ on := 13, ground := Ground.data }, { on := 10, ground := Ground.chain }], guard := none }) (v := ?_) rfl (by kernel_rfl) (by kernel_rfl) (by kernel_rfl) (fun _ _ _ h => h) (Or.inl ⟨by rfl, ?_⟩) hHeld ?_
  rotate_left
  · intro w' hSw
    go_simp
    try with_reducible rfl
  try simp only [Act.put, List.setIfInBounds_toArray, List.set_cons_zero, List.set_cons_succ]
  refine wpAnyH_ready (rs := [15]) (by kernel_rfl) (by simp) ?_
  refine AllReadyH.cons (o := { dst := some 47, op := Op.call { callee := Callee.value (Operand.func 14), args := #[Operand.const (Value.string { data := #[119, 95, 49] })], argTypes := #[9] }, type := 4, pos := "law.go:17", after := #[{ on := 14, ground := Ground.chain }, { on := 14, ground := Ground.guard }], guard := some (14, true) }) rfl (fun K hK => ?_) AllReadyH.nil
  go_simp
  refine (isName_to _ true HNm.out _ (by decide)).mono ?_
  rintro e v1 ⟨rfl, b⟩
  have hHb := hHeld.trans b
  try go_wp2_with fail
  refine hK.out _ _ hHb (fun hHeld => ?_)
  clear hK K
  clear hHb b
  try simp only [Act.put, List.setIfInBounds_toArray, List.set_cons_zero, List.set_cons_succ]
  refine wpAnyH_take (i := 16) (oi := { dst := some 48, op := Op.pick (Operand.tmp 46) (Operand.tmp 47) (Operand.const (Value.bool false)), type := 4, pos := "law.go:17", after := #[{ on := 14, ground := Ground.data }, { on := 15, ground := Ground.data }], guard := none }) (v := ?_) rfl (by kernel_rfl) (by kernel_rfl) (by kernel_rfl) (fun _ _ _ h => h) (Or.inl ⟨by rfl, ?_⟩) hHeld ?_
  rotate_left
  · intro w' hSw
    go_simp
    try with_reducible rfl
  try simp only [Act.put, List.setIfInBounds_toArray, List.set_cons_zero, List.set_cons_succ]
  refine wpAnyH_take (i := 17) (oi := { dst := some 49, op := Op.move (Operand.tmp 48), type := 4, pos := "law.go:17", after := #[{ on := 16, ground := Ground.data }, { on := 15, ground := Ground.chain }], guard := none }) (v := ?_) rfl (by kernel_rfl) (by kernel_rfl) (by kernel_rfl) (fun _ _ _ h => h) (Or.inl ⟨by rfl, ?_⟩) hHeld ?_
  rotate_left
  · intro w' hSw
    go_simp
    try with_reducible rfl
  try simp only [Act.put, List.setIfInBounds_toArray, List.set_cons_zero, List.set_cons_succ]
  refine wpAnyH_ready (rs := [18]) (by kernel_rfl) (by simp) ?_
  refine AllReadyH.cons (o := { dst := some 50, op := Op.call { callee := Callee.value (Operand.func 14), args := #[Operand.const (Value.string { data := #[49, 119] })], argTypes := #[9] }, type := 4, pos := "law.go:17", after := #[{ on := 17, ground := Ground.chain }, { on := 17, ground := Ground.guard }], guard := some (17, true) }) rfl (fun K hK => ?_) AllReadyH.nil
  go_simp
  refine (isName_to _ false HNo.out _ (by decide)).mono ?_
  rintro e v2 ⟨rfl, b⟩
  have hHb := hHeld.trans b
  try go_wp2_with fail
  refine hK.out _ _ hHb (fun hHeld => ?_)
  clear hK K
  clear hHb b
  try simp only [Act.put, List.setIfInBounds_toArray, List.set_cons_zero, List.set_cons_succ]
  refine wpAnyH_take (i := 19) (oi := { dst := some 51, op := Op.unOp UnOp.not 4 (Operand.tmp 50), type := 4, pos := "law.go:17", after := #[{ on := 18, ground := Ground.data }, { on := 17, ground := Ground.guard }], guard := some (17, true) }) (v := ?_) rfl (by kernel_rfl) (by kernel_rfl) (by kernel_rfl) (fun _ _ _ h => h) (Or.inl ⟨by rfl, ?_⟩) hHeld ?_
  rotate_left
  · intro w' hSw
    go_simp
    try with_reducible rfl
  try simp only [Act.put, List.setIfInBounds_toArray, List.set_cons_zero, List.set_cons_succ]
  refine wpAnyH_take (i := 20) (oi := { dst := some 52, op := Op.pick (Operand.tmp 49) (Operand.tmp 51) (Operand.const (Value.bool false)), type := 4, pos := "law.go:17", after := #[{ on := 17, ground := Ground.data }, { on := 19, ground := Ground.data }], guard := none }) (v := ?_) rfl (by kernel_rfl) (by kernel_rfl) (by kernel_rfl) (fun _ _ _ h => h) (Or.inl ⟨by rfl, ?_⟩) hHeld ?_
  rotate_left
  · intro w' hSw
    go_simp
    try with_reducible rfl
  try simp only [Act.put, List.setIfInBounds_toArray, List.set_cons_zero, List.set_cons_succ]
  refine wpAnyH_take (i := 21) (oi := { dst := some 53, op := Op.move (Operand.tmp 52), type := 4, pos := "law.go:17", after := #[{ on := 20, ground := Ground.data }, { on := 18, ground := Ground.chain }], guard := none }) (v := ?_) rfl (by kernel_rfl) (by kernel_rfl) (by kernel_rfl) (fun _ _ _ h => h) (Or.inl ⟨by rfl, ?_⟩) hHeld ?_
  rotate_left
  · intro w' hSw
    go_simp
    try with_reducible rfl
  try simp only [Act.put, List.setIfInBounds_toArray, List.set_cons_zero, List.set_cons_succ]
  refine wpAnyH_take (i := 22) (oi := { dst := some 54, op := Op.load 27 (Operand.tmp 5), type := 27, pos := "law.go:17", after := #[{ on := 21, ground := Ground.guard }], guard := some (21, true) }) (v := .agg cv.toArray) rfl (by kernel_rfl) (by kernel_rfl) (by kernel_rfl) (fun _ _ _ h => h) (yieldsIf_load_mid (by rfl) 27 (.tmp 5) rfl bx 0 rfl cv _ hRg Try.underlying27 rfl (by rw [HCL.out]; exact c_size)) hHeld ?_
  try simp only [Act.put, List.setIfInBounds_toArray, List.set_cons_zero, List.set_cons_succ]
  refine wpAnyH_ready (rs := [23]) (by kernel_rfl) (by simp) ?_
  refine AllReadyH.cons (o := { dst := some 55, op := Op.call { callee := Callee.value (Operand.func 12), args := #[Operand.tmp 54], argTypes := #[27] }, type := 3, pos := "law.go:17", after := #[{ on := 22, ground := Ground.data }, { on := 21, ground := Ground.chain }, { on := 21, ground := Ground.guard }], guard := some (21, true) }) rfl (fun K hK => ?_) AllReadyH.nil
  go_simp
  refine (HMany.out _ hHeld).mono ?_
  rintro e v3 ⟨rfl, b⟩
  have hHb := hHeld.trans b
  try go_wp2_with fail
  refine hK.out _ _ hHb (fun hHeld => ?_)
  clear hK K
  clear hHb b
  try simp only [Act.put, List.setIfInBounds_toArray, List.set_cons_zero, List.set_cons_succ]
  refine wpAnyH_take (i := 24) (oi := { dst := some 56, op := Op.binOp BinOp.eql 3 (Operand.tmp 55) (Operand.const (Value.int IntKind.i64 1)) 3, type := 4, pos := "law.go:17", after := #[{ on := 23, ground := Ground.data }, { on := 21, ground := Ground.guard }], guard := some (21, true) }) (v := ?_) rfl (by kernel_rfl) (by kernel_rfl) (by kernel_rfl) (fun _ _ _ h => h) (Or.inl ⟨by rfl, ?_⟩) hHeld ?_
  rotate_left
  · intro w' hSw
    go_simp
    try with_reducible rfl
  try simp only [Act.put, List.setIfInBounds_toArray, List.set_cons_zero, List.set_cons_succ]
  refine wpAnyH_take (i := 25) (oi := { dst := some 57, op := Op.pick (Operand.tmp 53) (Operand.tmp 56) (Operand.const (Value.bool false)), type := 4, pos := "law.go:17", after := #[{ on := 21, ground := Ground.data }, { on := 24, ground := Ground.data }], guard := none }) (v := ?_) rfl (by kernel_rfl) (by kernel_rfl) (by kernel_rfl) (fun _ _ _ h => h) (Or.inl ⟨by rfl, ?_⟩) hHeld ?_
  rotate_left
  · intro w' hSw
    go_simp
    try with_reducible rfl
  try simp only [Act.put, List.setIfInBounds_toArray, List.set_cons_zero, List.set_cons_succ]
  refine wpAnyH_take (i := 26) (oi := { dst := some 58, op := Op.move (Operand.tmp 57), type := 4, pos := "law.go:17", after := #[{ on := 25, ground := Ground.data }, { on := 23, ground := Ground.chain }], guard := none }) (v := ?_) rfl (by kernel_rfl) (by kernel_rfl) (by kernel_rfl) (fun _ _ _ h => h) (Or.inl ⟨by rfl, ?_⟩) hHeld ?_
  rotate_left
  · intro w' hSw
    go_simp
    try with_reducible rfl
  try simp only [Act.put, List.setIfInBounds_toArray, List.set_cons_zero, List.set_cons_succ]
  refine wpAnyH_take (i := 27) (oi := { dst := some 59, op := Op.load 27 (Operand.tmp 5), type := 27, pos := "law.go:17", after := #[{ on := 26, ground := Ground.guard }], guard := some (26, true) }) (v := .agg cv.toArray) rfl (by kernel_rfl) (by kernel_rfl) (by kernel_rfl) (fun _ _ _ h => h) (yieldsIf_load_mid (by rfl) 27 (.tmp 5) rfl bx 0 rfl cv _ hRg Try.underlying27 rfl (by rw [HCL.out]; exact c_size)) hHeld ?_
  try simp only [Act.put, List.setIfInBounds_toArray, List.set_cons_zero, List.set_cons_succ]
  refine wpAnyH_ready (rs := [28]) (by kernel_rfl) (by simp) ?_
  refine AllReadyH.cons (o := { dst := some 60, op := Op.call { callee := Callee.value (Operand.func 17), args := #[Operand.tmp 59], argTypes := #[27] }, type := 37, pos := "law.go:17", after := #[{ on := 27, ground := Ground.data }, { on := 26, ground := Ground.chain }, { on := 26, ground := Ground.guard }], guard := some (26, true) }) rfl (fun K hK => ?_) AllReadyH.nil
  go_simp
  refine (HBytes.out _ hHeld).mono ?_
  rintro e v4 ⟨A4, c4, rfl, hs4, b⟩
  have hHb := hHeld.trans b
  try go_wp2_with fail
  refine hK.out _ _ hHb (fun hHeld => ?_)
  clear hK K
  clear hHb b hs4
  try simp only [Act.put, List.setIfInBounds_toArray, List.set_cons_zero, List.set_cons_succ]
  refine wpAnyH_take (i := 29) (oi := { dst := some 61, op := Op.call { callee := Callee.builtin Builtin.len, args := #[Operand.tmp 60], argTypes := #[37] }, type := 3, pos := "law.go:17", after := #[{ on := 28, ground := Ground.data }, { on := 26, ground := Ground.guard }], guard := some (26, true) }) (v := ?_) rfl (by kernel_rfl) (by kernel_rfl) (by kernel_rfl) (fun _ _ _ h => h) (Or.inl ⟨by rfl, ?_⟩) hHeld ?_
  rotate_left
  · intro w' hSw
    go_simp
    try with_reducible rfl
  try simp only [Act.put, List.setIfInBounds_toArray, List.set_cons_zero, List.set_cons_succ]
  refine wpAnyH_take (i := 30) (oi := { dst := some 62, op := Op.binOp BinOp.gtr 3 (Operand.tmp 61) (Operand.const (Value.int IntKind.i64 30)) 3, type := 4, pos := "law.go:17", after := #[{ on := 29, ground := Ground.data }, { on := 26, ground := Ground.guard }], guard := some (26, true) }) (v := ?_) rfl (by kernel_rfl) (by kernel_rfl) (by kernel_rfl) (fun _ _ _ h => h) (Or.inl ⟨by rfl, ?_⟩) hHeld ?_
  rotate_left
  · intro w' hSw
    go_simp
    try with_reducible rfl
  try simp only [Act.put, List.setIfInBounds_toArray, List.set_cons_zero, List.set_cons_succ]
  refine wpAnyH_take (i := 31) (oi := { dst := some 63, op := Op.pick (Operand.tmp 58) (Operand.tmp 62) (Operand.const (Value.bool false)), type := 4, pos := "law.go:17", after := #[{ on := 26, ground := Ground.data }, { on := 30, ground := Ground.data }], guard := none }) (v := ?_) rfl (by kernel_rfl) (by kernel_rfl) (by kernel_rfl) (fun _ _ _ h => h) (Or.inl ⟨by rfl, ?_⟩) hHeld ?_
  rotate_left
  · intro w' hSw
    go_simp
    try with_reducible rfl
  try simp only [Act.put, List.setIfInBounds_toArray, List.set_cons_zero, List.set_cons_succ]
  refine wpAnyH_take (i := 32) (oi := { dst := some 64, op := Op.move (Operand.tmp 63), type := 4, pos := "law.go:17", after := #[{ on := 31, ground := Ground.data }, { on := 28, ground := Ground.chain }], guard := none }) (v := ?_) rfl (by kernel_rfl) (by kernel_rfl) (by kernel_rfl) (fun _ _ _ h => h) (Or.inl ⟨by rfl, ?_⟩) hHeld ?_
  rotate_left
  · intro w' hSw
    go_simp
    try with_reducible rfl
  try simp only [Act.put, List.setIfInBounds_toArray, List.set_cons_zero, List.set_cons_succ]
  refine wpAnyH_take (i := 33) (oi := { dst := some 65, op := Op.load 27 (Operand.tmp 5), type := 27, pos := "law.go:17", after := #[{ on := 32, ground := Ground.guard }], guard := some (32, true) }) (v := .agg cv.toArray) rfl (by kernel_rfl) (by kernel_rfl) (by kernel_rfl) (fun _ _ _ h => h) (yieldsIf_load_mid (by rfl) 27 (.tmp 5) rfl bx 0 rfl cv _ hRg Try.underlying27 rfl (by rw [HCL.out]; exact c_size)) hHeld ?_
  try simp only [Act.put, List.setIfInBounds_toArray, List.set_cons_zero, List.set_cons_succ]
  refine wpAnyH_take (i := 35) (oi := { dst := some 67, op := Op.load 27 (Operand.tmp 5), type := 27, pos := "law.go:17", after := #[{ on := 32, ground := Ground.guard }], guard := some (32, true) }) (v := .agg cv.toArray) rfl (by kernel_rfl) (by kernel_rfl) (by kernel_rfl) (fun _ _ _ h => h) (yieldsIf_load_mid (by rfl) 27 (.tmp 5) rfl bx 0 rfl cv _ hRg Try.underlying27 rfl (by rw [HCL.out]; exact c_size)) hHeld ?_
  try simp only [Act.put, List.setIfInBounds_toArray, List.set_cons_zero, List.set_cons_succ]
  refine wpAnyH_ready (rs := [34]) (by kernel_rfl) (by simp) ?_
  refine AllReadyH.cons (o := { dst := some 66, op := Op.call { callee := Callee.value (Operand.func 19), args := #[Operand.tmp 65], argTypes := #[27] }, type := 39, pos := "law.go:17", after := #[{ on := 33, ground := Ground.data }, { on := 32, ground := Ground.chain }, { on := 32, ground := Ground.guard }], guard := some (32, true) }) rfl (fun K hK => ?_) AllReadyH.nil
  go_simp
  refine (HDig.out _ hHeld).mono ?_
  rintro e v5 ⟨rfl, b⟩
  have hHb := hHeld.trans b
  try go_wp2_with fail
  refine hK.out _ _ hHb (fun hHeld => ?_)
  clear hK K
  clear hHb b
  try simp only [Act.put, List.setIfInBounds_toArray, List.set_cons_zero, List.set_cons_succ]
  refine wpAnyH_ready (rs := [36]) (by kernel_rfl) (by simp) ?_
  refine AllReadyH.cons (o := { dst := some 68, op := Op.call { callee := Callee.value (Operand.func 17), args := #[Operand.tmp 67], argTypes := #[27] }, type := 37, pos := "law.go:17", after := #[{ on := 35, ground := Ground.data }, { on := 34, ground := Ground.chain }, { on := 32, ground := Ground.guard }], guard := some (32, true) }) rfl (fun K hK => ?_) AllReadyH.nil
  go_simp
  refine (HBytes.out _ hHeld).mono ?_
  rintro e v6 ⟨A6, c6, rfl, hs6, b⟩
  have hHb := hHeld.trans b
  try go_wp2_with fail
  refine hK.out _ _ hHb (fun hHeld => ?_)
  clear hK K
  have HS6 := Lib.hid hs6
  clear hHb b hs6
  try simp only [Act.put, List.setIfInBounds_toArray, List.set_cons_zero, List.set_cons_succ]
  refine wpAnyH_ready (rs := [37]) (by kernel_rfl) (by simp) ?_
  refine AllReadyH.cons (o := { dst := some 69, op := Op.call { callee := Callee.value (Operand.func 22), args := #[Operand.tmp 68], argTypes := #[37] }, type := 39, pos := "law.go:17", after := #[{ on := 36, ground := Ground.data }, { on := 36, ground := Ground.chain }, { on := 32, ground := Ground.guard }], guard := some (32, true) }) rfl (fun K hK => ?_) AllReadyH.nil
  go_simp
  refine (rof_sl HS6.out n HN.out (by omega)).mono ?_
  rintro e v7 ⟨rfl, b⟩
  have hHb := hHeld
  rw [b] at hHb
  try go_wp2_with fail
  refine hK.out _ _ hHb (fun hHeld => ?_)
  clear hK K
  clear hHb
  try simp only [Act.put, List.setIfInBounds_toArray, List.set_cons_zero, List.set_cons_succ]
  refine wpAnyH_take (i := 38) (oi := { dst := some 70, op := Op.binOp BinOp.eql 39 (Operand.tmp 66) (Operand.tmp 69) 39, type := 4, pos := "law.go:17", after := #[{ on := 34, ground := Ground.data }, { on := 37, ground := Ground.data }, { on := 32, ground := Ground.guard }], guard := some (32, true) }) (v := ?_) rfl (by kernel_rfl) (by kernel_rfl) (by kernel_rfl) (fun _ _ _ h => h) (Or.inl ⟨by rfl, ?_⟩) hHeld ?_
  rotate_left
  · intro w' hSw
    go_simp
    try with_reducible rfl
  try simp only [Act.put, List.setIfInBounds_toArray, List.set_cons_zero, List.set_cons_succ]
  refine wpAnyH_take (i := 39) (oi := { dst := some 71, op := Op.pick (Operand.tmp 64) (Operand.tmp 70) (Operand.const (Value.bool false)), type := 4, pos := "law.go:17", after := #[{ on := 32, ground := Ground.data }, { on := 38, ground := Ground.data }], guard := none }) (v := ?_) rfl (by kernel_rfl) (by kernel_rfl) (by kernel_rfl) (fun _ _ _ h => h) (Or.inl ⟨by rfl, ?_⟩) hHeld ?_
  rotate_left
  · intro w' hSw
    go_simp
    try with_reducible rfl
  try simp only [Act.put, List.setIfInBounds_toArray, List.set_cons_zero, List.set_cons_succ]
  refine wpAnyH_take (i := 40) (oi := { dst := some 0, op := Op.assign (Operand.tmp 71), type := 4, pos := "law.go:17", after := #[{ on := 39, ground := Ground.data }, { on := 37, ground := Ground.chain }, { on := 0, ground := Ground.phase }, { on := 1, ground := Ground.phase }, { on := 2, ground := Ground.phase }, { on := 3, ground := Ground.phase }, { on := 4, ground := Ground.phase }, { on := 5, ground := Ground.phase }, { on := 6, ground := Ground.phase }, { on := 7, ground := Ground.phase }, { on := 8, ground := Ground.phase }, { on := 9, ground := Ground.phase }, { on := 10, ground := Ground.phase }, { on := 11, ground := Ground.phase }, { on := 12, ground := Ground.phase }, { on := 13, ground := Ground.phase }, { on := 14, ground := Ground.phase }, { on := 15, ground := Ground.phase }, { on := 16, ground := Ground.phase }, { on := 17, ground := Ground.phase }, { on := 18, ground := Ground.phase }, { on := 19, ground := Ground.phase }, { on := 20, ground := Ground.phase }, { on := 21, ground := Ground.phase }, { on := 22, ground := Ground.phase }, { on := 23, ground := Ground.phase }, { on := 24, ground := Ground.phase }, { on := 25, ground := Ground.phase }, { on := 26, ground := Ground.phase }, { on := 27, ground := Ground.phase }, { on := 28, ground := Ground.phase }, { on := 29, ground := Ground.phase }, { on := 30, ground := Ground.phase }, { on := 31, ground := Ground.phase }, { on := 32, ground := Ground.phase }, { on := 33, ground := Ground.phase }, { on := 34, ground := Ground.phase }, { on := 35, ground := Ground.phase }, { on := 36, ground := Ground.phase }, { on := 37, ground := Ground.phase }, { on := 38, ground := Ground.phase }, { on := 39, ground := Ground.phase }], guard := none }) (v := ?_) rfl (by kernel_rfl) (by kernel_rfl) (by kernel_rfl) (fun _ _ _ h => h) (Or.inl ⟨by rfl, ?_⟩) hHeld ?_
  rotate_left
  · intro w' hSw
    go_simp
    try with_reducible rfl
  try simp only [Act.put, List.setIfInBounds_toArray, List.set_cons_zero, List.set_cons_succ]
  refine wpAnyH_done (by kernel_rfl) ?_ _
  refine NoPanic.normal ?_
  have HBe := Lib.hid (HB3.out.trans hHeld)
  go_wp2
  go_ret
  exact ⟨by simp, HBe.out⟩
end Go.Proofs.Ytigicphmnlkjfaa
