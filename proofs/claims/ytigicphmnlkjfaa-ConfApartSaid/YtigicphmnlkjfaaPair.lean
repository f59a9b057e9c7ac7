/- The contract of ratchetref21.Same. (Printed by wip/gen_rsame.py.) -/
import Derived.Test.YtigicphmnlkjfaaEqC
import Derived.Test.YtigicphmnlkjfaaSplitR
namespace Go.Proofs.Ytigicphmnlkjfaa
open Go.RowKit
set_option linter.unusedVariables false
set_option linter.unusedSimpArgs false

set_option maxRecDepth 100000 in
set_option maxHeartbeats 8000000 in
theorem pair_st {x0 x1 x4 x8 x9 x10 x11 x12 x13 x14 x15 x16 x17 x18 x19 x20 x21 x22 x23 x24 x25 x26 x27 x28 x29 x30 x31 x32 x33 x34 x35 x36 x37 x38 x39 x40 x41 x42 x43 x54 x55 x56 x57 x58 x59 x60 x61 x62 x63 x64 x65 x66 x67 x68 x69 x70 x71 x72 x73 x74 x75 x76 x77 x78 x79 x80 x81 x82 x83 x84 x85 x86 x87 x88 x89 x90 x91 x92 : Value} {w W0 : World} {n1 n2 g1 o1 g2 o2 L1 L2 c1 c2 i b6 b7 : Nat} {us vs : List Value} {Q : Exit → Act → World → Prop}
    (zu : us.toArray.size = 23) (zv : vs.toArray.size = 23) (ou : us.toArray.all (·.oneCell') = true) (ov : vs.toArray.all (·.oneCell') = true)
    (HK : ∀ (b6 b7 : Nat) (W' : World), Bl w W' → w.heap.size ≤ b6 → w.heap.size ≤ b7 → Blk W' b6 54 us.toArray → Blk W' b7 54 vs.toArray →
      Q .normal { tmps := #[x0, x1, .pointer (some ⟨n1, 0, none⟩), .pointer (some ⟨n2, 0, none⟩), x4, .int .i64 i, .pointer (some ⟨b6, 0, none⟩), .pointer (some ⟨b7, 0, none⟩), x8, x9, x10, x11, x12, x13, x14, x15, x16, x17, x18, x19, x20, x21, x22, x23, x24, x25, x26, x27, x28, x29, x30, x31, x32, x33, x34, x35, x36, x37, x38, x39, x40, x41, x42, x43, .pointer (some ⟨n1, 10, none⟩), .slice (some ⟨g1, o1, none⟩) L1 c1, .int .i64 i, .pointer (some ⟨g1, o1 + i * 23, none⟩), .agg us.toArray, .pointer (some ⟨n2, 10, none⟩), .slice (some ⟨g2, o2, none⟩) L2 c2, .int .i64 i, .pointer (some ⟨g2, o2 + i * 23, none⟩), .agg vs.toArray, x54, x55, x56, x57, x58, x59, x60, x61, x62, x63, x64, x65, x66, x67, x68, x69, x70, x71, x72, x73, x74, x75, x76, x77, x78, x79, x80, x81, x82, x83, x84, x85, x86, x87, x88, x89, x90, x91, x92], defers := [] } W')
    (bC : Bl w W0) (k6 : Blk W0 b6 54 zg.toArray) (k7 : Blk W0 b7 54 zg.toArray) (hne : b6 ≠ b7) (s6 : w.heap.size ≤ b6) (s7 : w.heap.size ≤ b7) :
    wpAnyH Try.prog .any #[{ dst := some 44, op := Op.fieldAddr 27 (Operand.tmp 2) 3, type := 0, pos := "ref.go:192", after := #[], guard := none }, { dst := some 45, op := Op.load 25 (Operand.tmp 44), type := 25, pos := "ref.go:192", after := #[{ on := 0, ground := Ground.data }], guard := none }, { dst := some 46, op := Op.move (Operand.tmp 5), type := 3, pos := "ref.go:192", after := #[], guard := none }, { dst := some 47, op := Op.indexAddr 25 (Operand.tmp 45) (Operand.tmp 46), type := 0, pos := "ref.go:192", after := #[{ on := 1, ground := Ground.data }, { on := 2, ground := Ground.data }], guard := none }, { dst := some 48, op := Op.load 54 (Operand.tmp 47), type := 54, pos := "ref.go:192", after := #[{ on := 3, ground := Ground.data }], guard := none }, { dst := some 49, op := Op.fieldAddr 27 (Operand.tmp 3) 3, type := 0, pos := "ref.go:192", after := #[{ on := 12, ground := Ground.gcOnly Departure.lateStores }], guard := none }, { dst := some 50, op := Op.load 25 (Operand.tmp 49), type := 25, pos := "ref.go:192", after := #[{ on := 5, ground := Ground.data }, { on := 12, ground := Ground.gcOnly Departure.lateStores }], guard := none }, { dst := some 51, op := Op.move (Operand.tmp 5), type := 3, pos := "ref.go:192", after := #[{ on := 12, ground := Ground.gcOnly Departure.lateStores }], guard := none }, { dst := some 52, op := Op.indexAddr 25 (Operand.tmp 50) (Operand.tmp 51), type := 0, pos := "ref.go:192", after := #[{ on := 6, ground := Ground.data }, { on := 7, ground := Ground.data }, { on := 12, ground := Ground.gcOnly Departure.lateStores }], guard := none }, { dst := some 53, op := Op.load 54 (Operand.tmp 52), type := 54, pos := "ref.go:192", after := #[{ on := 8, ground := Ground.data }, { on := 12, ground := Ground.gcOnly Departure.lateStores }], guard := none }, { dst := some 6, op := Op.alloc 54, type := 0, pos := "ref.go:192", after := #[], guard := none }, { dst := some 7, op := Op.alloc 54, type := 0, pos := "ref.go:192", after := #[], guard := none }, { dst := none, op := Op.store 54 (Operand.tmp 6) (Operand.tmp 48), type := 0, pos := "ref.go:192", after := #[{ on := 10, ground := Ground.data }, { on := 4, ground := Ground.data }, { on := 0, ground := Ground.phase }, { on := 1, ground := Ground.phase }, { on := 2, ground := Ground.phase }, { on := 3, ground := Ground.phase }, { on := 4, ground := Ground.phase }, { on := 5, ground := Ground.textOnly Departure.lateStores }, { on := 6, ground := Ground.textOnly Departure.lateStores }, { on := 7, ground := Ground.textOnly Departure.lateStores }, { on := 8, ground := Ground.textOnly Departure.lateStores }, { on := 9, ground := Ground.textOnly Departure.lateStores }, { on := 10, ground := Ground.phase }, { on := 11, ground := Ground.phase }], guard := none }, { dst := none, op := Op.store 54 (Operand.tmp 7) (Operand.tmp 53), type := 0, pos := "ref.go:192", after := #[{ on := 11, ground := Ground.data }, { on := 9, ground := Ground.data }, { on := 12, ground := Ground.chain }, { on := 0, ground := Ground.phase }, { on := 1, ground := Ground.phase }, { on := 2, ground := Ground.phase }, { on := 3, ground := Ground.phase }, { on := 4, ground := Ground.phase }, { on := 5, ground := Ground.phase }, { on := 6, ground := Ground.phase }, { on := 7, ground := Ground.phase }, { on := 8, ground := Ground.phase }, { on := 9, ground := Ground.phase }, { on := 10, ground := Ground.phase }, { on := 11, ground := Ground.phase }, { on := 12, ground := Ground.phase }], guard := none }] (NoPanic Q) (fun w' => Bl w w') 2 #[true, true, true, true, true, true, true, true, true, true, true, true, false, false] { tmps := #[x0, x1, .pointer (some ⟨n1, 0, none⟩), .pointer (some ⟨n2, 0, none⟩), x4, .int .i64 i, .pointer (some ⟨b6, 0, none⟩), .pointer (some ⟨b7, 0, none⟩), x8, x9, x10, x11, x12, x13, x14, x15, x16, x17, x18, x19, x20, x21, x22, x23, x24, x25, x26, x27, x28, x29, x30, x31, x32, x33, x34, x35, x36, x37, x38, x39, x40, x41, x42, x43, .pointer (some ⟨n1, 10, none⟩), .slice (some ⟨g1, o1, none⟩) L1 c1, .int .i64 i, .pointer (some ⟨g1, o1 + i * 23, none⟩), .agg us.toArray, .pointer (some ⟨n2, 10, none⟩), .slice (some ⟨g2, o2, none⟩) L2 c2, .int .i64 i, .pointer (some ⟨g2, o2 + i * 23, none⟩), .agg vs.toArray, x54, x55, x56, x57, x58, x59, x60, x61, x62, x63, x64, x65, x66, x67, x68, x69, x70, x71, x72, x73, x74, x75, x76, x77, x78, x79, x80, x81, x82, x83, x84, x85, x86, x87, x88, x89, x90, x91, x92], defers := [] } W0 := by
  refine wpAnyH_ready (rs := [12]) (by kernel_rfl) (by simp) ?_
  refine AllReadyH.cons (o := { dst := none, op := Op.store 54 (Operand.tmp 6) (Operand.tmp 48), type := 0, pos := "ref.go:192", after := #[{ on := 10, ground := Ground.data }, { on := 4, ground := Ground.data }, { on := 0, ground := Ground.phase }, { on := 1, ground := Ground.phase }, { on := 2, ground := Ground.phase }, { on := 3, ground := Ground.phase }, { on := 4, ground := Ground.phase }, { on := 5, ground := Ground.textOnly Departure.lateStores }, { on := 6, ground := Ground.textOnly Departure.lateStores }, { on := 7, ground := Ground.textOnly Departure.lateStores }, { on := 8, ground := Ground.textOnly Departure.lateStores }, { on := 9, ground := Ground.textOnly Departure.lateStores }, { on := 10, ground := Ground.phase }, { on := 11, ground := Ground.phase }], guard := none }) rfl (fun K hK => ?_) AllReadyH.nil
  have kz6 := setRow_heap _ _ _ us.toArray _ _ k6
  have kz7 := (setRow_other W0 b6 b7 us.toArray (by omega)).trans k7
  have bz := below_setRow (cs := us.toArray) bC s6
  refine step_store_row rfl 54 (.tmp 6) (.tmp 48) rfl b6 us.toArray rfl rfl 54 zg.toArray k6 (by rw [zu]; exact g_size) (by rw [zu]; rfl) ou (hK.out _ _ bz (fun hHeld => ?_))
  clear hK K bC k6 k7
  generalize W0.setRow b6 us.toArray = W1 at *
  have bC := bz
  have k6 := kz6
  have k7 := kz7
  clear bz kz6 kz7
  refine wpAnyH_ready (rs := [13]) (by kernel_rfl) (by simp) ?_
  refine AllReadyH.cons (o := { dst := none, op := Op.store 54 (Operand.tmp 7) (Operand.tmp 53), type := 0, pos := "ref.go:192", after := #[{ on := 11, ground := Ground.data }, { on := 9, ground := Ground.data }, { on := 12, ground := Ground.chain }, { on := 0, ground := Ground.phase }, { on := 1, ground := Ground.phase }, { on := 2, ground := Ground.phase }, { on := 3, ground := Ground.phase }, { on := 4, ground := Ground.phase }, { on := 5, ground := Ground.phase }, { on := 6, ground := Ground.phase }, { on := 7, ground := Ground.phase }, { on := 8, ground := Ground.phase }, { on := 9, ground := Ground.phase }, { on := 10, ground := Ground.phase }, { on := 11, ground := Ground.phase }, { on := 12, ground := Ground.phase }], guard := none }) rfl (fun K hK => ?_) AllReadyH.nil
  have kz7 := setRow_heap _ _ _ vs.toArray _ _ k7
  have kz6 := (setRow_other W1 b7 b6 vs.toArray (by omega)).trans k6
  have bz := below_setRow (cs := vs.toArray) bC s7
  refine step_store_row rfl 54 (.tmp 7) (.tmp 53) rfl b7 vs.toArray rfl rfl 54 zg.toArray k7 (by rw [zv]; exact g_size) (by rw [zv]; rfl) ov (hK.out _ _ bz (fun hHeld => ?_))
  clear hK K bC k6 k7
  generalize W1.setRow b7 vs.toArray = W2 at *
  have bC := bz
  have k6 := kz6
  have k7 := kz7
  clear bz kz6 kz7
  refine wpAnyH_done (by kernel_rfl) ?_ _
  refine NoPanic.normal ?_
  exact HK _ _ _ bC s6 s7 k6 k7

set_option maxRecDepth 100000 in
set_option maxHeartbeats 8000000 in
theorem pair {x0 x1 x4 x6 x7 x8 x9 x10 x11 x12 x13 x14 x15 x16 x17 x18 x19 x20 x21 x22 x23 x24 x25 x26 x27 x28 x29 x30 x31 x32 x33 x34 x35 x36 x37 x38 x39 x40 x41 x42 x43 x44 x45 x46 x47 x48 x49 x50 x51 x52 x53 x54 x55 x56 x57 x58 x59 x60 x61 x62 x63 x64 x65 x66 x67 x68 x69 x70 x71 x72 x73 x74 x75 x76 x77 x78 x79 x80 x81 x82 x83 x84 x85 x86 x87 x88 x89 x90 x91 x92 : Value} (w : World) (n1 n2 g1 o1 g2 o2 L1 L2 c1 c2 i : Nat) (us vs : List Value) (Q : Exit → Act → World → Prop) (hn1 : n1 < w.heap.size) (hn2 : n2 < w.heap.size) (hg1 : g1 < w.heap.size) (hg2 : g2 < w.heap.size)
    (hi1 : i < L1) (hi2 : i < L2) (q1 : w.cell? ⟨n1, 10, none⟩ = some (.slice (some ⟨g1, o1, none⟩) L1 c1)) (q2 : w.cell? ⟨n2, 10, none⟩ = some (.slice (some ⟨g2, o2, none⟩) L2 c2))
    (hu : w.rangeAt g1 (o1 + i * 23) us) (hv : w.rangeAt g2 (o2 + i * 23) vs) (lu : us.length = 23) (lv : vs.length = 23)
    (ou : us.toArray.all (·.oneCell') = true) (ov : vs.toArray.all (·.oneCell') = true)
    (HK : ∀ (b6 b7 : Nat) (W' : World), Bl w W' → w.heap.size ≤ b6 → w.heap.size ≤ b7 → Blk W' b6 54 us.toArray → Blk W' b7 54 vs.toArray →
      Q .normal { tmps := #[x0, x1, .pointer (some ⟨n1, 0, none⟩), .pointer (some ⟨n2, 0, none⟩), x4, .int .i64 i, .pointer (some ⟨b6, 0, none⟩), .pointer (some ⟨b7, 0, none⟩), x8, x9, x10, x11, x12, x13, x14, x15, x16, x17, x18, x19, x20, x21, x22, x23, x24, x25, x26, x27, x28, x29, x30, x31, x32, x33, x34, x35, x36, x37, x38, x39, x40, x41, x42, x43, .pointer (some ⟨n1, 10, none⟩), .slice (some ⟨g1, o1, none⟩) L1 c1, .int .i64 i, .pointer (some ⟨g1, o1 + i * 23, none⟩), .agg us.toArray, .pointer (some ⟨n2, 10, none⟩), .slice (some ⟨g2, o2, none⟩) L2 c2, .int .i64 i, .pointer (some ⟨g2, o2 + i * 23, none⟩), .agg vs.toArray, x54, x55, x56, x57, x58, x59, x60, x61, x62, x63, x64, x65, x66, x67, x68, x69, x70, x71, x72, x73, x74, x75, x76, x77, x78, x79, x80, x81, x82, x83, x84, x85, x86, x87, x88, x89, x90, x91, x92], defers := [] } W') :
    (Code.region 6 #[{ dst := some 44, op := Op.fieldAddr 27 (Operand.tmp 2) 3, type := 0, pos := "ref.go:192", after := #[], guard := none }, { dst := some 45, op := Op.load 25 (Operand.tmp 44), type := 25, pos := "ref.go:192", after := #[{ on := 0, ground := Ground.data }], guard := none }, { dst := some 46, op := Op.move (Operand.tmp 5), type := 3, pos := "ref.go:192", after := #[], guard := none }, { dst := some 47, op := Op.indexAddr 25 (Operand.tmp 45) (Operand.tmp 46), type := 0, pos := "ref.go:192", after := #[{ on := 1, ground := Ground.data }, { on := 2, ground := Ground.data }], guard := none }, { dst := some 48, op := Op.load 54 (Operand.tmp 47), type := 54, pos := "ref.go:192", after := #[{ on := 3, ground := Ground.data }], guard := none }, { dst := some 49, op := Op.fieldAddr 27 (Operand.tmp 3) 3, type := 0, pos := "ref.go:192", after := #[{ on := 12, ground := Ground.gcOnly Departure.lateStores }], guard := none }, { dst := some 50, op := Op.load 25 (Operand.tmp 49), type := 25, pos := "ref.go:192", after := #[{ on := 5, ground := Ground.data }, { on := 12, ground := Ground.gcOnly Departure.lateStores }], guard := none }, { dst := some 51, op := Op.move (Operand.tmp 5), type := 3, pos := "ref.go:192", after := #[{ on := 12, ground := Ground.gcOnly Departure.lateStores }], guard := none }, { dst := some 52, op := Op.indexAddr 25 (Operand.tmp 50) (Operand.tmp 51), type := 0, pos := "ref.go:192", after := #[{ on := 6, ground := Ground.data }, { on := 7, ground := Ground.data }, { on := 12, ground := Ground.gcOnly Departure.lateStores }], guard := none }, { dst := some 53, op := Op.load 54 (Operand.tmp 52), type := 54, pos := "ref.go:192", after := #[{ on := 8, ground := Ground.data }, { on := 12, ground := Ground.gcOnly Departure.lateStores }], guard := none }, { dst := some 6, op := Op.alloc 54, type := 0, pos := "ref.go:192", after := #[], guard := none }, { dst := some 7, op := Op.alloc 54, type := 0, pos := "ref.go:192", after := #[], guard := none }, { dst := none, op := Op.store 54 (Operand.tmp 6) (Operand.tmp 48), type := 0, pos := "ref.go:192", after := #[{ on := 10, ground := Ground.data }, { on := 4, ground := Ground.data }, { on := 0, ground := Ground.phase }, { on := 1, ground := Ground.phase }, { on := 2, ground := Ground.phase }, { on := 3, ground := Ground.phase }, { on := 4, ground := Ground.phase }, { on := 5, ground := Ground.textOnly Departure.lateStores }, { on := 6, ground := Ground.textOnly Departure.lateStores }, { on := 7, ground := Ground.textOnly Departure.lateStores }, { on := 8, ground := Ground.textOnly Departure.lateStores }, { on := 9, ground := Ground.textOnly Departure.lateStores }, { on := 10, ground := Ground.phase }, { on := 11, ground := Ground.phase }], guard := none }, { dst := none, op := Op.store 54 (Operand.tmp 7) (Operand.tmp 53), type := 0, pos := "ref.go:192", after := #[{ on := 11, ground := Ground.data }, { on := 9, ground := Ground.data }, { on := 12, ground := Ground.chain }, { on := 0, ground := Ground.phase }, { on := 1, ground := Ground.phase }, { on := 2, ground := Ground.phase }, { on := 3, ground := Ground.phase }, { on := 4, ground := Ground.phase }, { on := 5, ground := Ground.phase }, { on := 6, ground := Ground.phase }, { on := 7, ground := Ground.phase }, { on := 8, ground := Ground.phase }, { on := 9, ground := Ground.phase }, { on := 10, ground := Ground.phase }, { on := 11, ground := Ground.phase }, { on := 12, ground := Ground.phase }], guard := none }] true).wp Try.prog Q { tmps := #[x0, x1, .pointer (some ⟨n1, 0, none⟩), .pointer (some ⟨n2, 0, none⟩), x4, .int .i64 i, x6, x7, x8, x9, x10, x11, x12, x13, x14, x15, x16, x17, x18, x19, x20, x21, x22, x23, x24, x25, x26, x27, x28, x29, x30, x31, x32, x33, x34, x35, x36, x37, x38, x39, x40, x41, x42, x43, x44, x45, x46, x47, x48, x49, x50, x51, x52, x53, x54, x55, x56, x57, x58, x59, x60, x61, x62, x63, x64, x65, x66, x67, x68, x69, x70, x71, x72, x73, x74, x75, x76, x77, x78, x79, x80, x81, x82, x83, x84, x85, x86, x87, x88, x89, x90, x91, x92], defers := [] } w := by
  refine wp_region_noPanic ?_
  refine wp_region_held_drew (S := fun w' => Bl w w') (by kernel_rfl) (Bl.drewN w 1) (fun hHeld => ?_)
  have bC : Bl w w.drew := Bl.drewN w 1
  have hszd : w.heap.size ≤ w.drew.heap.size := Nat.le_refl _
  generalize w.drew = W0 at *
  have zu : us.toArray.size = 23 := by simpa using lu
  have zv : vs.toArray.size = 23 := by simpa using lv
  have hi1' : (i : Int) < (L1 : Int) := by omega
  have hi2' : (i : Int) < (L2 : Int) := by omega
  refine wpAnyH_take (i := 0) (oi := { dst := some 44, op := Op.fieldAddr 27 (Operand.tmp 2) 3, type := 0, pos := "ref.go:192", after := #[], guard := none }) (v := .pointer (some ⟨n1, 10, none⟩)) rfl (by kernel_rfl) (by kernel_rfl) (by kernel_rfl) (fun _ _ _ h => h) (Or.inl ⟨by rfl, ?_⟩) hHeld ?_
  · intro w' hSw
    go_simp
  simp only [Act.put, List.setIfInBounds_toArray, List.set_cons_zero, List.set_cons_succ]
  refine wpAnyH_take (i := 1) (oi := { dst := some 45, op := Op.load 25 (Operand.tmp 44), type := 25, pos := "ref.go:192", after := #[{ on := 0, ground := Ground.data }], guard := none }) (v := .slice (some ⟨g1, o1, none⟩) L1 c1) rfl (by kernel_rfl) (by kernel_rfl) (by kernel_rfl) (fun _ _ _ h => h) (Or.inl ⟨by rfl, ?_⟩) hHeld ?_
  · intro w' hSw
    have tq := (Bl.cell hSw hn1).trans q1
    go_simp
  simp only [Act.put, List.setIfInBounds_toArray, List.set_cons_zero, List.set_cons_succ]
  refine wpAnyH_take (i := 2) (oi := { dst := some 46, op := Op.move (Operand.tmp 5), type := 3, pos := "ref.go:192", after := #[], guard := none }) (v := .int .i64 i) rfl (by kernel_rfl) (by kernel_rfl) (by kernel_rfl) (fun _ _ _ h => h) (Or.inl ⟨by rfl, ?_⟩) hHeld ?_
  · intro w' hSw
    go_simp
  simp only [Act.put, List.setIfInBounds_toArray, List.set_cons_zero, List.set_cons_succ]
  refine wpAnyH_take (i := 3) (oi := { dst := some 47, op := Op.indexAddr 25 (Operand.tmp 45) (Operand.tmp 46), type := 0, pos := "ref.go:192", after := #[{ on := 1, ground := Ground.data }, { on := 2, ground := Ground.data }], guard := none }) (v := .pointer (some ⟨g1, o1 + i * 23, none⟩)) rfl (by kernel_rfl) (by kernel_rfl) (by kernel_rfl) (fun _ _ _ h => h) (Or.inl ⟨by rfl, ?_⟩) hHeld ?_
  · intro w' hSw
    go_simp
  simp only [Act.put, List.setIfInBounds_toArray, List.set_cons_zero, List.set_cons_succ]
  refine wpAnyH_take (i := 4) (oi := { dst := some 48, op := Op.load 54 (Operand.tmp 47), type := 54, pos := "ref.go:192", after := #[{ on := 3, ground := Ground.data }], guard := none }) (v := .agg us.toArray) rfl (by kernel_rfl) (by kernel_rfl) (by kernel_rfl) (fun _ _ _ h => h) (yieldsIf_load_mid (by rfl) 54 (.tmp 47) rfl g1 (o1 + i * 23) rfl us _ (fun w' h => rangeAt_step hu hg1 h) Try.underlying54 rfl (by rw [lu]; exact g_size)) hHeld ?_
  simp only [Act.put, List.setIfInBounds_toArray, List.set_cons_zero, List.set_cons_succ]
  refine wpAnyH_take (i := 5) (oi := { dst := some 49, op := Op.fieldAddr 27 (Operand.tmp 3) 3, type := 0, pos := "ref.go:192", after := #[{ on := 12, ground := Ground.gcOnly Departure.lateStores }], guard := none }) (v := .pointer (some ⟨n2, 10, none⟩)) rfl (by kernel_rfl) (by kernel_rfl) (by kernel_rfl) (fun _ _ _ h => h) (Or.inl ⟨by rfl, ?_⟩) hHeld ?_
  · intro w' hSw
    go_simp
  simp only [Act.put, List.setIfInBounds_toArray, List.set_cons_zero, List.set_cons_succ]
  refine wpAnyH_take (i := 6) (oi := { dst := some 50, op := Op.load 25 (Operand.tmp 49), type := 25, pos := "ref.go:192", after := #[{ on := 5, ground := Ground.data }, { on := 12, ground := Ground.gcOnly Departure.lateStores }], guard := none }) (v := .slice (some ⟨g2, o2, none⟩) L2 c2) rfl (by kernel_rfl) (by kernel_rfl) (by kernel_rfl) (fun _ _ _ h => h) (Or.inl ⟨by rfl, ?_⟩) hHeld ?_
  · intro w' hSw
    have tq := (Bl.cell hSw hn2).trans q2
    go_simp
  simp only [Act.put, List.setIfInBounds_toArray, List.set_cons_zero, List.set_cons_succ]
  refine wpAnyH_take (i := 7) (oi := { dst := some 51, op := Op.move (Operand.tmp 5), type := 3, pos := "ref.go:192", after := #[{ on := 12, ground := Ground.gcOnly Departure.lateStores }], guard := none }) (v := .int .i64 i) rfl (by kernel_rfl) (by kernel_rfl) (by kernel_rfl) (fun _ _ _ h => h) (Or.inl ⟨by rfl, ?_⟩) hHeld ?_
  · intro w' hSw
    go_simp
  simp only [Act.put, List.setIfInBounds_toArray, List.set_cons_zero, List.set_cons_succ]
  refine wpAnyH_take (i := 8) (oi := { dst := some 52, op := Op.indexAddr 25 (Operand.tmp 50) (Operand.tmp 51), type := 0, pos := "ref.go:192", after := #[{ on := 6, ground := Ground.data }, { on := 7, ground := Ground.data }, { on := 12, ground := Ground.gcOnly Departure.lateStores }], guard := none }) (v := .pointer (some ⟨g2, o2 + i * 23, none⟩)) rfl (by kernel_rfl) (by kernel_rfl) (by kernel_rfl) (fun _ _ _ h => h) (Or.inl ⟨by rfl, ?_⟩) hHeld ?_
  · intro w' hSw
    go_simp
  simp only [Act.put, List.setIfInBounds_toArray, List.set_cons_zero, List.set_cons_succ]
  refine wpAnyH_take (i := 9) (oi := { dst := some 53, op := Op.load 54 (Operand.tmp 52), type := 54, pos := "ref.go:192", after := #[{ on := 8, ground := Ground.data }, { on := 12, ground := Ground.gcOnly Departure.lateStores }], guard := none }) (v := .agg vs.toArray) rfl (by kernel_rfl) (by kernel_rfl) (by kernel_rfl) (fun _ _ _ h => h) (yieldsIf_load_mid (by rfl) 54 (.tmp 52) rfl g2 (o2 + i * 23) rfl vs _ (fun w' h => rangeAt_step hv hg2 h) Try.underlying54 rfl (by rw [lv]; exact g_size)) hHeld ?_
  simp only [Act.put, List.setIfInBounds_toArray, List.set_cons_zero, List.set_cons_succ]
  refine wpAnyH_ready (rs := [10, 11]) (by kernel_rfl) (by simp) ?_
  refine AllReadyH.cons (o := { dst := some 6, op := Op.alloc 54, type := 0, pos := "ref.go:192", after := #[], guard := none }) rfl (fun K hK => ?_) ?_
  · skip
    have hz := zero_g W0
    go_simp
    have kn6 : Blk (W0.alloc (.cells zg.toArray 54)) W0.heap.size 54 zg.toArray := Blk.new _ _ _
    have bn := bC.trans (Bl.alloc W0 (.cells zg.toArray 54))
    have sn6 : w.heap.size ≤ W0.heap.size := bC.size
    refine hK.out _ _ bn (fun hHeld => ?_)
    clear hK K bC hz 
    try simp only [Act.put, List.setIfInBounds_toArray, List.set_cons_zero, List.set_cons_succ]
    generalize W0.alloc (.cells zg.toArray 54) = W1 at *
    have bC := bn
    have k6 := kn6
    clear bn kn6
    refine wpAnyH_ready (rs := [11]) (by kernel_rfl) (by simp) ?_
    refine AllReadyH.cons (o := { dst := some 7, op := Op.alloc 54, type := 0, pos := "ref.go:192", after := #[], guard := none }) rfl (fun K hK => ?_) AllReadyH.nil
    have hz := zero_g W1
    go_simp
    have kn7 : Blk (W1.alloc (.cells zg.toArray 54)) W1.heap.size 54 zg.toArray := Blk.new _ _ _
    have bn := bC.trans (Bl.alloc W1 (.cells zg.toArray 54))
    have sn7 : w.heap.size ≤ W1.heap.size := bC.size
    have kn6 := k6.alloc (.cells zg.toArray 54)
    have ln := k6.lt
    refine hK.out _ _ bn (fun hHeld => ?_)
    clear hK K bC hz k6
    try simp only [Act.put, List.setIfInBounds_toArray, List.set_cons_zero, List.set_cons_succ]
    generalize W1.alloc (.cells zg.toArray 54) = W2 at *
    have bC := bn
    have k6 := kn6
    have k7 := kn7
    clear bn kn6 kn7
    exact pair_st (n1 := n1) (n2 := n2) zu zv ou ov HK bC k6 k7 (by omega) (by omega) (by omega)
  refine AllReadyH.cons (o := { dst := some 7, op := Op.alloc 54, type := 0, pos := "ref.go:192", after := #[], guard := none }) rfl (fun K hK => ?_) AllReadyH.nil
  have hz := zero_g W0
  go_simp
  have kn7 : Blk (W0.alloc (.cells zg.toArray 54)) W0.heap.size 54 zg.toArray := Blk.new _ _ _
  have bn := bC.trans (Bl.alloc W0 (.cells zg.toArray 54))
  have sn7 : w.heap.size ≤ W0.heap.size := bC.size
  refine hK.out _ _ bn (fun hHeld => ?_)
  clear hK K bC hz 
  try simp only [Act.put, List.setIfInBounds_toArray, List.set_cons_zero, List.set_cons_succ]
  generalize W0.alloc (.cells zg.toArray 54) = W1 at *
  have bC := bn
  have k7 := kn7
  clear bn kn7
  refine wpAnyH_ready (rs := [10]) (by kernel_rfl) (by simp) ?_
  refine AllReadyH.cons (o := { dst := some 6, op := Op.alloc 54, type := 0, pos := "ref.go:192", after := #[], guard := none }) rfl (fun K hK => ?_) AllReadyH.nil
  have hz := zero_g W1
  go_simp
  have kn6 : Blk (W1.alloc (.cells zg.toArray 54)) W1.heap.size 54 zg.toArray := Blk.new _ _ _
  have bn := bC.trans (Bl.alloc W1 (.cells zg.toArray 54))
  have sn6 : w.heap.size ≤ W1.heap.size := bC.size
  have kn7 := k7.alloc (.cells zg.toArray 54)
  have ln := k7.lt
  refine hK.out _ _ bn (fun hHeld => ?_)
  clear hK K bC hz k7
  try simp only [Act.put, List.setIfInBounds_toArray, List.set_cons_zero, List.set_cons_succ]
  generalize W1.alloc (.cells zg.toArray 54) = W2 at *
  have bC := bn
  have k7 := kn7
  have k6 := kn6
  clear bn kn7 kn6
  exact pair_st (n1 := n1) (n2 := n2) zu zv ou ov HK bC k6 k7 (by omega) (by omega) (by omega)
end Go.Proofs.Ytigicphmnlkjfaa
