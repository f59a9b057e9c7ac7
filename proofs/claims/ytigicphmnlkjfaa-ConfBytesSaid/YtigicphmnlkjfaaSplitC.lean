/- A group's parts, loaded and copied into new blocks, in whatever order: conf.Bytes' and ratchetref21.group's region. (Printed by wip/gen_split.py.) -/
import Derived.Test.YtigicphmnlkjfaaSplitR
import Derived.Deep.RegionHeld3
import Derived.Deep.MidRow
namespace Go.Proofs.Ytigicphmnlkjfaa
open Go.RowKit
set_option linter.unusedVariables false
set_option linter.unusedSimpArgs false


set_option maxRecDepth 100000 in
set_option maxHeartbeats 8000000 in
theorem split_own_st {x0 x1 x2 x3 x4 x5 x6 x12 x13 x14 x15 x16 x17 x18 x19 x20 x21 x22 x23 x24 x25 x26 x27 x28 x29 x30 x31 x32 x33 x34 x35 x36 x37 x38 x39 x40 x41 x42 x43 x44 x45 x46 x47 x48 x49 x50 x51 x52 x53 x54 x55 x56 x68 x69 x70 x71 x72 x73 x74 x75 x76 x77 x78 x79 x80 x81 x82 x83 x84 x85 x86 x87 x88 x89 x90 x91 x92 x93 x94 x95 x96 x97 x98 x99 x100 x101 x102 x103 x104 x105 x106 x107 x108 x109 x110 x111 x112 x113 x114 x115 x116 x117 x118 x119 x120 x121 x122 x123 x124 x125 x126 x127 x128 x129 x130 x131 x132 x133 x134 x135 x136 x137 x138 x139 x140 x141 x142 x143 x144 x145 x146 x147 x148 x149 x150 x151 x152 x153 x154 x155 x156 x157 x158 x159 x160 x161 x162 x163 x164 x165 x166 : Value} {w W0 : World} {B b8 b9 b10 b11 : Nat} {ms as_ ds ss : List Value} {Q : Exit → Act → World → Prop}
    (zm : ms.toArray.size = 4) (za : as_.toArray.size = 6) (zd : ds.toArray.size = 3) (zs : ss.toArray.size = 8)
    (om : ms.toArray.all (·.oneCell') = true) (oa : as_.toArray.all (·.oneCell') = true) (od : ds.toArray.all (·.oneCell') = true) (os_ : ss.toArray.all (·.oneCell') = true)
    (HK : ∀ (b8 b9 b10 b11 : Nat) (W' : World), Bl w W' → Blk W' b8 43 ms.toArray → Blk W' b9 45 as_.toArray → Blk W' b10 47 ds.toArray → Blk W' b11 51 ss.toArray →
      Q .normal { tmps := #[x0, x1, x2, x3, x4, x5, x6, .pointer (some ⟨B, 0, none⟩), .pointer (some ⟨b8, 0, none⟩), .pointer (some ⟨b9, 0, none⟩), .pointer (some ⟨b10, 0, none⟩), .pointer (some ⟨b11, 0, none⟩), x12, x13, x14, x15, x16, x17, x18, x19, x20, x21, x22, x23, x24, x25, x26, x27, x28, x29, x30, x31, x32, x33, x34, x35, x36, x37, x38, x39, x40, x41, x42, x43, x44, x45, x46, x47, x48, x49, x50, x51, x52, x53, x54, x55, x56, .pointer (some ⟨B, 0, none⟩), .pointer (some ⟨B, 1, none⟩), .agg ms.toArray, .pointer (some ⟨B, 0, none⟩), .pointer (some ⟨B, 5, none⟩), .agg as_.toArray, .pointer (some ⟨B, 0, none⟩), .pointer (some ⟨B, 11, none⟩), .agg ds.toArray, .pointer (some ⟨B, 14, none⟩), .agg ss.toArray, x68, x69, x70, x71, x72, x73, x74, x75, x76, x77, x78, x79, x80, x81, x82, x83, x84, x85, x86, x87, x88, x89, x90, x91, x92, x93, x94, x95, x96, x97, x98, x99, x100, x101, x102, x103, x104, x105, x106, x107, x108, x109, x110, x111, x112, x113, x114, x115, x116, x117, x118, x119, x120, x121, x122, x123, x124, x125, x126, x127, x128, x129, x130, x131, x132, x133, x134, x135, x136, x137, x138, x139, x140, x141, x142, x143, x144, x145, x146, x147, x148, x149, x150, x151, x152, x153, x154, x155, x156, x157, x158, x159, x160, x161, x162, x163, x164, x165, x166], defers := [] } W')
    (bC : Bl w W0) (k11 : Blk W0 b8 43 #[.int .i64 0, .int .i64 0, .int .i64 0, .bool false]) (k12 : Blk W0 b9 45 #[.int .i64 0, .int .i64 0, .int .i64 0, .int .i64 0, .int .i64 0, .bool false]) (k13 : Blk W0 b10 47 #[.int .i64 0, .int .i64 0, .int .i64 0]) (k14 : Blk W0 b11 51 #[.int .i64 0, .int .i64 0, .int .i64 0, .int .i64 0, .int .i64 0, .int .i64 0, .int .i64 0, .int .i64 0])
    (n11_12 : b8 ≠ b9) (n11_13 : b8 ≠ b10) (n11_14 : b8 ≠ b11) (n12_13 : b9 ≠ b10) (n12_14 : b9 ≠ b11) (n13_14 : b10 ≠ b11) (s11 : w.heap.size ≤ b8) (s12 : w.heap.size ≤ b9) (s13 : w.heap.size ≤ b10) (s14 : w.heap.size ≤ b11) :
    wpAnyH Try.prog .any #[{ dst := some 57, op := Op.fieldAddr 54 (Operand.tmp 7) 0, type := 0, pos := "conf.go:143", after := #[], guard := none }, { dst := some 58, op := Op.fieldAddr 49 (Operand.tmp 57) 1, type := 0, pos := "conf.go:143", after := #[{ on := 0, ground := Ground.data }], guard := none }, { dst := some 59, op := Op.load 43 (Operand.tmp 58), type := 43, pos := "conf.go:143", after := #[{ on := 1, ground := Ground.data }], guard := none }, { dst := some 60, op := Op.fieldAddr 54 (Operand.tmp 7) 0, type := 0, pos := "conf.go:143", after := #[{ on := 15, ground := Ground.gcOnly Departure.lateStores }], guard := none }, { dst := some 61, op := Op.fieldAddr 49 (Operand.tmp 60) 2, type := 0, pos := "conf.go:143", after := #[{ on := 3, ground := Ground.data }, { on := 15, ground := Ground.gcOnly Departure.lateStores }], guard := none }, { dst := some 62, op := Op.load 45 (Operand.tmp 61), type := 45, pos := "conf.go:143", after := #[{ on := 4, ground := Ground.data }, { on := 15, ground := Ground.gcOnly Departure.lateStores }], guard := none }, { dst := some 63, op := Op.fieldAddr 54 (Operand.tmp 7) 0, type := 0, pos := "conf.go:143", after := #[{ on := 16, ground := Ground.gcOnly Departure.lateStores }], guard := none }, { dst := some 64, op := Op.fieldAddr 49 (Operand.tmp 63) 3, type := 0, pos := "conf.go:143", after := #[{ on := 6, ground := Ground.data }, { on := 16, ground := Ground.gcOnly Departure.lateStores }], guard := none }, { dst := some 65, op := Op.load 47 (Operand.tmp 64), type := 47, pos := "conf.go:143", after := #[{ on := 7, ground := Ground.data }, { on := 16, ground := Ground.gcOnly Departure.lateStores }], guard := none }, { dst := some 66, op := Op.fieldAddr 54 (Operand.tmp 7) 1, type := 0, pos := "conf.go:143", after := #[{ on := 17, ground := Ground.gcOnly Departure.lateStores }], guard := none }, { dst := some 67, op := Op.load 51 (Operand.tmp 66), type := 51, pos := "conf.go:143", after := #[{ on := 9, ground := Ground.data }, { on := 17, ground := Ground.gcOnly Departure.lateStores }], guard := none }, { dst := some 8, op := Op.alloc 43, type := 0, pos := "conf.go:143", after := #[], guard := none }, { dst := some 9, op := Op.alloc 45, type := 0, pos := "conf.go:143", after := #[], guard := none }, { dst := some 10, op := Op.alloc 47, type := 0, pos := "conf.go:143", after := #[], guard := none }, { dst := some 11, op := Op.alloc 51, type := 0, pos := "conf.go:143", after := #[], guard := none }, { dst := none, op := Op.store 43 (Operand.tmp 8) (Operand.tmp 59), type := 0, pos := "conf.go:143", after := #[{ on := 11, ground := Ground.data }, { on := 2, ground := Ground.data }, { on := 0, ground := Ground.phase }, { on := 1, ground := Ground.phase }, { on := 2, ground := Ground.phase }, { on := 3, ground := Ground.textOnly Departure.lateStores }, { on := 4, ground := Ground.textOnly Departure.lateStores }, { on := 5, ground := Ground.textOnly Departure.lateStores }, { on := 6, ground := Ground.textOnly Departure.lateStores }, { on := 7, ground := Ground.textOnly Departure.lateStores }, { on := 8, ground := Ground.textOnly Departure.lateStores }, { on := 9, ground := Ground.textOnly Departure.lateStores }, { on := 10, ground := Ground.textOnly Departure.lateStores }, { on := 11, ground := Ground.phase }, { on := 12, ground := Ground.phase }, { on := 13, ground := Ground.phase }, { on := 14, ground := Ground.phase }], guard := none }, { dst := none, op := Op.store 45 (Operand.tmp 9) (Operand.tmp 62), type := 0, pos := "conf.go:143", after := #[{ on := 12, ground := Ground.data }, { on := 5, ground := Ground.data }, { on := 15, ground := Ground.chain }, { on := 0, ground := Ground.phase }, { on := 1, ground := Ground.phase }, { on := 2, ground := Ground.phase }, { on := 3, ground := Ground.phase }, { on := 4, ground := Ground.phase }, { on := 5, ground := Ground.phase }, { on := 6, ground := Ground.textOnly Departure.lateStores }, { on := 7, ground := Ground.textOnly Departure.lateStores }, { on := 8, ground := Ground.textOnly Departure.lateStores }, { on := 9, ground := Ground.textOnly Departure.lateStores }, { on := 10, ground := Ground.textOnly Departure.lateStores }, { on := 11, ground := Ground.phase }, { on := 12, ground := Ground.phase }, { on := 13, ground := Ground.phase }, { on := 14, ground := Ground.phase }, { on := 15, ground := Ground.phase }], guard := none }, { dst := none, op := Op.store 47 (Operand.tmp 10) (Operand.tmp 65), type := 0, pos := "conf.go:143", after := #[{ on := 13, ground := Ground.data }, { on := 8, ground := Ground.data }, { on := 16, ground := Ground.chain }, { on := 0, ground := Ground.phase }, { on := 1, ground := Ground.phase }, { on := 2, ground := Ground.phase }, { on := 3, ground := Ground.phase }, { on := 4, ground := Ground.phase }, { on := 5, ground := Ground.phase }, { on := 6, ground := Ground.phase }, { on := 7, ground := Ground.phase }, { on := 8, ground := Ground.phase }, { on := 9, ground := Ground.textOnly Departure.lateStores }, { on := 10, ground := Ground.textOnly Departure.lateStores }, { on := 11, ground := Ground.phase }, { on := 12, ground := Ground.phase }, { on := 13, ground := Ground.phase }, { on := 14, ground := Ground.phase }, { on := 15, ground := Ground.phase }, { on := 16, ground := Ground.phase }], guard := none }, { dst := none, op := Op.store 51 (Operand.tmp 11) (Operand.tmp 67), type := 0, pos := "conf.go:143", after := #[{ on := 14, ground := Ground.data }, { on := 10, ground := Ground.data }, { on := 17, ground := Ground.chain }, { on := 0, ground := Ground.phase }, { on := 1, ground := Ground.phase }, { on := 2, ground := Ground.phase }, { on := 3, ground := Ground.phase }, { on := 4, ground := Ground.phase }, { on := 5, ground := Ground.phase }, { on := 6, ground := Ground.phase }, { on := 7, ground := Ground.phase }, { on := 8, ground := Ground.phase }, { on := 9, ground := Ground.phase }, { on := 10, ground := Ground.phase }, { on := 11, ground := Ground.phase }, { on := 12, ground := Ground.phase }, { on := 13, ground := Ground.phase }, { on := 14, ground := Ground.phase }, { on := 15, ground := Ground.phase }, { on := 16, ground := Ground.phase }, { on := 17, ground := Ground.phase }], guard := none }] (NoPanic Q) (fun w' => Bl w w') 4 #[true, true, true, true, true, true, true, true, true, true, true, true, true, true, true, false, false, false, false] { tmps := #[x0, x1, x2, x3, x4, x5, x6, .pointer (some ⟨B, 0, none⟩), .pointer (some ⟨b8, 0, none⟩), .pointer (some ⟨b9, 0, none⟩), .pointer (some ⟨b10, 0, none⟩), .pointer (some ⟨b11, 0, none⟩), x12, x13, x14, x15, x16, x17, x18, x19, x20, x21, x22, x23, x24, x25, x26, x27, x28, x29, x30, x31, x32, x33, x34, x35, x36, x37, x38, x39, x40, x41, x42, x43, x44, x45, x46, x47, x48, x49, x50, x51, x52, x53, x54, x55, x56, .pointer (some ⟨B, 0, none⟩), .pointer (some ⟨B, 1, none⟩), .agg ms.toArray, .pointer (some ⟨B, 0, none⟩), .pointer (some ⟨B, 5, none⟩), .agg as_.toArray, .pointer (some ⟨B, 0, none⟩), .pointer (some ⟨B, 11, none⟩), .agg ds.toArray, .pointer (some ⟨B, 14, none⟩), .agg ss.toArray, x68, x69, x70, x71, x72, x73, x74, x75, x76, x77, x78, x79, x80, x81, x82, x83, x84, x85, x86, x87, x88, x89, x90, x91, x92, x93, x94, x95, x96, x97, x98, x99, x100, x101, x102, x103, x104, x105, x106, x107, x108, x109, x110, x111, x112, x113, x114, x115, x116, x117, x118, x119, x120, x121, x122, x123, x124, x125, x126, x127, x128, x129, x130, x131, x132, x133, x134, x135, x136, x137, x138, x139, x140, x141, x142, x143, x144, x145, x146, x147, x148, x149, x150, x151, x152, x153, x154, x155, x156, x157, x158, x159, x160, x161, x162, x163, x164, x165, x166], defers := [] } W0 := by
  refine wpAnyH_ready (rs := [15]) (by kernel_rfl) (by simp) ?_
  refine AllReadyH.cons (o := { dst := none, op := Op.store 43 (Operand.tmp 8) (Operand.tmp 59), type := 0, pos := "conf.go:143", after := #[{ on := 11, ground := Ground.data }, { on := 2, ground := Ground.data }, { on := 0, ground := Ground.phase }, { on := 1, ground := Ground.phase }, { on := 2, ground := Ground.phase }, { on := 3, ground := Ground.textOnly Departure.lateStores }, { on := 4, ground := Ground.textOnly Departure.lateStores }, { on := 5, ground := Ground.textOnly Departure.lateStores }, { on := 6, ground := Ground.textOnly Departure.lateStores }, { on := 7, ground := Ground.textOnly Departure.lateStores }, { on := 8, ground := Ground.textOnly Departure.lateStores }, { on := 9, ground := Ground.textOnly Departure.lateStores }, { on := 10, ground := Ground.textOnly Departure.lateStores }, { on := 11, ground := Ground.phase }, { on := 12, ground := Ground.phase }, { on := 13, ground := Ground.phase }, { on := 14, ground := Ground.phase }], guard := none }) rfl (fun K hK => ?_) AllReadyH.nil
  have kz11 := setRow_heap _ _ _ ms.toArray _ _ k11
  have kz12 := (setRow_other W0 b8 b9 ms.toArray (by omega)).trans k12
  have kz13 := (setRow_other W0 b8 b10 ms.toArray (by omega)).trans k13
  have kz14 := (setRow_other W0 b8 b11 ms.toArray (by omega)).trans k14
  have bz := below_setRow (cs := ms.toArray) bC s11
  refine step_store_row rfl 43 (.tmp 8) (.tmp 59) rfl b8 ms.toArray rfl rfl 43 #[.int .i64 0, .int .i64 0, .int .i64 0, .bool false] k11 (by rw [zm]; exact m_size) zm.symm om (hK.out _ _ bz (fun hHeld => ?_))
  clear hK K bC k11 k12 k13 k14
  generalize W0.setRow b8 ms.toArray = W1 at *
  have bC := bz
  have k11 := kz11
  have k12 := kz12
  have k13 := kz13
  have k14 := kz14
  clear bz kz11 kz12 kz13 kz14
  refine wpAnyH_ready (rs := [16]) (by kernel_rfl) (by simp) ?_
  refine AllReadyH.cons (o := { dst := none, op := Op.store 45 (Operand.tmp 9) (Operand.tmp 62), type := 0, pos := "conf.go:143", after := #[{ on := 12, ground := Ground.data }, { on := 5, ground := Ground.data }, { on := 15, ground := Ground.chain }, { on := 0, ground := Ground.phase }, { on := 1, ground := Ground.phase }, { on := 2, ground := Ground.phase }, { on := 3, ground := Ground.phase }, { on := 4, ground := Ground.phase }, { on := 5, ground := Ground.phase }, { on := 6, ground := Ground.textOnly Departure.lateStores }, { on := 7, ground := Ground.textOnly Departure.lateStores }, { on := 8, ground := Ground.textOnly Departure.lateStores }, { on := 9, ground := Ground.textOnly Departure.lateStores }, { on := 10, ground := Ground.textOnly Departure.lateStores }, { on := 11, ground := Ground.phase }, { on := 12, ground := Ground.phase }, { on := 13, ground := Ground.phase }, { on := 14, ground := Ground.phase }, { on := 15, ground := Ground.phase }], guard := none }) rfl (fun K hK => ?_) AllReadyH.nil
  have kz12 := setRow_heap _ _ _ as_.toArray _ _ k12
  have kz11 := (setRow_other W1 b9 b8 as_.toArray (by omega)).trans k11
  have kz13 := (setRow_other W1 b9 b10 as_.toArray (by omega)).trans k13
  have kz14 := (setRow_other W1 b9 b11 as_.toArray (by omega)).trans k14
  have bz := below_setRow (cs := as_.toArray) bC s12
  refine step_store_row rfl 45 (.tmp 9) (.tmp 62) rfl b9 as_.toArray rfl rfl 45 #[.int .i64 0, .int .i64 0, .int .i64 0, .int .i64 0, .int .i64 0, .bool false] k12 (by rw [za]; exact a_size) za.symm oa (hK.out _ _ bz (fun hHeld => ?_))
  clear hK K bC k11 k12 k13 k14
  generalize W1.setRow b9 as_.toArray = W2 at *
  have bC := bz
  have k11 := kz11
  have k12 := kz12
  have k13 := kz13
  have k14 := kz14
  clear bz kz11 kz12 kz13 kz14
  refine wpAnyH_ready (rs := [17]) (by kernel_rfl) (by simp) ?_
  refine AllReadyH.cons (o := { dst := none, op := Op.store 47 (Operand.tmp 10) (Operand.tmp 65), type := 0, pos := "conf.go:143", after := #[{ on := 13, ground := Ground.data }, { on := 8, ground := Ground.data }, { on := 16, ground := Ground.chain }, { on := 0, ground := Ground.phase }, { on := 1, ground := Ground.phase }, { on := 2, ground := Ground.phase }, { on := 3, ground := Ground.phase }, { on := 4, ground := Ground.phase }, { on := 5, ground := Ground.phase }, { on := 6, ground := Ground.phase }, { on := 7, ground := Ground.phase }, { on := 8, ground := Ground.phase }, { on := 9, ground := Ground.textOnly Departure.lateStores }, { on := 10, ground := Ground.textOnly Departure.lateStores }, { on := 11, ground := Ground.phase }, { on := 12, ground := Ground.phase }, { on := 13, ground := Ground.phase }, { on := 14, ground := Ground.phase }, { on := 15, ground := Ground.phase }, { on := 16, ground := Ground.phase }], guard := none }) rfl (fun K hK => ?_) AllReadyH.nil
  have kz13 := setRow_heap _ _ _ ds.toArray _ _ k13
  have kz11 := (setRow_other W2 b10 b8 ds.toArray (by omega)).trans k11
  have kz12 := (setRow_other W2 b10 b9 ds.toArray (by omega)).trans k12
  have kz14 := (setRow_other W2 b10 b11 ds.toArray (by omega)).trans k14
  have bz := below_setRow (cs := ds.toArray) bC s13
  refine step_store_row rfl 47 (.tmp 10) (.tmp 65) rfl b10 ds.toArray rfl rfl 47 #[.int .i64 0, .int .i64 0, .int .i64 0] k13 (by rw [zd]; exact d_size) zd.symm od (hK.out _ _ bz (fun hHeld => ?_))
  clear hK K bC k11 k12 k13 k14
  generalize W2.setRow b10 ds.toArray = W3 at *
  have bC := bz
  have k11 := kz11
  have k12 := kz12
  have k13 := kz13
  have k14 := kz14
  clear bz kz11 kz12 kz13 kz14
  refine wpAnyH_ready (rs := [18]) (by kernel_rfl) (by simp) ?_
  refine AllReadyH.cons (o := { dst := none, op := Op.store 51 (Operand.tmp 11) (Operand.tmp 67), type := 0, pos := "conf.go:143", after := #[{ on := 14, ground := Ground.data }, { on := 10, ground := Ground.data }, { on := 17, ground := Ground.chain }, { on := 0, ground := Ground.phase }, { on := 1, ground := Ground.phase }, { on := 2, ground := Ground.phase }, { on := 3, ground := Ground.phase }, { on := 4, ground := Ground.phase }, { on := 5, ground := Ground.phase }, { on := 6, ground := Ground.phase }, { on := 7, ground := Ground.phase }, { on := 8, ground := Ground.phase }, { on := 9, ground := Ground.phase }, { on := 10, ground := Ground.phase }, { on := 11, ground := Ground.phase }, { on := 12, ground := Ground.phase }, { on := 13, ground := Ground.phase }, { on := 14, ground := Ground.phase }, { on := 15, ground := Ground.phase }, { on := 16, ground := Ground.phase }, { on := 17, ground := Ground.phase }], guard := none }) rfl (fun K hK => ?_) AllReadyH.nil
  have kz14 := setRow_heap _ _ _ ss.toArray _ _ k14
  have kz11 := (setRow_other W3 b11 b8 ss.toArray (by omega)).trans k11
  have kz12 := (setRow_other W3 b11 b9 ss.toArray (by omega)).trans k12
  have kz13 := (setRow_other W3 b11 b10 ss.toArray (by omega)).trans k13
  have bz := below_setRow (cs := ss.toArray) bC s14
  refine step_store_row rfl 51 (.tmp 11) (.tmp 67) rfl b11 ss.toArray rfl rfl 51 #[.int .i64 0, .int .i64 0, .int .i64 0, .int .i64 0, .int .i64 0, .int .i64 0, .int .i64 0, .int .i64 0] k14 (by rw [zs]; exact s_size) zs.symm os_ (hK.out _ _ bz (fun hHeld => ?_))
  clear hK K bC k11 k12 k13 k14
  generalize W3.setRow b11 ss.toArray = W4 at *
  have bC := bz
  have k11 := kz11
  have k12 := kz12
  have k13 := kz13
  have k14 := kz14
  clear bz kz11 kz12 kz13 kz14
  refine wpAnyH_done (by kernel_rfl) ?_ _
  refine NoPanic.normal ?_
  exact HK _ _ _ _ _ bC k11 k12 k13 k14

set_option maxRecDepth 100000 in
set_option maxHeartbeats 8000000 in
theorem split_own {x0 x1 x2 x3 x4 x5 x6 x8 x9 x10 x11 x12 x13 x14 x15 x16 x17 x18 x19 x20 x21 x22 x23 x24 x25 x26 x27 x28 x29 x30 x31 x32 x33 x34 x35 x36 x37 x38 x39 x40 x41 x42 x43 x44 x45 x46 x47 x48 x49 x50 x51 x52 x53 x54 x55 x56 x57 x58 x59 x60 x61 x62 x63 x64 x65 x66 x67 x68 x69 x70 x71 x72 x73 x74 x75 x76 x77 x78 x79 x80 x81 x82 x83 x84 x85 x86 x87 x88 x89 x90 x91 x92 x93 x94 x95 x96 x97 x98 x99 x100 x101 x102 x103 x104 x105 x106 x107 x108 x109 x110 x111 x112 x113 x114 x115 x116 x117 x118 x119 x120 x121 x122 x123 x124 x125 x126 x127 x128 x129 x130 x131 x132 x133 x134 x135 x136 x137 x138 x139 x140 x141 x142 x143 x144 x145 x146 x147 x148 x149 x150 x151 x152 x153 x154 x155 x156 x157 x158 x159 x160 x161 x162 x163 x164 x165 x166 : Value} (w : World) (B : Nat) (ms as_ ds ss : List Value) (Q : Exit → Act → World → Prop) (hB : B < w.heap.size)
    (hm : w.rangeAt B 1 ms) (ha : w.rangeAt B 5 as_) (hd : w.rangeAt B 11 ds) (hs : w.rangeAt B 14 ss) (lm : ms.length = 4) (la : as_.length = 6) (ld : ds.length = 3) (ls : ss.length = 8)
    (om : ms.toArray.all (·.oneCell') = true) (oa : as_.toArray.all (·.oneCell') = true) (od : ds.toArray.all (·.oneCell') = true) (os_ : ss.toArray.all (·.oneCell') = true)
    (HK : ∀ (b8 b9 b10 b11 : Nat) (W' : World), Bl w W' → Blk W' b8 43 ms.toArray → Blk W' b9 45 as_.toArray → Blk W' b10 47 ds.toArray → Blk W' b11 51 ss.toArray →
      Q .normal { tmps := #[x0, x1, x2, x3, x4, x5, x6, .pointer (some ⟨B, 0, none⟩), .pointer (some ⟨b8, 0, none⟩), .pointer (some ⟨b9, 0, none⟩), .pointer (some ⟨b10, 0, none⟩), .pointer (some ⟨b11, 0, none⟩), x12, x13, x14, x15, x16, x17, x18, x19, x20, x21, x22, x23, x24, x25, x26, x27, x28, x29, x30, x31, x32, x33, x34, x35, x36, x37, x38, x39, x40, x41, x42, x43, x44, x45, x46, x47, x48, x49, x50, x51, x52, x53, x54, x55, x56, .pointer (some ⟨B, 0, none⟩), .pointer (some ⟨B, 1, none⟩), .agg ms.toArray, .pointer (some ⟨B, 0, none⟩), .pointer (some ⟨B, 5, none⟩), .agg as_.toArray, .pointer (some ⟨B, 0, none⟩), .pointer (some ⟨B, 11, none⟩), .agg ds.toArray, .pointer (some ⟨B, 14, none⟩), .agg ss.toArray, x68, x69, x70, x71, x72, x73, x74, x75, x76, x77, x78, x79, x80, x81, x82, x83, x84, x85, x86, x87, x88, x89, x90, x91, x92, x93, x94, x95, x96, x97, x98, x99, x100, x101, x102, x103, x104, x105, x106, x107, x108, x109, x110, x111, x112, x113, x114, x115, x116, x117, x118, x119, x120, x121, x122, x123, x124, x125, x126, x127, x128, x129, x130, x131, x132, x133, x134, x135, x136, x137, x138, x139, x140, x141, x142, x143, x144, x145, x146, x147, x148, x149, x150, x151, x152, x153, x154, x155, x156, x157, x158, x159, x160, x161, x162, x163, x164, x165, x166], defers := [] } W') :
    (Code.region 11 #[{ dst := some 57, op := Op.fieldAddr 54 (Operand.tmp 7) 0, type := 0, pos := "conf.go:143", after := #[], guard := none }, { dst := some 58, op := Op.fieldAddr 49 (Operand.tmp 57) 1, type := 0, pos := "conf.go:143", after := #[{ on := 0, ground := Ground.data }], guard := none }, { dst := some 59, op := Op.load 43 (Operand.tmp 58), type := 43, pos := "conf.go:143", after := #[{ on := 1, ground := Ground.data }], guard := none }, { dst := some 60, op := Op.fieldAddr 54 (Operand.tmp 7) 0, type := 0, pos := "conf.go:143", after := #[{ on := 15, ground := Ground.gcOnly Departure.lateStores }], guard := none }, { dst := some 61, op := Op.fieldAddr 49 (Operand.tmp 60) 2, type := 0, pos := "conf.go:143", after := #[{ on := 3, ground := Ground.data }, { on := 15, ground := Ground.gcOnly Departure.lateStores }], guard := none }, { dst := some 62, op := Op.load 45 (Operand.tmp 61), type := 45, pos := "conf.go:143", after := #[{ on := 4, ground := Ground.data }, { on := 15, ground := Ground.gcOnly Departure.lateStores }], guard := none }, { dst := some 63, op := Op.fieldAddr 54 (Operand.tmp 7) 0, type := 0, pos := "conf.go:143", after := #[{ on := 16, ground := Ground.gcOnly Departure.lateStores }], guard := none }, { dst := some 64, op := Op.fieldAddr 49 (Operand.tmp 63) 3, type := 0, pos := "conf.go:143", after := #[{ on := 6, ground := Ground.data }, { on := 16, ground := Ground.gcOnly Departure.lateStores }], guard := none }, { dst := some 65, op := Op.load 47 (Operand.tmp 64), type := 47, pos := "conf.go:143", after := #[{ on := 7, ground := Ground.data }, { on := 16, ground := Ground.gcOnly Departure.lateStores }], guard := none }, { dst := some 66, op := Op.fieldAddr 54 (Operand.tmp 7) 1, type := 0, pos := "conf.go:143", after := #[{ on := 17, ground := Ground.gcOnly Departure.lateStores }], guard := none }, { dst := some 67, op := Op.load 51 (Operand.tmp 66), type := 51, pos := "conf.go:143", after := #[{ on := 9, ground := Ground.data }, { on := 17, ground := Ground.gcOnly Departure.lateStores }], guard := none }, { dst := some 8, op := Op.alloc 43, type := 0, pos := "conf.go:143", after := #[], guard := none }, { dst := some 9, op := Op.alloc 45, type := 0, pos := "conf.go:143", after := #[], guard := none }, { dst := some 10, op := Op.alloc 47, type := 0, pos := "conf.go:143", after := #[], guard := none }, { dst := some 11, op := Op.alloc 51, type := 0, pos := "conf.go:143", after := #[], guard := none }, { dst := none, op := Op.store 43 (Operand.tmp 8) (Operand.tmp 59), type := 0, pos := "conf.go:143", after := #[{ on := 11, ground := Ground.data }, { on := 2, ground := Ground.data }, { on := 0, ground := Ground.phase }, { on := 1, ground := Ground.phase }, { on := 2, ground := Ground.phase }, { on := 3, ground := Ground.textOnly Departure.lateStores }, { on := 4, ground := Ground.textOnly Departure.lateStores }, { on := 5, ground := Ground.textOnly Departure.lateStores }, { on := 6, ground := Ground.textOnly Departure.lateStores }, { on := 7, ground := Ground.textOnly Departure.lateStores }, { on := 8, ground := Ground.textOnly Departure.lateStores }, { on := 9, ground := Ground.textOnly Departure.lateStores }, { on := 10, ground := Ground.textOnly Departure.lateStores }, { on := 11, ground := Ground.phase }, { on := 12, ground := Ground.phase }, { on := 13, ground := Ground.phase }, { on := 14, ground := Ground.phase }], guard := none }, { dst := none, op := Op.store 45 (Operand.tmp 9) (Operand.tmp 62), type := 0, pos := "conf.go:143", after := #[{ on := 12, ground := Ground.data }, { on := 5, ground := Ground.data }, { on := 15, ground := Ground.chain }, { on := 0, ground := Ground.phase }, { on := 1, ground := Ground.phase }, { on := 2, ground := Ground.phase }, { on := 3, ground := Ground.phase }, { on := 4, ground := Ground.phase }, { on := 5, ground := Ground.phase }, { on := 6, ground := Ground.textOnly Departure.lateStores }, { on := 7, ground := Ground.textOnly Departure.lateStores }, { on := 8, ground := Ground.textOnly Departure.lateStores }, { on := 9, ground := Ground.textOnly Departure.lateStores }, { on := 10, ground := Ground.textOnly Departure.lateStores }, { on := 11, ground := Ground.phase }, { on := 12, ground := Ground.phase }, { on := 13, ground := Ground.phase }, { on := 14, ground := Ground.phase }, { on := 15, ground := Ground.phase }], guard := none }, { dst := none, op := Op.store 47 (Operand.tmp 10) (Operand.tmp 65), type := 0, pos := "conf.go:143", after := #[{ on := 13, ground := Ground.data }, { on := 8, ground := Ground.data }, { on := 16, ground := Ground.chain }, { on := 0, ground := Ground.phase }, { on := 1, ground := Ground.phase }, { on := 2, ground := Ground.phase }, { on := 3, ground := Ground.phase }, { on := 4, ground := Ground.phase }, { on := 5, ground := Ground.phase }, { on := 6, ground := Ground.phase }, { on := 7, ground := Ground.phase }, { on := 8, ground := Ground.phase }, { on := 9, ground := Ground.textOnly Departure.lateStores }, { on := 10, ground := Ground.textOnly Departure.lateStores }, { on := 11, ground := Ground.phase }, { on := 12, ground := Ground.phase }, { on := 13, ground := Ground.phase }, { on := 14, ground := Ground.phase }, { on := 15, ground := Ground.phase }, { on := 16, ground := Ground.phase }], guard := none }, { dst := none, op := Op.store 51 (Operand.tmp 11) (Operand.tmp 67), type := 0, pos := "conf.go:143", after := #[{ on := 14, ground := Ground.data }, { on := 10, ground := Ground.data }, { on := 17, ground := Ground.chain }, { on := 0, ground := Ground.phase }, { on := 1, ground := Ground.phase }, { on := 2, ground := Ground.phase }, { on := 3, ground := Ground.phase }, { on := 4, ground := Ground.phase }, { on := 5, ground := Ground.phase }, { on := 6, ground := Ground.phase }, { on := 7, ground := Ground.phase }, { on := 8, ground := Ground.phase }, { on := 9, ground := Ground.phase }, { on := 10, ground := Ground.phase }, { on := 11, ground := Ground.phase }, { on := 12, ground := Ground.phase }, { on := 13, ground := Ground.phase }, { on := 14, ground := Ground.phase }, { on := 15, ground := Ground.phase }, { on := 16, ground := Ground.phase }, { on := 17, ground := Ground.phase }], guard := none }] true).wp Try.prog Q { tmps := #[x0, x1, x2, x3, x4, x5, x6, .pointer (some ⟨B, 0, none⟩), x8, x9, x10, x11, x12, x13, x14, x15, x16, x17, x18, x19, x20, x21, x22, x23, x24, x25, x26, x27, x28, x29, x30, x31, x32, x33, x34, x35, x36, x37, x38, x39, x40, x41, x42, x43, x44, x45, x46, x47, x48, x49, x50, x51, x52, x53, x54, x55, x56, x57, x58, x59, x60, x61, x62, x63, x64, x65, x66, x67, x68, x69, x70, x71, x72, x73, x74, x75, x76, x77, x78, x79, x80, x81, x82, x83, x84, x85, x86, x87, x88, x89, x90, x91, x92, x93, x94, x95, x96, x97, x98, x99, x100, x101, x102, x103, x104, x105, x106, x107, x108, x109, x110, x111, x112, x113, x114, x115, x116, x117, x118, x119, x120, x121, x122, x123, x124, x125, x126, x127, x128, x129, x130, x131, x132, x133, x134, x135, x136, x137, x138, x139, x140, x141, x142, x143, x144, x145, x146, x147, x148, x149, x150, x151, x152, x153, x154, x155, x156, x157, x158, x159, x160, x161, x162, x163, x164, x165, x166], defers := [] } w := by
  refine wp_region_noPanic ?_
  refine wp_region_held_drew (S := fun w' => Bl w w') (by kernel_rfl) (Bl.drewN w 1) (fun hHeld => ?_)
  have bC : Bl w w.drew := Bl.drewN w 1
  have hszd : w.heap.size ≤ w.drew.heap.size := Nat.le_refl _
  generalize w.drew = W0 at *
  have zm : ms.toArray.size = 4 := by simpa using lm
  have za : as_.toArray.size = 6 := by simpa using la
  have zd : ds.toArray.size = 3 := by simpa using ld
  have zs : ss.toArray.size = 8 := by simpa using ls
  refine wpAnyH_take (i := 0) (oi := { dst := some 57, op := Op.fieldAddr 54 (Operand.tmp 7) 0, type := 0, pos := "conf.go:143", after := #[], guard := none }) (v := .pointer (some ⟨B, 0, none⟩)) rfl (by kernel_rfl) (by kernel_rfl) (by kernel_rfl) (fun _ _ _ h => h) (Or.inl ⟨by rfl, ?_⟩) hHeld ?_
  · intro w' hSw
    go_simp
  simp only [Act.put, List.setIfInBounds_toArray, List.set_cons_zero, List.set_cons_succ]
  refine wpAnyH_take (i := 1) (oi := { dst := some 58, op := Op.fieldAddr 49 (Operand.tmp 57) 1, type := 0, pos := "conf.go:143", after := #[{ on := 0, ground := Ground.data }], guard := none }) (v := .pointer (some ⟨B, 1, none⟩)) rfl (by kernel_rfl) (by kernel_rfl) (by kernel_rfl) (fun _ _ _ h => h) (Or.inl ⟨by rfl, ?_⟩) hHeld ?_
  · intro w' hSw
    go_simp
  simp only [Act.put, List.setIfInBounds_toArray, List.set_cons_zero, List.set_cons_succ]
  refine wpAnyH_take (i := 2) (oi := { dst := some 59, op := Op.load 43 (Operand.tmp 58), type := 43, pos := "conf.go:143", after := #[{ on := 1, ground := Ground.data }], guard := none }) (v := .agg ms.toArray) rfl (by kernel_rfl) (by kernel_rfl) (by kernel_rfl) (fun _ _ _ h => h) (yieldsIf_load_mid (by rfl) 43 (.tmp 58) rfl B 1 rfl ms _ (fun w' h => rangeAt_step hm hB h) Try.underlying43 rfl (by rw [lm]; exact m_size)) hHeld ?_
  simp only [Act.put, List.setIfInBounds_toArray, List.set_cons_zero, List.set_cons_succ]
  refine wpAnyH_take (i := 3) (oi := { dst := some 60, op := Op.fieldAddr 54 (Operand.tmp 7) 0, type := 0, pos := "conf.go:143", after := #[{ on := 15, ground := Ground.gcOnly Departure.lateStores }], guard := none }) (v := .pointer (some ⟨B, 0, none⟩)) rfl (by kernel_rfl) (by kernel_rfl) (by kernel_rfl) (fun _ _ _ h => h) (Or.inl ⟨by rfl, ?_⟩) hHeld ?_
  · intro w' hSw
    go_simp
  simp only [Act.put, List.setIfInBounds_toArray, List.set_cons_zero, List.set_cons_succ]
  refine wpAnyH_take (i := 4) (oi := { dst := some 61, op := Op.fieldAddr 49 (Operand.tmp 60) 2, type := 0, pos := "conf.go:143", after := #[{ on := 3, ground := Ground.data }, { on := 15, ground := Ground.gcOnly Departure.lateStores }], guard := none }) (v := .pointer (some ⟨B, 5, none⟩)) rfl (by kernel_rfl) (by kernel_rfl) (by kernel_rfl) (fun _ _ _ h => h) (Or.inl ⟨by rfl, ?_⟩) hHeld ?_
  · intro w' hSw
    go_simp
  simp only [Act.put, List.setIfInBounds_toArray, List.set_cons_zero, List.set_cons_succ]
  refine wpAnyH_take (i := 5) (oi := { dst := some 62, op := Op.load 45 (Operand.tmp 61), type := 45, pos := "conf.go:143", after := #[{ on := 4, ground := Ground.data }, { on := 15, ground := Ground.gcOnly Departure.lateStores }], guard := none }) (v := .agg as_.toArray) rfl (by kernel_rfl) (by kernel_rfl) (by kernel_rfl) (fun _ _ _ h => h) (yieldsIf_load_mid (by rfl) 45 (.tmp 61) rfl B 5 rfl as_ _ (fun w' h => rangeAt_step ha hB h) Try.underlying45 rfl (by rw [la]; exact a_size)) hHeld ?_
  simp only [Act.put, List.setIfInBounds_toArray, List.set_cons_zero, List.set_cons_succ]
  refine wpAnyH_take (i := 6) (oi := { dst := some 63, op := Op.fieldAddr 54 (Operand.tmp 7) 0, type := 0, pos := "conf.go:143", after := #[{ on := 16, ground := Ground.gcOnly Departure.lateStores }], guard := none }) (v := .pointer (some ⟨B, 0, none⟩)) rfl (by kernel_rfl) (by kernel_rfl) (by kernel_rfl) (fun _ _ _ h => h) (Or.inl ⟨by rfl, ?_⟩) hHeld ?_
  · intro w' hSw
    go_simp
  simp only [Act.put, List.setIfInBounds_toArray, List.set_cons_zero, List.set_cons_succ]
  refine wpAnyH_take (i := 7) (oi := { dst := some 64, op := Op.fieldAddr 49 (Operand.tmp 63) 3, type := 0, pos := "conf.go:143", after := #[{ on := 6, ground := Ground.data }, { on := 16, ground := Ground.gcOnly Departure.lateStores }], guard := none }) (v := .pointer (some ⟨B, 11, none⟩)) rfl (by kernel_rfl) (by kernel_rfl) (by kernel_rfl) (fun _ _ _ h => h) (Or.inl ⟨by rfl, ?_⟩) hHeld ?_
  · intro w' hSw
    go_simp
  simp only [Act.put, List.setIfInBounds_toArray, List.set_cons_zero, List.set_cons_succ]
  refine wpAnyH_take (i := 8) (oi := { dst := some 65, op := Op.load 47 (Operand.tmp 64), type := 47, pos := "conf.go:143", after := #[{ on := 7, ground := Ground.data }, { on := 16, ground := Ground.gcOnly Departure.lateStores }], guard := none }) (v := .agg ds.toArray) rfl (by kernel_rfl) (by kernel_rfl) (by kernel_rfl) (fun _ _ _ h => h) (yieldsIf_load_mid (by rfl) 47 (.tmp 64) rfl B 11 rfl ds _ (fun w' h => rangeAt_step hd hB h) Try.underlying47 rfl (by rw [ld]; exact d_size)) hHeld ?_
  simp only [Act.put, List.setIfInBounds_toArray, List.set_cons_zero, List.set_cons_succ]
  refine wpAnyH_take (i := 9) (oi := { dst := some 66, op := Op.fieldAddr 54 (Operand.tmp 7) 1, type := 0, pos := "conf.go:143", after := #[{ on := 17, ground := Ground.gcOnly Departure.lateStores }], guard := none }) (v := .pointer (some ⟨B, 14, none⟩)) rfl (by kernel_rfl) (by kernel_rfl) (by kernel_rfl) (fun _ _ _ h => h) (Or.inl ⟨by rfl, ?_⟩) hHeld ?_
  · intro w' hSw
    go_simp
  simp only [Act.put, List.setIfInBounds_toArray, List.set_cons_zero, List.set_cons_succ]
  refine wpAnyH_take (i := 10) (oi := { dst := some 67, op := Op.load 51 (Operand.tmp 66), type := 51, pos := "conf.go:143", after := #[{ on := 9, ground := Ground.data }, { on := 17, ground := Ground.gcOnly Departure.lateStores }], guard := none }) (v := .agg ss.toArray) rfl (by kernel_rfl) (by kernel_rfl) (by kernel_rfl) (fun _ _ _ h => h) (yieldsIf_load_mid (by rfl) 51 (.tmp 66) rfl B 14 rfl ss _ (fun w' h => rangeAt_step hs hB h) Try.underlying51 rfl (by rw [ls]; exact s_size)) hHeld ?_
  simp only [Act.put, List.setIfInBounds_toArray, List.set_cons_zero, List.set_cons_succ]
  refine wpAnyH_ready (rs := [11, 12, 13, 14]) (by kernel_rfl) (by simp) ?_
  refine AllReadyH.cons (o := { dst := some 8, op := Op.alloc 43, type := 0, pos := "conf.go:143", after := #[], guard := none }) rfl (fun K hK => ?_) ?_
  · skip
    go_simp
    have kn11 : Blk (W0.alloc (.cells #[.int .i64 0, .int .i64 0, .int .i64 0, .bool false] 43)) W0.heap.size 43 #[.int .i64 0, .int .i64 0, .int .i64 0, .bool false] := Blk.new _ _ _
    have bn := bC.trans (Bl.alloc W0 (.cells #[.int .i64 0, .int .i64 0, .int .i64 0, .bool false] 43))
    have sn : w.heap.size ≤ W0.heap.size := bC.size
    refine hK.out _ _ bn (fun hHeld => ?_)
    clear hK K bC 
    try simp only [Act.put, List.setIfInBounds_toArray, List.set_cons_zero, List.set_cons_succ]
    generalize W0.alloc (.cells #[.int .i64 0, .int .i64 0, .int .i64 0, .bool false] 43) = W1 at *
    have bC := bn
    have k11 := kn11
    clear bn kn11
    refine wpAnyH_ready (rs := [12, 13, 14]) (by kernel_rfl) (by simp) ?_
    refine AllReadyH.cons (o := { dst := some 9, op := Op.alloc 45, type := 0, pos := "conf.go:143", after := #[], guard := none }) rfl (fun K hK => ?_) ?_
    · skip
      go_simp
      have kn12 : Blk (W1.alloc (.cells #[.int .i64 0, .int .i64 0, .int .i64 0, .int .i64 0, .int .i64 0, .bool false] 45)) W1.heap.size 45 #[.int .i64 0, .int .i64 0, .int .i64 0, .int .i64 0, .int .i64 0, .bool false] := Blk.new _ _ _
      have bn := bC.trans (Bl.alloc W1 (.cells #[.int .i64 0, .int .i64 0, .int .i64 0, .int .i64 0, .int .i64 0, .bool false] 45))
      have sn : w.heap.size ≤ W1.heap.size := bC.size
      have kn11 := k11.alloc (.cells #[.int .i64 0, .int .i64 0, .int .i64 0, .int .i64 0, .int .i64 0, .bool false] 45)
      have ln12_11 : W0.heap.size < W1.heap.size := k11.lt
      refine hK.out _ _ bn (fun hHeld => ?_)
      clear hK K bC k11
      try simp only [Act.put, List.setIfInBounds_toArray, List.set_cons_zero, List.set_cons_succ]
      generalize W1.alloc (.cells #[.int .i64 0, .int .i64 0, .int .i64 0, .int .i64 0, .int .i64 0, .bool false] 45) = W2 at *
      have bC := bn
      have k11 := kn11
      have k12 := kn12
      clear bn kn11 kn12
      refine wpAnyH_ready (rs := [13, 14]) (by kernel_rfl) (by simp) ?_
      refine AllReadyH.cons (o := { dst := some 10, op := Op.alloc 47, type := 0, pos := "conf.go:143", after := #[], guard := none }) rfl (fun K hK => ?_) ?_
      · skip
        go_simp
        have kn13 : Blk (W2.alloc (.cells #[.int .i64 0, .int .i64 0, .int .i64 0] 47)) W2.heap.size 47 #[.int .i64 0, .int .i64 0, .int .i64 0] := Blk.new _ _ _
        have bn := bC.trans (Bl.alloc W2 (.cells #[.int .i64 0, .int .i64 0, .int .i64 0] 47))
        have sn : w.heap.size ≤ W2.heap.size := bC.size
        have kn11 := k11.alloc (.cells #[.int .i64 0, .int .i64 0, .int .i64 0] 47)
        have ln13_11 : W0.heap.size < W2.heap.size := k11.lt
        have kn12 := k12.alloc (.cells #[.int .i64 0, .int .i64 0, .int .i64 0] 47)
        have ln13_12 : W1.heap.size < W2.heap.size := k12.lt
        refine hK.out _ _ bn (fun hHeld => ?_)
        clear hK K bC k11 k12
        try simp only [Act.put, List.setIfInBounds_toArray, List.set_cons_zero, List.set_cons_succ]
        generalize W2.alloc (.cells #[.int .i64 0, .int .i64 0, .int .i64 0] 47) = W3 at *
        have bC := bn
        have k11 := kn11
        have k12 := kn12
        have k13 := kn13
        clear bn kn11 kn12 kn13
        refine wpAnyH_ready (rs := [14]) (by kernel_rfl) (by simp) ?_
        refine AllReadyH.cons (o := { dst := some 11, op := Op.alloc 51, type := 0, pos := "conf.go:143", after := #[], guard := none }) rfl (fun K hK => ?_) AllReadyH.nil
        go_simp
        have kn14 : Blk (W3.alloc (.cells #[.int .i64 0, .int .i64 0, .int .i64 0, .int .i64 0, .int .i64 0, .int .i64 0, .int .i64 0, .int .i64 0] 51)) W3.heap.size 51 #[.int .i64 0, .int .i64 0, .int .i64 0, .int .i64 0, .int .i64 0, .int .i64 0, .int .i64 0, .int .i64 0] := Blk.new _ _ _
        have bn := bC.trans (Bl.alloc W3 (.cells #[.int .i64 0, .int .i64 0, .int .i64 0, .int .i64 0, .int .i64 0, .int .i64 0, .int .i64 0, .int .i64 0] 51))
        have sn : w.heap.size ≤ W3.heap.size := bC.size
        have kn11 := k11.alloc (.cells #[.int .i64 0, .int .i64 0, .int .i64 0, .int .i64 0, .int .i64 0, .int .i64 0, .int .i64 0, .int .i64 0] 51)
        have ln14_11 : W0.heap.size < W3.heap.size := k11.lt
        have kn12 := k12.alloc (.cells #[.int .i64 0, .int .i64 0, .int .i64 0, .int .i64 0, .int .i64 0, .int .i64 0, .int .i64 0, .int .i64 0] 51)
        have ln14_12 : W1.heap.size < W3.heap.size := k12.lt
        have kn13 := k13.alloc (.cells #[.int .i64 0, .int .i64 0, .int .i64 0, .int .i64 0, .int .i64 0, .int .i64 0, .int .i64 0, .int .i64 0] 51)
        have ln14_13 : W2.heap.size < W3.heap.size := k13.lt
        refine hK.out _ _ bn (fun hHeld => ?_)
        clear hK K bC k11 k12 k13
        try simp only [Act.put, List.setIfInBounds_toArray, List.set_cons_zero, List.set_cons_succ]
        generalize W3.alloc (.cells #[.int .i64 0, .int .i64 0, .int .i64 0, .int .i64 0, .int .i64 0, .int .i64 0, .int .i64 0, .int .i64 0] 51) = W4 at *
        have bC := bn
        have k11 := kn11
        have k12 := kn12
        have k13 := kn13
        have k14 := kn14
        clear bn kn11 kn12 kn13 kn14
        exact split_own_st (B := B) zm za zd zs om oa od os_ HK bC k11 k12 k13 k14 (by omega) (by omega) (by omega) (by omega) (by omega) (by omega) (by omega) (by omega) (by omega) (by omega)
      refine AllReadyH.cons (o := { dst := some 11, op := Op.alloc 51, type := 0, pos := "conf.go:143", after := #[], guard := none }) rfl (fun K hK => ?_) AllReadyH.nil
      go_simp
      have kn14 : Blk (W2.alloc (.cells #[.int .i64 0, .int .i64 0, .int .i64 0, .int .i64 0, .int .i64 0, .int .i64 0, .int .i64 0, .int .i64 0] 51)) W2.heap.size 51 #[.int .i64 0, .int .i64 0, .int .i64 0, .int .i64 0, .int .i64 0, .int .i64 0, .int .i64 0, .int .i64 0] := Blk.new _ _ _
      have bn := bC.trans (Bl.alloc W2 (.cells #[.int .i64 0, .int .i64 0, .int .i64 0, .int .i64 0, .int .i64 0, .int .i64 0, .int .i64 0, .int .i64 0] 51))
      have sn : w.heap.size ≤ W2.heap.size := bC.size
      have kn11 := k11.alloc (.cells #[.int .i64 0, .int .i64 0, .int .i64 0, .int .i64 0, .int .i64 0, .int .i64 0, .int .i64 0, .int .i64 0] 51)
      have ln14_11 : W0.heap.size < W2.heap.size := k11.lt
      have kn12 := k12.alloc (.cells #[.int .i64 0, .int .i64 0, .int .i64 0, .int .i64 0, .int .i64 0, .int .i64 0, .int .i64 0, .int .i64 0] 51)
      have ln14_12 : W1.heap.size < W2.heap.size := k12.lt
      refine hK.out _ _ bn (fun hHeld => ?_)
      clear hK K bC k11 k12
      try simp only [Act.put, List.setIfInBounds_toArray, List.set_cons_zero, List.set_cons_succ]
      generalize W2.alloc (.cells #[.int .i64 0, .int .i64 0, .int .i64 0, .int .i64 0, .int .i64 0, .int .i64 0, .int .i64 0, .int .i64 0] 51) = W3 at *
      have bC := bn
      have k11 := kn11
      have k12 := kn12
      have k14 := kn14
      clear bn kn11 kn12 kn14
      refine wpAnyH_ready (rs := [13]) (by kernel_rfl) (by simp) ?_
      refine AllReadyH.cons (o := { dst := some 10, op := Op.alloc 47, type := 0, pos := "conf.go:143", after := #[], guard := none }) rfl (fun K hK => ?_) AllReadyH.nil
      go_simp
      have kn13 : Blk (W3.alloc (.cells #[.int .i64 0, .int .i64 0, .int .i64 0] 47)) W3.heap.size 47 #[.int .i64 0, .int .i64 0, .int .i64 0] := Blk.new _ _ _
      have bn := bC.trans (Bl.alloc W3 (.cells #[.int .i64 0, .int .i64 0, .int .i64 0] 47))
      have sn : w.heap.size ≤ W3.heap.size := bC.size
      have kn11 := k11.alloc (.cells #[.int .i64 0, .int .i64 0, .int .i64 0] 47)
      have ln13_11 : W0.heap.size < W3.heap.size := k11.lt
      have kn12 := k12.alloc (.cells #[.int .i64 0, .int .i64 0, .int .i64 0] 47)
      have ln13_12 : W1.heap.size < W3.heap.size := k12.lt
      have kn14 := k14.alloc (.cells #[.int .i64 0, .int .i64 0, .int .i64 0] 47)
      have ln13_14 : W2.heap.size < W3.heap.size := k14.lt
      refine hK.out _ _ bn (fun hHeld => ?_)
      clear hK K bC k11 k12 k14
      try simp only [Act.put, List.setIfInBounds_toArray, List.set_cons_zero, List.set_cons_succ]
      generalize W3.alloc (.cells #[.int .i64 0, .int .i64 0, .int .i64 0] 47) = W4 at *
      have bC := bn
      have k11 := kn11
      have k12 := kn12
      have k14 := kn14
      have k13 := kn13
      clear bn kn11 kn12 kn14 kn13
      exact split_own_st (B := B) zm za zd zs om oa od os_ HK bC k11 k12 k13 k14 (by omega) (by omega) (by omega) (by omega) (by omega) (by omega) (by omega) (by omega) (by omega) (by omega)
    refine AllReadyH.cons (o := { dst := some 10, op := Op.alloc 47, type := 0, pos := "conf.go:143", after := #[], guard := none }) rfl (fun K hK => ?_) ?_
    · skip
      go_simp
      have kn13 : Blk (W1.alloc (.cells #[.int .i64 0, .int .i64 0, .int .i64 0] 47)) W1.heap.size 47 #[.int .i64 0, .int .i64 0, .int .i64 0] := Blk.new _ _ _
      have bn := bC.trans (Bl.alloc W1 (.cells #[.int .i64 0, .int .i64 0, .int .i64 0] 47))
      have sn : w.heap.size ≤ W1.heap.size := bC.size
      have kn11 := k11.alloc (.cells #[.int .i64 0, .int .i64 0, .int .i64 0] 47)
      have ln13_11 : W0.heap.size < W1.heap.size := k11.lt
      refine hK.out _ _ bn (fun hHeld => ?_)
      clear hK K bC k11
      try simp only [Act.put, List.setIfInBounds_toArray, List.set_cons_zero, List.set_cons_succ]
      generalize W1.alloc (.cells #[.int .i64 0, .int .i64 0, .int .i64 0] 47) = W2 at *
      have bC := bn
      have k11 := kn11
      have k13 := kn13
      clear bn kn11 kn13
      refine wpAnyH_ready (rs := [12, 14]) (by kernel_rfl) (by simp) ?_
      refine AllReadyH.cons (o := { dst := some 9, op := Op.alloc 45, type := 0, pos := "conf.go:143", after := #[], guard := none }) rfl (fun K hK => ?_) ?_
      · skip
        go_simp
        have kn12 : Blk (W2.alloc (.cells #[.int .i64 0, .int .i64 0, .int .i64 0, .int .i64 0, .int .i64 0, .bool false] 45)) W2.heap.size 45 #[.int .i64 0, .int .i64 0, .int .i64 0, .int .i64 0, .int .i64 0, .bool false] := Blk.new _ _ _
        have bn := bC.trans (Bl.alloc W2 (.cells #[.int .i64 0, .int .i64 0, .int .i64 0, .int .i64 0, .int .i64 0, .bool false] 45))
        have sn : w.heap.size ≤ W2.heap.size := bC.size
        have kn11 := k11.alloc (.cells #[.int .i64 0, .int .i64 0, .int .i64 0, .int .i64 0, .int .i64 0, .bool false] 45)
        have ln12_11 : W0.heap.size < W2.heap.size := k11.lt
        have kn13 := k13.alloc (.cells #[.int .i64 0, .int .i64 0, .int .i64 0, .int .i64 0, .int .i64 0, .bool false] 45)
        have ln12_13 : W1.heap.size < W2.heap.size := k13.lt
        refine hK.out _ _ bn (fun hHeld => ?_)
        clear hK K bC k11 k13
        try simp only [Act.put, List.setIfInBounds_toArray, List.set_cons_zero, List.set_cons_succ]
        generalize W2.alloc (.cells #[.int .i64 0, .int .i64 0, .int .i64 0, .int .i64 0, .int .i64 0, .bool false] 45) = W3 at *
        have bC := bn
        have k11 := kn11
        have k13 := kn13
        have k12 := kn12
        clear bn kn11 kn13 kn12
        refine wpAnyH_ready (rs := [14]) (by kernel_rfl) (by simp) ?_
        refine AllReadyH.cons (o := { dst := some 11, op := Op.alloc 51, type := 0, pos := "conf.go:143", after := #[], guard := none }) rfl (fun K hK => ?_) AllReadyH.nil
        go_simp
        have kn14 : Blk (W3.alloc (.cells #[.int .i64 0, .int .i64 0, .int .i64 0, .int .i64 0, .int .i64 0, .int .i64 0, .int .i64 0, .int .i64 0] 51)) W3.heap.size 51 #[.int .i64 0, .int .i64 0, .int .i64 0, .int .i64 0, .int .i64 0, .int .i64 0, .int .i64 0, .int .i64 0] := Blk.new _ _ _
        have bn := bC.trans (Bl.alloc W3 (.cells #[.int .i64 0, .int .i64 0, .int .i64 0, .int .i64 0, .int .i64 0, .int .i64 0, .int .i64 0, .int .i64 0] 51))
        have sn : w.heap.size ≤ W3.heap.size := bC.size
        have kn11 := k11.alloc (.cells #[.int .i64 0, .int .i64 0, .int .i64 0, .int .i64 0, .int .i64 0, .int .i64 0, .int .i64 0, .int .i64 0] 51)
        have ln14_11 : W0.heap.size < W3.heap.size := k11.lt
        have kn13 := k13.alloc (.cells #[.int .i64 0, .int .i64 0, .int .i64 0, .int .i64 0, .int .i64 0, .int .i64 0, .int .i64 0, .int .i64 0] 51)
        have ln14_13 : W1.heap.size < W3.heap.size := k13.lt
        have kn12 := k12.alloc (.cells #[.int .i64 0, .int .i64 0, .int .i64 0, .int .i64 0, .int .i64 0, .int .i64 0, .int .i64 0, .int .i64 0] 51)
        have ln14_12 : W2.heap.size < W3.heap.size := k12.lt
        refine hK.out _ _ bn (fun hHeld => ?_)
        clear hK K bC k11 k13 k12
        try simp only [Act.put, List.setIfInBounds_toArray, List.set_cons_zero, List.set_cons_succ]
        generalize W3.alloc (.cells #[.int .i64 0, .int .i64 0, .int .i64 0, .int .i64 0, .int .i64 0, .int .i64 0, .int .i64 0, .int .i64 0] 51) = W4 at *
        have bC := bn
        have k11 := kn11
        have k13 := kn13
        have k12 := kn12
        have k14 := kn14
        clear bn kn11 kn13 kn12 kn14
        exact split_own_st (B := B) zm za zd zs om oa od os_ HK bC k11 k12 k13 k14 (by omega) (by omega) (by omega) (by omega) (by omega) (by omega) (by omega) (by omega) (by omega) (by omega)
      refine AllReadyH.cons (o := { dst := some 11, op := Op.alloc 51, type := 0, pos := "conf.go:143", after := #[], guard := none }) rfl (fun K hK => ?_) AllReadyH.nil
      go_simp
      have kn14 : Blk (W2.alloc (.cells #[.int .i64 0, .int .i64 0, .int .i64 0, .int .i64 0, .int .i64 0, .int .i64 0, .int .i64 0, .int .i64 0] 51)) W2.heap.size 51 #[.int .i64 0, .int .i64 0, .int .i64 0, .int .i64 0, .int .i64 0, .int .i64 0, .int .i64 0, .int .i64 0] := Blk.new _ _ _
      have bn := bC.trans (Bl.alloc W2 (.cells #[.int .i64 0, .int .i64 0, .int .i64 0, .int .i64 0, .int .i64 0, .int .i64 0, .int .i64 0, .int .i64 0] 51))
      have sn : w.heap.size ≤ W2.heap.size := bC.size
      have kn11 := k11.alloc (.cells #[.int .i64 0, .int .i64 0, .int .i64 0, .int .i64 0, .int .i64 0, .int .i64 0, .int .i64 0, .int .i64 0] 51)
      have ln14_11 : W0.heap.size < W2.heap.size := k11.lt
      have kn13 := k13.alloc (.cells #[.int .i64 0, .int .i64 0, .int .i64 0, .int .i64 0, .int .i64 0, .int .i64 0, .int .i64 0, .int .i64 0] 51)
      have ln14_13 : W1.heap.size < W2.heap.size := k13.lt
      refine hK.out _ _ bn (fun hHeld => ?_)
      clear hK K bC k11 k13
      try simp only [Act.put, List.setIfInBounds_toArray, List.set_cons_zero, List.set_cons_succ]
      generalize W2.alloc (.cells #[.int .i64 0, .int .i64 0, .int .i64 0, .int .i64 0, .int .i64 0, .int .i64 0, .int .i64 0, .int .i64 0] 51) = W3 at *
      have bC := bn
      have k11 := kn11
      have k13 := kn13
      have k14 := kn14
      clear bn kn11 kn13 kn14
      refine wpAnyH_ready (rs := [12]) (by kernel_rfl) (by simp) ?_
      refine AllReadyH.cons (o := { dst := some 9, op := Op.alloc 45, type := 0, pos := "conf.go:143", after := #[], guard := none }) rfl (fun K hK => ?_) AllReadyH.nil
      go_simp
      have kn12 : Blk (W3.alloc (.cells #[.int .i64 0, .int .i64 0, .int .i64 0, .int .i64 0, .int .i64 0, .bool false] 45)) W3.heap.size 45 #[.int .i64 0, .int .i64 0, .int .i64 0, .int .i64 0, .int .i64 0, .bool false] := Blk.new _ _ _
      have bn := bC.trans (Bl.alloc W3 (.cells #[.int .i64 0, .int .i64 0, .int .i64 0, .int .i64 0, .int .i64 0, .bool false] 45))
      have sn : w.heap.size ≤ W3.heap.size := bC.size
      have kn11 := k11.alloc (.cells #[.int .i64 0, .int .i64 0, .int .i64 0, .int .i64 0, .int .i64 0, .bool false] 45)
      have ln12_11 : W0.heap.size < W3.heap.size := k11.lt
      have kn13 := k13.alloc (.cells #[.int .i64 0, .int .i64 0, .int .i64 0, .int .i64 0, .int .i64 0, .bool false] 45)
      have ln12_13 : W1.heap.size < W3.heap.size := k13.lt
      have kn14 := k14.alloc (.cells #[.int .i64 0, .int .i64 0, .int .i64 0, .int .i64 0, .int .i64 0, .bool false] 45)
      have ln12_14 : W2.heap.size < W3.heap.size := k14.lt
      refine hK.out _ _ bn (fun hHeld => ?_)
      clear hK K bC k11 k13 k14
      try simp only [Act.put, List.setIfInBounds_toArray, List.set_cons_zero, List.set_cons_succ]
      generalize W3.alloc (.cells #[.int .i64 0, .int .i64 0, .int .i64 0, .int .i64 0, .int .i64 0, .bool false] 45) = W4 at *
      have bC := bn
      have k11 := kn11
      have k13 := kn13
      have k14 := kn14
      have k12 := kn12
      clear bn kn11 kn13 kn14 kn12
      exact split_own_st (B := B) zm za zd zs om oa od os_ HK bC k11 k12 k13 k14 (by omega) (by omega) (by omega) (by omega) (by omega) (by omega) (by omega) (by omega) (by omega) (by omega)
    refine AllReadyH.cons (o := { dst := some 11, op := Op.alloc 51, type := 0, pos := "conf.go:143", after := #[], guard := none }) rfl (fun K hK => ?_) AllReadyH.nil
    go_simp
    have kn14 : Blk (W1.alloc (.cells #[.int .i64 0, .int .i64 0, .int .i64 0, .int .i64 0, .int .i64 0, .int .i64 0, .int .i64 0, .int .i64 0] 51)) W1.heap.size 51 #[.int .i64 0, .int .i64 0, .int .i64 0, .int .i64 0, .int .i64 0, .int .i64 0, .int .i64 0, .int .i64 0] := Blk.new _ _ _
    have bn := bC.trans (Bl.alloc W1 (.cells #[.int .i64 0, .int .i64 0, .int .i64 0, .int .i64 0, .int .i64 0, .int .i64 0, .int .i64 0, .int .i64 0] 51))
    have sn : w.heap.size ≤ W1.heap.size := bC.size
    have kn11 := k11.alloc (.cells #[.int .i64 0, .int .i64 0, .int .i64 0, .int .i64 0, .int .i64 0, .int .i64 0, .int .i64 0, .int .i64 0] 51)
    have ln14_11 : W0.heap.size < W1.heap.size := k11.lt
    refine hK.out _ _ bn (fun hHeld => ?_)
    clear hK K bC k11
    try simp only [Act.put, List.setIfInBounds_toArray, List.set_cons_zero, List.set_cons_succ]
    generalize W1.alloc (.cells #[.int .i64 0, .int .i64 0, .int .i64 0, .int .i64 0, .int .i64 0, .int .i64 0, .int .i64 0, .int .i64 0] 51) = W2 at *
    have bC := bn
    have k11 := kn11
    have k14 := kn14
    clear bn kn11 kn14
    refine wpAnyH_ready (rs := [12, 13]) (by kernel_rfl) (by simp) ?_
    refine AllReadyH.cons (o := { dst := some 9, op := Op.alloc 45, type := 0, pos := "conf.go:143", after := #[], guard := none }) rfl (fun K hK => ?_) ?_
    · skip
      go_simp
      have kn12 : Blk (W2.alloc (.cells #[.int .i64 0, .int .i64 0, .int .i64 0, .int .i64 0, .int .i64 0, .bool false] 45)) W2.heap.size 45 #[.int .i64 0, .int .i64 0, .int .i64 0, .int .i64 0, .int .i64 0, .bool false] := Blk.new _ _ _
      have bn := bC.trans (Bl.alloc W2 (.cells #[.int .i64 0, .int .i64 0, .int .i64 0, .int .i64 0, .int .i64 0, .bool false] 45))
      have sn : w.heap.size ≤ W2.heap.size := bC.size
      have kn11 := k11.alloc (.cells #[.int .i64 0, .int .i64 0, .int .i64 0, .int .i64 0, .int .i64 0, .bool false] 45)
      have ln12_11 : W0.heap.size < W2.heap.size := k11.lt
      have kn14 := k14.alloc (.cells #[.int .i64 0, .int .i64 0, .int .i64 0, .int .i64 0, .int .i64 0, .bool false] 45)
      have ln12_14 : W1.heap.size < W2.heap.size := k14.lt
      refine hK.out _ _ bn (fun hHeld => ?_)
      clear hK K bC k11 k14
      try simp only [Act.put, List.setIfInBounds_toArray, List.set_cons_zero, List.set_cons_succ]
      generalize W2.alloc (.cells #[.int .i64 0, .int .i64 0, .int .i64 0, .int .i64 0, .int .i64 0, .bool false] 45) = W3 at *
      have bC := bn
      have k11 := kn11
      have k14 := kn14
      have k12 := kn12
      clear bn kn11 kn14 kn12
      refine wpAnyH_ready (rs := [13]) (by kernel_rfl) (by simp) ?_
      refine AllReadyH.cons (o := { dst := some 10, op := Op.alloc 47, type := 0, pos := "conf.go:143", after := #[], guard := none }) rfl (fun K hK => ?_) AllReadyH.nil
      go_simp
      have kn13 : Blk (W3.alloc (.cells #[.int .i64 0, .int .i64 0, .int .i64 0] 47)) W3.heap.size 47 #[.int .i64 0, .int .i64 0, .int .i64 0] := Blk.new _ _ _
      have bn := bC.trans (Bl.alloc W3 (.cells #[.int .i64 0, .int .i64 0, .int .i64 0] 47))
      have sn : w.heap.size ≤ W3.heap.size := bC.size
      have kn11 := k11.alloc (.cells #[.int .i64 0, .int .i64 0, .int .i64 0] 47)
      have ln13_11 : W0.heap.size < W3.heap.size := k11.lt
      have kn14 := k14.alloc (.cells #[.int .i64 0, .int .i64 0, .int .i64 0] 47)
      have ln13_14 : W1.heap.size < W3.heap.size := k14.lt
      have kn12 := k12.alloc (.cells #[.int .i64 0, .int .i64 0, .int .i64 0] 47)
      have ln13_12 : W2.heap.size < W3.heap.size := k12.lt
      refine hK.out _ _ bn (fun hHeld => ?_)
      clear hK K bC k11 k14 k12
      try simp only [Act.put, List.setIfInBounds_toArray, List.set_cons_zero, List.set_cons_succ]
      generalize W3.alloc (.cells #[.int .i64 0, .int .i64 0, .int .i64 0] 47) = W4 at *
      have bC := bn
      have k11 := kn11
      have k14 := kn14
      have k12 := kn12
      have k13 := kn13
      clear bn kn11 kn14 kn12 kn13
      exact split_own_st (B := B) zm za zd zs om oa od os_ HK bC k11 k12 k13 k14 (by omega) (by omega) (by omega) (by omega) (by omega) (by omega) (by omega) (by omega) (by omega) (by omega)
    refine AllReadyH.cons (o := { dst := some 10, op := Op.alloc 47, type := 0, pos := "conf.go:143", after := #[], guard := none }) rfl (fun K hK => ?_) AllReadyH.nil
    go_simp
    have kn13 : Blk (W2.alloc (.cells #[.int .i64 0, .int .i64 0, .int .i64 0] 47)) W2.heap.size 47 #[.int .i64 0, .int .i64 0, .int .i64 0] := Blk.new _ _ _
    have bn := bC.trans (Bl.alloc W2 (.cells #[.int .i64 0, .int .i64 0, .int .i64 0] 47))
    have sn : w.heap.size ≤ W2.heap.size := bC.size
    have kn11 := k11.alloc (.cells #[.int .i64 0, .int .i64 0, .int .i64 0] 47)
    have ln13_11 : W0.heap.size < W2.heap.size := k11.lt
    have kn14 := k14.alloc (.cells #[.int .i64 0, .int .i64 0, .int .i64 0] 47)
    have ln13_14 : W1.heap.size < W2.heap.size := k14.lt
    refine hK.out _ _ bn (fun hHeld => ?_)
    clear hK K bC k11 k14
    try simp only [Act.put, List.setIfInBounds_toArray, List.set_cons_zero, List.set_cons_succ]
    generalize W2.alloc (.cells #[.int .i64 0, .int .i64 0, .int .i64 0] 47) = W3 at *
    have bC := bn
    have k11 := kn11
    have k14 := kn14
    have k13 := kn13
    clear bn kn11 kn14 kn13
    refine wpAnyH_ready (rs := [12]) (by kernel_rfl) (by simp) ?_
    refine AllReadyH.cons (o := { dst := some 9, op := Op.alloc 45, type := 0, pos := "conf.go:143", after := #[], guard := none }) rfl (fun K hK => ?_) AllReadyH.nil
    go_simp
    have kn12 : Blk (W3.alloc (.cells #[.int .i64 0, .int .i64 0, .int .i64 0, .int .i64 0, .int .i64 0, .bool false] 45)) W3.heap.size 45 #[.int .i64 0, .int .i64 0, .int .i64 0, .int .i64 0, .int .i64 0, .bool false] := Blk.new _ _ _
    have bn := bC.trans (Bl.alloc W3 (.cells #[.int .i64 0, .int .i64 0, .int .i64 0, .int .i64 0, .int .i64 0, .bool false] 45))
    have sn : w.heap.size ≤ W3.heap.size := bC.size
    have kn11 := k11.alloc (.cells #[.int .i64 0, .int .i64 0, .int .i64 0, .int .i64 0, .int .i64 0, .bool false] 45)
    have ln12_11 : W0.heap.size < W3.heap.size := k11.lt
    have kn14 := k14.alloc (.cells #[.int .i64 0, .int .i64 0, .int .i64 0, .int .i64 0, .int .i64 0, .bool false] 45)
    have ln12_14 : W1.heap.size < W3.heap.size := k14.lt
    have kn13 := k13.alloc (.cells #[.int .i64 0, .int .i64 0, .int .i64 0, .int .i64 0, .int .i64 0, .bool false] 45)
    have ln12_13 : W2.heap.size < W3.heap.size := k13.lt
    refine hK.out _ _ bn (fun hHeld => ?_)
    clear hK K bC k11 k14 k13
    try simp only [Act.put, List.setIfInBounds_toArray, List.set_cons_zero, List.set_cons_succ]
    generalize W3.alloc (.cells #[.int .i64 0, .int .i64 0, .int .i64 0, .int .i64 0, .int .i64 0, .bool false] 45) = W4 at *
    have bC := bn
    have k11 := kn11
    have k14 := kn14
    have k13 := kn13
    have k12 := kn12
    clear bn kn11 kn14 kn13 kn12
    exact split_own_st (B := B) zm za zd zs om oa od os_ HK bC k11 k12 k13 k14 (by omega) (by omega) (by omega) (by omega) (by omega) (by omega) (by omega) (by omega) (by omega) (by omega)
  refine AllReadyH.cons (o := { dst := some 9, op := Op.alloc 45, type := 0, pos := "conf.go:143", after := #[], guard := none }) rfl (fun K hK => ?_) ?_
  · skip
    go_simp
    have kn12 : Blk (W0.alloc (.cells #[.int .i64 0, .int .i64 0, .int .i64 0, .int .i64 0, .int .i64 0, .bool false] 45)) W0.heap.size 45 #[.int .i64 0, .int .i64 0, .int .i64 0, .int .i64 0, .int .i64 0, .bool false] := Blk.new _ _ _
    have bn := bC.trans (Bl.alloc W0 (.cells #[.int .i64 0, .int .i64 0, .int .i64 0, .int .i64 0, .int .i64 0, .bool false] 45))
    have sn : w.heap.size ≤ W0.heap.size := bC.size
    refine hK.out _ _ bn (fun hHeld => ?_)
    clear hK K bC 
    try simp only [Act.put, List.setIfInBounds_toArray, List.set_cons_zero, List.set_cons_succ]
    generalize W0.alloc (.cells #[.int .i64 0, .int .i64 0, .int .i64 0, .int .i64 0, .int .i64 0, .bool false] 45) = W1 at *
    have bC := bn
    have k12 := kn12
    clear bn kn12
    refine wpAnyH_ready (rs := [11, 13, 14]) (by kernel_rfl) (by simp) ?_
    refine AllReadyH.cons (o := { dst := some 8, op := Op.alloc 43, type := 0, pos := "conf.go:143", after := #[], guard := none }) rfl (fun K hK => ?_) ?_
    · skip
      go_simp
      have kn11 : Blk (W1.alloc (.cells #[.int .i64 0, .int .i64 0, .int .i64 0, .bool false] 43)) W1.heap.size 43 #[.int .i64 0, .int .i64 0, .int .i64 0, .bool false] := Blk.new _ _ _
      have bn := bC.trans (Bl.alloc W1 (.cells #[.int .i64 0, .int .i64 0, .int .i64 0, .bool false] 43))
      have sn : w.heap.size ≤ W1.heap.size := bC.size
      have kn12 := k12.alloc (.cells #[.int .i64 0, .int .i64 0, .int .i64 0, .bool false] 43)
      have ln11_12 : W0.heap.size < W1.heap.size := k12.lt
      refine hK.out _ _ bn (fun hHeld => ?_)
      clear hK K bC k12
      try simp only [Act.put, List.setIfInBounds_toArray, List.set_cons_zero, List.set_cons_succ]
      generalize W1.alloc (.cells #[.int .i64 0, .int .i64 0, .int .i64 0, .bool false] 43) = W2 at *
      have bC := bn
      have k12 := kn12
      have k11 := kn11
      clear bn kn12 kn11
      refine wpAnyH_ready (rs := [13, 14]) (by kernel_rfl) (by simp) ?_
      refine AllReadyH.cons (o := { dst := some 10, op := Op.alloc 47, type := 0, pos := "conf.go:143", after := #[], guard := none }) rfl (fun K hK => ?_) ?_
      · skip
        go_simp
        have kn13 : Blk (W2.alloc (.cells #[.int .i64 0, .int .i64 0, .int .i64 0] 47)) W2.heap.size 47 #[.int .i64 0, .int .i64 0, .int .i64 0] := Blk.new _ _ _
        have bn := bC.trans (Bl.alloc W2 (.cells #[.int .i64 0, .int .i64 0, .int .i64 0] 47))
        have sn : w.heap.size ≤ W2.heap.size := bC.size
        have kn12 := k12.alloc (.cells #[.int .i64 0, .int .i64 0, .int .i64 0] 47)
        have ln13_12 : W0.heap.size < W2.heap.size := k12.lt
        have kn11 := k11.alloc (.cells #[.int .i64 0, .int .i64 0, .int .i64 0] 47)
        have ln13_11 : W1.heap.size < W2.heap.size := k11.lt
        refine hK.out _ _ bn (fun hHeld => ?_)
        clear hK K bC k12 k11
        try simp only [Act.put, List.setIfInBounds_toArray, List.set_cons_zero, List.set_cons_succ]
        generalize W2.alloc (.cells #[.int .i64 0, .int .i64 0, .int .i64 0] 47) = W3 at *
        have bC := bn
        have k12 := kn12
        have k11 := kn11
        have k13 := kn13
        clear bn kn12 kn11 kn13
        refine wpAnyH_ready (rs := [14]) (by kernel_rfl) (by simp) ?_
        refine AllReadyH.cons (o := { dst := some 11, op := Op.alloc 51, type := 0, pos := "conf.go:143", after := #[], guard := none }) rfl (fun K hK => ?_) AllReadyH.nil
        go_simp
        have kn14 : Blk (W3.alloc (.cells #[.int .i64 0, .int .i64 0, .int .i64 0, .int .i64 0, .int .i64 0, .int .i64 0, .int .i64 0, .int .i64 0] 51)) W3.heap.size 51 #[.int .i64 0, .int .i64 0, .int .i64 0, .int .i64 0, .int .i64 0, .int .i64 0, .int .i64 0, .int .i64 0] := Blk.new _ _ _
        have bn := bC.trans (Bl.alloc W3 (.cells #[.int .i64 0, .int .i64 0, .int .i64 0, .int .i64 0, .int .i64 0, .int .i64 0, .int .i64 0, .int .i64 0] 51))
        have sn : w.heap.size ≤ W3.heap.size := bC.size
        have kn12 := k12.alloc (.cells #[.int .i64 0, .int .i64 0, .int .i64 0, .int .i64 0, .int .i64 0, .int .i64 0, .int .i64 0, .int .i64 0] 51)
        have ln14_12 : W0.heap.size < W3.heap.size := k12.lt
        have kn11 := k11.alloc (.cells #[.int .i64 0, .int .i64 0, .int .i64 0, .int .i64 0, .int .i64 0, .int .i64 0, .int .i64 0, .int .i64 0] 51)
        have ln14_11 : W1.heap.size < W3.heap.size := k11.lt
        have kn13 := k13.alloc (.cells #[.int .i64 0, .int .i64 0, .int .i64 0, .int .i64 0, .int .i64 0, .int .i64 0, .int .i64 0, .int .i64 0] 51)
        have ln14_13 : W2.heap.size < W3.heap.size := k13.lt
        refine hK.out _ _ bn (fun hHeld => ?_)
        clear hK K bC k12 k11 k13
        try simp only [Act.put, List.setIfInBounds_toArray, List.set_cons_zero, List.set_cons_succ]
        generalize W3.alloc (.cells #[.int .i64 0, .int .i64 0, .int .i64 0, .int .i64 0, .int .i64 0, .int .i64 0, .int .i64 0, .int .i64 0] 51) = W4 at *
        have bC := bn
        have k12 := kn12
        have k11 := kn11
        have k13 := kn13
        have k14 := kn14
        clear bn kn12 kn11 kn13 kn14
        exact split_own_st (B := B) zm za zd zs om oa od os_ HK bC k11 k12 k13 k14 (by omega) (by omega) (by omega) (by omega) (by omega) (by omega) (by omega) (by omega) (by omega) (by omega)
      refine AllReadyH.cons (o := { dst := some 11, op := Op.alloc 51, type := 0, pos := "conf.go:143", after := #[], guard := none }) rfl (fun K hK => ?_) AllReadyH.nil
      go_simp
      have kn14 : Blk (W2.alloc (.cells #[.int .i64 0, .int .i64 0, .int .i64 0, .int .i64 0, .int .i64 0, .int .i64 0, .int .i64 0, .int .i64 0] 51)) W2.heap.size 51 #[.int .i64 0, .int .i64 0, .int .i64 0, .int .i64 0, .int .i64 0, .int .i64 0, .int .i64 0, .int .i64 0] := Blk.new _ _ _
      have bn := bC.trans (Bl.alloc W2 (.cells #[.int .i64 0, .int .i64 0, .int .i64 0, .int .i64 0, .int .i64 0, .int .i64 0, .int .i64 0, .int .i64 0] 51))
      have sn : w.heap.size ≤ W2.heap.size := bC.size
      have kn12 := k12.alloc (.cells #[.int .i64 0, .int .i64 0, .int .i64 0, .int .i64 0, .int .i64 0, .int .i64 0, .int .i64 0, .int .i64 0] 51)
      have ln14_12 : W0.heap.size < W2.heap.size := k12.lt
      have kn11 := k11.alloc (.cells #[.int .i64 0, .int .i64 0, .int .i64 0, .int .i64 0, .int .i64 0, .int .i64 0, .int .i64 0, .int .i64 0] 51)
      have ln14_11 : W1.heap.size < W2.heap.size := k11.lt
      refine hK.out _ _ bn (fun hHeld => ?_)
      clear hK K bC k12 k11
      try simp only [Act.put, List.setIfInBounds_toArray, List.set_cons_zero, List.set_cons_succ]
      generalize W2.alloc (.cells #[.int .i64 0, .int .i64 0, .int .i64 0, .int .i64 0, .int .i64 0, .int .i64 0, .int .i64 0, .int .i64 0] 51) = W3 at *
      have bC := bn
      have k12 := kn12
      have k11 := kn11
      have k14 := kn14
      clear bn kn12 kn11 kn14
      refine wpAnyH_ready (rs := [13]) (by kernel_rfl) (by simp) ?_
      refine AllReadyH.cons (o := { dst := some 10, op := Op.alloc 47, type := 0, pos := "conf.go:143", after := #[], guard := none }) rfl (fun K hK => ?_) AllReadyH.nil
      go_simp
      have kn13 : Blk (W3.alloc (.cells #[.int .i64 0, .int .i64 0, .int .i64 0] 47)) W3.heap.size 47 #[.int .i64 0, .int .i64 0, .int .i64 0] := Blk.new _ _ _
      have bn := bC.trans (Bl.alloc W3 (.cells #[.int .i64 0, .int .i64 0, .int .i64 0] 47))
      have sn : w.heap.size ≤ W3.heap.size := bC.size
      have kn12 := k12.alloc (.cells #[.int .i64 0, .int .i64 0, .int .i64 0] 47)
      have ln13_12 : W0.heap.size < W3.heap.size := k12.lt
      have kn11 := k11.alloc (.cells #[.int .i64 0, .int .i64 0, .int .i64 0] 47)
      have ln13_11 : W1.heap.size < W3.heap.size := k11.lt
      have kn14 := k14.alloc (.cells #[.int .i64 0, .int .i64 0, .int .i64 0] 47)
      have ln13_14 : W2.heap.size < W3.heap.size := k14.lt
      refine hK.out _ _ bn (fun hHeld => ?_)
      clear hK K bC k12 k11 k14
      try simp only [Act.put, List.setIfInBounds_toArray, List.set_cons_zero, List.set_cons_succ]
      generalize W3.alloc (.cells #[.int .i64 0, .int .i64 0, .int .i64 0] 47) = W4 at *
      have bC := bn
      have k12 := kn12
      have k11 := kn11
      have k14 := kn14
      have k13 := kn13
      clear bn kn12 kn11 kn14 kn13
      exact split_own_st (B := B) zm za zd zs om oa od os_ HK bC k11 k12 k13 k14 (by omega) (by omega) (by omega) (by omega) (by omega) (by omega) (by omega) (by omega) (by omega) (by omega)
    refine AllReadyH.cons (o := { dst := some 10, op := Op.alloc 47, type := 0, pos := "conf.go:143", after := #[], guard := none }) rfl (fun K hK => ?_) ?_
    · skip
      go_simp
      have kn13 : Blk (W1.alloc (.cells #[.int .i64 0, .int .i64 0, .int .i64 0] 47)) W1.heap.size 47 #[.int .i64 0, .int .i64 0, .int .i64 0] := Blk.new _ _ _
      have bn := bC.trans (Bl.alloc W1 (.cells #[.int .i64 0, .int .i64 0, .int .i64 0] 47))
      have sn : w.heap.size ≤ W1.heap.size := bC.size
      have kn12 := k12.alloc (.cells #[.int .i64 0, .int .i64 0, .int .i64 0] 47)
      have ln13_12 : W0.heap.size < W1.heap.size := k12.lt
      refine hK.out _ _ bn (fun hHeld => ?_)
      clear hK K bC k12
      try simp only [Act.put, List.setIfInBounds_toArray, List.set_cons_zero, List.set_cons_succ]
      generalize W1.alloc (.cells #[.int .i64 0, .int .i64 0, .int .i64 0] 47) = W2 at *
      have bC := bn
      have k12 := kn12
      have k13 := kn13
      clear bn kn12 kn13
      refine wpAnyH_ready (rs := [11, 14]) (by kernel_rfl) (by simp) ?_
      refine AllReadyH.cons (o := { dst := some 8, op := Op.alloc 43, type := 0, pos := "conf.go:143", after := #[], guard := none }) rfl (fun K hK => ?_) ?_
      · skip
        go_simp
        have kn11 : Blk (W2.alloc (.cells #[.int .i64 0, .int .i64 0, .int .i64 0, .bool false] 43)) W2.heap.size 43 #[.int .i64 0, .int .i64 0, .int .i64 0, .bool false] := Blk.new _ _ _
        have bn := bC.trans (Bl.alloc W2 (.cells #[.int .i64 0, .int .i64 0, .int .i64 0, .bool false] 43))
        have sn : w.heap.size ≤ W2.heap.size := bC.size
        have kn12 := k12.alloc (.cells #[.int .i64 0, .int .i64 0, .int .i64 0, .bool false] 43)
        have ln11_12 : W0.heap.size < W2.heap.size := k12.lt
        have kn13 := k13.alloc (.cells #[.int .i64 0, .int .i64 0, .int .i64 0, .bool false] 43)
        have ln11_13 : W1.heap.size < W2.heap.size := k13.lt
        refine hK.out _ _ bn (fun hHeld => ?_)
        clear hK K bC k12 k13
        try simp only [Act.put, List.setIfInBounds_toArray, List.set_cons_zero, List.set_cons_succ]
        generalize W2.alloc (.cells #[.int .i64 0, .int .i64 0, .int .i64 0, .bool false] 43) = W3 at *
        have bC := bn
        have k12 := kn12
        have k13 := kn13
        have k11 := kn11
        clear bn kn12 kn13 kn11
        refine wpAnyH_ready (rs := [14]) (by kernel_rfl) (by simp) ?_
        refine AllReadyH.cons (o := { dst := some 11, op := Op.alloc 51, type := 0, pos := "conf.go:143", after := #[], guard := none }) rfl (fun K hK => ?_) AllReadyH.nil
        go_simp
        have kn14 : Blk (W3.alloc (.cells #[.int .i64 0, .int .i64 0, .int .i64 0, .int .i64 0, .int .i64 0, .int .i64 0, .int .i64 0, .int .i64 0] 51)) W3.heap.size 51 #[.int .i64 0, .int .i64 0, .int .i64 0, .int .i64 0, .int .i64 0, .int .i64 0, .int .i64 0, .int .i64 0] := Blk.new _ _ _
        have bn := bC.trans (Bl.alloc W3 (.cells #[.int .i64 0, .int .i64 0, .int .i64 0, .int .i64 0, .int .i64 0, .int .i64 0, .int .i64 0, .int .i64 0] 51))
        have sn : w.heap.size ≤ W3.heap.size := bC.size
        have kn12 := k12.alloc (.cells #[.int .i64 0, .int .i64 0, .int .i64 0, .int .i64 0, .int .i64 0, .int .i64 0, .int .i64 0, .int .i64 0] 51)
        have ln14_12 : W0.heap.size < W3.heap.size := k12.lt
        have kn13 := k13.alloc (.cells #[.int .i64 0, .int .i64 0, .int .i64 0, .int .i64 0, .int .i64 0, .int .i64 0, .int .i64 0, .int .i64 0] 51)
        have ln14_13 : W1.heap.size < W3.heap.size := k13.lt
        have kn11 := k11.alloc (.cells #[.int .i64 0, .int .i64 0, .int .i64 0, .int .i64 0, .int .i64 0, .int .i64 0, .int .i64 0, .int .i64 0] 51)
        have ln14_11 : W2.heap.size < W3.heap.size := k11.lt
        refine hK.out _ _ bn (fun hHeld => ?_)
        clear hK K bC k12 k13 k11
        try simp only [Act.put, List.setIfInBounds_toArray, List.set_cons_zero, List.set_cons_succ]
        generalize W3.alloc (.cells #[.int .i64 0, .int .i64 0, .int .i64 0, .int .i64 0, .int .i64 0, .int .i64 0, .int .i64 0, .int .i64 0] 51) = W4 at *
        have bC := bn
        have k12 := kn12
        have k13 := kn13
        have k11 := kn11
        have k14 := kn14
        clear bn kn12 kn13 kn11 kn14
        exact split_own_st (B := B) zm za zd zs om oa od os_ HK bC k11 k12 k13 k14 (by omega) (by omega) (by omega) (by omega) (by omega) (by omega) (by omega) (by omega) (by omega) (by omega)
      refine AllReadyH.cons (o := { dst := some 11, op := Op.alloc 51, type := 0, pos := "conf.go:143", after := #[], guard := none }) rfl (fun K hK => ?_) AllReadyH.nil
      go_simp
      have kn14 : Blk (W2.alloc (.cells #[.int .i64 0, .int .i64 0, .int .i64 0, .int .i64 0, .int .i64 0, .int .i64 0, .int .i64 0, .int .i64 0] 51)) W2.heap.size 51 #[.int .i64 0, .int .i64 0, .int .i64 0, .int .i64 0, .int .i64 0, .int .i64 0, .int .i64 0, .int .i64 0] := Blk.new _ _ _
      have bn := bC.trans (Bl.alloc W2 (.cells #[.int .i64 0, .int .i64 0, .int .i64 0, .int .i64 0, .int .i64 0, .int .i64 0, .int .i64 0, .int .i64 0] 51))
      have sn : w.heap.size ≤ W2.heap.size := bC.size
      have kn12 := k12.alloc (.cells #[.int .i64 0, .int .i64 0, .int .i64 0, .int .i64 0, .int .i64 0, .int .i64 0, .int .i64 0, .int .i64 0] 51)
      have ln14_12 : W0.heap.size < W2.heap.size := k12.lt
      have kn13 := k13.alloc (.cells #[.int .i64 0, .int .i64 0, .int .i64 0, .int .i64 0, .int .i64 0, .int .i64 0, .int .i64 0, .int .i64 0] 51)
      have ln14_13 : W1.heap.size < W2.heap.size := k13.lt
      refine hK.out _ _ bn (fun hHeld => ?_)
      clear hK K bC k12 k13
      try simp only [Act.put, List.setIfInBounds_toArray, List.set_cons_zero, List.set_cons_succ]
      generalize W2.alloc (.cells #[.int .i64 0, .int .i64 0, .int .i64 0, .int .i64 0, .int .i64 0, .int .i64 0, .int .i64 0, .int .i64 0] 51) = W3 at *
      have bC := bn
      have k12 := kn12
      have k13 := kn13
      have k14 := kn14
      clear bn kn12 kn13 kn14
      refine wpAnyH_ready (rs := [11]) (by kernel_rfl) (by simp) ?_
      refine AllReadyH.cons (o := { dst := some 8, op := Op.alloc 43, type := 0, pos := "conf.go:143", after := #[], guard := none }) rfl (fun K hK => ?_) AllReadyH.nil
      go_simp
      have kn11 : Blk (W3.alloc (.cells #[.int .i64 0, .int .i64 0, .int .i64 0, .bool false] 43)) W3.heap.size 43 #[.int .i64 0, .int .i64 0, .int .i64 0, .bool false] := Blk.new _ _ _
      have bn := bC.trans (Bl.alloc W3 (.cells #[.int .i64 0, .int .i64 0, .int .i64 0, .bool false] 43))
      have sn : w.heap.size ≤ W3.heap.size := bC.size
      have kn12 := k12.alloc (.cells #[.int .i64 0, .int .i64 0, .int .i64 0, .bool false] 43)
      have ln11_12 : W0.heap.size < W3.heap.size := k12.lt
      have kn13 := k13.alloc (.cells #[.int .i64 0, .int .i64 0, .int .i64 0, .bool false] 43)
      have ln11_13 : W1.heap.size < W3.heap.size := k13.lt
      have kn14 := k14.alloc (.cells #[.int .i64 0, .int .i64 0, .int .i64 0, .bool false] 43)
      have ln11_14 : W2.heap.size < W3.heap.size := k14.lt
      refine hK.out _ _ bn (fun hHeld => ?_)
      clear hK K bC k12 k13 k14
      try simp only [Act.put, List.setIfInBounds_toArray, List.set_cons_zero, List.set_cons_succ]
      generalize W3.alloc (.cells #[.int .i64 0, .int .i64 0, .int .i64 0, .bool false] 43) = W4 at *
      have bC := bn
      have k12 := kn12
      have k13 := kn13
      have k14 := kn14
      have k11 := kn11
      clear bn kn12 kn13 kn14 kn11
      exact split_own_st (B := B) zm za zd zs om oa od os_ HK bC k11 k12 k13 k14 (by omega) (by omega) (by omega) (by omega) (by omega) (by omega) (by omega) (by omega) (by omega) (by omega)
    refine AllReadyH.cons (o := { dst := some 11, op := Op.alloc 51, type := 0, pos := "conf.go:143", after := #[], guard := none }) rfl (fun K hK => ?_) AllReadyH.nil
    go_simp
    have kn14 : Blk (W1.alloc (.cells #[.int .i64 0, .int .i64 0, .int .i64 0, .int .i64 0, .int .i64 0, .int .i64 0, .int .i64 0, .int .i64 0] 51)) W1.heap.size 51 #[.int .i64 0, .int .i64 0, .int .i64 0, .int .i64 0, .int .i64 0, .int .i64 0, .int .i64 0, .int .i64 0] := Blk.new _ _ _
    have bn := bC.trans (Bl.alloc W1 (.cells #[.int .i64 0, .int .i64 0, .int .i64 0, .int .i64 0, .int .i64 0, .int .i64 0, .int .i64 0, .int .i64 0] 51))
    have sn : w.heap.size ≤ W1.heap.size := bC.size
    have kn12 := k12.alloc (.cells #[.int .i64 0, .int .i64 0, .int .i64 0, .int .i64 0, .int .i64 0, .int .i64 0, .int .i64 0, .int .i64 0] 51)
    have ln14_12 : W0.heap.size < W1.heap.size := k12.lt
    refine hK.out _ _ bn (fun hHeld => ?_)
    clear hK K bC k12
    try simp only [Act.put, List.setIfInBounds_toArray, List.set_cons_zero, List.set_cons_succ]
    generalize W1.alloc (.cells #[.int .i64 0, .int .i64 0, .int .i64 0, .int .i64 0, .int .i64 0, .int .i64 0, .int .i64 0, .int .i64 0] 51) = W2 at *
    have bC := bn
    have k12 := kn12
    have k14 := kn14
    clear bn kn12 kn14
    refine wpAnyH_ready (rs := [11, 13]) (by kernel_rfl) (by simp) ?_
    refine AllReadyH.cons (o := { dst := some 8, op := Op.alloc 43, type := 0, pos := "conf.go:143", after := #[], guard := none }) rfl (fun K hK => ?_) ?_
    · skip
      go_simp
      have kn11 : Blk (W2.alloc (.cells #[.int .i64 0, .int .i64 0, .int .i64 0, .bool false] 43)) W2.heap.size 43 #[.int .i64 0, .int .i64 0, .int .i64 0, .bool false] := Blk.new _ _ _
      have bn := bC.trans (Bl.alloc W2 (.cells #[.int .i64 0, .int .i64 0, .int .i64 0, .bool false] 43))
      have sn : w.heap.size ≤ W2.heap.size := bC.size
      have kn12 := k12.alloc (.cells #[.int .i64 0, .int .i64 0, .int .i64 0, .bool false] 43)
      have ln11_12 : W0.heap.size < W2.heap.size := k12.lt
      have kn14 := k14.alloc (.cells #[.int .i64 0, .int .i64 0, .int .i64 0, .bool false] 43)
      have ln11_14 : W1.heap.size < W2.heap.size := k14.lt
      refine hK.out _ _ bn (fun hHeld => ?_)
      clear hK K bC k12 k14
      try simp only [Act.put, List.setIfInBounds_toArray, List.set_cons_zero, List.set_cons_succ]
      generalize W2.alloc (.cells #[.int .i64 0, .int .i64 0, .int .i64 0, .bool false] 43) = W3 at *
      have bC := bn
      have k12 := kn12
      have k14 := kn14
      have k11 := kn11
      clear bn kn12 kn14 kn11
      refine wpAnyH_ready (rs := [13]) (by kernel_rfl) (by simp) ?_
      refine AllReadyH.cons (o := { dst := some 10, op := Op.alloc 47, type := 0, pos := "conf.go:143", after := #[], guard := none }) rfl (fun K hK => ?_) AllReadyH.nil
      go_simp
      have kn13 : Blk (W3.alloc (.cells #[.int .i64 0, .int .i64 0, .int .i64 0] 47)) W3.heap.size 47 #[.int .i64 0, .int .i64 0, .int .i64 0] := Blk.new _ _ _
      have bn := bC.trans (Bl.alloc W3 (.cells #[.int .i64 0, .int .i64 0, .int .i64 0] 47))
      have sn : w.heap.size ≤ W3.heap.size := bC.size
      have kn12 := k12.alloc (.cells #[.int .i64 0, .int .i64 0, .int .i64 0] 47)
      have ln13_12 : W0.heap.size < W3.heap.size := k12.lt
      have kn14 := k14.alloc (.cells #[.int .i64 0, .int .i64 0, .int .i64 0] 47)
      have ln13_14 : W1.heap.size < W3.heap.size := k14.lt
      have kn11 := k11.alloc (.cells #[.int .i64 0, .int .i64 0, .int .i64 0] 47)
      have ln13_11 : W2.heap.size < W3.heap.size := k11.lt
      refine hK.out _ _ bn (fun hHeld => ?_)
      clear hK K bC k12 k14 k11
      try simp only [Act.put, List.setIfInBounds_toArray, List.set_cons_zero, List.set_cons_succ]
      generalize W3.alloc (.cells #[.int .i64 0, .int .i64 0, .int .i64 0] 47) = W4 at *
      have bC := bn
      have k12 := kn12
      have k14 := kn14
      have k11 := kn11
      have k13 := kn13
      clear bn kn12 kn14 kn11 kn13
      exact split_own_st (B := B) zm za zd zs om oa od os_ HK bC k11 k12 k13 k14 (by omega) (by omega) (by omega) (by omega) (by omega) (by omega) (by omega) (by omega) (by omega) (by omega)
    refine AllReadyH.cons (o := { dst := some 10, op := Op.alloc 47, type := 0, pos := "conf.go:143", after := #[], guard := none }) rfl (fun K hK => ?_) AllReadyH.nil
    go_simp
    have kn13 : Blk (W2.alloc (.cells #[.int .i64 0, .int .i64 0, .int .i64 0] 47)) W2.heap.size 47 #[.int .i64 0, .int .i64 0, .int .i64 0] := Blk.new _ _ _
    have bn := bC.trans (Bl.alloc W2 (.cells #[.int .i64 0, .int .i64 0, .int .i64 0] 47))
    have sn : w.heap.size ≤ W2.heap.size := bC.size
    have kn12 := k12.alloc (.cells #[.int .i64 0, .int .i64 0, .int .i64 0] 47)
    have ln13_12 : W0.heap.size < W2.heap.size := k12.lt
    have kn14 := k14.alloc (.cells #[.int .i64 0, .int .i64 0, .int .i64 0] 47)
    have ln13_14 : W1.heap.size < W2.heap.size := k14.lt
    refine hK.out _ _ bn (fun hHeld => ?_)
    clear hK K bC k12 k14
    try simp only [Act.put, List.setIfInBounds_toArray, List.set_cons_zero, List.set_cons_succ]
    generalize W2.alloc (.cells #[.int .i64 0, .int .i64 0, .int .i64 0] 47) = W3 at *
    have bC := bn
    have k12 := kn12
    have k14 := kn14
    have k13 := kn13
    clear bn kn12 kn14 kn13
    refine wpAnyH_ready (rs := [11]) (by kernel_rfl) (by simp) ?_
    refine AllReadyH.cons (o := { dst := some 8, op := Op.alloc 43, type := 0, pos := "conf.go:143", after := #[], guard := none }) rfl (fun K hK => ?_) AllReadyH.nil
    go_simp
    have kn11 : Blk (W3.alloc (.cells #[.int .i64 0, .int .i64 0, .int .i64 0, .bool false] 43)) W3.heap.size 43 #[.int .i64 0, .int .i64 0, .int .i64 0, .bool false] := Blk.new _ _ _
    have bn := bC.trans (Bl.alloc W3 (.cells #[.int .i64 0, .int .i64 0, .int .i64 0, .bool false] 43))
    have sn : w.heap.size ≤ W3.heap.size := bC.size
    have kn12 := k12.alloc (.cells #[.int .i64 0, .int .i64 0, .int .i64 0, .bool false] 43)
    have ln11_12 : W0.heap.size < W3.heap.size := k12.lt
    have kn14 := k14.alloc (.cells #[.int .i64 0, .int .i64 0, .int .i64 0, .bool false] 43)
    have ln11_14 : W1.heap.size < W3.heap.size := k14.lt
    have kn13 := k13.alloc (.cells #[.int .i64 0, .int .i64 0, .int .i64 0, .bool false] 43)
    have ln11_13 : W2.heap.size < W3.heap.size := k13.lt
    refine hK.out _ _ bn (fun hHeld => ?_)
    clear hK K bC k12 k14 k13
    try simp only [Act.put, List.setIfInBounds_toArray, List.set_cons_zero, List.set_cons_succ]
    generalize W3.alloc (.cells #[.int .i64 0, .int .i64 0, .int .i64 0, .bool false] 43) = W4 at *
    have bC := bn
    have k12 := kn12
    have k14 := kn14
    have k13 := kn13
    have k11 := kn11
    clear bn kn12 kn14 kn13 kn11
    exact split_own_st (B := B) zm za zd zs om oa od os_ HK bC k11 k12 k13 k14 (by omega) (by omega) (by omega) (by omega) (by omega) (by omega) (by omega) (by omega) (by omega) (by omega)
  refine AllReadyH.cons (o := { dst := some 10, op := Op.alloc 47, type := 0, pos := "conf.go:143", after := #[], guard := none }) rfl (fun K hK => ?_) ?_
  · skip
    go_simp
    have kn13 : Blk (W0.alloc (.cells #[.int .i64 0, .int .i64 0, .int .i64 0] 47)) W0.heap.size 47 #[.int .i64 0, .int .i64 0, .int .i64 0] := Blk.new _ _ _
    have bn := bC.trans (Bl.alloc W0 (.cells #[.int .i64 0, .int .i64 0, .int .i64 0] 47))
    have sn : w.heap.size ≤ W0.heap.size := bC.size
    refine hK.out _ _ bn (fun hHeld => ?_)
    clear hK K bC 
    try simp only [Act.put, List.setIfInBounds_toArray, List.set_cons_zero, List.set_cons_succ]
    generalize W0.alloc (.cells #[.int .i64 0, .int .i64 0, .int .i64 0] 47) = W1 at *
    have bC := bn
    have k13 := kn13
    clear bn kn13
    refine wpAnyH_ready (rs := [11, 12, 14]) (by kernel_rfl) (by simp) ?_
    refine AllReadyH.cons (o := { dst := some 8, op := Op.alloc 43, type := 0, pos := "conf.go:143", after := #[], guard := none }) rfl (fun K hK => ?_) ?_
    · skip
      go_simp
      have kn11 : Blk (W1.alloc (.cells #[.int .i64 0, .int .i64 0, .int .i64 0, .bool false] 43)) W1.heap.size 43 #[.int .i64 0, .int .i64 0, .int .i64 0, .bool false] := Blk.new _ _ _
      have bn := bC.trans (Bl.alloc W1 (.cells #[.int .i64 0, .int .i64 0, .int .i64 0, .bool false] 43))
      have sn : w.heap.size ≤ W1.heap.size := bC.size
      have kn13 := k13.alloc (.cells #[.int .i64 0, .int .i64 0, .int .i64 0, .bool false] 43)
      have ln11_13 : W0.heap.size < W1.heap.size := k13.lt
      refine hK.out _ _ bn (fun hHeld => ?_)
      clear hK K bC k13
      try simp only [Act.put, List.setIfInBounds_toArray, List.set_cons_zero, List.set_cons_succ]
      generalize W1.alloc (.cells #[.int .i64 0, .int .i64 0, .int .i64 0, .bool false] 43) = W2 at *
      have bC := bn
      have k13 := kn13
      have k11 := kn11
      clear bn kn13 kn11
      refine wpAnyH_ready (rs := [12, 14]) (by kernel_rfl) (by simp) ?_
      refine AllReadyH.cons (o := { dst := some 9, op := Op.alloc 45, type := 0, pos := "conf.go:143", after := #[], guard := none }) rfl (fun K hK => ?_) ?_
      · skip
        go_simp
        have kn12 : Blk (W2.alloc (.cells #[.int .i64 0, .int .i64 0, .int .i64 0, .int .i64 0, .int .i64 0, .bool false] 45)) W2.heap.size 45 #[.int .i64 0, .int .i64 0, .int .i64 0, .int .i64 0, .int .i64 0, .bool false] := Blk.new _ _ _
        have bn := bC.trans (Bl.alloc W2 (.cells #[.int .i64 0, .int .i64 0, .int .i64 0, .int .i64 0, .int .i64 0, .bool false] 45))
        have sn : w.heap.size ≤ W2.heap.size := bC.size
        have kn13 := k13.alloc (.cells #[.int .i64 0, .int .i64 0, .int .i64 0, .int .i64 0, .int .i64 0, .bool false] 45)
        have ln12_13 : W0.heap.size < W2.heap.size := k13.lt
        have kn11 := k11.alloc (.cells #[.int .i64 0, .int .i64 0, .int .i64 0, .int .i64 0, .int .i64 0, .bool false] 45)
        have ln12_11 : W1.heap.size < W2.heap.size := k11.lt
        refine hK.out _ _ bn (fun hHeld => ?_)
        clear hK K bC k13 k11
        try simp only [Act.put, List.setIfInBounds_toArray, List.set_cons_zero, List.set_cons_succ]
        generalize W2.alloc (.cells #[.int .i64 0, .int .i64 0, .int .i64 0, .int .i64 0, .int .i64 0, .bool false] 45) = W3 at *
        have bC := bn
        have k13 := kn13
        have k11 := kn11
        have k12 := kn12
        clear bn kn13 kn11 kn12
        refine wpAnyH_ready (rs := [14]) (by kernel_rfl) (by simp) ?_
        refine AllReadyH.cons (o := { dst := some 11, op := Op.alloc 51, type := 0, pos := "conf.go:143", after := #[], guard := none }) rfl (fun K hK => ?_) AllReadyH.nil
        go_simp
        have kn14 : Blk (W3.alloc (.cells #[.int .i64 0, .int .i64 0, .int .i64 0, .int .i64 0, .int .i64 0, .int .i64 0, .int .i64 0, .int .i64 0] 51)) W3.heap.size 51 #[.int .i64 0, .int .i64 0, .int .i64 0, .int .i64 0, .int .i64 0, .int .i64 0, .int .i64 0, .int .i64 0] := Blk.new _ _ _
        have bn := bC.trans (Bl.alloc W3 (.cells #[.int .i64 0, .int .i64 0, .int .i64 0, .int .i64 0, .int .i64 0, .int .i64 0, .int .i64 0, .int .i64 0] 51))
        have sn : w.heap.size ≤ W3.heap.size := bC.size
        have kn13 := k13.alloc (.cells #[.int .i64 0, .int .i64 0, .int .i64 0, .int .i64 0, .int .i64 0, .int .i64 0, .int .i64 0, .int .i64 0] 51)
        have ln14_13 : W0.heap.size < W3.heap.size := k13.lt
        have kn11 := k11.alloc (.cells #[.int .i64 0, .int .i64 0, .int .i64 0, .int .i64 0, .int .i64 0, .int .i64 0, .int .i64 0, .int .i64 0] 51)
        have ln14_11 : W1.heap.size < W3.heap.size := k11.lt
        have kn12 := k12.alloc (.cells #[.int .i64 0, .int .i64 0, .int .i64 0, .int .i64 0, .int .i64 0, .int .i64 0, .int .i64 0, .int .i64 0] 51)
        have ln14_12 : W2.heap.size < W3.heap.size := k12.lt
        refine hK.out _ _ bn (fun hHeld => ?_)
        clear hK K bC k13 k11 k12
        try simp only [Act.put, List.setIfInBounds_toArray, List.set_cons_zero, List.set_cons_succ]
        generalize W3.alloc (.cells #[.int .i64 0, .int .i64 0, .int .i64 0, .int .i64 0, .int .i64 0, .int .i64 0, .int .i64 0, .int .i64 0] 51) = W4 at *
        have bC := bn
        have k13 := kn13
        have k11 := kn11
        have k12 := kn12
        have k14 := kn14
        clear bn kn13 kn11 kn12 kn14
        exact split_own_st (B := B) zm za zd zs om oa od os_ HK bC k11 k12 k13 k14 (by omega) (by omega) (by omega) (by omega) (by omega) (by omega) (by omega) (by omega) (by omega) (by omega)
      refine AllReadyH.cons (o := { dst := some 11, op := Op.alloc 51, type := 0, pos := "conf.go:143", after := #[], guard := none }) rfl (fun K hK => ?_) AllReadyH.nil
      go_simp
      have kn14 : Blk (W2.alloc (.cells #[.int .i64 0, .int .i64 0, .int .i64 0, .int .i64 0, .int .i64 0, .int .i64 0, .int .i64 0, .int .i64 0] 51)) W2.heap.size 51 #[.int .i64 0, .int .i64 0, .int .i64 0, .int .i64 0, .int .i64 0, .int .i64 0, .int .i64 0, .int .i64 0] := Blk.new _ _ _
      have bn := bC.trans (Bl.alloc W2 (.cells #[.int .i64 0, .int .i64 0, .int .i64 0, .int .i64 0, .int .i64 0, .int .i64 0, .int .i64 0, .int .i64 0] 51))
      have sn : w.heap.size ≤ W2.heap.size := bC.size
      have kn13 := k13.alloc (.cells #[.int .i64 0, .int .i64 0, .int .i64 0, .int .i64 0, .int .i64 0, .int .i64 0, .int .i64 0, .int .i64 0] 51)
      have ln14_13 : W0.heap.size < W2.heap.size := k13.lt
      have kn11 := k11.alloc (.cells #[.int .i64 0, .int .i64 0, .int .i64 0, .int .i64 0, .int .i64 0, .int .i64 0, .int .i64 0, .int .i64 0] 51)
      have ln14_11 : W1.heap.size < W2.heap.size := k11.lt
      refine hK.out _ _ bn (fun hHeld => ?_)
      clear hK K bC k13 k11
      try simp only [Act.put, List.setIfInBounds_toArray, List.set_cons_zero, List.set_cons_succ]
      generalize W2.alloc (.cells #[.int .i64 0, .int .i64 0, .int .i64 0, .int .i64 0, .int .i64 0, .int .i64 0, .int .i64 0, .int .i64 0] 51) = W3 at *
      have bC := bn
      have k13 := kn13
      have k11 := kn11
      have k14 := kn14
      clear bn kn13 kn11 kn14
      refine wpAnyH_ready (rs := [12]) (by kernel_rfl) (by simp) ?_
      refine AllReadyH.cons (o := { dst := some 9, op := Op.alloc 45, type := 0, pos := "conf.go:143", after := #[], guard := none }) rfl (fun K hK => ?_) AllReadyH.nil
      go_simp
      have kn12 : Blk (W3.alloc (.cells #[.int .i64 0, .int .i64 0, .int .i64 0, .int .i64 0, .int .i64 0, .bool false] 45)) W3.heap.size 45 #[.int .i64 0, .int .i64 0, .int .i64 0, .int .i64 0, .int .i64 0, .bool false] := Blk.new _ _ _
      have bn := bC.trans (Bl.alloc W3 (.cells #[.int .i64 0, .int .i64 0, .int .i64 0, .int .i64 0, .int .i64 0, .bool false] 45))
      have sn : w.heap.size ≤ W3.heap.size := bC.size
      have kn13 := k13.alloc (.cells #[.int .i64 0, .int .i64 0, .int .i64 0, .int .i64 0, .int .i64 0, .bool false] 45)
      have ln12_13 : W0.heap.size < W3.heap.size := k13.lt
      have kn11 := k11.alloc (.cells #[.int .i64 0, .int .i64 0, .int .i64 0, .int .i64 0, .int .i64 0, .bool false] 45)
      have ln12_11 : W1.heap.size < W3.heap.size := k11.lt
      have kn14 := k14.alloc (.cells #[.int .i64 0, .int .i64 0, .int .i64 0, .int .i64 0, .int .i64 0, .bool false] 45)
      have ln12_14 : W2.heap.size < W3.heap.size := k14.lt
      refine hK.out _ _ bn (fun hHeld => ?_)
      clear hK K bC k13 k11 k14
      try simp only [Act.put, List.setIfInBounds_toArray, List.set_cons_zero, List.set_cons_succ]
      generalize W3.alloc (.cells #[.int .i64 0, .int .i64 0, .int .i64 0, .int .i64 0, .int .i64 0, .bool false] 45) = W4 at *
      have bC := bn
      have k13 := kn13
      have k11 := kn11
      have k14 := kn14
      have k12 := kn12
      clear bn kn13 kn11 kn14 kn12
      exact split_own_st (B := B) zm za zd zs om oa od os_ HK bC k11 k12 k13 k14 (by omega) (by omega) (by omega) (by omega) (by omega) (by omega) (by omega) (by omega) (by omega) (by omega)
    refine AllReadyH.cons (o := { dst := some 9, op := Op.alloc 45, type := 0, pos := "conf.go:143", after := #[], guard := none }) rfl (fun K hK => ?_) ?_
    · skip
      go_simp
      have kn12 : Blk (W1.alloc (.cells #[.int .i64 0, .int .i64 0, .int .i64 0, .int .i64 0, .int .i64 0, .bool false] 45)) W1.heap.size 45 #[.int .i64 0, .int .i64 0, .int .i64 0, .int .i64 0, .int .i64 0, .bool false] := Blk.new _ _ _
      have bn := bC.trans (Bl.alloc W1 (.cells #[.int .i64 0, .int .i64 0, .int .i64 0, .int .i64 0, .int .i64 0, .bool false] 45))
      have sn : w.heap.size ≤ W1.heap.size := bC.size
      have kn13 := k13.alloc (.cells #[.int .i64 0, .int .i64 0, .int .i64 0, .int .i64 0, .int .i64 0, .bool false] 45)
      have ln12_13 : W0.heap.size < W1.heap.size := k13.lt
      refine hK.out _ _ bn (fun hHeld => ?_)
      clear hK K bC k13
      try simp only [Act.put, List.setIfInBounds_toArray, List.set_cons_zero, List.set_cons_succ]
      generalize W1.alloc (.cells #[.int .i64 0, .int .i64 0, .int .i64 0, .int .i64 0, .int .i64 0, .bool false] 45) = W2 at *
      have bC := bn
      have k13 := kn13
      have k12 := kn12
      clear bn kn13 kn12
      refine wpAnyH_ready (rs := [11, 14]) (by kernel_rfl) (by simp) ?_
      refine AllReadyH.cons (o := { dst := some 8, op := Op.alloc 43, type := 0, pos := "conf.go:143", after := #[], guard := none }) rfl (fun K hK => ?_) ?_
      · skip
        go_simp
        have kn11 : Blk (W2.alloc (.cells #[.int .i64 0, .int .i64 0, .int .i64 0, .bool false] 43)) W2.heap.size 43 #[.int .i64 0, .int .i64 0, .int .i64 0, .bool false] := Blk.new _ _ _
        have bn := bC.trans (Bl.alloc W2 (.cells #[.int .i64 0, .int .i64 0, .int .i64 0, .bool false] 43))
        have sn : w.heap.size ≤ W2.heap.size := bC.size
        have kn13 := k13.alloc (.cells #[.int .i64 0, .int .i64 0, .int .i64 0, .bool false] 43)
        have ln11_13 : W0.heap.size < W2.heap.size := k13.lt
        have kn12 := k12.alloc (.cells #[.int .i64 0, .int .i64 0, .int .i64 0, .bool false] 43)
        have ln11_12 : W1.heap.size < W2.heap.size := k12.lt
        refine hK.out _ _ bn (fun hHeld => ?_)
        clear hK K bC k13 k12
        try simp only [Act.put, List.setIfInBounds_toArray, List.set_cons_zero, List.set_cons_succ]
        generalize W2.alloc (.cells #[.int .i64 0, .int .i64 0, .int .i64 0, .bool false] 43) = W3 at *
        have bC := bn
        have k13 := kn13
        have k12 := kn12
        have k11 := kn11
        clear bn kn13 kn12 kn11
        refine wpAnyH_ready (rs := [14]) (by kernel_rfl) (by simp) ?_
        refine AllReadyH.cons (o := { dst := some 11, op := Op.alloc 51, type := 0, pos := "conf.go:143", after := #[], guard := none }) rfl (fun K hK => ?_) AllReadyH.nil
        go_simp
        have kn14 : Blk (W3.alloc (.cells #[.int .i64 0, .int .i64 0, .int .i64 0, .int .i64 0, .int .i64 0, .int .i64 0, .int .i64 0, .int .i64 0] 51)) W3.heap.size 51 #[.int .i64 0, .int .i64 0, .int .i64 0, .int .i64 0, .int .i64 0, .int .i64 0, .int .i64 0, .int .i64 0] := Blk.new _ _ _
        have bn := bC.trans (Bl.alloc W3 (.cells #[.int .i64 0, .int .i64 0, .int .i64 0, .int .i64 0, .int .i64 0, .int .i64 0, .int .i64 0, .int .i64 0] 51))
        have sn : w.heap.size ≤ W3.heap.size := bC.size
        have kn13 := k13.alloc (.cells #[.int .i64 0, .int .i64 0, .int .i64 0, .int .i64 0, .int .i64 0, .int .i64 0, .int .i64 0, .int .i64 0] 51)
        have ln14_13 : W0.heap.size < W3.heap.size := k13.lt
        have kn12 := k12.alloc (.cells #[.int .i64 0, .int .i64 0, .int .i64 0, .int .i64 0, .int .i64 0, .int .i64 0, .int .i64 0, .int .i64 0] 51)
        have ln14_12 : W1.heap.size < W3.heap.size := k12.lt
        have kn11 := k11.alloc (.cells #[.int .i64 0, .int .i64 0, .int .i64 0, .int .i64 0, .int .i64 0, .int .i64 0, .int .i64 0, .int .i64 0] 51)
        have ln14_11 : W2.heap.size < W3.heap.size := k11.lt
        refine hK.out _ _ bn (fun hHeld => ?_)
        clear hK K bC k13 k12 k11
        try simp only [Act.put, List.setIfInBounds_toArray, List.set_cons_zero, List.set_cons_succ]
        generalize W3.alloc (.cells #[.int .i64 0, .int .i64 0, .int .i64 0, .int .i64 0, .int .i64 0, .int .i64 0, .int .i64 0, .int .i64 0] 51) = W4 at *
        have bC := bn
        have k13 := kn13
        have k12 := kn12
        have k11 := kn11
        have k14 := kn14
        clear bn kn13 kn12 kn11 kn14
        exact split_own_st (B := B) zm za zd zs om oa od os_ HK bC k11 k12 k13 k14 (by omega) (by omega) (by omega) (by omega) (by omega) (by omega) (by omega) (by omega) (by omega) (by omega)
      refine AllReadyH.cons (o := { dst := some 11, op := Op.alloc 51, type := 0, pos := "conf.go:143", after := #[], guard := none }) rfl (fun K hK => ?_) AllReadyH.nil
      go_simp
      have kn14 : Blk (W2.alloc (.cells #[.int .i64 0, .int .i64 0, .int .i64 0, .int .i64 0, .int .i64 0, .int .i64 0, .int .i64 0, .int .i64 0] 51)) W2.heap.size 51 #[.int .i64 0, .int .i64 0, .int .i64 0, .int .i64 0, .int .i64 0, .int .i64 0, .int .i64 0, .int .i64 0] := Blk.new _ _ _
      have bn := bC.trans (Bl.alloc W2 (.cells #[.int .i64 0, .int .i64 0, .int .i64 0, .int .i64 0, .int .i64 0, .int .i64 0, .int .i64 0, .int .i64 0] 51))
      have sn : w.heap.size ≤ W2.heap.size := bC.size
      have kn13 := k13.alloc (.cells #[.int .i64 0, .int .i64 0, .int .i64 0, .int .i64 0, .int .i64 0, .int .i64 0, .int .i64 0, .int .i64 0] 51)
      have ln14_13 : W0.heap.size < W2.heap.size := k13.lt
      have kn12 := k12.alloc (.cells #[.int .i64 0, .int .i64 0, .int .i64 0, .int .i64 0, .int .i64 0, .int .i64 0, .int .i64 0, .int .i64 0] 51)
      have ln14_12 : W1.heap.size < W2.heap.size := k12.lt
      refine hK.out _ _ bn (fun hHeld => ?_)
      clear hK K bC k13 k12
      try simp only [Act.put, List.setIfInBounds_toArray, List.set_cons_zero, List.set_cons_succ]
      generalize W2.alloc (.cells #[.int .i64 0, .int .i64 0, .int .i64 0, .int .i64 0, .int .i64 0, .int .i64 0, .int .i64 0, .int .i64 0] 51) = W3 at *
      have bC := bn
      have k13 := kn13
      have k12 := kn12
      have k14 := kn14
      clear bn kn13 kn12 kn14
      refine wpAnyH_ready (rs := [11]) (by kernel_rfl) (by simp) ?_
      refine AllReadyH.cons (o := { dst := some 8, op := Op.alloc 43, type := 0, pos := "conf.go:143", after := #[], guard := none }) rfl (fun K hK => ?_) AllReadyH.nil
      go_simp
      have kn11 : Blk (W3.alloc (.cells #[.int .i64 0, .int .i64 0, .int .i64 0, .bool false] 43)) W3.heap.size 43 #[.int .i64 0, .int .i64 0, .int .i64 0, .bool false] := Blk.new _ _ _
      have bn := bC.trans (Bl.alloc W3 (.cells #[.int .i64 0, .int .i64 0, .int .i64 0, .bool false] 43))
      have sn : w.heap.size ≤ W3.heap.size := bC.size
      have kn13 := k13.alloc (.cells #[.int .i64 0, .int .i64 0, .int .i64 0, .bool false] 43)
      have ln11_13 : W0.heap.size < W3.heap.size := k13.lt
      have kn12 := k12.alloc (.cells #[.int .i64 0, .int .i64 0, .int .i64 0, .bool false] 43)
      have ln11_12 : W1.heap.size < W3.heap.size := k12.lt
      have kn14 := k14.alloc (.cells #[.int .i64 0, .int .i64 0, .int .i64 0, .bool false] 43)
      have ln11_14 : W2.heap.size < W3.heap.size := k14.lt
      refine hK.out _ _ bn (fun hHeld => ?_)
      clear hK K bC k13 k12 k14
      try simp only [Act.put, List.setIfInBounds_toArray, List.set_cons_zero, List.set_cons_succ]
      generalize W3.alloc (.cells #[.int .i64 0, .int .i64 0, .int .i64 0, .bool false] 43) = W4 at *
      have bC := bn
      have k13 := kn13
      have k12 := kn12
      have k14 := kn14
      have k11 := kn11
      clear bn kn13 kn12 kn14 kn11
      exact split_own_st (B := B) zm za zd zs om oa od os_ HK bC k11 k12 k13 k14 (by omega) (by omega) (by omega) (by omega) (by omega) (by omega) (by omega) (by omega) (by omega) (by omega)
    refine AllReadyH.cons (o := { dst := some 11, op := Op.alloc 51, type := 0, pos := "conf.go:143", after := #[], guard := none }) rfl (fun K hK => ?_) AllReadyH.nil
    go_simp
    have kn14 : Blk (W1.alloc (.cells #[.int .i64 0, .int .i64 0, .int .i64 0, .int .i64 0, .int .i64 0, .int .i64 0, .int .i64 0, .int .i64 0] 51)) W1.heap.size 51 #[.int .i64 0, .int .i64 0, .int .i64 0, .int .i64 0, .int .i64 0, .int .i64 0, .int .i64 0, .int .i64 0] := Blk.new _ _ _
    have bn := bC.trans (Bl.alloc W1 (.cells #[.int .i64 0, .int .i64 0, .int .i64 0, .int .i64 0, .int .i64 0, .int .i64 0, .int .i64 0, .int .i64 0] 51))
    have sn : w.heap.size ≤ W1.heap.size := bC.size
    have kn13 := k13.alloc (.cells #[.int .i64 0, .int .i64 0, .int .i64 0, .int .i64 0, .int .i64 0, .int .i64 0, .int .i64 0, .int .i64 0] 51)
    have ln14_13 : W0.heap.size < W1.heap.size := k13.lt
    refine hK.out _ _ bn (fun hHeld => ?_)
    clear hK K bC k13
    try simp only [Act.put, List.setIfInBounds_toArray, List.set_cons_zero, List.set_cons_succ]
    generalize W1.alloc (.cells #[.int .i64 0, .int .i64 0, .int .i64 0, .int .i64 0, .int .i64 0, .int .i64 0, .int .i64 0, .int .i64 0] 51) = W2 at *
    have bC := bn
    have k13 := kn13
    have k14 := kn14
    clear bn kn13 kn14
    refine wpAnyH_ready (rs := [11, 12]) (by kernel_rfl) (by simp) ?_
    refine AllReadyH.cons (o := { dst := some 8, op := Op.alloc 43, type := 0, pos := "conf.go:143", after := #[], guard := none }) rfl (fun K hK => ?_) ?_
    · skip
      go_simp
      have kn11 : Blk (W2.alloc (.cells #[.int .i64 0, .int .i64 0, .int .i64 0, .bool false] 43)) W2.heap.size 43 #[.int .i64 0, .int .i64 0, .int .i64 0, .bool false] := Blk.new _ _ _
      have bn := bC.trans (Bl.alloc W2 (.cells #[.int .i64 0, .int .i64 0, .int .i64 0, .bool false] 43))
      have sn : w.heap.size ≤ W2.heap.size := bC.size
      have kn13 := k13.alloc (.cells #[.int .i64 0, .int .i64 0, .int .i64 0, .bool false] 43)
      have ln11_13 : W0.heap.size < W2.heap.size := k13.lt
      have kn14 := k14.alloc (.cells #[.int .i64 0, .int .i64 0, .int .i64 0, .bool false] 43)
      have ln11_14 : W1.heap.size < W2.heap.size := k14.lt
      refine hK.out _ _ bn (fun hHeld => ?_)
      clear hK K bC k13 k14
      try simp only [Act.put, List.setIfInBounds_toArray, List.set_cons_zero, List.set_cons_succ]
      generalize W2.alloc (.cells #[.int .i64 0, .int .i64 0, .int .i64 0, .bool false] 43) = W3 at *
      have bC := bn
      have k13 := kn13
      have k14 := kn14
      have k11 := kn11
      clear bn kn13 kn14 kn11
      refine wpAnyH_ready (rs := [12]) (by kernel_rfl) (by simp) ?_
      refine AllReadyH.cons (o := { dst := some 9, op := Op.alloc 45, type := 0, pos := "conf.go:143", after := #[], guard := none }) rfl (fun K hK => ?_) AllReadyH.nil
      go_simp
      have kn12 : Blk (W3.alloc (.cells #[.int .i64 0, .int .i64 0, .int .i64 0, .int .i64 0, .int .i64 0, .bool false] 45)) W3.heap.size 45 #[.int .i64 0, .int .i64 0, .int .i64 0, .int .i64 0, .int .i64 0, .bool false] := Blk.new _ _ _
      have bn := bC.trans (Bl.alloc W3 (.cells #[.int .i64 0, .int .i64 0, .int .i64 0, .int .i64 0, .int .i64 0, .bool false] 45))
      have sn : w.heap.size ≤ W3.heap.size := bC.size
      have kn13 := k13.alloc (.cells #[.int .i64 0, .int .i64 0, .int .i64 0, .int .i64 0, .int .i64 0, .bool false] 45)
      have ln12_13 : W0.heap.size < W3.heap.size := k13.lt
      have kn14 := k14.alloc (.cells #[.int .i64 0, .int .i64 0, .int .i64 0, .int .i64 0, .int .i64 0, .bool false] 45)
      have ln12_14 : W1.heap.size < W3.heap.size := k14.lt
      have kn11 := k11.alloc (.cells #[.int .i64 0, .int .i64 0, .int .i64 0, .int .i64 0, .int .i64 0, .bool false] 45)
      have ln12_11 : W2.heap.size < W3.heap.size := k11.lt
      refine hK.out _ _ bn (fun hHeld => ?_)
      clear hK K bC k13 k14 k11
      try simp only [Act.put, List.setIfInBounds_toArray, List.set_cons_zero, List.set_cons_succ]
      generalize W3.alloc (.cells #[.int .i64 0, .int .i64 0, .int .i64 0, .int .i64 0, .int .i64 0, .bool false] 45) = W4 at *
      have bC := bn
      have k13 := kn13
      have k14 := kn14
      have k11 := kn11
      have k12 := kn12
      clear bn kn13 kn14 kn11 kn12
      exact split_own_st (B := B) zm za zd zs om oa od os_ HK bC k11 k12 k13 k14 (by omega) (by omega) (by omega) (by omega) (by omega) (by omega) (by omega) (by omega) (by omega) (by omega)
    refine AllReadyH.cons (o := { dst := some 9, op := Op.alloc 45, type := 0, pos := "conf.go:143", after := #[], guard := none }) rfl (fun K hK => ?_) AllReadyH.nil
    go_simp
    have kn12 : Blk (W2.alloc (.cells #[.int .i64 0, .int .i64 0, .int .i64 0, .int .i64 0, .int .i64 0, .bool false] 45)) W2.heap.size 45 #[.int .i64 0, .int .i64 0, .int .i64 0, .int .i64 0, .int .i64 0, .bool false] := Blk.new _ _ _
    have bn := bC.trans (Bl.alloc W2 (.cells #[.int .i64 0, .int .i64 0, .int .i64 0, .int .i64 0, .int .i64 0, .bool false] 45))
    have sn : w.heap.size ≤ W2.heap.size := bC.size
    have kn13 := k13.alloc (.cells #[.int .i64 0, .int .i64 0, .int .i64 0, .int .i64 0, .int .i64 0, .bool false] 45)
    have ln12_13 : W0.heap.size < W2.heap.size := k13.lt
    have kn14 := k14.alloc (.cells #[.int .i64 0, .int .i64 0, .int .i64 0, .int .i64 0, .int .i64 0, .bool false] 45)
    have ln12_14 : W1.heap.size < W2.heap.size := k14.lt
    refine hK.out _ _ bn (fun hHeld => ?_)
    clear hK K bC k13 k14
    try simp only [Act.put, List.setIfInBounds_toArray, List.set_cons_zero, List.set_cons_succ]
    generalize W2.alloc (.cells #[.int .i64 0, .int .i64 0, .int .i64 0, .int .i64 0, .int .i64 0, .bool false] 45) = W3 at *
    have bC := bn
    have k13 := kn13
    have k14 := kn14
    have k12 := kn12
    clear bn kn13 kn14 kn12
    refine wpAnyH_ready (rs := [11]) (by kernel_rfl) (by simp) ?_
    refine AllReadyH.cons (o := { dst := some 8, op := Op.alloc 43, type := 0, pos := "conf.go:143", after := #[], guard := none }) rfl (fun K hK => ?_) AllReadyH.nil
    go_simp
    have kn11 : Blk (W3.alloc (.cells #[.int .i64 0, .int .i64 0, .int .i64 0, .bool false] 43)) W3.heap.size 43 #[.int .i64 0, .int .i64 0, .int .i64 0, .bool false] := Blk.new _ _ _
    have bn := bC.trans (Bl.alloc W3 (.cells #[.int .i64 0, .int .i64 0, .int .i64 0, .bool false] 43))
    have sn : w.heap.size ≤ W3.heap.size := bC.size
    have kn13 := k13.alloc (.cells #[.int .i64 0, .int .i64 0, .int .i64 0, .bool false] 43)
    have ln11_13 : W0.heap.size < W3.heap.size := k13.lt
    have kn14 := k14.alloc (.cells #[.int .i64 0, .int .i64 0, .int .i64 0, .bool false] 43)
    have ln11_14 : W1.heap.size < W3.heap.size := k14.lt
    have kn12 := k12.alloc (.cells #[.int .i64 0, .int .i64 0, .int .i64 0, .bool false] 43)
    have ln11_12 : W2.heap.size < W3.heap.size := k12.lt
    refine hK.out _ _ bn (fun hHeld => ?_)
    clear hK K bC k13 k14 k12
    try simp only [Act.put, List.setIfInBounds_toArray, List.set_cons_zero, List.set_cons_succ]
    generalize W3.alloc (.cells #[.int .i64 0, .int .i64 0, .int .i64 0, .bool false] 43) = W4 at *
    have bC := bn
    have k13 := kn13
    have k14 := kn14
    have k12 := kn12
    have k11 := kn11
    clear bn kn13 kn14 kn12 kn11
    exact split_own_st (B := B) zm za zd zs om oa od os_ HK bC k11 k12 k13 k14 (by omega) (by omega) (by omega) (by omega) (by omega) (by omega) (by omega) (by omega) (by omega) (by omega)
  refine AllReadyH.cons (o := { dst := some 11, op := Op.alloc 51, type := 0, pos := "conf.go:143", after := #[], guard := none }) rfl (fun K hK => ?_) AllReadyH.nil
  go_simp
  have kn14 : Blk (W0.alloc (.cells #[.int .i64 0, .int .i64 0, .int .i64 0, .int .i64 0, .int .i64 0, .int .i64 0, .int .i64 0, .int .i64 0] 51)) W0.heap.size 51 #[.int .i64 0, .int .i64 0, .int .i64 0, .int .i64 0, .int .i64 0, .int .i64 0, .int .i64 0, .int .i64 0] := Blk.new _ _ _
  have bn := bC.trans (Bl.alloc W0 (.cells #[.int .i64 0, .int .i64 0, .int .i64 0, .int .i64 0, .int .i64 0, .int .i64 0, .int .i64 0, .int .i64 0] 51))
  have sn : w.heap.size ≤ W0.heap.size := bC.size
  refine hK.out _ _ bn (fun hHeld => ?_)
  clear hK K bC 
  try simp only [Act.put, List.setIfInBounds_toArray, List.set_cons_zero, List.set_cons_succ]
  generalize W0.alloc (.cells #[.int .i64 0, .int .i64 0, .int .i64 0, .int .i64 0, .int .i64 0, .int .i64 0, .int .i64 0, .int .i64 0] 51) = W1 at *
  have bC := bn
  have k14 := kn14
  clear bn kn14
  refine wpAnyH_ready (rs := [11, 12, 13]) (by kernel_rfl) (by simp) ?_
  refine AllReadyH.cons (o := { dst := some 8, op := Op.alloc 43, type := 0, pos := "conf.go:143", after := #[], guard := none }) rfl (fun K hK => ?_) ?_
  · skip
    go_simp
    have kn11 : Blk (W1.alloc (.cells #[.int .i64 0, .int .i64 0, .int .i64 0, .bool false] 43)) W1.heap.size 43 #[.int .i64 0, .int .i64 0, .int .i64 0, .bool false] := Blk.new _ _ _
    have bn := bC.trans (Bl.alloc W1 (.cells #[.int .i64 0, .int .i64 0, .int .i64 0, .bool false] 43))
    have sn : w.heap.size ≤ W1.heap.size := bC.size
    have kn14 := k14.alloc (.cells #[.int .i64 0, .int .i64 0, .int .i64 0, .bool false] 43)
    have ln11_14 : W0.heap.size < W1.heap.size := k14.lt
    refine hK.out _ _ bn (fun hHeld => ?_)
    clear hK K bC k14
    try simp only [Act.put, List.setIfInBounds_toArray, List.set_cons_zero, List.set_cons_succ]
    generalize W1.alloc (.cells #[.int .i64 0, .int .i64 0, .int .i64 0, .bool false] 43) = W2 at *
    have bC := bn
    have k14 := kn14
    have k11 := kn11
    clear bn kn14 kn11
    refine wpAnyH_ready (rs := [12, 13]) (by kernel_rfl) (by simp) ?_
    refine AllReadyH.cons (o := { dst := some 9, op := Op.alloc 45, type := 0, pos := "conf.go:143", after := #[], guard := none }) rfl (fun K hK => ?_) ?_
    · skip
      go_simp
      have kn12 : Blk (W2.alloc (.cells #[.int .i64 0, .int .i64 0, .int .i64 0, .int .i64 0, .int .i64 0, .bool false] 45)) W2.heap.size 45 #[.int .i64 0, .int .i64 0, .int .i64 0, .int .i64 0, .int .i64 0, .bool false] := Blk.new _ _ _
      have bn := bC.trans (Bl.alloc W2 (.cells #[.int .i64 0, .int .i64 0, .int .i64 0, .int .i64 0, .int .i64 0, .bool false] 45))
      have sn : w.heap.size ≤ W2.heap.size := bC.size
      have kn14 := k14.alloc (.cells #[.int .i64 0, .int .i64 0, .int .i64 0, .int .i64 0, .int .i64 0, .bool false] 45)
      have ln12_14 : W0.heap.size < W2.heap.size := k14.lt
      have kn11 := k11.alloc (.cells #[.int .i64 0, .int .i64 0, .int .i64 0, .int .i64 0, .int .i64 0, .bool false] 45)
      have ln12_11 : W1.heap.size < W2.heap.size := k11.lt
      refine hK.out _ _ bn (fun hHeld => ?_)
      clear hK K bC k14 k11
      try simp only [Act.put, List.setIfInBounds_toArray, List.set_cons_zero, List.set_cons_succ]
      generalize W2.alloc (.cells #[.int .i64 0, .int .i64 0, .int .i64 0, .int .i64 0, .int .i64 0, .bool false] 45) = W3 at *
      have bC := bn
      have k14 := kn14
      have k11 := kn11
      have k12 := kn12
      clear bn kn14 kn11 kn12
      refine wpAnyH_ready (rs := [13]) (by kernel_rfl) (by simp) ?_
      refine AllReadyH.cons (o := { dst := some 10, op := Op.alloc 47, type := 0, pos := "conf.go:143", after := #[], guard := none }) rfl (fun K hK => ?_) AllReadyH.nil
      go_simp
      have kn13 : Blk (W3.alloc (.cells #[.int .i64 0, .int .i64 0, .int .i64 0] 47)) W3.heap.size 47 #[.int .i64 0, .int .i64 0, .int .i64 0] := Blk.new _ _ _
      have bn := bC.trans (Bl.alloc W3 (.cells #[.int .i64 0, .int .i64 0, .int .i64 0] 47))
      have sn : w.heap.size ≤ W3.heap.size := bC.size
      have kn14 := k14.alloc (.cells #[.int .i64 0, .int .i64 0, .int .i64 0] 47)
      have ln13_14 : W0.heap.size < W3.heap.size := k14.lt
      have kn11 := k11.alloc (.cells #[.int .i64 0, .int .i64 0, .int .i64 0] 47)
      have ln13_11 : W1.heap.size < W3.heap.size := k11.lt
      have kn12 := k12.alloc (.cells #[.int .i64 0, .int .i64 0, .int .i64 0] 47)
      have ln13_12 : W2.heap.size < W3.heap.size := k12.lt
      refine hK.out _ _ bn (fun hHeld => ?_)
      clear hK K bC k14 k11 k12
      try simp only [Act.put, List.setIfInBounds_toArray, List.set_cons_zero, List.set_cons_succ]
      generalize W3.alloc (.cells #[.int .i64 0, .int .i64 0, .int .i64 0] 47) = W4 at *
      have bC := bn
      have k14 := kn14
      have k11 := kn11
      have k12 := kn12
      have k13 := kn13
      clear bn kn14 kn11 kn12 kn13
      exact split_own_st (B := B) zm za zd zs om oa od os_ HK bC k11 k12 k13 k14 (by omega) (by omega) (by omega) (by omega) (by omega) (by omega) (by omega) (by omega) (by omega) (by omega)
    refine AllReadyH.cons (o := { dst := some 10, op := Op.alloc 47, type := 0, pos := "conf.go:143", after := #[], guard := none }) rfl (fun K hK => ?_) AllReadyH.nil
    go_simp
    have kn13 : Blk (W2.alloc (.cells #[.int .i64 0, .int .i64 0, .int .i64 0] 47)) W2.heap.size 47 #[.int .i64 0, .int .i64 0, .int .i64 0] := Blk.new _ _ _
    have bn := bC.trans (Bl.alloc W2 (.cells #[.int .i64 0, .int .i64 0, .int .i64 0] 47))
    have sn : w.heap.size ≤ W2.heap.size := bC.size
    have kn14 := k14.alloc (.cells #[.int .i64 0, .int .i64 0, .int .i64 0] 47)
    have ln13_14 : W0.heap.size < W2.heap.size := k14.lt
    have kn11 := k11.alloc (.cells #[.int .i64 0, .int .i64 0, .int .i64 0] 47)
    have ln13_11 : W1.heap.size < W2.heap.size := k11.lt
    refine hK.out _ _ bn (fun hHeld => ?_)
    clear hK K bC k14 k11
    try simp only [Act.put, List.setIfInBounds_toArray, List.set_cons_zero, List.set_cons_succ]
    generalize W2.alloc (.cells #[.int .i64 0, .int .i64 0, .int .i64 0] 47) = W3 at *
    have bC := bn
    have k14 := kn14
    have k11 := kn11
    have k13 := kn13
    clear bn kn14 kn11 kn13
    refine wpAnyH_ready (rs := [12]) (by kernel_rfl) (by simp) ?_
    refine AllReadyH.cons (o := { dst := some 9, op := Op.alloc 45, type := 0, pos := "conf.go:143", after := #[], guard := none }) rfl (fun K hK => ?_) AllReadyH.nil
    go_simp
    have kn12 : Blk (W3.alloc (.cells #[.int .i64 0, .int .i64 0, .int .i64 0, .int .i64 0, .int .i64 0, .bool false] 45)) W3.heap.size 45 #[.int .i64 0, .int .i64 0, .int .i64 0, .int .i64 0, .int .i64 0, .bool false] := Blk.new _ _ _
    have bn := bC.trans (Bl.alloc W3 (.cells #[.int .i64 0, .int .i64 0, .int .i64 0, .int .i64 0, .int .i64 0, .bool false] 45))
    have sn : w.heap.size ≤ W3.heap.size := bC.size
    have kn14 := k14.alloc (.cells #[.int .i64 0, .int .i64 0, .int .i64 0, .int .i64 0, .int .i64 0, .bool false] 45)
    have ln12_14 : W0.heap.size < W3.heap.size := k14.lt
    have kn11 := k11.alloc (.cells #[.int .i64 0, .int .i64 0, .int .i64 0, .int .i64 0, .int .i64 0, .bool false] 45)
    have ln12_11 : W1.heap.size < W3.heap.size := k11.lt
    have kn13 := k13.alloc (.cells #[.int .i64 0, .int .i64 0, .int .i64 0, .int .i64 0, .int .i64 0, .bool false] 45)
    have ln12_13 : W2.heap.size < W3.heap.size := k13.lt
    refine hK.out _ _ bn (fun hHeld => ?_)
    clear hK K bC k14 k11 k13
    try simp only [Act.put, List.setIfInBounds_toArray, List.set_cons_zero, List.set_cons_succ]
    generalize W3.alloc (.cells #[.int .i64 0, .int .i64 0, .int .i64 0, .int .i64 0, .int .i64 0, .bool false] 45) = W4 at *
    have bC := bn
    have k14 := kn14
    have k11 := kn11
    have k13 := kn13
    have k12 := kn12
    clear bn kn14 kn11 kn13 kn12
    exact split_own_st (B := B) zm za zd zs om oa od os_ HK bC k11 k12 k13 k14 (by omega) (by omega) (by omega) (by omega) (by omega) (by omega) (by omega) (by omega) (by omega) (by omega)
  refine AllReadyH.cons (o := { dst := some 9, op := Op.alloc 45, type := 0, pos := "conf.go:143", after := #[], guard := none }) rfl (fun K hK => ?_) ?_
  · skip
    go_simp
    have kn12 : Blk (W1.alloc (.cells #[.int .i64 0, .int .i64 0, .int .i64 0, .int .i64 0, .int .i64 0, .bool false] 45)) W1.heap.size 45 #[.int .i64 0, .int .i64 0, .int .i64 0, .int .i64 0, .int .i64 0, .bool false] := Blk.new _ _ _
    have bn := bC.trans (Bl.alloc W1 (.cells #[.int .i64 0, .int .i64 0, .int .i64 0, .int .i64 0, .int .i64 0, .bool false] 45))
    have sn : w.heap.size ≤ W1.heap.size := bC.size
    have kn14 := k14.alloc (.cells #[.int .i64 0, .int .i64 0, .int .i64 0, .int .i64 0, .int .i64 0, .bool false] 45)
    have ln12_14 : W0.heap.size < W1.heap.size := k14.lt
    refine hK.out _ _ bn (fun hHeld => ?_)
    clear hK K bC k14
    try simp only [Act.put, List.setIfInBounds_toArray, List.set_cons_zero, List.set_cons_succ]
    generalize W1.alloc (.cells #[.int .i64 0, .int .i64 0, .int .i64 0, .int .i64 0, .int .i64 0, .bool false] 45) = W2 at *
    have bC := bn
    have k14 := kn14
    have k12 := kn12
    clear bn kn14 kn12
    refine wpAnyH_ready (rs := [11, 13]) (by kernel_rfl) (by simp) ?_
    refine AllReadyH.cons (o := { dst := some 8, op := Op.alloc 43, type := 0, pos := "conf.go:143", after := #[], guard := none }) rfl (fun K hK => ?_) ?_
    · skip
      go_simp
      have kn11 : Blk (W2.alloc (.cells #[.int .i64 0, .int .i64 0, .int .i64 0, .bool false] 43)) W2.heap.size 43 #[.int .i64 0, .int .i64 0, .int .i64 0, .bool false] := Blk.new _ _ _
      have bn := bC.trans (Bl.alloc W2 (.cells #[.int .i64 0, .int .i64 0, .int .i64 0, .bool false] 43))
      have sn : w.heap.size ≤ W2.heap.size := bC.size
      have kn14 := k14.alloc (.cells #[.int .i64 0, .int .i64 0, .int .i64 0, .bool false] 43)
      have ln11_14 : W0.heap.size < W2.heap.size := k14.lt
      have kn12 := k12.alloc (.cells #[.int .i64 0, .int .i64 0, .int .i64 0, .bool false] 43)
      have ln11_12 : W1.heap.size < W2.heap.size := k12.lt
      refine hK.out _ _ bn (fun hHeld => ?_)
      clear hK K bC k14 k12
      try simp only [Act.put, List.setIfInBounds_toArray, List.set_cons_zero, List.set_cons_succ]
      generalize W2.alloc (.cells #[.int .i64 0, .int .i64 0, .int .i64 0, .bool false] 43) = W3 at *
      have bC := bn
      have k14 := kn14
      have k12 := kn12
      have k11 := kn11
      clear bn kn14 kn12 kn11
      refine wpAnyH_ready (rs := [13]) (by kernel_rfl) (by simp) ?_
      refine AllReadyH.cons (o := { dst := some 10, op := Op.alloc 47, type := 0, pos := "conf.go:143", after := #[], guard := none }) rfl (fun K hK => ?_) AllReadyH.nil
      go_simp
      have kn13 : Blk (W3.alloc (.cells #[.int .i64 0, .int .i64 0, .int .i64 0] 47)) W3.heap.size 47 #[.int .i64 0, .int .i64 0, .int .i64 0] := Blk.new _ _ _
      have bn := bC.trans (Bl.alloc W3 (.cells #[.int .i64 0, .int .i64 0, .int .i64 0] 47))
      have sn : w.heap.size ≤ W3.heap.size := bC.size
      have kn14 := k14.alloc (.cells #[.int .i64 0, .int .i64 0, .int .i64 0] 47)
      have ln13_14 : W0.heap.size < W3.heap.size := k14.lt
      have kn12 := k12.alloc (.cells #[.int .i64 0, .int .i64 0, .int .i64 0] 47)
      have ln13_12 : W1.heap.size < W3.heap.size := k12.lt
      have kn11 := k11.alloc (.cells #[.int .i64 0, .int .i64 0, .int .i64 0] 47)
      have ln13_11 : W2.heap.size < W3.heap.size := k11.lt
      refine hK.out _ _ bn (fun hHeld => ?_)
      clear hK K bC k14 k12 k11
      try simp only [Act.put, List.setIfInBounds_toArray, List.set_cons_zero, List.set_cons_succ]
      generalize W3.alloc (.cells #[.int .i64 0, .int .i64 0, .int .i64 0] 47) = W4 at *
      have bC := bn
      have k14 := kn14
      have k12 := kn12
      have k11 := kn11
      have k13 := kn13
      clear bn kn14 kn12 kn11 kn13
      exact split_own_st (B := B) zm za zd zs om oa od os_ HK bC k11 k12 k13 k14 (by omega) (by omega) (by omega) (by omega) (by omega) (by omega) (by omega) (by omega) (by omega) (by omega)
    refine AllReadyH.cons (o := { dst := some 10, op := Op.alloc 47, type := 0, pos := "conf.go:143", after := #[], guard := none }) rfl (fun K hK => ?_) AllReadyH.nil
    go_simp
    have kn13 : Blk (W2.alloc (.cells #[.int .i64 0, .int .i64 0, .int .i64 0] 47)) W2.heap.size 47 #[.int .i64 0, .int .i64 0, .int .i64 0] := Blk.new _ _ _
    have bn := bC.trans (Bl.alloc W2 (.cells #[.int .i64 0, .int .i64 0, .int .i64 0] 47))
    have sn : w.heap.size ≤ W2.heap.size := bC.size
    have kn14 := k14.alloc (.cells #[.int .i64 0, .int .i64 0, .int .i64 0] 47)
    have ln13_14 : W0.heap.size < W2.heap.size := k14.lt
    have kn12 := k12.alloc (.cells #[.int .i64 0, .int .i64 0, .int .i64 0] 47)
    have ln13_12 : W1.heap.size < W2.heap.size := k12.lt
    refine hK.out _ _ bn (fun hHeld => ?_)
    clear hK K bC k14 k12
    try simp only [Act.put, List.setIfInBounds_toArray, List.set_cons_zero, List.set_cons_succ]
    generalize W2.alloc (.cells #[.int .i64 0, .int .i64 0, .int .i64 0] 47) = W3 at *
    have bC := bn
    have k14 := kn14
    have k12 := kn12
    have k13 := kn13
    clear bn kn14 kn12 kn13
    refine wpAnyH_ready (rs := [11]) (by kernel_rfl) (by simp) ?_
    refine AllReadyH.cons (o := { dst := some 8, op := Op.alloc 43, type := 0, pos := "conf.go:143", after := #[], guard := none }) rfl (fun K hK => ?_) AllReadyH.nil
    go_simp
    have kn11 : Blk (W3.alloc (.cells #[.int .i64 0, .int .i64 0, .int .i64 0, .bool false] 43)) W3.heap.size 43 #[.int .i64 0, .int .i64 0, .int .i64 0, .bool false] := Blk.new _ _ _
    have bn := bC.trans (Bl.alloc W3 (.cells #[.int .i64 0, .int .i64 0, .int .i64 0, .bool false] 43))
    have sn : w.heap.size ≤ W3.heap.size := bC.size
    have kn14 := k14.alloc (.cells #[.int .i64 0, .int .i64 0, .int .i64 0, .bool false] 43)
    have ln11_14 : W0.heap.size < W3.heap.size := k14.lt
    have kn12 := k12.alloc (.cells #[.int .i64 0, .int .i64 0, .int .i64 0, .bool false] 43)
    have ln11_12 : W1.heap.size < W3.heap.size := k12.lt
    have kn13 := k13.alloc (.cells #[.int .i64 0, .int .i64 0, .int .i64 0, .bool false] 43)
    have ln11_13 : W2.heap.size < W3.heap.size := k13.lt
    refine hK.out _ _ bn (fun hHeld => ?_)
    clear hK K bC k14 k12 k13
    try simp only [Act.put, List.setIfInBounds_toArray, List.set_cons_zero, List.set_cons_succ]
    generalize W3.alloc (.cells #[.int .i64 0, .int .i64 0, .int .i64 0, .bool false] 43) = W4 at *
    have bC := bn
    have k14 := kn14
    have k12 := kn12
    have k13 := kn13
    have k11 := kn11
    clear bn kn14 kn12 kn13 kn11
    exact split_own_st (B := B) zm za zd zs om oa od os_ HK bC k11 k12 k13 k14 (by omega) (by omega) (by omega) (by omega) (by omega) (by omega) (by omega) (by omega) (by omega) (by omega)
  refine AllReadyH.cons (o := { dst := some 10, op := Op.alloc 47, type := 0, pos := "conf.go:143", after := #[], guard := none }) rfl (fun K hK => ?_) AllReadyH.nil
  go_simp
  have kn13 : Blk (W1.alloc (.cells #[.int .i64 0, .int .i64 0, .int .i64 0] 47)) W1.heap.size 47 #[.int .i64 0, .int .i64 0, .int .i64 0] := Blk.new _ _ _
  have bn := bC.trans (Bl.alloc W1 (.cells #[.int .i64 0, .int .i64 0, .int .i64 0] 47))
  have sn : w.heap.size ≤ W1.heap.size := bC.size
  have kn14 := k14.alloc (.cells #[.int .i64 0, .int .i64 0, .int .i64 0] 47)
  have ln13_14 : W0.heap.size < W1.heap.size := k14.lt
  refine hK.out _ _ bn (fun hHeld => ?_)
  clear hK K bC k14
  try simp only [Act.put, List.setIfInBounds_toArray, List.set_cons_zero, List.set_cons_succ]
  generalize W1.alloc (.cells #[.int .i64 0, .int .i64 0, .int .i64 0] 47) = W2 at *
  have bC := bn
  have k14 := kn14
  have k13 := kn13
  clear bn kn14 kn13
  refine wpAnyH_ready (rs := [11, 12]) (by kernel_rfl) (by simp) ?_
  refine AllReadyH.cons (o := { dst := some 8, op := Op.alloc 43, type := 0, pos := "conf.go:143", after := #[], guard := none }) rfl (fun K hK => ?_) ?_
  · skip
    go_simp
    have kn11 : Blk (W2.alloc (.cells #[.int .i64 0, .int .i64 0, .int .i64 0, .bool false] 43)) W2.heap.size 43 #[.int .i64 0, .int .i64 0, .int .i64 0, .bool false] := Blk.new _ _ _
    have bn := bC.trans (Bl.alloc W2 (.cells #[.int .i64 0, .int .i64 0, .int .i64 0, .bool false] 43))
    have sn : w.heap.size ≤ W2.heap.size := bC.size
    have kn14 := k14.alloc (.cells #[.int .i64 0, .int .i64 0, .int .i64 0, .bool false] 43)
    have ln11_14 : W0.heap.size < W2.heap.size := k14.lt
    have kn13 := k13.alloc (.cells #[.int .i64 0, .int .i64 0, .int .i64 0, .bool false] 43)
    have ln11_13 : W1.heap.size < W2.heap.size := k13.lt
    refine hK.out _ _ bn (fun hHeld => ?_)
    clear hK K bC k14 k13
    try simp only [Act.put, List.setIfInBounds_toArray, List.set_cons_zero, List.set_cons_succ]
    generalize W2.alloc (.cells #[.int .i64 0, .int .i64 0, .int .i64 0, .bool false] 43) = W3 at *
    have bC := bn
    have k14 := kn14
    have k13 := kn13
    have k11 := kn11
    clear bn kn14 kn13 kn11
    refine wpAnyH_ready (rs := [12]) (by kernel_rfl) (by simp) ?_
    refine AllReadyH.cons (o := { dst := some 9, op := Op.alloc 45, type := 0, pos := "conf.go:143", after := #[], guard := none }) rfl (fun K hK => ?_) AllReadyH.nil
    go_simp
    have kn12 : Blk (W3.alloc (.cells #[.int .i64 0, .int .i64 0, .int .i64 0, .int .i64 0, .int .i64 0, .bool false] 45)) W3.heap.size 45 #[.int .i64 0, .int .i64 0, .int .i64 0, .int .i64 0, .int .i64 0, .bool false] := Blk.new _ _ _
    have bn := bC.trans (Bl.alloc W3 (.cells #[.int .i64 0, .int .i64 0, .int .i64 0, .int .i64 0, .int .i64 0, .bool false] 45))
    have sn : w.heap.size ≤ W3.heap.size := bC.size
    have kn14 := k14.alloc (.cells #[.int .i64 0, .int .i64 0, .int .i64 0, .int .i64 0, .int .i64 0, .bool false] 45)
    have ln12_14 : W0.heap.size < W3.heap.size := k14.lt
    have kn13 := k13.alloc (.cells #[.int .i64 0, .int .i64 0, .int .i64 0, .int .i64 0, .int .i64 0, .bool false] 45)
    have ln12_13 : W1.heap.size < W3.heap.size := k13.lt
    have kn11 := k11.alloc (.cells #[.int .i64 0, .int .i64 0, .int .i64 0, .int .i64 0, .int .i64 0, .bool false] 45)
    have ln12_11 : W2.heap.size < W3.heap.size := k11.lt
    refine hK.out _ _ bn (fun hHeld => ?_)
    clear hK K bC k14 k13 k11
    try simp only [Act.put, List.setIfInBounds_toArray, List.set_cons_zero, List.set_cons_succ]
    generalize W3.alloc (.cells #[.int .i64 0, .int .i64 0, .int .i64 0, .int .i64 0, .int .i64 0, .bool false] 45) = W4 at *
    have bC := bn
    have k14 := kn14
    have k13 := kn13
    have k11 := kn11
    have k12 := kn12
    clear bn kn14 kn13 kn11 kn12
    exact split_own_st (B := B) zm za zd zs om oa od os_ HK bC k11 k12 k13 k14 (by omega) (by omega) (by omega) (by omega) (by omega) (by omega) (by omega) (by omega) (by omega) (by omega)
  refine AllReadyH.cons (o := { dst := some 9, op := Op.alloc 45, type := 0, pos := "conf.go:143", after := #[], guard := none }) rfl (fun K hK => ?_) AllReadyH.nil
  go_simp
  have kn12 : Blk (W2.alloc (.cells #[.int .i64 0, .int .i64 0, .int .i64 0, .int .i64 0, .int .i64 0, .bool false] 45)) W2.heap.size 45 #[.int .i64 0, .int .i64 0, .int .i64 0, .int .i64 0, .int .i64 0, .bool false] := Blk.new _ _ _
  have bn := bC.trans (Bl.alloc W2 (.cells #[.int .i64 0, .int .i64 0, .int .i64 0, .int .i64 0, .int .i64 0, .bool false] 45))
  have sn : w.heap.size ≤ W2.heap.size := bC.size
  have kn14 := k14.alloc (.cells #[.int .i64 0, .int .i64 0, .int .i64 0, .int .i64 0, .int .i64 0, .bool false] 45)
  have ln12_14 : W0.heap.size < W2.heap.size := k14.lt
  have kn13 := k13.alloc (.cells #[.int .i64 0, .int .i64 0, .int .i64 0, .int .i64 0, .int .i64 0, .bool false] 45)
  have ln12_13 : W1.heap.size < W2.heap.size := k13.lt
  refine hK.out _ _ bn (fun hHeld => ?_)
  clear hK K bC k14 k13
  try simp only [Act.put, List.setIfInBounds_toArray, List.set_cons_zero, List.set_cons_succ]
  generalize W2.alloc (.cells #[.int .i64 0, .int .i64 0, .int .i64 0, .int .i64 0, .int .i64 0, .bool false] 45) = W3 at *
  have bC := bn
  have k14 := kn14
  have k13 := kn13
  have k12 := kn12
  clear bn kn14 kn13 kn12
  refine wpAnyH_ready (rs := [11]) (by kernel_rfl) (by simp) ?_
  refine AllReadyH.cons (o := { dst := some 8, op := Op.alloc 43, type := 0, pos := "conf.go:143", after := #[], guard := none }) rfl (fun K hK => ?_) AllReadyH.nil
  go_simp
  have kn11 : Blk (W3.alloc (.cells #[.int .i64 0, .int .i64 0, .int .i64 0, .bool false] 43)) W3.heap.size 43 #[.int .i64 0, .int .i64 0, .int .i64 0, .bool false] := Blk.new _ _ _
  have bn := bC.trans (Bl.alloc W3 (.cells #[.int .i64 0, .int .i64 0, .int .i64 0, .bool false] 43))
  have sn : w.heap.size ≤ W3.heap.size := bC.size
  have kn14 := k14.alloc (.cells #[.int .i64 0, .int .i64 0, .int .i64 0, .bool false] 43)
  have ln11_14 : W0.heap.size < W3.heap.size := k14.lt
  have kn13 := k13.alloc (.cells #[.int .i64 0, .int .i64 0, .int .i64 0, .bool false] 43)
  have ln11_13 : W1.heap.size < W3.heap.size := k13.lt
  have kn12 := k12.alloc (.cells #[.int .i64 0, .int .i64 0, .int .i64 0, .bool false] 43)
  have ln11_12 : W2.heap.size < W3.heap.size := k12.lt
  refine hK.out _ _ bn (fun hHeld => ?_)
  clear hK K bC k14 k13 k12
  try simp only [Act.put, List.setIfInBounds_toArray, List.set_cons_zero, List.set_cons_succ]
  generalize W3.alloc (.cells #[.int .i64 0, .int .i64 0, .int .i64 0, .bool false] 43) = W4 at *
  have bC := bn
  have k14 := kn14
  have k13 := kn13
  have k12 := kn12
  have k11 := kn11
  clear bn kn14 kn13 kn12 kn11
  exact split_own_st (B := B) zm za zd zs om oa od os_ HK bC k11 k12 k13 k14 (by omega) (by omega) (by omega) (by omega) (by omega) (by omega) (by omega) (by omega) (by omega) (by omega)
end Go.Proofs.Ytigicphmnlkjfaa
