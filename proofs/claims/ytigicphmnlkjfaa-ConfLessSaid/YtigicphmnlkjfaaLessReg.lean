/- ConfLess's regions that append. (Printed by wip/gen_lessreg.py.) -/
import Derived.Test.YtigicphmnlkjfaaLessWords
namespace Go.Proofs.Ytigicphmnlkjfaa
open Go.RowKit
set_option linter.unusedVariables false
set_option linter.unusedSimpArgs false

/-- All that was there is as it was, but for one block. -/
def Off (nD : Nat) (w w' : World) : Prop := ∀ g o, g ≠ nD → g < w.heap.size → w'.cell? ⟨g, o, none⟩ = w.cell? ⟨g, o, none⟩
theorem Off.of_bl {nD : Nat} {w w' : World} (h : Bl w w') : Off nD w w' := fun g o _ hg => Bl.cell h (p := ⟨g, o, none⟩) hg
theorem Off.set_ {nD : Nat} {w w' : World} (h : Off nD w w') (i : Nat) (v : Value) : Off nD w (w'.setCell ⟨nD, i, none⟩ v) := fun g o hne hg => by
  rw [World.cell?_of_block (Below.heap_setCell w' ⟨nD, i, none⟩ v g hne)]
  exact h g o hne hg
theorem Off.range {nD g o : Nat} {w w' : World} {us : List Value} (h : Off nD w w') (hne : g ≠ nD) (hg : g < w.heap.size) (hr : w.rangeAt g o us) : w'.rangeAt g o us := fun j v hv => (h g (o + j) hne hg).trans (hr j v hv)
theorem Blk.some_ {w : World} {g : Nat} {t : TypeId} {cs : Array Value} (h : Blk w g t cs) {i : Nat} (hi : i < cs.size) : (w.cell? ⟨g, i, none⟩).isSome = true := by
  rw [h.cell, Array.getElem?_eq_getElem hi]; rfl
theorem wrap_small {m : Nat} (h : m ≤ 10) : IntKind.i64.wrap (m : Int) = m := by
  first
    | (show wrap64 (m : Int) = m; unfold wrap64; omega)
    | (simp [IntKind.wrap, IntKind.bits, IntKind.signed]; omega)
theorem gs_one : (Try.prog.info? 25).map (·.size) = some 1 := by kernel_rfl
theorem ps_one : (Try.prog.info? 52).map (·.size) = some 1 := by kernel_rfl
theorem at_fresh {w W : World} {A A' : Option Addr} (hA : ∀ ad, A = some ad → w.heap.size ≤ ad.block) (hs : w.heap.size ≤ W.heap.size) {W' : World} (h : A'.map (·.block) = A.map (·.block) ∨ ∀ g, A'.map (·.block) = some g → W.heap.size ≤ g ∧ g < W'.heap.size) :
    ∀ ad, A' = some ad → w.heap.size ≤ ad.block := by
  rintro ad rfl
  rcases h with h | h
  · rcases A with _ | a
    · simp at h
    · simp only [Option.map_some, Option.some.injEq] at h
      have := hA a rfl
      omega
  · have := (h ad.block rfl).1
    omega

set_option maxRecDepth 100000 in
set_option maxHeartbeats 8000000 in
theorem reg16 {x0 x1 x2 x3 x4 x5 x6 x7 x8 x9 x10 x11 x13 x14 x16 x17 x18 x19 x20 x21 x22 x23 x24 x25 x26 x27 x28 x29 x30 x31 x32 x33 x34 x35 x36 x37 x38 x39 x40 x41 x42 x43 x44 x45 x46 x47 x48 x49 x50 x51 x52 x53 x54 x55 x56 x57 x58 x59 x60 x61 x62 x63 x64 x65 x66 x67 x68 x69 x70 x71 x72 x73 x74 x75 x76 x77 x78 x79 x80 x81 x82 x83 x84 x85 x86 x87 x88 x89 x90 x91 x92 x93 x94 x95 x96 x97 x98 x99 x100 x101 x102 x103 x104 x105 x106 x107 x108 x109 x110 x111 x112 x113 x114 x115 x116 x117 x118 x119 x120 x121 x122 x123 x124 x125 x126 x127 x128 x129 x130 x131 x132 x133 x134 x135 x136 x137 x138 x139 x140 x141 x142 x143 x144 : Value} (w : World) (n12 nD ga oa k c : Nat) (ks us : List Value) (dv : Array Value) (Q : Exit → Act → World → Prop)
    (hn1 : n12 < w.heap.size) (hga : ga < w.heap.size) (ne1 : n12 ≠ nD) (neA : ga ≠ nD) (hk0 : 0 < k)
    (q1 : w.cell? ⟨n12, 22, none⟩ = some (.slice (some ⟨ga, oa, none⟩) k c)) (hS : w.rangeAt ga oa us)
    (lu : us.length = 3) (ou : ∀ u ∈ us, u.oneCell' = true) (hk : RC w (some ⟨ga, oa, none⟩) ks) (lk : ks.length = k * 3) (ok : ∀ u ∈ ks, u.oneCell' = true) (h10 : k ≤ 10)
    (hD : Blk w nD 54 dv) (hdv : dv.size = 23)
    (HK : ∀ (A2 : Option Addr) (c2 : Nat) (W : World) (v73 v76 v81 : Value), Bl w W → RC W A2 (ks ++ us) → (∀ ad, A2 = some ad → w.heap.size ≤ ad.block) → k + 1 ≤ c2 →
      Q .normal { tmps := #[x0, x1, x2, x3, x4, x5, x6, x7, x8, x9, x10, x11, .pointer (some ⟨n12, 0, none⟩), x13, x14, .pointer (some ⟨nD, 0, none⟩), x16, x17, x18, x19, x20, x21, x22, x23, x24, x25, x26, x27, x28, x29, x30, x31, x32, x33, x34, x35, x36, x37, x38, x39, x40, x41, x42, x43, x44, x45, x46, x47, x48, x49, x50, x51, x52, x53, x54, x55, x56, x57, x58, x59, x60, x61, x62, x63, x64, x65, x66, x67, x68, x69, x70, x71, x72, v73, .pointer (some ⟨n12, 22, none⟩), .slice (some ⟨ga, oa, none⟩) k c, v76, .pointer (some ⟨n12, 22, none⟩), .slice (some ⟨ga, oa, none⟩) k c, .pointer (some ⟨ga, oa, none⟩), .agg us.toArray, v81, .slice A2 (0 + k + 1) c2, .pointer (some ⟨nD, 22, none⟩), x84, x85, x86, x87, x88, x89, x90, x91, x92, x93, x94, x95, x96, x97, x98, x99, x100, x101, x102, x103, x104, x105, x106, x107, x108, x109, x110, x111, x112, x113, x114, x115, x116, x117, x118, x119, x120, x121, x122, x123, x124, x125, x126, x127, x128, x129, x130, x131, x132, x133, x134, x135, x136, x137, x138, x139, x140, x141, x142, x143, x144], defers := [] } (W.setCell ⟨nD, 22, none⟩ (.slice A2 (0 + k + 1) c2))) :
    (Code.region 16 #[{ dst := some 73, op := Op.buildSlice 52 0 #[], type := 52, pos := "law.go:65", after := #[], guard := none }, { dst := some 74, op := Op.fieldAddr 54 (Operand.tmp 12) 2, type := 0, pos := "law.go:65", after := #[], guard := none }, { dst := some 75, op := Op.load 52 (Operand.tmp 74), type := 52, pos := "law.go:65", after := #[{ on := 1, ground := Ground.data }], guard := none }, { dst := some 76, op := Op.call { callee := Callee.builtin Builtin.append, args := #[Operand.tmp 73, Operand.tmp 75], argTypes := #[52, 52] }, type := 52, pos := "law.go:65", after := #[{ on := 0, ground := Ground.data }, { on := 2, ground := Ground.data }], guard := none }, { dst := some 77, op := Op.fieldAddr 54 (Operand.tmp 12) 2, type := 0, pos := "law.go:65", after := #[], guard := none }, { dst := some 78, op := Op.load 52 (Operand.tmp 77), type := 52, pos := "law.go:65", after := #[{ on := 4, ground := Ground.data }], guard := none }, { dst := some 79, op := Op.indexAddr 52 (Operand.tmp 78) (Operand.const (Value.int IntKind.i64 0)), type := 0, pos := "law.go:65", after := #[{ on := 5, ground := Ground.data }], guard := none }, { dst := some 80, op := Op.load 56 (Operand.tmp 79), type := 56, pos := "law.go:65", after := #[{ on := 6, ground := Ground.data }], guard := none }, { dst := some 81, op := Op.buildSlice 52 1 #[(0, Operand.tmp 80)], type := 52, pos := "law.go:65", after := #[{ on := 7, ground := Ground.data }], guard := none }, { dst := some 82, op := Op.call { callee := Callee.builtin Builtin.append, args := #[Operand.tmp 76, Operand.tmp 81], argTypes := #[52, 52] }, type := 52, pos := "law.go:65", after := #[{ on := 3, ground := Ground.data }, { on := 8, ground := Ground.data }, { on := 3, ground := Ground.chain }], guard := none }, { dst := some 83, op := Op.fieldAddr 54 (Operand.tmp 15) 2, type := 0, pos := "law.go:65", after := #[{ on := 0, ground := Ground.phase }, { on := 1, ground := Ground.phase }, { on := 2, ground := Ground.phase }, { on := 3, ground := Ground.phase }, { on := 4, ground := Ground.phase }, { on := 5, ground := Ground.phase }, { on := 6, ground := Ground.phase }, { on := 7, ground := Ground.phase }, { on := 8, ground := Ground.phase }, { on := 9, ground := Ground.phase }], guard := none }, { dst := none, op := Op.store 52 (Operand.tmp 83) (Operand.tmp 82), type := 0, pos := "law.go:65", after := #[{ on := 10, ground := Ground.data }, { on := 9, ground := Ground.data }, { on := 9, ground := Ground.chain }, { on := 0, ground := Ground.phase }, { on := 1, ground := Ground.phase }, { on := 2, ground := Ground.phase }, { on := 3, ground := Ground.phase }, { on := 4, ground := Ground.phase }, { on := 5, ground := Ground.phase }, { on := 6, ground := Ground.phase }, { on := 7, ground := Ground.phase }, { on := 8, ground := Ground.phase }, { on := 9, ground := Ground.phase }], guard := none }] true).wp Try.prog Q { tmps := #[x0, x1, x2, x3, x4, x5, x6, x7, x8, x9, x10, x11, .pointer (some ⟨n12, 0, none⟩), x13, x14, .pointer (some ⟨nD, 0, none⟩), x16, x17, x18, x19, x20, x21, x22, x23, x24, x25, x26, x27, x28, x29, x30, x31, x32, x33, x34, x35, x36, x37, x38, x39, x40, x41, x42, x43, x44, x45, x46, x47, x48, x49, x50, x51, x52, x53, x54, x55, x56, x57, x58, x59, x60, x61, x62, x63, x64, x65, x66, x67, x68, x69, x70, x71, x72, x73, x74, x75, x76, x77, x78, x79, x80, x81, x82, x83, x84, x85, x86, x87, x88, x89, x90, x91, x92, x93, x94, x95, x96, x97, x98, x99, x100, x101, x102, x103, x104, x105, x106, x107, x108, x109, x110, x111, x112, x113, x114, x115, x116, x117, x118, x119, x120, x121, x122, x123, x124, x125, x126, x127, x128, x129, x130, x131, x132, x133, x134, x135, x136, x137, x138, x139, x140, x141, x142, x143, x144], defers := [] } w := by
  refine wp_region_noPanic ?_
  refine wp_region_held_drew (S := fun w' => Off nD w w') (by kernel_rfl) (Off.of_bl (Bl.drewN w 1)) (fun hHeld => ?_)
  have bC : Bl w w.drew := Bl.drewN w 1
  have hnD : nD < w.heap.size := hD.lt
  generalize w.drew = W0 at *
  have i1 : (0 : Int) < (k : Int) := by omega
  refine wpAnyH_take (i := 1) (oi := { dst := some 74, op := Op.fieldAddr 54 (Operand.tmp 12) 2, type := 0, pos := "law.go:65", after := #[], guard := none }) (v := .pointer (some ⟨n12, 22, none⟩)) rfl (by kernel_rfl) (by kernel_rfl) (by kernel_rfl) (fun _ _ _ h => h) (Or.inl ⟨by rfl, ?_⟩) hHeld ?_
  · intro w' hSw
    go_simp
  simp only [Act.put, List.setIfInBounds_toArray, List.set_cons_zero, List.set_cons_succ]
  refine wpAnyH_take (i := 2) (oi := { dst := some 75, op := Op.load 52 (Operand.tmp 74), type := 52, pos := "law.go:65", after := #[{ on := 1, ground := Ground.data }], guard := none }) (v := .slice (some ⟨ga, oa, none⟩) k c) rfl (by kernel_rfl) (by kernel_rfl) (by kernel_rfl) (fun _ _ _ h => h) (Or.inl ⟨by rfl, ?_⟩) hHeld ?_
  · intro w' hSw
    have tq := (hSw n12 22 ne1 hn1).trans q1
    go_simp
  simp only [Act.put, List.setIfInBounds_toArray, List.set_cons_zero, List.set_cons_succ]
  refine wpAnyH_take (i := 4) (oi := { dst := some 77, op := Op.fieldAddr 54 (Operand.tmp 12) 2, type := 0, pos := "law.go:65", after := #[], guard := none }) (v := .pointer (some ⟨n12, 22, none⟩)) rfl (by kernel_rfl) (by kernel_rfl) (by kernel_rfl) (fun _ _ _ h => h) (Or.inl ⟨by rfl, ?_⟩) hHeld ?_
  · intro w' hSw
    go_simp
  simp only [Act.put, List.setIfInBounds_toArray, List.set_cons_zero, List.set_cons_succ]
  refine wpAnyH_take (i := 5) (oi := { dst := some 78, op := Op.load 52 (Operand.tmp 77), type := 52, pos := "law.go:65", after := #[{ on := 4, ground := Ground.data }], guard := none }) (v := .slice (some ⟨ga, oa, none⟩) k c) rfl (by kernel_rfl) (by kernel_rfl) (by kernel_rfl) (fun _ _ _ h => h) (Or.inl ⟨by rfl, ?_⟩) hHeld ?_
  · intro w' hSw
    have tq := (hSw n12 22 ne1 hn1).trans q1
    go_simp
  simp only [Act.put, List.setIfInBounds_toArray, List.set_cons_zero, List.set_cons_succ]
  refine wpAnyH_take (i := 6) (oi := { dst := some 79, op := Op.indexAddr 52 (Operand.tmp 78) (Operand.const (Value.int IntKind.i64 0)), type := 0, pos := "law.go:65", after := #[{ on := 5, ground := Ground.data }], guard := none }) (v := .pointer (some ⟨ga, oa, none⟩)) rfl (by kernel_rfl) (by kernel_rfl) (by kernel_rfl) (fun _ _ _ h => h) (Or.inl ⟨by rfl, ?_⟩) hHeld ?_
  · intro w' hSw
    go_simp
  simp only [Act.put, List.setIfInBounds_toArray, List.set_cons_zero, List.set_cons_succ]
  refine wpAnyH_take (i := 7) (oi := { dst := some 80, op := Op.load 56 (Operand.tmp 79), type := 56, pos := "law.go:65", after := #[{ on := 6, ground := Ground.data }], guard := none }) (v := .agg us.toArray) rfl (by kernel_rfl) (by kernel_rfl) (by kernel_rfl) (fun _ _ _ h => h) (yieldsIf_load_mid (by rfl) 56 (.tmp 79) rfl ga (oa) rfl us _ (fun w' h => Off.range h neA hga hS) Try.underlying56 rfl (by rw [lu]; exact p_size)) hHeld ?_
  simp only [Act.put, List.setIfInBounds_toArray, List.set_cons_zero, List.set_cons_succ]
  refine wpAnyH_ready (rs := [0, 8]) (by kernel_rfl) (by simp) ?_
  refine AllReadyH.cons (o := { dst := some 73, op := Op.buildSlice 52 0 #[], type := 52, pos := "law.go:65", after := #[], guard := none }) rfl (fun K hK => ?_) ?_
  · skip
    have sn : w.heap.size ≤ W0.heap.size := bC.size
    have bn := bC.trans (Bl.alloc W0 (.cells #[] 56))
    have kE : ∀ ad, (some ⟨W0.heap.size, 0, none⟩ : Option Addr) = some ad → w.heap.size ≤ ad.block := by rintro ad h; injection h with h; subst h; exact sn
    refine step_lit0 rfl 52 56 rfl prmT (hK.out _ _ (Off.of_bl bn) (fun hHeld => ?_))
    clear hK K bC
    try simp only [Act.put, List.setIfInBounds_toArray, List.set_cons_zero, List.set_cons_succ]
    generalize W0.alloc (.cells #[] 56) = W1 at *
    have bC := bn
    clear bn sn
    refine wpAnyH_ready (rs := [3, 8]) (by kernel_rfl) (by simp) ?_
    refine AllReadyH.cons (o := { dst := some 76, op := Op.call { callee := Callee.builtin Builtin.append, args := #[Operand.tmp 73, Operand.tmp 75], argTypes := #[52, 52] }, type := 52, pos := "law.go:65", after := #[{ on := 0, ground := Ground.data }, { on := 2, ground := Ground.data }], guard := none }) rfl (fun K hK => ?_) ?_
    · skip
      have sn : w.heap.size ≤ W1.heap.size := bC.size
      have hk1 : RC W1 (some ⟨ga, oa, none⟩) ks := hk.below bC
      refine step_append_apv W1 rfl (.tmp 73) (.tmp 75) _ rfl prmT (ApV.empty (w := W1) (base := W1.heap.size) (some ⟨W0.heap.size, 0, none⟩)) rfl hk1 rfl lk ok (by unfold maxLen; omega) (by omega) (Nat.le_refl _) (fun A1 c1 W2 hd => ?_)
      have hap := hd.ap
      rw [List.nil_append] at hap
      have hat := at_fresh kE sn hd.at_
      have bn := bC.trans hd.below
      have sb := sn
      have sc : W1.heap.size ≤ W2.heap.size := hd.below.size
      refine hK.out _ _ (Off.of_bl bn) (fun hHeld => ?_)
      clear hK K bC hd hk1 sn kE
      try simp only [Act.put, List.setIfInBounds_toArray, List.set_cons_zero, List.set_cons_succ]
      generalize hBs : W1.heap.size = bs at hap sb sc
      clear hBs
      have bC := bn
      clear bn
      refine wpAnyH_ready (rs := [8]) (by kernel_rfl) (by simp) ?_
      refine AllReadyH.cons (o := { dst := some 81, op := Op.buildSlice 52 1 #[(0, Operand.tmp 80)], type := 52, pos := "law.go:65", after := #[{ on := 7, ground := Ground.data }], guard := none }) rfl (fun K hK => ?_) AllReadyH.nil
      have sn : w.heap.size ≤ W2.heap.size := bC.size
      have bn := bC.trans (Bl.alloc W2 (.cells us.toArray 56))
      have kL : Blk (W2.alloc (.cells us.toArray 56)) W2.heap.size 56 us.toArray := Blk.new _ _ _
      have sc2 := Nat.le_trans sc (Bl.alloc W2 (.cells us.toArray 56)).size
      have hap2 := hap.keep (Bl.alloc W2 (.cells us.toArray 56))
      refine step_lit1 rfl 52 56 (.tmp 80) rfl prmT (by omega) us lu rfl (hK.out _ _ (Off.of_bl bn) (fun hHeld => ?_))
      clear hK K bC
      try simp only [Act.put, List.setIfInBounds_toArray, List.set_cons_zero, List.set_cons_succ]
      generalize W2.alloc (.cells us.toArray 56) = W3 at *
      have bC := bn
      replace hap := hap2
      replace sc := sc2
      clear hap2 sc2
      clear bn sn
      refine wpAnyH_ready (rs := [9]) (by kernel_rfl) (by simp) ?_
      refine AllReadyH.cons (o := { dst := some 82, op := Op.call { callee := Callee.builtin Builtin.append, args := #[Operand.tmp 76, Operand.tmp 81], argTypes := #[52, 52] }, type := 52, pos := "law.go:65", after := #[{ on := 3, ground := Ground.data }, { on := 8, ground := Ground.data }, { on := 3, ground := Ground.chain }], guard := none }) rfl (fun K hK => ?_) AllReadyH.nil
      have sn : w.heap.size ≤ W3.heap.size := bC.size
      refine step_append_apv W3 rfl (.tmp 76) (.tmp 81) _ rfl prmT hap rfl kL.rc rfl (m := 1) (by rw [lu]) ou (by unfold maxLen; omega) (by omega) sc (fun A2 c2 W4 hd => ?_)
      have hat2 := at_fresh hat sn hd.at_
      have bn : Bl w W4 := Below.trans bC (hd.below.mono sb)
      have hrc := hd.ap.rb
      have hcap := hd.ap.cap
      refine hK.out _ _ (Off.of_bl bn) (fun hHeld => ?_)
      clear hK K hd hap kL
      try simp only [Act.put, List.setIfInBounds_toArray, List.set_cons_zero, List.set_cons_succ]
      refine wpAnyH_take (i := 10) (oi := { dst := some 83, op := Op.fieldAddr 54 (Operand.tmp 15) 2, type := 0, pos := "law.go:65", after := #[{ on := 0, ground := Ground.phase }, { on := 1, ground := Ground.phase }, { on := 2, ground := Ground.phase }, { on := 3, ground := Ground.phase }, { on := 4, ground := Ground.phase }, { on := 5, ground := Ground.phase }, { on := 6, ground := Ground.phase }, { on := 7, ground := Ground.phase }, { on := 8, ground := Ground.phase }, { on := 9, ground := Ground.phase }], guard := none }) (v := .pointer (some ⟨nD, 22, none⟩)) rfl (by kernel_rfl) (by kernel_rfl) (by kernel_rfl) (fun _ _ _ h => h) (Or.inl ⟨by rfl, ?_⟩) hHeld ?_
      · intro w' hSw
        go_simp
      simp only [Act.put, List.setIfInBounds_toArray, List.set_cons_zero, List.set_cons_succ]
      have kD : Blk W4 nD 54 dv := hD.below bn hnD
      refine wpAnyH_ready (rs := [11]) (by kernel_rfl) (by simp) ?_
      refine AllReadyH.cons (o := { dst := none, op := Op.store 52 (Operand.tmp 83) (Operand.tmp 82), type := 0, pos := "law.go:65", after := #[{ on := 10, ground := Ground.data }, { on := 9, ground := Ground.data }, { on := 9, ground := Ground.chain }, { on := 0, ground := Ground.phase }, { on := 1, ground := Ground.phase }, { on := 2, ground := Ground.phase }, { on := 3, ground := Ground.phase }, { on := 4, ground := Ground.phase }, { on := 5, ground := Ground.phase }, { on := 6, ground := Ground.phase }, { on := 7, ground := Ground.phase }, { on := 8, ground := Ground.phase }, { on := 9, ground := Ground.phase }], guard := none }) rfl (fun K hK => ?_) AllReadyH.nil
      refine step_store1 rfl 52 (.tmp 83) (.tmp 82) rfl nD 22 _ rfl rfl (kD.some_ (by rw [hdv]; omega)) (kD.frozen 22) ps_one rfl rfl (hK.out _ _ (Off.set_ (Off.of_bl bn) 22 _) (fun hHeld => ?_))
      clear hK K
      try simp only [Act.put, List.setIfInBounds_toArray, List.set_cons_zero, List.set_cons_succ]
      refine wpAnyH_done (by kernel_rfl) ?_ _
      refine NoPanic.normal ?_
      exact HK A2 c2 _ _ _ _ bn hrc hat2 (by omega)
    refine AllReadyH.cons (o := { dst := some 81, op := Op.buildSlice 52 1 #[(0, Operand.tmp 80)], type := 52, pos := "law.go:65", after := #[{ on := 7, ground := Ground.data }], guard := none }) rfl (fun K hK => ?_) AllReadyH.nil
    have sn : w.heap.size ≤ W1.heap.size := bC.size
    have bn := bC.trans (Bl.alloc W1 (.cells us.toArray 56))
    have kL : Blk (W1.alloc (.cells us.toArray 56)) W1.heap.size 56 us.toArray := Blk.new _ _ _
    refine step_lit1 rfl 52 56 (.tmp 80) rfl prmT (by omega) us lu rfl (hK.out _ _ (Off.of_bl bn) (fun hHeld => ?_))
    clear hK K bC
    try simp only [Act.put, List.setIfInBounds_toArray, List.set_cons_zero, List.set_cons_succ]
    generalize W1.alloc (.cells us.toArray 56) = W2 at *
    have bC := bn
    clear bn sn
    refine wpAnyH_ready (rs := [3]) (by kernel_rfl) (by simp) ?_
    refine AllReadyH.cons (o := { dst := some 76, op := Op.call { callee := Callee.builtin Builtin.append, args := #[Operand.tmp 73, Operand.tmp 75], argTypes := #[52, 52] }, type := 52, pos := "law.go:65", after := #[{ on := 0, ground := Ground.data }, { on := 2, ground := Ground.data }], guard := none }) rfl (fun K hK => ?_) AllReadyH.nil
    have sn : w.heap.size ≤ W2.heap.size := bC.size
    have hk1 : RC W2 (some ⟨ga, oa, none⟩) ks := hk.below bC
    refine step_append_apv W2 rfl (.tmp 73) (.tmp 75) _ rfl prmT (ApV.empty (w := W2) (base := W2.heap.size) (some ⟨W0.heap.size, 0, none⟩)) rfl hk1 rfl lk ok (by unfold maxLen; omega) (by omega) (Nat.le_refl _) (fun A1 c1 W3 hd => ?_)
    have hap := hd.ap
    rw [List.nil_append] at hap
    have hat := at_fresh kE sn hd.at_
    have bn := bC.trans hd.below
    have sb := sn
    have sc : W2.heap.size ≤ W3.heap.size := hd.below.size
    have kL2 := kL.below hd.below kL.lt
    refine hK.out _ _ (Off.of_bl bn) (fun hHeld => ?_)
    clear hK K bC hd hk1 sn kE
    try simp only [Act.put, List.setIfInBounds_toArray, List.set_cons_zero, List.set_cons_succ]
    generalize hBs : W2.heap.size = bs at hap sb sc
    clear hBs
    have bC := bn
    clear bn
    replace kL := kL2
    clear kL2
    refine wpAnyH_ready (rs := [9]) (by kernel_rfl) (by simp) ?_
    refine AllReadyH.cons (o := { dst := some 82, op := Op.call { callee := Callee.builtin Builtin.append, args := #[Operand.tmp 76, Operand.tmp 81], argTypes := #[52, 52] }, type := 52, pos := "law.go:65", after := #[{ on := 3, ground := Ground.data }, { on := 8, ground := Ground.data }, { on := 3, ground := Ground.chain }], guard := none }) rfl (fun K hK => ?_) AllReadyH.nil
    have sn : w.heap.size ≤ W3.heap.size := bC.size
    refine step_append_apv W3 rfl (.tmp 76) (.tmp 81) _ rfl prmT hap rfl kL.rc rfl (m := 1) (by rw [lu]) ou (by unfold maxLen; omega) (by omega) sc (fun A2 c2 W4 hd => ?_)
    have hat2 := at_fresh hat sn hd.at_
    have bn : Bl w W4 := Below.trans bC (hd.below.mono sb)
    have hrc := hd.ap.rb
    have hcap := hd.ap.cap
    refine hK.out _ _ (Off.of_bl bn) (fun hHeld => ?_)
    clear hK K hd hap kL
    try simp only [Act.put, List.setIfInBounds_toArray, List.set_cons_zero, List.set_cons_succ]
    refine wpAnyH_take (i := 10) (oi := { dst := some 83, op := Op.fieldAddr 54 (Operand.tmp 15) 2, type := 0, pos := "law.go:65", after := #[{ on := 0, ground := Ground.phase }, { on := 1, ground := Ground.phase }, { on := 2, ground := Ground.phase }, { on := 3, ground := Ground.phase }, { on := 4, ground := Ground.phase }, { on := 5, ground := Ground.phase }, { on := 6, ground := Ground.phase }, { on := 7, ground := Ground.phase }, { on := 8, ground := Ground.phase }, { on := 9, ground := Ground.phase }], guard := none }) (v := .pointer (some ⟨nD, 22, none⟩)) rfl (by kernel_rfl) (by kernel_rfl) (by kernel_rfl) (fun _ _ _ h => h) (Or.inl ⟨by rfl, ?_⟩) hHeld ?_
    · intro w' hSw
      go_simp
    simp only [Act.put, List.setIfInBounds_toArray, List.set_cons_zero, List.set_cons_succ]
    have kD : Blk W4 nD 54 dv := hD.below bn hnD
    refine wpAnyH_ready (rs := [11]) (by kernel_rfl) (by simp) ?_
    refine AllReadyH.cons (o := { dst := none, op := Op.store 52 (Operand.tmp 83) (Operand.tmp 82), type := 0, pos := "law.go:65", after := #[{ on := 10, ground := Ground.data }, { on := 9, ground := Ground.data }, { on := 9, ground := Ground.chain }, { on := 0, ground := Ground.phase }, { on := 1, ground := Ground.phase }, { on := 2, ground := Ground.phase }, { on := 3, ground := Ground.phase }, { on := 4, ground := Ground.phase }, { on := 5, ground := Ground.phase }, { on := 6, ground := Ground.phase }, { on := 7, ground := Ground.phase }, { on := 8, ground := Ground.phase }, { on := 9, ground := Ground.phase }], guard := none }) rfl (fun K hK => ?_) AllReadyH.nil
    refine step_store1 rfl 52 (.tmp 83) (.tmp 82) rfl nD 22 _ rfl rfl (kD.some_ (by rw [hdv]; omega)) (kD.frozen 22) ps_one rfl rfl (hK.out _ _ (Off.set_ (Off.of_bl bn) 22 _) (fun hHeld => ?_))
    clear hK K
    try simp only [Act.put, List.setIfInBounds_toArray, List.set_cons_zero, List.set_cons_succ]
    refine wpAnyH_done (by kernel_rfl) ?_ _
    refine NoPanic.normal ?_
    exact HK A2 c2 _ _ _ _ bn hrc hat2 (by omega)
  refine AllReadyH.cons (o := { dst := some 81, op := Op.buildSlice 52 1 #[(0, Operand.tmp 80)], type := 52, pos := "law.go:65", after := #[{ on := 7, ground := Ground.data }], guard := none }) rfl (fun K hK => ?_) AllReadyH.nil
  have sn : w.heap.size ≤ W0.heap.size := bC.size
  have bn := bC.trans (Bl.alloc W0 (.cells us.toArray 56))
  have kL : Blk (W0.alloc (.cells us.toArray 56)) W0.heap.size 56 us.toArray := Blk.new _ _ _
  refine step_lit1 rfl 52 56 (.tmp 80) rfl prmT (by omega) us lu rfl (hK.out _ _ (Off.of_bl bn) (fun hHeld => ?_))
  clear hK K bC
  try simp only [Act.put, List.setIfInBounds_toArray, List.set_cons_zero, List.set_cons_succ]
  generalize W0.alloc (.cells us.toArray 56) = W1 at *
  have bC := bn
  clear bn sn
  refine wpAnyH_ready (rs := [0]) (by kernel_rfl) (by simp) ?_
  refine AllReadyH.cons (o := { dst := some 73, op := Op.buildSlice 52 0 #[], type := 52, pos := "law.go:65", after := #[], guard := none }) rfl (fun K hK => ?_) AllReadyH.nil
  have sn : w.heap.size ≤ W1.heap.size := bC.size
  have bn := bC.trans (Bl.alloc W1 (.cells #[] 56))
  have kE : ∀ ad, (some ⟨W1.heap.size, 0, none⟩ : Option Addr) = some ad → w.heap.size ≤ ad.block := by rintro ad h; injection h with h; subst h; exact sn
  have kL2 := kL.alloc (.cells #[] 56)
  refine step_lit0 rfl 52 56 rfl prmT (hK.out _ _ (Off.of_bl bn) (fun hHeld => ?_))
  clear hK K bC
  try simp only [Act.put, List.setIfInBounds_toArray, List.set_cons_zero, List.set_cons_succ]
  generalize W1.alloc (.cells #[] 56) = W2 at *
  have bC := bn
  replace kL := kL2
  clear kL2
  clear bn sn
  refine wpAnyH_ready (rs := [3]) (by kernel_rfl) (by simp) ?_
  refine AllReadyH.cons (o := { dst := some 76, op := Op.call { callee := Callee.builtin Builtin.append, args := #[Operand.tmp 73, Operand.tmp 75], argTypes := #[52, 52] }, type := 52, pos := "law.go:65", after := #[{ on := 0, ground := Ground.data }, { on := 2, ground := Ground.data }], guard := none }) rfl (fun K hK => ?_) AllReadyH.nil
  have sn : w.heap.size ≤ W2.heap.size := bC.size
  have hk1 : RC W2 (some ⟨ga, oa, none⟩) ks := hk.below bC
  refine step_append_apv W2 rfl (.tmp 73) (.tmp 75) _ rfl prmT (ApV.empty (w := W2) (base := W2.heap.size) (some ⟨W1.heap.size, 0, none⟩)) rfl hk1 rfl lk ok (by unfold maxLen; omega) (by omega) (Nat.le_refl _) (fun A1 c1 W3 hd => ?_)
  have hap := hd.ap
  rw [List.nil_append] at hap
  have hat := at_fresh kE sn hd.at_
  have bn := bC.trans hd.below
  have sb := sn
  have sc : W2.heap.size ≤ W3.heap.size := hd.below.size
  have kL2 := kL.below hd.below kL.lt
  refine hK.out _ _ (Off.of_bl bn) (fun hHeld => ?_)
  clear hK K bC hd hk1 sn kE
  try simp only [Act.put, List.setIfInBounds_toArray, List.set_cons_zero, List.set_cons_succ]
  generalize hBs : W2.heap.size = bs at hap sb sc
  clear hBs
  have bC := bn
  clear bn
  replace kL := kL2
  clear kL2
  refine wpAnyH_ready (rs := [9]) (by kernel_rfl) (by simp) ?_
  refine AllReadyH.cons (o := { dst := some 82, op := Op.call { callee := Callee.builtin Builtin.append, args := #[Operand.tmp 76, Operand.tmp 81], argTypes := #[52, 52] }, type := 52, pos := "law.go:65", after := #[{ on := 3, ground := Ground.data }, { on := 8, ground := Ground.data }, { on := 3, ground := Ground.chain }], guard := none }) rfl (fun K hK => ?_) AllReadyH.nil
  have sn : w.heap.size ≤ W3.heap.size := bC.size
  refine step_append_apv W3 rfl (.tmp 76) (.tmp 81) _ rfl prmT hap rfl kL.rc rfl (m := 1) (by rw [lu]) ou (by unfold maxLen; omega) (by omega) sc (fun A2 c2 W4 hd => ?_)
  have hat2 := at_fresh hat sn hd.at_
  have bn : Bl w W4 := Below.trans bC (hd.below.mono sb)
  have hrc := hd.ap.rb
  have hcap := hd.ap.cap
  refine hK.out _ _ (Off.of_bl bn) (fun hHeld => ?_)
  clear hK K hd hap kL
  try simp only [Act.put, List.setIfInBounds_toArray, List.set_cons_zero, List.set_cons_succ]
  refine wpAnyH_take (i := 10) (oi := { dst := some 83, op := Op.fieldAddr 54 (Operand.tmp 15) 2, type := 0, pos := "law.go:65", after := #[{ on := 0, ground := Ground.phase }, { on := 1, ground := Ground.phase }, { on := 2, ground := Ground.phase }, { on := 3, ground := Ground.phase }, { on := 4, ground := Ground.phase }, { on := 5, ground := Ground.phase }, { on := 6, ground := Ground.phase }, { on := 7, ground := Ground.phase }, { on := 8, ground := Ground.phase }, { on := 9, ground := Ground.phase }], guard := none }) (v := .pointer (some ⟨nD, 22, none⟩)) rfl (by kernel_rfl) (by kernel_rfl) (by kernel_rfl) (fun _ _ _ h => h) (Or.inl ⟨by rfl, ?_⟩) hHeld ?_
  · intro w' hSw
    go_simp
  simp only [Act.put, List.setIfInBounds_toArray, List.set_cons_zero, List.set_cons_succ]
  have kD : Blk W4 nD 54 dv := hD.below bn hnD
  refine wpAnyH_ready (rs := [11]) (by kernel_rfl) (by simp) ?_
  refine AllReadyH.cons (o := { dst := none, op := Op.store 52 (Operand.tmp 83) (Operand.tmp 82), type := 0, pos := "law.go:65", after := #[{ on := 10, ground := Ground.data }, { on := 9, ground := Ground.data }, { on := 9, ground := Ground.chain }, { on := 0, ground := Ground.phase }, { on := 1, ground := Ground.phase }, { on := 2, ground := Ground.phase }, { on := 3, ground := Ground.phase }, { on := 4, ground := Ground.phase }, { on := 5, ground := Ground.phase }, { on := 6, ground := Ground.phase }, { on := 7, ground := Ground.phase }, { on := 8, ground := Ground.phase }, { on := 9, ground := Ground.phase }], guard := none }) rfl (fun K hK => ?_) AllReadyH.nil
  refine step_store1 rfl 52 (.tmp 83) (.tmp 82) rfl nD 22 _ rfl rfl (kD.some_ (by rw [hdv]; omega)) (kD.frozen 22) ps_one rfl rfl (hK.out _ _ (Off.set_ (Off.of_bl bn) 22 _) (fun hHeld => ?_))
  clear hK K
  try simp only [Act.put, List.setIfInBounds_toArray, List.set_cons_zero, List.set_cons_succ]
  refine wpAnyH_done (by kernel_rfl) ?_ _
  refine NoPanic.normal ?_
  exact HK A2 c2 _ _ _ _ bn hrc hat2 (by omega)

set_option maxRecDepth 100000 in
set_option maxHeartbeats 8000000 in
theorem reg17 {x0 x2 x3 x4 x5 x8 x9 x10 x11 x12 x13 x15 x16 x17 x18 x19 x20 x21 x22 x23 x24 x25 x26 x27 x28 x29 x30 x31 x32 x33 x34 x35 x36 x37 x38 x39 x40 x41 x42 x43 x44 x45 x46 x47 x48 x49 x50 x51 x52 x53 x54 x55 x56 x57 x58 x59 x60 x61 x62 x63 x64 x65 x66 x67 x68 x69 x70 x71 x72 x73 x74 x75 x76 x77 x78 x79 x80 x81 x82 x83 x84 x85 x86 x87 x88 x89 x90 x91 x92 x93 x94 x95 x96 x97 x98 x99 x100 x101 x102 x103 x104 x105 x106 x107 x108 x109 x110 x111 x112 x113 x114 x115 x116 x117 x118 x119 x120 x121 x122 x123 x124 x125 x126 x127 x128 x129 x130 x131 x132 x133 x134 x135 x136 x137 x138 x139 x140 x141 x142 x143 x144 : Value} (w : World) (n1 nS nD ga oa n m c : Nat) (ks us : List Value) (dv : Array Value) (Q : Exit → Act → World → Prop)
    (hn1 : n1 < w.heap.size) (hnS : nS < w.heap.size) (ne1 : n1 ≠ nD) (neS : nS ≠ nD) (hn : n = m + 1) (hm : m + 1 ≤ c)
    (q1 : w.cell? ⟨n1, 10, none⟩ = some (.slice (some ⟨ga, oa, none⟩) n c)) (hS : w.rangeAt nS 0 us)
    (lu : us.length = 23) (ou : ∀ u ∈ us, u.oneCell' = true) (hk : RC w (some ⟨ga, oa, none⟩) ks) (lk : ks.length = m * 23) (ok : ∀ u ∈ ks, u.oneCell' = true) (h10 : m ≤ 10)
    (hD : Blk w nD 27 dv) (hdv : dv.size = 11)
    (HK : ∀ (A2 : Option Addr) (c2 : Nat) (W : World) (v84 v90 v92 : Value), Bl w W → RC W A2 (ks ++ us) → (∀ ad, A2 = some ad → w.heap.size ≤ ad.block) → m + 1 ≤ c2 →
      Q .normal { tmps := #[x0, .pointer (some ⟨n1, 0, none⟩), x2, x3, x4, x5, .int .i64 n, .pointer (some ⟨nD, 0, none⟩), x8, x9, x10, x11, x12, x13, .pointer (some ⟨nS, 0, none⟩), x15, x16, x17, x18, x19, x20, x21, x22, x23, x24, x25, x26, x27, x28, x29, x30, x31, x32, x33, x34, x35, x36, x37, x38, x39, x40, x41, x42, x43, x44, x45, x46, x47, x48, x49, x50, x51, x52, x53, x54, x55, x56, x57, x58, x59, x60, x61, x62, x63, x64, x65, x66, x67, x68, x69, x70, x71, x72, x73, x74, x75, x76, x77, x78, x79, x80, x81, x82, x83, v84, .pointer (some ⟨n1, 10, none⟩), .slice (some ⟨ga, oa, none⟩) n c, .int .i64 n, .int .i64 m, .slice (some ⟨ga, oa, none⟩) m c, v90, .agg us.toArray, v92, .slice A2 (0 + m + 1) c2, .pointer (some ⟨nD, 10, none⟩), x95, x96, x97, x98, x99, x100, x101, x102, x103, x104, x105, x106, x107, x108, x109, x110, x111, x112, x113, x114, x115, x116, x117, x118, x119, x120, x121, x122, x123, x124, x125, x126, x127, x128, x129, x130, x131, x132, x133, x134, x135, x136, x137, x138, x139, x140, x141, x142, x143, x144], defers := [] } (W.setCell ⟨nD, 10, none⟩ (.slice A2 (0 + m + 1) c2))) :
    (Code.region 17 #[{ dst := some 84, op := Op.buildSlice 25 0 #[], type := 25, pos := "law.go:66", after := #[], guard := none }, { dst := some 85, op := Op.fieldAddr 27 (Operand.tmp 1) 3, type := 0, pos := "law.go:66", after := #[], guard := none }, { dst := some 86, op := Op.load 25 (Operand.tmp 85), type := 25, pos := "law.go:66", after := #[{ on := 1, ground := Ground.data }], guard := none }, { dst := some 87, op := Op.move (Operand.tmp 6), type := 3, pos := "law.go:66", after := #[], guard := none }, { dst := some 88, op := Op.binOp BinOp.sub 3 (Operand.tmp 87) (Operand.const (Value.int IntKind.i64 1)) 3, type := 3, pos := "law.go:66", after := #[{ on := 3, ground := Ground.data }], guard := none }, { dst := some 89, op := Op.slice 25 (Operand.tmp 86) none (some (Operand.tmp 88)) none, type := 25, pos := "law.go:66", after := #[{ on := 2, ground := Ground.data }, { on := 4, ground := Ground.data }], guard := none }, { dst := some 90, op := Op.call { callee := Callee.builtin Builtin.append, args := #[Operand.tmp 84, Operand.tmp 89], argTypes := #[25, 25] }, type := 25, pos := "law.go:66", after := #[{ on := 0, ground := Ground.data }, { on := 5, ground := Ground.data }], guard := none }, { dst := some 91, op := Op.load 54 (Operand.tmp 14), type := 54, pos := "law.go:66", after := #[], guard := none }, { dst := some 92, op := Op.buildSlice 25 1 #[(0, Operand.tmp 91)], type := 25, pos := "law.go:66", after := #[{ on := 7, ground := Ground.data }], guard := none }, { dst := some 93, op := Op.call { callee := Callee.builtin Builtin.append, args := #[Operand.tmp 90, Operand.tmp 92], argTypes := #[25, 25] }, type := 25, pos := "law.go:66", after := #[{ on := 6, ground := Ground.data }, { on := 8, ground := Ground.data }, { on := 6, ground := Ground.chain }], guard := none }, { dst := some 94, op := Op.fieldAddr 27 (Operand.tmp 7) 3, type := 0, pos := "law.go:66", after := #[{ on := 0, ground := Ground.phase }, { on := 1, ground := Ground.phase }, { on := 2, ground := Ground.phase }, { on := 3, ground := Ground.phase }, { on := 4, ground := Ground.phase }, { on := 5, ground := Ground.phase }, { on := 6, ground := Ground.phase }, { on := 7, ground := Ground.phase }, { on := 8, ground := Ground.phase }, { on := 9, ground := Ground.phase }], guard := none }, { dst := none, op := Op.store 25 (Operand.tmp 94) (Operand.tmp 93), type := 0, pos := "law.go:66", after := #[{ on := 10, ground := Ground.data }, { on := 9, ground := Ground.data }, { on := 9, ground := Ground.chain }, { on := 0, ground := Ground.phase }, { on := 1, ground := Ground.phase }, { on := 2, ground := Ground.phase }, { on := 3, ground := Ground.phase }, { on := 4, ground := Ground.phase }, { on := 5, ground := Ground.phase }, { on := 6, ground := Ground.phase }, { on := 7, ground := Ground.phase }, { on := 8, ground := Ground.phase }, { on := 9, ground := Ground.phase }], guard := none }] true).wp Try.prog Q { tmps := #[x0, .pointer (some ⟨n1, 0, none⟩), x2, x3, x4, x5, .int .i64 n, .pointer (some ⟨nD, 0, none⟩), x8, x9, x10, x11, x12, x13, .pointer (some ⟨nS, 0, none⟩), x15, x16, x17, x18, x19, x20, x21, x22, x23, x24, x25, x26, x27, x28, x29, x30, x31, x32, x33, x34, x35, x36, x37, x38, x39, x40, x41, x42, x43, x44, x45, x46, x47, x48, x49, x50, x51, x52, x53, x54, x55, x56, x57, x58, x59, x60, x61, x62, x63, x64, x65, x66, x67, x68, x69, x70, x71, x72, x73, x74, x75, x76, x77, x78, x79, x80, x81, x82, x83, x84, x85, x86, x87, x88, x89, x90, x91, x92, x93, x94, x95, x96, x97, x98, x99, x100, x101, x102, x103, x104, x105, x106, x107, x108, x109, x110, x111, x112, x113, x114, x115, x116, x117, x118, x119, x120, x121, x122, x123, x124, x125, x126, x127, x128, x129, x130, x131, x132, x133, x134, x135, x136, x137, x138, x139, x140, x141, x142, x143, x144], defers := [] } w := by
  refine wp_region_noPanic ?_
  refine wp_region_held_drew (S := fun w' => Off nD w w') (by kernel_rfl) (Off.of_bl (Bl.drewN w 1)) (fun hHeld => ?_)
  have bC : Bl w w.drew := Bl.drewN w 1
  have hnD : nD < w.heap.size := hD.lt
  generalize w.drew = W0 at *
  have i1 : (n : Int) - 1 = m := by omega
  have i2 : (m : Int) ≤ (c : Int) := by omega
  have i3 : IntKind.i64.wrap (m : Int) = m := wrap_small h10
  refine wpAnyH_take (i := 1) (oi := { dst := some 85, op := Op.fieldAddr 27 (Operand.tmp 1) 3, type := 0, pos := "law.go:66", after := #[], guard := none }) (v := .pointer (some ⟨n1, 10, none⟩)) rfl (by kernel_rfl) (by kernel_rfl) (by kernel_rfl) (fun _ _ _ h => h) (Or.inl ⟨by rfl, ?_⟩) hHeld ?_
  · intro w' hSw
    go_simp
  simp only [Act.put, List.setIfInBounds_toArray, List.set_cons_zero, List.set_cons_succ]
  refine wpAnyH_take (i := 2) (oi := { dst := some 86, op := Op.load 25 (Operand.tmp 85), type := 25, pos := "law.go:66", after := #[{ on := 1, ground := Ground.data }], guard := none }) (v := .slice (some ⟨ga, oa, none⟩) n c) rfl (by kernel_rfl) (by kernel_rfl) (by kernel_rfl) (fun _ _ _ h => h) (Or.inl ⟨by rfl, ?_⟩) hHeld ?_
  · intro w' hSw
    have tq := (hSw n1 10 ne1 hn1).trans q1
    go_simp
  simp only [Act.put, List.setIfInBounds_toArray, List.set_cons_zero, List.set_cons_succ]
  refine wpAnyH_take (i := 3) (oi := { dst := some 87, op := Op.move (Operand.tmp 6), type := 3, pos := "law.go:66", after := #[], guard := none }) (v := .int .i64 n) rfl (by kernel_rfl) (by kernel_rfl) (by kernel_rfl) (fun _ _ _ h => h) (Or.inl ⟨by rfl, ?_⟩) hHeld ?_
  · intro w' hSw
    go_simp
  simp only [Act.put, List.setIfInBounds_toArray, List.set_cons_zero, List.set_cons_succ]
  refine wpAnyH_take (i := 4) (oi := { dst := some 88, op := Op.binOp BinOp.sub 3 (Operand.tmp 87) (Operand.const (Value.int IntKind.i64 1)) 3, type := 3, pos := "law.go:66", after := #[{ on := 3, ground := Ground.data }], guard := none }) (v := .int .i64 m) rfl (by kernel_rfl) (by kernel_rfl) (by kernel_rfl) (fun _ _ _ h => h) (Or.inl ⟨by rfl, ?_⟩) hHeld ?_
  · intro w' hSw
    go_simp
  simp only [Act.put, List.setIfInBounds_toArray, List.set_cons_zero, List.set_cons_succ]
  refine wpAnyH_take (i := 5) (oi := { dst := some 89, op := Op.slice 25 (Operand.tmp 86) none (some (Operand.tmp 88)) none, type := 25, pos := "law.go:66", after := #[{ on := 2, ground := Ground.data }, { on := 4, ground := Ground.data }], guard := none }) (v := .slice (some ⟨ga, oa, none⟩) m c) rfl (by kernel_rfl) (by kernel_rfl) (by kernel_rfl) (fun _ _ _ h => h) (Or.inl ⟨by rfl, ?_⟩) hHeld ?_
  · intro w' hSw
    go_simp
  simp only [Act.put, List.setIfInBounds_toArray, List.set_cons_zero, List.set_cons_succ]
  refine wpAnyH_take (i := 7) (oi := { dst := some 91, op := Op.load 54 (Operand.tmp 14), type := 54, pos := "law.go:66", after := #[], guard := none }) (v := .agg us.toArray) rfl (by kernel_rfl) (by kernel_rfl) (by kernel_rfl) (fun _ _ _ h => h) (yieldsIf_load_mid (by rfl) 54 (.tmp 14) rfl nS (0) rfl us _ (fun w' h => Off.range h neS hnS hS) Try.underlying54 rfl (by rw [lu]; exact g_size)) hHeld ?_
  simp only [Act.put, List.setIfInBounds_toArray, List.set_cons_zero, List.set_cons_succ]
  refine wpAnyH_ready (rs := [0, 8]) (by kernel_rfl) (by simp) ?_
  refine AllReadyH.cons (o := { dst := some 84, op := Op.buildSlice 25 0 #[], type := 25, pos := "law.go:66", after := #[], guard := none }) rfl (fun K hK => ?_) ?_
  · skip
    have sn : w.heap.size ≤ W0.heap.size := bC.size
    have bn := bC.trans (Bl.alloc W0 (.cells #[] 54))
    have kE : ∀ ad, (some ⟨W0.heap.size, 0, none⟩ : Option Addr) = some ad → w.heap.size ≤ ad.block := by rintro ad h; injection h with h; subst h; exact sn
    refine step_lit0 rfl 25 54 rfl grpT (hK.out _ _ (Off.of_bl bn) (fun hHeld => ?_))
    clear hK K bC
    try simp only [Act.put, List.setIfInBounds_toArray, List.set_cons_zero, List.set_cons_succ]
    generalize W0.alloc (.cells #[] 54) = W1 at *
    have bC := bn
    clear bn sn
    refine wpAnyH_ready (rs := [6, 8]) (by kernel_rfl) (by simp) ?_
    refine AllReadyH.cons (o := { dst := some 90, op := Op.call { callee := Callee.builtin Builtin.append, args := #[Operand.tmp 84, Operand.tmp 89], argTypes := #[25, 25] }, type := 25, pos := "law.go:66", after := #[{ on := 0, ground := Ground.data }, { on := 5, ground := Ground.data }], guard := none }) rfl (fun K hK => ?_) ?_
    · skip
      have sn : w.heap.size ≤ W1.heap.size := bC.size
      have hk1 : RC W1 (some ⟨ga, oa, none⟩) ks := hk.below bC
      refine step_append_apv W1 rfl (.tmp 84) (.tmp 89) _ rfl grpT (ApV.empty (w := W1) (base := W1.heap.size) (some ⟨W0.heap.size, 0, none⟩)) rfl hk1 rfl lk ok (by unfold maxLen; omega) (by omega) (Nat.le_refl _) (fun A1 c1 W2 hd => ?_)
      have hap := hd.ap
      rw [List.nil_append] at hap
      have hat := at_fresh kE sn hd.at_
      have bn := bC.trans hd.below
      have sb := sn
      have sc : W1.heap.size ≤ W2.heap.size := hd.below.size
      refine hK.out _ _ (Off.of_bl bn) (fun hHeld => ?_)
      clear hK K bC hd hk1 sn kE
      try simp only [Act.put, List.setIfInBounds_toArray, List.set_cons_zero, List.set_cons_succ]
      generalize hBs : W1.heap.size = bs at hap sb sc
      clear hBs
      have bC := bn
      clear bn
      refine wpAnyH_ready (rs := [8]) (by kernel_rfl) (by simp) ?_
      refine AllReadyH.cons (o := { dst := some 92, op := Op.buildSlice 25 1 #[(0, Operand.tmp 91)], type := 25, pos := "law.go:66", after := #[{ on := 7, ground := Ground.data }], guard := none }) rfl (fun K hK => ?_) AllReadyH.nil
      have sn : w.heap.size ≤ W2.heap.size := bC.size
      have bn := bC.trans (Bl.alloc W2 (.cells us.toArray 54))
      have kL : Blk (W2.alloc (.cells us.toArray 54)) W2.heap.size 54 us.toArray := Blk.new _ _ _
      have sc2 := Nat.le_trans sc (Bl.alloc W2 (.cells us.toArray 54)).size
      have hap2 := hap.keep (Bl.alloc W2 (.cells us.toArray 54))
      refine step_lit1 rfl 25 54 (.tmp 91) rfl grpT (by omega) us lu rfl (hK.out _ _ (Off.of_bl bn) (fun hHeld => ?_))
      clear hK K bC
      try simp only [Act.put, List.setIfInBounds_toArray, List.set_cons_zero, List.set_cons_succ]
      generalize W2.alloc (.cells us.toArray 54) = W3 at *
      have bC := bn
      replace hap := hap2
      replace sc := sc2
      clear hap2 sc2
      clear bn sn
      refine wpAnyH_ready (rs := [9]) (by kernel_rfl) (by simp) ?_
      refine AllReadyH.cons (o := { dst := some 93, op := Op.call { callee := Callee.builtin Builtin.append, args := #[Operand.tmp 90, Operand.tmp 92], argTypes := #[25, 25] }, type := 25, pos := "law.go:66", after := #[{ on := 6, ground := Ground.data }, { on := 8, ground := Ground.data }, { on := 6, ground := Ground.chain }], guard := none }) rfl (fun K hK => ?_) AllReadyH.nil
      have sn : w.heap.size ≤ W3.heap.size := bC.size
      refine step_append_apv W3 rfl (.tmp 90) (.tmp 92) _ rfl grpT hap rfl kL.rc rfl (m := 1) (by rw [lu]) ou (by unfold maxLen; omega) (by omega) sc (fun A2 c2 W4 hd => ?_)
      have hat2 := at_fresh hat sn hd.at_
      have bn : Bl w W4 := Below.trans bC (hd.below.mono sb)
      have hrc := hd.ap.rb
      have hcap := hd.ap.cap
      refine hK.out _ _ (Off.of_bl bn) (fun hHeld => ?_)
      clear hK K hd hap kL
      try simp only [Act.put, List.setIfInBounds_toArray, List.set_cons_zero, List.set_cons_succ]
      refine wpAnyH_take (i := 10) (oi := { dst := some 94, op := Op.fieldAddr 27 (Operand.tmp 7) 3, type := 0, pos := "law.go:66", after := #[{ on := 0, ground := Ground.phase }, { on := 1, ground := Ground.phase }, { on := 2, ground := Ground.phase }, { on := 3, ground := Ground.phase }, { on := 4, ground := Ground.phase }, { on := 5, ground := Ground.phase }, { on := 6, ground := Ground.phase }, { on := 7, ground := Ground.phase }, { on := 8, ground := Ground.phase }, { on := 9, ground := Ground.phase }], guard := none }) (v := .pointer (some ⟨nD, 10, none⟩)) rfl (by kernel_rfl) (by kernel_rfl) (by kernel_rfl) (fun _ _ _ h => h) (Or.inl ⟨by rfl, ?_⟩) hHeld ?_
      · intro w' hSw
        go_simp
      simp only [Act.put, List.setIfInBounds_toArray, List.set_cons_zero, List.set_cons_succ]
      have kD : Blk W4 nD 27 dv := hD.below bn hnD
      refine wpAnyH_ready (rs := [11]) (by kernel_rfl) (by simp) ?_
      refine AllReadyH.cons (o := { dst := none, op := Op.store 25 (Operand.tmp 94) (Operand.tmp 93), type := 0, pos := "law.go:66", after := #[{ on := 10, ground := Ground.data }, { on := 9, ground := Ground.data }, { on := 9, ground := Ground.chain }, { on := 0, ground := Ground.phase }, { on := 1, ground := Ground.phase }, { on := 2, ground := Ground.phase }, { on := 3, ground := Ground.phase }, { on := 4, ground := Ground.phase }, { on := 5, ground := Ground.phase }, { on := 6, ground := Ground.phase }, { on := 7, ground := Ground.phase }, { on := 8, ground := Ground.phase }, { on := 9, ground := Ground.phase }], guard := none }) rfl (fun K hK => ?_) AllReadyH.nil
      refine step_store1 rfl 25 (.tmp 94) (.tmp 93) rfl nD 10 _ rfl rfl (kD.some_ (by rw [hdv]; omega)) (kD.frozen 10) gs_one rfl rfl (hK.out _ _ (Off.set_ (Off.of_bl bn) 10 _) (fun hHeld => ?_))
      clear hK K
      try simp only [Act.put, List.setIfInBounds_toArray, List.set_cons_zero, List.set_cons_succ]
      refine wpAnyH_done (by kernel_rfl) ?_ _
      refine NoPanic.normal ?_
      exact HK A2 c2 _ _ _ _ bn hrc hat2 (by omega)
    refine AllReadyH.cons (o := { dst := some 92, op := Op.buildSlice 25 1 #[(0, Operand.tmp 91)], type := 25, pos := "law.go:66", after := #[{ on := 7, ground := Ground.data }], guard := none }) rfl (fun K hK => ?_) AllReadyH.nil
    have sn : w.heap.size ≤ W1.heap.size := bC.size
    have bn := bC.trans (Bl.alloc W1 (.cells us.toArray 54))
    have kL : Blk (W1.alloc (.cells us.toArray 54)) W1.heap.size 54 us.toArray := Blk.new _ _ _
    refine step_lit1 rfl 25 54 (.tmp 91) rfl grpT (by omega) us lu rfl (hK.out _ _ (Off.of_bl bn) (fun hHeld => ?_))
    clear hK K bC
    try simp only [Act.put, List.setIfInBounds_toArray, List.set_cons_zero, List.set_cons_succ]
    generalize W1.alloc (.cells us.toArray 54) = W2 at *
    have bC := bn
    clear bn sn
    refine wpAnyH_ready (rs := [6]) (by kernel_rfl) (by simp) ?_
    refine AllReadyH.cons (o := { dst := some 90, op := Op.call { callee := Callee.builtin Builtin.append, args := #[Operand.tmp 84, Operand.tmp 89], argTypes := #[25, 25] }, type := 25, pos := "law.go:66", after := #[{ on := 0, ground := Ground.data }, { on := 5, ground := Ground.data }], guard := none }) rfl (fun K hK => ?_) AllReadyH.nil
    have sn : w.heap.size ≤ W2.heap.size := bC.size
    have hk1 : RC W2 (some ⟨ga, oa, none⟩) ks := hk.below bC
    refine step_append_apv W2 rfl (.tmp 84) (.tmp 89) _ rfl grpT (ApV.empty (w := W2) (base := W2.heap.size) (some ⟨W0.heap.size, 0, none⟩)) rfl hk1 rfl lk ok (by unfold maxLen; omega) (by omega) (Nat.le_refl _) (fun A1 c1 W3 hd => ?_)
    have hap := hd.ap
    rw [List.nil_append] at hap
    have hat := at_fresh kE sn hd.at_
    have bn := bC.trans hd.below
    have sb := sn
    have sc : W2.heap.size ≤ W3.heap.size := hd.below.size
    have kL2 := kL.below hd.below kL.lt
    refine hK.out _ _ (Off.of_bl bn) (fun hHeld => ?_)
    clear hK K bC hd hk1 sn kE
    try simp only [Act.put, List.setIfInBounds_toArray, List.set_cons_zero, List.set_cons_succ]
    generalize hBs : W2.heap.size = bs at hap sb sc
    clear hBs
    have bC := bn
    clear bn
    replace kL := kL2
    clear kL2
    refine wpAnyH_ready (rs := [9]) (by kernel_rfl) (by simp) ?_
    refine AllReadyH.cons (o := { dst := some 93, op := Op.call { callee := Callee.builtin Builtin.append, args := #[Operand.tmp 90, Operand.tmp 92], argTypes := #[25, 25] }, type := 25, pos := "law.go:66", after := #[{ on := 6, ground := Ground.data }, { on := 8, ground := Ground.data }, { on := 6, ground := Ground.chain }], guard := none }) rfl (fun K hK => ?_) AllReadyH.nil
    have sn : w.heap.size ≤ W3.heap.size := bC.size
    refine step_append_apv W3 rfl (.tmp 90) (.tmp 92) _ rfl grpT hap rfl kL.rc rfl (m := 1) (by rw [lu]) ou (by unfold maxLen; omega) (by omega) sc (fun A2 c2 W4 hd => ?_)
    have hat2 := at_fresh hat sn hd.at_
    have bn : Bl w W4 := Below.trans bC (hd.below.mono sb)
    have hrc := hd.ap.rb
    have hcap := hd.ap.cap
    refine hK.out _ _ (Off.of_bl bn) (fun hHeld => ?_)
    clear hK K hd hap kL
    try simp only [Act.put, List.setIfInBounds_toArray, List.set_cons_zero, List.set_cons_succ]
    refine wpAnyH_take (i := 10) (oi := { dst := some 94, op := Op.fieldAddr 27 (Operand.tmp 7) 3, type := 0, pos := "law.go:66", after := #[{ on := 0, ground := Ground.phase }, { on := 1, ground := Ground.phase }, { on := 2, ground := Ground.phase }, { on := 3, ground := Ground.phase }, { on := 4, ground := Ground.phase }, { on := 5, ground := Ground.phase }, { on := 6, ground := Ground.phase }, { on := 7, ground := Ground.phase }, { on := 8, ground := Ground.phase }, { on := 9, ground := Ground.phase }], guard := none }) (v := .pointer (some ⟨nD, 10, none⟩)) rfl (by kernel_rfl) (by kernel_rfl) (by kernel_rfl) (fun _ _ _ h => h) (Or.inl ⟨by rfl, ?_⟩) hHeld ?_
    · intro w' hSw
      go_simp
    simp only [Act.put, List.setIfInBounds_toArray, List.set_cons_zero, List.set_cons_succ]
    have kD : Blk W4 nD 27 dv := hD.below bn hnD
    refine wpAnyH_ready (rs := [11]) (by kernel_rfl) (by simp) ?_
    refine AllReadyH.cons (o := { dst := none, op := Op.store 25 (Operand.tmp 94) (Operand.tmp 93), type := 0, pos := "law.go:66", after := #[{ on := 10, ground := Ground.data }, { on := 9, ground := Ground.data }, { on := 9, ground := Ground.chain }, { on := 0, ground := Ground.phase }, { on := 1, ground := Ground.phase }, { on := 2, ground := Ground.phase }, { on := 3, ground := Ground.phase }, { on := 4, ground := Ground.phase }, { on := 5, ground := Ground.phase }, { on := 6, ground := Ground.phase }, { on := 7, ground := Ground.phase }, { on := 8, ground := Ground.phase }, { on := 9, ground := Ground.phase }], guard := none }) rfl (fun K hK => ?_) AllReadyH.nil
    refine step_store1 rfl 25 (.tmp 94) (.tmp 93) rfl nD 10 _ rfl rfl (kD.some_ (by rw [hdv]; omega)) (kD.frozen 10) gs_one rfl rfl (hK.out _ _ (Off.set_ (Off.of_bl bn) 10 _) (fun hHeld => ?_))
    clear hK K
    try simp only [Act.put, List.setIfInBounds_toArray, List.set_cons_zero, List.set_cons_succ]
    refine wpAnyH_done (by kernel_rfl) ?_ _
    refine NoPanic.normal ?_
    exact HK A2 c2 _ _ _ _ bn hrc hat2 (by omega)
  refine AllReadyH.cons (o := { dst := some 92, op := Op.buildSlice 25 1 #[(0, Operand.tmp 91)], type := 25, pos := "law.go:66", after := #[{ on := 7, ground := Ground.data }], guard := none }) rfl (fun K hK => ?_) AllReadyH.nil
  have sn : w.heap.size ≤ W0.heap.size := bC.size
  have bn := bC.trans (Bl.alloc W0 (.cells us.toArray 54))
  have kL : Blk (W0.alloc (.cells us.toArray 54)) W0.heap.size 54 us.toArray := Blk.new _ _ _
  refine step_lit1 rfl 25 54 (.tmp 91) rfl grpT (by omega) us lu rfl (hK.out _ _ (Off.of_bl bn) (fun hHeld => ?_))
  clear hK K bC
  try simp only [Act.put, List.setIfInBounds_toArray, List.set_cons_zero, List.set_cons_succ]
  generalize W0.alloc (.cells us.toArray 54) = W1 at *
  have bC := bn
  clear bn sn
  refine wpAnyH_ready (rs := [0]) (by kernel_rfl) (by simp) ?_
  refine AllReadyH.cons (o := { dst := some 84, op := Op.buildSlice 25 0 #[], type := 25, pos := "law.go:66", after := #[], guard := none }) rfl (fun K hK => ?_) AllReadyH.nil
  have sn : w.heap.size ≤ W1.heap.size := bC.size
  have bn := bC.trans (Bl.alloc W1 (.cells #[] 54))
  have kE : ∀ ad, (some ⟨W1.heap.size, 0, none⟩ : Option Addr) = some ad → w.heap.size ≤ ad.block := by rintro ad h; injection h with h; subst h; exact sn
  have kL2 := kL.alloc (.cells #[] 54)
  refine step_lit0 rfl 25 54 rfl grpT (hK.out _ _ (Off.of_bl bn) (fun hHeld => ?_))
  clear hK K bC
  try simp only [Act.put, List.setIfInBounds_toArray, List.set_cons_zero, List.set_cons_succ]
  generalize W1.alloc (.cells #[] 54) = W2 at *
  have bC := bn
  replace kL := kL2
  clear kL2
  clear bn sn
  refine wpAnyH_ready (rs := [6]) (by kernel_rfl) (by simp) ?_
  refine AllReadyH.cons (o := { dst := some 90, op := Op.call { callee := Callee.builtin Builtin.append, args := #[Operand.tmp 84, Operand.tmp 89], argTypes := #[25, 25] }, type := 25, pos := "law.go:66", after := #[{ on := 0, ground := Ground.data }, { on := 5, ground := Ground.data }], guard := none }) rfl (fun K hK => ?_) AllReadyH.nil
  have sn : w.heap.size ≤ W2.heap.size := bC.size
  have hk1 : RC W2 (some ⟨ga, oa, none⟩) ks := hk.below bC
  refine step_append_apv W2 rfl (.tmp 84) (.tmp 89) _ rfl grpT (ApV.empty (w := W2) (base := W2.heap.size) (some ⟨W1.heap.size, 0, none⟩)) rfl hk1 rfl lk ok (by unfold maxLen; omega) (by omega) (Nat.le_refl _) (fun A1 c1 W3 hd => ?_)
  have hap := hd.ap
  rw [List.nil_append] at hap
  have hat := at_fresh kE sn hd.at_
  have bn := bC.trans hd.below
  have sb := sn
  have sc : W2.heap.size ≤ W3.heap.size := hd.below.size
  have kL2 := kL.below hd.below kL.lt
  refine hK.out _ _ (Off.of_bl bn) (fun hHeld => ?_)
  clear hK K bC hd hk1 sn kE
  try simp only [Act.put, List.setIfInBounds_toArray, List.set_cons_zero, List.set_cons_succ]
  generalize hBs : W2.heap.size = bs at hap sb sc
  clear hBs
  have bC := bn
  clear bn
  replace kL := kL2
  clear kL2
  refine wpAnyH_ready (rs := [9]) (by kernel_rfl) (by simp) ?_
  refine AllReadyH.cons (o := { dst := some 93, op := Op.call { callee := Callee.builtin Builtin.append, args := #[Operand.tmp 90, Operand.tmp 92], argTypes := #[25, 25] }, type := 25, pos := "law.go:66", after := #[{ on := 6, ground := Ground.data }, { on := 8, ground := Ground.data }, { on := 6, ground := Ground.chain }], guard := none }) rfl (fun K hK => ?_) AllReadyH.nil
  have sn : w.heap.size ≤ W3.heap.size := bC.size
  refine step_append_apv W3 rfl (.tmp 90) (.tmp 92) _ rfl grpT hap rfl kL.rc rfl (m := 1) (by rw [lu]) ou (by unfold maxLen; omega) (by omega) sc (fun A2 c2 W4 hd => ?_)
  have hat2 := at_fresh hat sn hd.at_
  have bn : Bl w W4 := Below.trans bC (hd.below.mono sb)
  have hrc := hd.ap.rb
  have hcap := hd.ap.cap
  refine hK.out _ _ (Off.of_bl bn) (fun hHeld => ?_)
  clear hK K hd hap kL
  try simp only [Act.put, List.setIfInBounds_toArray, List.set_cons_zero, List.set_cons_succ]
  refine wpAnyH_take (i := 10) (oi := { dst := some 94, op := Op.fieldAddr 27 (Operand.tmp 7) 3, type := 0, pos := "law.go:66", after := #[{ on := 0, ground := Ground.phase }, { on := 1, ground := Ground.phase }, { on := 2, ground := Ground.phase }, { on := 3, ground := Ground.phase }, { on := 4, ground := Ground.phase }, { on := 5, ground := Ground.phase }, { on := 6, ground := Ground.phase }, { on := 7, ground := Ground.phase }, { on := 8, ground := Ground.phase }, { on := 9, ground := Ground.phase }], guard := none }) (v := .pointer (some ⟨nD, 10, none⟩)) rfl (by kernel_rfl) (by kernel_rfl) (by kernel_rfl) (fun _ _ _ h => h) (Or.inl ⟨by rfl, ?_⟩) hHeld ?_
  · intro w' hSw
    go_simp
  simp only [Act.put, List.setIfInBounds_toArray, List.set_cons_zero, List.set_cons_succ]
  have kD : Blk W4 nD 27 dv := hD.below bn hnD
  refine wpAnyH_ready (rs := [11]) (by kernel_rfl) (by simp) ?_
  refine AllReadyH.cons (o := { dst := none, op := Op.store 25 (Operand.tmp 94) (Operand.tmp 93), type := 0, pos := "law.go:66", after := #[{ on := 10, ground := Ground.data }, { on := 9, ground := Ground.data }, { on := 9, ground := Ground.chain }, { on := 0, ground := Ground.phase }, { on := 1, ground := Ground.phase }, { on := 2, ground := Ground.phase }, { on := 3, ground := Ground.phase }, { on := 4, ground := Ground.phase }, { on := 5, ground := Ground.phase }, { on := 6, ground := Ground.phase }, { on := 7, ground := Ground.phase }, { on := 8, ground := Ground.phase }, { on := 9, ground := Ground.phase }], guard := none }) rfl (fun K hK => ?_) AllReadyH.nil
  refine step_store1 rfl 25 (.tmp 94) (.tmp 93) rfl nD 10 _ rfl rfl (kD.some_ (by rw [hdv]; omega)) (kD.frozen 10) gs_one rfl rfl (hK.out _ _ (Off.set_ (Off.of_bl bn) 10 _) (fun hHeld => ?_))
  clear hK K
  try simp only [Act.put, List.setIfInBounds_toArray, List.set_cons_zero, List.set_cons_succ]
  refine wpAnyH_done (by kernel_rfl) ?_ _
  refine NoPanic.normal ?_
  exact HK A2 c2 _ _ _ _ bn hrc hat2 (by omega)

set_option maxRecDepth 100000 in
set_option maxHeartbeats 8000000 in
theorem reg18 {x0 x2 x3 x4 x5 x7 x9 x10 x11 x12 x13 x14 x16 x17 x18 x19 x20 x21 x22 x23 x24 x25 x26 x27 x28 x29 x30 x31 x32 x33 x34 x35 x36 x37 x38 x39 x40 x41 x42 x43 x44 x45 x46 x47 x48 x49 x50 x51 x52 x53 x54 x55 x56 x57 x58 x59 x60 x61 x62 x63 x64 x65 x66 x67 x68 x69 x70 x71 x72 x73 x74 x75 x76 x77 x78 x79 x80 x81 x82 x83 x84 x85 x86 x87 x88 x89 x90 x91 x92 x93 x94 x95 x96 x97 x98 x99 x100 x101 x102 x103 x104 x105 x106 x107 x108 x109 x110 x111 x112 x113 x114 x115 x116 x117 x118 x119 x120 x121 x122 x123 x124 x125 x126 x127 x128 x129 x130 x131 x132 x133 x134 x135 x136 x137 x138 x139 x140 x141 x142 x143 x144 : Value} (w : World) (n1 nS nD ga oa n m c : Nat) (ks us : List Value) (dv : Array Value) (Q : Exit → Act → World → Prop)
    (hn1 : n1 < w.heap.size) (hnS : nS < w.heap.size) (ne1 : n1 ≠ nD) (neS : nS ≠ nD) (hn : n = m + 1) (hm : m + 1 ≤ c)
    (q1 : w.cell? ⟨n1, 10, none⟩ = some (.slice (some ⟨ga, oa, none⟩) n c)) (hS : w.rangeAt nS 0 us)
    (lu : us.length = 23) (ou : ∀ u ∈ us, u.oneCell' = true) (hk : RC w (some ⟨ga, oa, none⟩) ks) (lk : ks.length = m * 23) (ok : ∀ u ∈ ks, u.oneCell' = true) (h10 : m ≤ 10)
    (hD : Blk w nD 27 dv) (hdv : dv.size = 11)
    (HK : ∀ (A2 : Option Addr) (c2 : Nat) (W : World) (v95 v101 v103 : Value), Bl w W → RC W A2 (ks ++ us) → (∀ ad, A2 = some ad → w.heap.size ≤ ad.block) → m + 1 ≤ c2 →
      Q .normal { tmps := #[x0, .pointer (some ⟨n1, 0, none⟩), x2, x3, x4, x5, .int .i64 n, x7, .pointer (some ⟨nD, 0, none⟩), x9, x10, x11, x12, x13, x14, .pointer (some ⟨nS, 0, none⟩), x16, x17, x18, x19, x20, x21, x22, x23, x24, x25, x26, x27, x28, x29, x30, x31, x32, x33, x34, x35, x36, x37, x38, x39, x40, x41, x42, x43, x44, x45, x46, x47, x48, x49, x50, x51, x52, x53, x54, x55, x56, x57, x58, x59, x60, x61, x62, x63, x64, x65, x66, x67, x68, x69, x70, x71, x72, x73, x74, x75, x76, x77, x78, x79, x80, x81, x82, x83, x84, x85, x86, x87, x88, x89, x90, x91, x92, x93, x94, v95, .pointer (some ⟨n1, 10, none⟩), .slice (some ⟨ga, oa, none⟩) n c, .int .i64 n, .int .i64 m, .slice (some ⟨ga, oa, none⟩) m c, v101, .agg us.toArray, v103, .slice A2 (0 + m + 1) c2, .pointer (some ⟨nD, 10, none⟩), x106, x107, x108, x109, x110, x111, x112, x113, x114, x115, x116, x117, x118, x119, x120, x121, x122, x123, x124, x125, x126, x127, x128, x129, x130, x131, x132, x133, x134, x135, x136, x137, x138, x139, x140, x141, x142, x143, x144], defers := [] } (W.setCell ⟨nD, 10, none⟩ (.slice A2 (0 + m + 1) c2))) :
    (Code.region 18 #[{ dst := some 95, op := Op.buildSlice 25 0 #[], type := 25, pos := "law.go:67", after := #[], guard := none }, { dst := some 96, op := Op.fieldAddr 27 (Operand.tmp 1) 3, type := 0, pos := "law.go:67", after := #[], guard := none }, { dst := some 97, op := Op.load 25 (Operand.tmp 96), type := 25, pos := "law.go:67", after := #[{ on := 1, ground := Ground.data }], guard := none }, { dst := some 98, op := Op.move (Operand.tmp 6), type := 3, pos := "law.go:67", after := #[], guard := none }, { dst := some 99, op := Op.binOp BinOp.sub 3 (Operand.tmp 98) (Operand.const (Value.int IntKind.i64 1)) 3, type := 3, pos := "law.go:67", after := #[{ on := 3, ground := Ground.data }], guard := none }, { dst := some 100, op := Op.slice 25 (Operand.tmp 97) none (some (Operand.tmp 99)) none, type := 25, pos := "law.go:67", after := #[{ on := 2, ground := Ground.data }, { on := 4, ground := Ground.data }], guard := none }, { dst := some 101, op := Op.call { callee := Callee.builtin Builtin.append, args := #[Operand.tmp 95, Operand.tmp 100], argTypes := #[25, 25] }, type := 25, pos := "law.go:67", after := #[{ on := 0, ground := Ground.data }, { on := 5, ground := Ground.data }], guard := none }, { dst := some 102, op := Op.load 54 (Operand.tmp 15), type := 54, pos := "law.go:67", after := #[], guard := none }, { dst := some 103, op := Op.buildSlice 25 1 #[(0, Operand.tmp 102)], type := 25, pos := "law.go:67", after := #[{ on := 7, ground := Ground.data }], guard := none }, { dst := some 104, op := Op.call { callee := Callee.builtin Builtin.append, args := #[Operand.tmp 101, Operand.tmp 103], argTypes := #[25, 25] }, type := 25, pos := "law.go:67", after := #[{ on := 6, ground := Ground.data }, { on := 8, ground := Ground.data }, { on := 6, ground := Ground.chain }], guard := none }, { dst := some 105, op := Op.fieldAddr 27 (Operand.tmp 8) 3, type := 0, pos := "law.go:67", after := #[{ on := 0, ground := Ground.phase }, { on := 1, ground := Ground.phase }, { on := 2, ground := Ground.phase }, { on := 3, ground := Ground.phase }, { on := 4, ground := Ground.phase }, { on := 5, ground := Ground.phase }, { on := 6, ground := Ground.phase }, { on := 7, ground := Ground.phase }, { on := 8, ground := Ground.phase }, { on := 9, ground := Ground.phase }], guard := none }, { dst := none, op := Op.store 25 (Operand.tmp 105) (Operand.tmp 104), type := 0, pos := "law.go:67", after := #[{ on := 10, ground := Ground.data }, { on := 9, ground := Ground.data }, { on := 9, ground := Ground.chain }, { on := 0, ground := Ground.phase }, { on := 1, ground := Ground.phase }, { on := 2, ground := Ground.phase }, { on := 3, ground := Ground.phase }, { on := 4, ground := Ground.phase }, { on := 5, ground := Ground.phase }, { on := 6, ground := Ground.phase }, { on := 7, ground := Ground.phase }, { on := 8, ground := Ground.phase }, { on := 9, ground := Ground.phase }], guard := none }] true).wp Try.prog Q { tmps := #[x0, .pointer (some ⟨n1, 0, none⟩), x2, x3, x4, x5, .int .i64 n, x7, .pointer (some ⟨nD, 0, none⟩), x9, x10, x11, x12, x13, x14, .pointer (some ⟨nS, 0, none⟩), x16, x17, x18, x19, x20, x21, x22, x23, x24, x25, x26, x27, x28, x29, x30, x31, x32, x33, x34, x35, x36, x37, x38, x39, x40, x41, x42, x43, x44, x45, x46, x47, x48, x49, x50, x51, x52, x53, x54, x55, x56, x57, x58, x59, x60, x61, x62, x63, x64, x65, x66, x67, x68, x69, x70, x71, x72, x73, x74, x75, x76, x77, x78, x79, x80, x81, x82, x83, x84, x85, x86, x87, x88, x89, x90, x91, x92, x93, x94, x95, x96, x97, x98, x99, x100, x101, x102, x103, x104, x105, x106, x107, x108, x109, x110, x111, x112, x113, x114, x115, x116, x117, x118, x119, x120, x121, x122, x123, x124, x125, x126, x127, x128, x129, x130, x131, x132, x133, x134, x135, x136, x137, x138, x139, x140, x141, x142, x143, x144], defers := [] } w := by
  refine wp_region_noPanic ?_
  refine wp_region_held_drew (S := fun w' => Off nD w w') (by kernel_rfl) (Off.of_bl (Bl.drewN w 1)) (fun hHeld => ?_)
  have bC : Bl w w.drew := Bl.drewN w 1
  have hnD : nD < w.heap.size := hD.lt
  generalize w.drew = W0 at *
  have i1 : (n : Int) - 1 = m := by omega
  have i2 : (m : Int) ≤ (c : Int) := by omega
  have i3 : IntKind.i64.wrap (m : Int) = m := wrap_small h10
  refine wpAnyH_take (i := 1) (oi := { dst := some 96, op := Op.fieldAddr 27 (Operand.tmp 1) 3, type := 0, pos := "law.go:67", after := #[], guard := none }) (v := .pointer (some ⟨n1, 10, none⟩)) rfl (by kernel_rfl) (by kernel_rfl) (by kernel_rfl) (fun _ _ _ h => h) (Or.inl ⟨by rfl, ?_⟩) hHeld ?_
  · intro w' hSw
    go_simp
  simp only [Act.put, List.setIfInBounds_toArray, List.set_cons_zero, List.set_cons_succ]
  refine wpAnyH_take (i := 2) (oi := { dst := some 97, op := Op.load 25 (Operand.tmp 96), type := 25, pos := "law.go:67", after := #[{ on := 1, ground := Ground.data }], guard := none }) (v := .slice (some ⟨ga, oa, none⟩) n c) rfl (by kernel_rfl) (by kernel_rfl) (by kernel_rfl) (fun _ _ _ h => h) (Or.inl ⟨by rfl, ?_⟩) hHeld ?_
  · intro w' hSw
    have tq := (hSw n1 10 ne1 hn1).trans q1
    go_simp
  simp only [Act.put, List.setIfInBounds_toArray, List.set_cons_zero, List.set_cons_succ]
  refine wpAnyH_take (i := 3) (oi := { dst := some 98, op := Op.move (Operand.tmp 6), type := 3, pos := "law.go:67", after := #[], guard := none }) (v := .int .i64 n) rfl (by kernel_rfl) (by kernel_rfl) (by kernel_rfl) (fun _ _ _ h => h) (Or.inl ⟨by rfl, ?_⟩) hHeld ?_
  · intro w' hSw
    go_simp
  simp only [Act.put, List.setIfInBounds_toArray, List.set_cons_zero, List.set_cons_succ]
  refine wpAnyH_take (i := 4) (oi := { dst := some 99, op := Op.binOp BinOp.sub 3 (Operand.tmp 98) (Operand.const (Value.int IntKind.i64 1)) 3, type := 3, pos := "law.go:67", after := #[{ on := 3, ground := Ground.data }], guard := none }) (v := .int .i64 m) rfl (by kernel_rfl) (by kernel_rfl) (by kernel_rfl) (fun _ _ _ h => h) (Or.inl ⟨by rfl, ?_⟩) hHeld ?_
  · intro w' hSw
    go_simp
  simp only [Act.put, List.setIfInBounds_toArray, List.set_cons_zero, List.set_cons_succ]
  refine wpAnyH_take (i := 5) (oi := { dst := some 100, op := Op.slice 25 (Operand.tmp 97) none (some (Operand.tmp 99)) none, type := 25, pos := "law.go:67", after := #[{ on := 2, ground := Ground.data }, { on := 4, ground := Ground.data }], guard := none }) (v := .slice (some ⟨ga, oa, none⟩) m c) rfl (by kernel_rfl) (by kernel_rfl) (by kernel_rfl) (fun _ _ _ h => h) (Or.inl ⟨by rfl, ?_⟩) hHeld ?_
  · intro w' hSw
    go_simp
  simp only [Act.put, List.setIfInBounds_toArray, List.set_cons_zero, List.set_cons_succ]
  refine wpAnyH_take (i := 7) (oi := { dst := some 102, op := Op.load 54 (Operand.tmp 15), type := 54, pos := "law.go:67", after := #[], guard := none }) (v := .agg us.toArray) rfl (by kernel_rfl) (by kernel_rfl) (by kernel_rfl) (fun _ _ _ h => h) (yieldsIf_load_mid (by rfl) 54 (.tmp 15) rfl nS (0) rfl us _ (fun w' h => Off.range h neS hnS hS) Try.underlying54 rfl (by rw [lu]; exact g_size)) hHeld ?_
  simp only [Act.put, List.setIfInBounds_toArray, List.set_cons_zero, List.set_cons_succ]
  refine wpAnyH_ready (rs := [0, 8]) (by kernel_rfl) (by simp) ?_
  refine AllReadyH.cons (o := { dst := some 95, op := Op.buildSlice 25 0 #[], type := 25, pos := "law.go:67", after := #[], guard := none }) rfl (fun K hK => ?_) ?_
  · skip
    have sn : w.heap.size ≤ W0.heap.size := bC.size
    have bn := bC.trans (Bl.alloc W0 (.cells #[] 54))
    have kE : ∀ ad, (some ⟨W0.heap.size, 0, none⟩ : Option Addr) = some ad → w.heap.size ≤ ad.block := by rintro ad h; injection h with h; subst h; exact sn
    refine step_lit0 rfl 25 54 rfl grpT (hK.out _ _ (Off.of_bl bn) (fun hHeld => ?_))
    clear hK K bC
    try simp only [Act.put, List.setIfInBounds_toArray, List.set_cons_zero, List.set_cons_succ]
    generalize W0.alloc (.cells #[] 54) = W1 at *
    have bC := bn
    clear bn sn
    refine wpAnyH_ready (rs := [6, 8]) (by kernel_rfl) (by simp) ?_
    refine AllReadyH.cons (o := { dst := some 101, op := Op.call { callee := Callee.builtin Builtin.append, args := #[Operand.tmp 95, Operand.tmp 100], argTypes := #[25, 25] }, type := 25, pos := "law.go:67", after := #[{ on := 0, ground := Ground.data }, { on := 5, ground := Ground.data }], guard := none }) rfl (fun K hK => ?_) ?_
    · skip
      have sn : w.heap.size ≤ W1.heap.size := bC.size
      have hk1 : RC W1 (some ⟨ga, oa, none⟩) ks := hk.below bC
      refine step_append_apv W1 rfl (.tmp 95) (.tmp 100) _ rfl grpT (ApV.empty (w := W1) (base := W1.heap.size) (some ⟨W0.heap.size, 0, none⟩)) rfl hk1 rfl lk ok (by unfold maxLen; omega) (by omega) (Nat.le_refl _) (fun A1 c1 W2 hd => ?_)
      have hap := hd.ap
      rw [List.nil_append] at hap
      have hat := at_fresh kE sn hd.at_
      have bn := bC.trans hd.below
      have sb := sn
      have sc : W1.heap.size ≤ W2.heap.size := hd.below.size
      refine hK.out _ _ (Off.of_bl bn) (fun hHeld => ?_)
      clear hK K bC hd hk1 sn kE
      try simp only [Act.put, List.setIfInBounds_toArray, List.set_cons_zero, List.set_cons_succ]
      generalize hBs : W1.heap.size = bs at hap sb sc
      clear hBs
      have bC := bn
      clear bn
      refine wpAnyH_ready (rs := [8]) (by kernel_rfl) (by simp) ?_
      refine AllReadyH.cons (o := { dst := some 103, op := Op.buildSlice 25 1 #[(0, Operand.tmp 102)], type := 25, pos := "law.go:67", after := #[{ on := 7, ground := Ground.data }], guard := none }) rfl (fun K hK => ?_) AllReadyH.nil
      have sn : w.heap.size ≤ W2.heap.size := bC.size
      have bn := bC.trans (Bl.alloc W2 (.cells us.toArray 54))
      have kL : Blk (W2.alloc (.cells us.toArray 54)) W2.heap.size 54 us.toArray := Blk.new _ _ _
      have sc2 := Nat.le_trans sc (Bl.alloc W2 (.cells us.toArray 54)).size
      have hap2 := hap.keep (Bl.alloc W2 (.cells us.toArray 54))
      refine step_lit1 rfl 25 54 (.tmp 102) rfl grpT (by omega) us lu rfl (hK.out _ _ (Off.of_bl bn) (fun hHeld => ?_))
      clear hK K bC
      try simp only [Act.put, List.setIfInBounds_toArray, List.set_cons_zero, List.set_cons_succ]
      generalize W2.alloc (.cells us.toArray 54) = W3 at *
      have bC := bn
      replace hap := hap2
      replace sc := sc2
      clear hap2 sc2
      clear bn sn
      refine wpAnyH_ready (rs := [9]) (by kernel_rfl) (by simp) ?_
      refine AllReadyH.cons (o := { dst := some 104, op := Op.call { callee := Callee.builtin Builtin.append, args := #[Operand.tmp 101, Operand.tmp 103], argTypes := #[25, 25] }, type := 25, pos := "law.go:67", after := #[{ on := 6, ground := Ground.data }, { on := 8, ground := Ground.data }, { on := 6, ground := Ground.chain }], guard := none }) rfl (fun K hK => ?_) AllReadyH.nil
      have sn : w.heap.size ≤ W3.heap.size := bC.size
      refine step_append_apv W3 rfl (.tmp 101) (.tmp 103) _ rfl grpT hap rfl kL.rc rfl (m := 1) (by rw [lu]) ou (by unfold maxLen; omega) (by omega) sc (fun A2 c2 W4 hd => ?_)
      have hat2 := at_fresh hat sn hd.at_
      have bn : Bl w W4 := Below.trans bC (hd.below.mono sb)
      have hrc := hd.ap.rb
      have hcap := hd.ap.cap
      refine hK.out _ _ (Off.of_bl bn) (fun hHeld => ?_)
      clear hK K hd hap kL
      try simp only [Act.put, List.setIfInBounds_toArray, List.set_cons_zero, List.set_cons_succ]
      refine wpAnyH_take (i := 10) (oi := { dst := some 105, op := Op.fieldAddr 27 (Operand.tmp 8) 3, type := 0, pos := "law.go:67", after := #[{ on := 0, ground := Ground.phase }, { on := 1, ground := Ground.phase }, { on := 2, ground := Ground.phase }, { on := 3, ground := Ground.phase }, { on := 4, ground := Ground.phase }, { on := 5, ground := Ground.phase }, { on := 6, ground := Ground.phase }, { on := 7, ground := Ground.phase }, { on := 8, ground := Ground.phase }, { on := 9, ground := Ground.phase }], guard := none }) (v := .pointer (some ⟨nD, 10, none⟩)) rfl (by kernel_rfl) (by kernel_rfl) (by kernel_rfl) (fun _ _ _ h => h) (Or.inl ⟨by rfl, ?_⟩) hHeld ?_
      · intro w' hSw
        go_simp
      simp only [Act.put, List.setIfInBounds_toArray, List.set_cons_zero, List.set_cons_succ]
      have kD : Blk W4 nD 27 dv := hD.below bn hnD
      refine wpAnyH_ready (rs := [11]) (by kernel_rfl) (by simp) ?_
      refine AllReadyH.cons (o := { dst := none, op := Op.store 25 (Operand.tmp 105) (Operand.tmp 104), type := 0, pos := "law.go:67", after := #[{ on := 10, ground := Ground.data }, { on := 9, ground := Ground.data }, { on := 9, ground := Ground.chain }, { on := 0, ground := Ground.phase }, { on := 1, ground := Ground.phase }, { on := 2, ground := Ground.phase }, { on := 3, ground := Ground.phase }, { on := 4, ground := Ground.phase }, { on := 5, ground := Ground.phase }, { on := 6, ground := Ground.phase }, { on := 7, ground := Ground.phase }, { on := 8, ground := Ground.phase }, { on := 9, ground := Ground.phase }], guard := none }) rfl (fun K hK => ?_) AllReadyH.nil
      refine step_store1 rfl 25 (.tmp 105) (.tmp 104) rfl nD 10 _ rfl rfl (kD.some_ (by rw [hdv]; omega)) (kD.frozen 10) gs_one rfl rfl (hK.out _ _ (Off.set_ (Off.of_bl bn) 10 _) (fun hHeld => ?_))
      clear hK K
      try simp only [Act.put, List.setIfInBounds_toArray, List.set_cons_zero, List.set_cons_succ]
      refine wpAnyH_done (by kernel_rfl) ?_ _
      refine NoPanic.normal ?_
      exact HK A2 c2 _ _ _ _ bn hrc hat2 (by omega)
    refine AllReadyH.cons (o := { dst := some 103, op := Op.buildSlice 25 1 #[(0, Operand.tmp 102)], type := 25, pos := "law.go:67", after := #[{ on := 7, ground := Ground.data }], guard := none }) rfl (fun K hK => ?_) AllReadyH.nil
    have sn : w.heap.size ≤ W1.heap.size := bC.size
    have bn := bC.trans (Bl.alloc W1 (.cells us.toArray 54))
    have kL : Blk (W1.alloc (.cells us.toArray 54)) W1.heap.size 54 us.toArray := Blk.new _ _ _
    refine step_lit1 rfl 25 54 (.tmp 102) rfl grpT (by omega) us lu rfl (hK.out _ _ (Off.of_bl bn) (fun hHeld => ?_))
    clear hK K bC
    try simp only [Act.put, List.setIfInBounds_toArray, List.set_cons_zero, List.set_cons_succ]
    generalize W1.alloc (.cells us.toArray 54) = W2 at *
    have bC := bn
    clear bn sn
    refine wpAnyH_ready (rs := [6]) (by kernel_rfl) (by simp) ?_
    refine AllReadyH.cons (o := { dst := some 101, op := Op.call { callee := Callee.builtin Builtin.append, args := #[Operand.tmp 95, Operand.tmp 100], argTypes := #[25, 25] }, type := 25, pos := "law.go:67", after := #[{ on := 0, ground := Ground.data }, { on := 5, ground := Ground.data }], guard := none }) rfl (fun K hK => ?_) AllReadyH.nil
    have sn : w.heap.size ≤ W2.heap.size := bC.size
    have hk1 : RC W2 (some ⟨ga, oa, none⟩) ks := hk.below bC
    refine step_append_apv W2 rfl (.tmp 95) (.tmp 100) _ rfl grpT (ApV.empty (w := W2) (base := W2.heap.size) (some ⟨W0.heap.size, 0, none⟩)) rfl hk1 rfl lk ok (by unfold maxLen; omega) (by omega) (Nat.le_refl _) (fun A1 c1 W3 hd => ?_)
    have hap := hd.ap
    rw [List.nil_append] at hap
    have hat := at_fresh kE sn hd.at_
    have bn := bC.trans hd.below
    have sb := sn
    have sc : W2.heap.size ≤ W3.heap.size := hd.below.size
    have kL2 := kL.below hd.below kL.lt
    refine hK.out _ _ (Off.of_bl bn) (fun hHeld => ?_)
    clear hK K bC hd hk1 sn kE
    try simp only [Act.put, List.setIfInBounds_toArray, List.set_cons_zero, List.set_cons_succ]
    generalize hBs : W2.heap.size = bs at hap sb sc
    clear hBs
    have bC := bn
    clear bn
    replace kL := kL2
    clear kL2
    refine wpAnyH_ready (rs := [9]) (by kernel_rfl) (by simp) ?_
    refine AllReadyH.cons (o := { dst := some 104, op := Op.call { callee := Callee.builtin Builtin.append, args := #[Operand.tmp 101, Operand.tmp 103], argTypes := #[25, 25] }, type := 25, pos := "law.go:67", after := #[{ on := 6, ground := Ground.data }, { on := 8, ground := Ground.data }, { on := 6, ground := Ground.chain }], guard := none }) rfl (fun K hK => ?_) AllReadyH.nil
    have sn : w.heap.size ≤ W3.heap.size := bC.size
    refine step_append_apv W3 rfl (.tmp 101) (.tmp 103) _ rfl grpT hap rfl kL.rc rfl (m := 1) (by rw [lu]) ou (by unfold maxLen; omega) (by omega) sc (fun A2 c2 W4 hd => ?_)
    have hat2 := at_fresh hat sn hd.at_
    have bn : Bl w W4 := Below.trans bC (hd.below.mono sb)
    have hrc := hd.ap.rb
    have hcap := hd.ap.cap
    refine hK.out _ _ (Off.of_bl bn) (fun hHeld => ?_)
    clear hK K hd hap kL
    try simp only [Act.put, List.setIfInBounds_toArray, List.set_cons_zero, List.set_cons_succ]
    refine wpAnyH_take (i := 10) (oi := { dst := some 105, op := Op.fieldAddr 27 (Operand.tmp 8) 3, type := 0, pos := "law.go:67", after := #[{ on := 0, ground := Ground.phase }, { on := 1, ground := Ground.phase }, { on := 2, ground := Ground.phase }, { on := 3, ground := Ground.phase }, { on := 4, ground := Ground.phase }, { on := 5, ground := Ground.phase }, { on := 6, ground := Ground.phase }, { on := 7, ground := Ground.phase }, { on := 8, ground := Ground.phase }, { on := 9, ground := Ground.phase }], guard := none }) (v := .pointer (some ⟨nD, 10, none⟩)) rfl (by kernel_rfl) (by kernel_rfl) (by kernel_rfl) (fun _ _ _ h => h) (Or.inl ⟨by rfl, ?_⟩) hHeld ?_
    · intro w' hSw
      go_simp
    simp only [Act.put, List.setIfInBounds_toArray, List.set_cons_zero, List.set_cons_succ]
    have kD : Blk W4 nD 27 dv := hD.below bn hnD
    refine wpAnyH_ready (rs := [11]) (by kernel_rfl) (by simp) ?_
    refine AllReadyH.cons (o := { dst := none, op := Op.store 25 (Operand.tmp 105) (Operand.tmp 104), type := 0, pos := "law.go:67", after := #[{ on := 10, ground := Ground.data }, { on := 9, ground := Ground.data }, { on := 9, ground := Ground.chain }, { on := 0, ground := Ground.phase }, { on := 1, ground := Ground.phase }, { on := 2, ground := Ground.phase }, { on := 3, ground := Ground.phase }, { on := 4, ground := Ground.phase }, { on := 5, ground := Ground.phase }, { on := 6, ground := Ground.phase }, { on := 7, ground := Ground.phase }, { on := 8, ground := Ground.phase }, { on := 9, ground := Ground.phase }], guard := none }) rfl (fun K hK => ?_) AllReadyH.nil
    refine step_store1 rfl 25 (.tmp 105) (.tmp 104) rfl nD 10 _ rfl rfl (kD.some_ (by rw [hdv]; omega)) (kD.frozen 10) gs_one rfl rfl (hK.out _ _ (Off.set_ (Off.of_bl bn) 10 _) (fun hHeld => ?_))
    clear hK K
    try simp only [Act.put, List.setIfInBounds_toArray, List.set_cons_zero, List.set_cons_succ]
    refine wpAnyH_done (by kernel_rfl) ?_ _
    refine NoPanic.normal ?_
    exact HK A2 c2 _ _ _ _ bn hrc hat2 (by omega)
  refine AllReadyH.cons (o := { dst := some 103, op := Op.buildSlice 25 1 #[(0, Operand.tmp 102)], type := 25, pos := "law.go:67", after := #[{ on := 7, ground := Ground.data }], guard := none }) rfl (fun K hK => ?_) AllReadyH.nil
  have sn : w.heap.size ≤ W0.heap.size := bC.size
  have bn := bC.trans (Bl.alloc W0 (.cells us.toArray 54))
  have kL : Blk (W0.alloc (.cells us.toArray 54)) W0.heap.size 54 us.toArray := Blk.new _ _ _
  refine step_lit1 rfl 25 54 (.tmp 102) rfl grpT (by omega) us lu rfl (hK.out _ _ (Off.of_bl bn) (fun hHeld => ?_))
  clear hK K bC
  try simp only [Act.put, List.setIfInBounds_toArray, List.set_cons_zero, List.set_cons_succ]
  generalize W0.alloc (.cells us.toArray 54) = W1 at *
  have bC := bn
  clear bn sn
  refine wpAnyH_ready (rs := [0]) (by kernel_rfl) (by simp) ?_
  refine AllReadyH.cons (o := { dst := some 95, op := Op.buildSlice 25 0 #[], type := 25, pos := "law.go:67", after := #[], guard := none }) rfl (fun K hK => ?_) AllReadyH.nil
  have sn : w.heap.size ≤ W1.heap.size := bC.size
  have bn := bC.trans (Bl.alloc W1 (.cells #[] 54))
  have kE : ∀ ad, (some ⟨W1.heap.size, 0, none⟩ : Option Addr) = some ad → w.heap.size ≤ ad.block := by rintro ad h; injection h with h; subst h; exact sn
  have kL2 := kL.alloc (.cells #[] 54)
  refine step_lit0 rfl 25 54 rfl grpT (hK.out _ _ (Off.of_bl bn) (fun hHeld => ?_))
  clear hK K bC
  try simp only [Act.put, List.setIfInBounds_toArray, List.set_cons_zero, List.set_cons_succ]
  generalize W1.alloc (.cells #[] 54) = W2 at *
  have bC := bn
  replace kL := kL2
  clear kL2
  clear bn sn
  refine wpAnyH_ready (rs := [6]) (by kernel_rfl) (by simp) ?_
  refine AllReadyH.cons (o := { dst := some 101, op := Op.call { callee := Callee.builtin Builtin.append, args := #[Operand.tmp 95, Operand.tmp 100], argTypes := #[25, 25] }, type := 25, pos := "law.go:67", after := #[{ on := 0, ground := Ground.data }, { on := 5, ground := Ground.data }], guard := none }) rfl (fun K hK => ?_) AllReadyH.nil
  have sn : w.heap.size ≤ W2.heap.size := bC.size
  have hk1 : RC W2 (some ⟨ga, oa, none⟩) ks := hk.below bC
  refine step_append_apv W2 rfl (.tmp 95) (.tmp 100) _ rfl grpT (ApV.empty (w := W2) (base := W2.heap.size) (some ⟨W1.heap.size, 0, none⟩)) rfl hk1 rfl lk ok (by unfold maxLen; omega) (by omega) (Nat.le_refl _) (fun A1 c1 W3 hd => ?_)
  have hap := hd.ap
  rw [List.nil_append] at hap
  have hat := at_fresh kE sn hd.at_
  have bn := bC.trans hd.below
  have sb := sn
  have sc : W2.heap.size ≤ W3.heap.size := hd.below.size
  have kL2 := kL.below hd.below kL.lt
  refine hK.out _ _ (Off.of_bl bn) (fun hHeld => ?_)
  clear hK K bC hd hk1 sn kE
  try simp only [Act.put, List.setIfInBounds_toArray, List.set_cons_zero, List.set_cons_succ]
  generalize hBs : W2.heap.size = bs at hap sb sc
  clear hBs
  have bC := bn
  clear bn
  replace kL := kL2
  clear kL2
  refine wpAnyH_ready (rs := [9]) (by kernel_rfl) (by simp) ?_
  refine AllReadyH.cons (o := { dst := some 104, op := Op.call { callee := Callee.builtin Builtin.append, args := #[Operand.tmp 101, Operand.tmp 103], argTypes := #[25, 25] }, type := 25, pos := "law.go:67", after := #[{ on := 6, ground := Ground.data }, { on := 8, ground := Ground.data }, { on := 6, ground := Ground.chain }], guard := none }) rfl (fun K hK => ?_) AllReadyH.nil
  have sn : w.heap.size ≤ W3.heap.size := bC.size
  refine step_append_apv W3 rfl (.tmp 101) (.tmp 103) _ rfl grpT hap rfl kL.rc rfl (m := 1) (by rw [lu]) ou (by unfold maxLen; omega) (by omega) sc (fun A2 c2 W4 hd => ?_)
  have hat2 := at_fresh hat sn hd.at_
  have bn : Bl w W4 := Below.trans bC (hd.below.mono sb)
  have hrc := hd.ap.rb
  have hcap := hd.ap.cap
  refine hK.out _ _ (Off.of_bl bn) (fun hHeld => ?_)
  clear hK K hd hap kL
  try simp only [Act.put, List.setIfInBounds_toArray, List.set_cons_zero, List.set_cons_succ]
  refine wpAnyH_take (i := 10) (oi := { dst := some 105, op := Op.fieldAddr 27 (Operand.tmp 8) 3, type := 0, pos := "law.go:67", after := #[{ on := 0, ground := Ground.phase }, { on := 1, ground := Ground.phase }, { on := 2, ground := Ground.phase }, { on := 3, ground := Ground.phase }, { on := 4, ground := Ground.phase }, { on := 5, ground := Ground.phase }, { on := 6, ground := Ground.phase }, { on := 7, ground := Ground.phase }, { on := 8, ground := Ground.phase }, { on := 9, ground := Ground.phase }], guard := none }) (v := .pointer (some ⟨nD, 10, none⟩)) rfl (by kernel_rfl) (by kernel_rfl) (by kernel_rfl) (fun _ _ _ h => h) (Or.inl ⟨by rfl, ?_⟩) hHeld ?_
  · intro w' hSw
    go_simp
  simp only [Act.put, List.setIfInBounds_toArray, List.set_cons_zero, List.set_cons_succ]
  have kD : Blk W4 nD 27 dv := hD.below bn hnD
  refine wpAnyH_ready (rs := [11]) (by kernel_rfl) (by simp) ?_
  refine AllReadyH.cons (o := { dst := none, op := Op.store 25 (Operand.tmp 105) (Operand.tmp 104), type := 0, pos := "law.go:67", after := #[{ on := 10, ground := Ground.data }, { on := 9, ground := Ground.data }, { on := 9, ground := Ground.chain }, { on := 0, ground := Ground.phase }, { on := 1, ground := Ground.phase }, { on := 2, ground := Ground.phase }, { on := 3, ground := Ground.phase }, { on := 4, ground := Ground.phase }, { on := 5, ground := Ground.phase }, { on := 6, ground := Ground.phase }, { on := 7, ground := Ground.phase }, { on := 8, ground := Ground.phase }, { on := 9, ground := Ground.phase }], guard := none }) rfl (fun K hK => ?_) AllReadyH.nil
  refine step_store1 rfl 25 (.tmp 105) (.tmp 104) rfl nD 10 _ rfl rfl (kD.some_ (by rw [hdv]; omega)) (kD.frozen 10) gs_one rfl rfl (hK.out _ _ (Off.set_ (Off.of_bl bn) 10 _) (fun hHeld => ?_))
  clear hK K
  try simp only [Act.put, List.setIfInBounds_toArray, List.set_cons_zero, List.set_cons_succ]
  refine wpAnyH_done (by kernel_rfl) ?_ _
  refine NoPanic.normal ?_
  exact HK A2 c2 _ _ _ _ bn hrc hat2 (by omega)

end Go.Proofs.Ytigicphmnlkjfaa
