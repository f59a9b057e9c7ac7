/- The contract of Save. -/
import Derived.Test.YtebillkojmafoaaSave8
namespace Go.Proofs.Ytebillkojmafoaa
open Go.RowKit
set_option linter.unusedVariables false
attribute [local go_sem] Oper.semAt_some

/-- The blocks of a call of Save. -/
def SaveS (g0 r1 r2 g3 K : Nat) : Nat → Prop := fun x => x = g0 ∨ x = r1 ∨ x = r2 ∨ x = g3 ∨ x = K ∨ x = K + 1
structure SaveJ (g0 r1 r2 g3 K : Nat) (rec : LoopState → Option Code → Loop) (stop : Int) (j : Nat) (u : World) : Prop where
  k0 : Blk u g0 3 #[.int .i64 stop]
  k3 : Blk u g3 3 #[.int .i64 (j : Int)]
  k1 : Blk u r1 3 #[.int .i64 0]
  k2 : Blk u r2 26 #[.int .i64 0]
  lp : u.heap[K + 1]? = some (.loop (rec .ready none))
  df : u.heap[K]? = some (.deferred (some []))
  le : 0 ≤ stop → (j : Int) ≤ stop
structure SaveX (p : Nat) (Xs : Nat → Prop) (r1 r2 K : Nat) (rec : LoopState → Option Code → Loop) (c : Com) (b : List UInt8) (D : DS) (stop : Int) (j : Nat) (u : World) : Prop where
  disk : IsDisk p Xs u (runS c b D j)
  k1 : Blk u r1 3 #[.int .i64 (j : Int)]
  k2 : Blk u r2 26 #[.int .i64 9]
  lp : u.heap[K + 1]? = some (.loop (rec .done (some .ret)))
  df : u.heap[K]? = some (.deferred (some []))
  eq : stop = (j : Int)
  lt : j < many b + 3

theorem Blk.fr2 {p : Nat} {w w1 : World} {g : Nat} {t : TypeId} {cs : Array Value} (h : Blk w g t cs) (hf : Fr p w w1) (hs : Safe p w g) : Blk w1 g t cs := (hf.block g hs).trans h
theorem save_results {W : World} {r1 r2 : Nat} {u v : Value} {tmps : Array Value} (h1 : Blk W r1 3 #[u]) (h2 : Blk W r2 26 #[v]) (hp1 : tmps.getD 6 undef = .pointer (some ⟨r1, 0, none⟩)) (hp2 : tmps.getD 7 undef = .pointer (some ⟨r2, 0, none⟩)) :
    (results Try.f9 tmps).run Try.prog W = .ok (.tuple #[u, v]) W := by
  have c1 := h1.cell 0; have c2 := h2.cell 0
  simp only [List.getElem?_toArray, List.getElem?_cons_zero] at c1 c2
  have hp1' : tmps[6]?.getD undef = .pointer (some ⟨r1, 0, none⟩) := by simpa using hp1
  have hp2' : tmps[7]?.getD undef = .pointer (some ⟨r2, 0, none⟩) := by simpa using hp2
  simp [results, hp1', hp2', asAddr, go_sem, c1, c2]

theorem save_step {p : Nat} {X' S : Nat → Prop} {g0 r1 r2 g3 K j : Nat} {rec : LoopState → Option Code → Loop} {stop : Int} {u ub u2 : World} {D' : DS} (hd2 : IsDisk p X' u2 D') (fq : Fr p ub u2) (hfr : FrS S p u ub)
    (t0 : Blk ub g0 3 #[.int .i64 stop]) (t3 : Blk ub g3 3 #[.int .i64 (j : Int)]) (t1 : Blk ub r1 3 #[.int .i64 0]) (t2 : Blk ub r2 26 #[.int .i64 0])
    (busy : ub.heap[K + 1]? = some (.loop (rec .busy none))) (df : ub.heap[K]? = some (.deferred (some []))) (q0 : Safe p ub g0) (q1 : Safe p ub r1) (q2 : Safe p ub r2) (q3 : Safe p ub g3) (qK : Safe p ub K) (qL : Safe p ub (K + 1))
    (s3 : S g3) (sL : S (K + 1)) (nX : ¬ X' g3) (n0 : g0 ≠ g3) (n1 : r1 ≠ g3) (n2 : r2 ≠ g3) (nK : K ≠ g3) (nL : K + 1 ≠ g3) (np : p ≠ K + 1) (hle : 0 ≤ stop → ((j + 1 : Nat) : Int) ≤ stop) (q : Int) (hq : q = ((j + 1 : Nat) : Int)) :
    ∃ ue, ue = u2.setCell ⟨g3, 0, none⟩ (.int .i64 q) ∧ ue.heap[K + 1]? = some (.loop (rec .busy none)) ∧ Blk u2 g3 3 #[.int .i64 (j : Int)] ∧
      IsDisk p X' (ue.putObj (K + 1) (.loop (rec .ready none))) D' ∧ SaveJ g0 r1 r2 g3 K rec stop (j + 1) (ue.putObj (K + 1) (.loop (rec .ready none))) ∧ FrS S p u (ue.putObj (K + 1) (.loop (rec .ready none))) := by
  have v0 := t0.fr2 fq q0; have v1 := t1.fr2 fq q1; have v2 := t2.fr2 fq q2; have v3 := t3.fr2 fq q3
  have bz := (fq.block _ qL).trans busy
  have dz := (fq.block _ qK).trans df
  have q3' := fq.safe _ q3
  have d3 := hd2.far nX q3'.2.1 q3'.2.2 0 (.int .i64 q)
  have r3 := (hfr.trans (FrS.of_fr fq)).setCell (.inr s3) q3' 0 (.int .i64 q)
  have w0' := v0.far (p := ⟨g3, 0, none⟩) n0 (.int .i64 q)
  have w1' := v1.far (p := ⟨g3, 0, none⟩) n1 (.int .i64 q)
  have w2' := v2.far (p := ⟨g3, 0, none⟩) n2 (.int .i64 q)
  have w3' : Blk (u2.setCell ⟨g3, 0, none⟩ (.int .i64 q)) g3 3 #[.int .i64 q] := by simpa using v3.set_ 0 (.int .i64 q)
  have bz' := (Below.heap_setCell u2 ⟨g3, 0, none⟩ (.int .i64 q) (K + 1) nL).trans bz
  have dz' := (Below.heap_setCell u2 ⟨g3, 0, none⟩ (.int .i64 q) K nK).trans dz
  have ho := Off.put bz' rfl (.loop (rec .ready none))
  refine ⟨_, rfl, bz', v3, (d3.off ho).1, ⟨ho.blk w0', ho.blk (by rw [← hq]; exact w3'), ho.blk w1', ho.blk w2', World.putObj_heap_same (Array.getElem?_eq_some_iff.1 bz').1, (ho.block _ (Nat.ne_of_lt (Nat.lt_succ_self _))).trans dz', hle⟩, r3.off (.inr sL) ho np⟩

theorem fr_back {p : Nat} {S : Nat → Prop} {w W1 Wf : World} (bl : Bl w W1) (hp : p < w.heap.size) (hS : ∀ x, S x → w.heap.size ≤ x ∧ x < W1.heap.size) (hf : FrS S p W1 Wf) : Fr p w Wf :=
  ⟨hf.os.trans bl.os, hf.tape.trans bl.tape, hf.output.trans bl.output, Nat.le_trans bl.size hf.size,
    fun b hb => (hf.block b ((Fr.of_bl bl hp).safe b hb) (fun e => by have := hS b e; have := hb.1; omega)).trans (bl.block b hb.1), fun b hb => hf.safe b ((Fr.of_bl bl hp).safe b hb)⟩
theorem save_end {p : Nat} {Xs X S : Nat → Prop} {w W1 w5 : World} {Dx : DS} {r1 r2 K : Nat} {v1 v2 : Value} (hd : IsDisk p Xs w5 Dx) (hf : FrS S p W1 w5) (bl : Bl w W1) (hp : p < w.heap.size) (hSge : ∀ x, S x → w.heap.size ≤ x ∧ x < W1.heap.size) (hWS : ∀ x, S x → Safe p W1 x)
    (s1 : S r1) (s2 : S r2) (sK : S K) (hXs : ∀ x, Xs x → X x) (hXn : ∀ x, S x → ¬ Xs x) (t1 : Blk w5 r1 3 #[v1]) (t2 : Blk w5 r2 26 #[v2]) (df : w5.heap[K]? = some (.deferred (some []))) (n12 : r1 ≠ r2) (n1 : K ≠ r1) (n2 : K ≠ r2) (u v : Value) :
    ∃ W6, W6 = (w5.setCell ⟨r1, 0, none⟩ u).setCell ⟨r2, 0, none⟩ v ∧ Blk (W6.putObj K (.deferred none)) r1 3 #[u] ∧ Blk (W6.putObj K (.deferred none)) r2 26 #[v] ∧ (IsDisk p X (W6.putObj K (.deferred none)) Dx ∧ Fr p w (W6.putObj K (.deferred none))) ∧ W6.heap[K]? = some (.deferred (some [])) ∧ True := by
  have q1 := hf.safe _ (hWS _ s1); have q2 := hf.safe _ (hWS _ s2)
  have d1 := hd.far (hXn _ s1) q1.2.1 q1.2.2 0 u
  have q2' := q2.setCell q1 0 u
  have d2 := d1.far (hXn _ s2) q2'.2.1 q2'.2.2 0 v
  have r := (hf.setCell (.inr s1) q1 0 u).setCell (.inr s2) q2' 0 v
  have e1 : Blk ((w5.setCell ⟨r1, 0, none⟩ u).setCell ⟨r2, 0, none⟩ v) r1 3 #[u] := by
    have := (t1.set_ 0 u).far (p := ⟨r2, 0, none⟩) n12 v
    simpa using this
  have e2 : Blk ((w5.setCell ⟨r1, 0, none⟩ u).setCell ⟨r2, 0, none⟩ v) r2 26 #[v] := by
    have := (t2.far (p := ⟨r1, 0, none⟩) (Ne.symm n12) u).set_ 0 v
    simpa using this
  have dz : ((w5.setCell ⟨r1, 0, none⟩ u).setCell ⟨r2, 0, none⟩ v).heap[K]? = some (.deferred (some [])) :=
    (Below.heap_setCell _ ⟨r2, 0, none⟩ _ _ n2).trans ((Below.heap_setCell _ ⟨r1, 0, none⟩ _ _ n1).trans df)
  have ho := Off.put dz rfl (.deferred none)
  have hK := hSge _ sK
  exact ⟨_, rfl, ho.blk e1, ho.blk e2, ⟨(d2.off ho).1.weak (fun x _ h => hXs x h), fr_back bl hp hSge (r.off (.inr sK) ho (by omega))⟩, dz, trivial⟩

section
variable {p : Nat} {X : Nat → Prop} {w : World} {D : DS}
set_option maxRecDepth 100000 in
set_option maxHeartbeats 4000000 in
theorem save_main (h : IsDisk p X w D) (hX : ∀ x, w.heap.size ≤ x → X x) (calm : Calm D) (c : Com) (hc : lastD D = c) (hn : c.n < 2 ^ 63) (A : Option Addr) (cap : Nat) (b : List UInt8) (hs : SLs p w A cap b) (hb : b.length ≤ 1984) (stop : Int) :
    Calls Try.prog 9 #[.pointer (some ⟨p, 0, none⟩), .slice A b.length cap, .int .i64 stop] w fun e w' => e = .returned (.tuple #[.int .i64 (nSave D b stop : Nat), .int .i64 (eSave D b stop)]) ∧ IsDisk p X w' (dSave D b stop) ∧ Fr p w w' := by
  have hw0 : eWrong D 0 = 0 := eWrong_zero.2 ⟨calm.down, by omega, by omega⟩
  have a1 := Bl.alloc w (.cells #[.int .i64 stop] 3)
  have a2 := a1.trans (Bl.alloc _ (.cells #[.int .i64 0] 3))
  have a3 := a2.trans (Bl.alloc _ (.cells #[.int .i64 0] 26))
  have q0 := ((Blk.new w 3 #[.int .i64 stop]).alloc (.cells #[.int .i64 0] 3)).alloc (.cells #[.int .i64 0] 26)
  have q1 := (new_at (w.alloc (.cells #[.int .i64 stop] 3)) 3 #[.int .i64 0] (w.heap.size + 1) (by simp)).alloc (.cells #[.int .i64 0] 26)
  have q2 := new_at ((w.alloc (.cells #[.int .i64 stop] 3)).alloc (.cells #[.int .i64 0] 3)) 26 #[.int .i64 0] (w.heap.size + 2) (by simp)
  have HD := Lib.hid h; have HB3 := Lib.hid a3; have Q0 := Lib.hid q0; have Q1 := Lib.hid q1; have Q2 := Lib.hid q2; have HS := Lib.hid hs; have HX := Lib.hid hX; have CA := Lib.hid calm; have HC := Lib.hid hc; have HW0 := Lib.hid hw0
  have h84 : ¬ (1984 : Int) < (b.length : Int) := by omega
  clear h a1 a2 a3 q0 q1 q2 hs hX calm hc hw0
  refine (callsIn_wide (n := 5)).1 ?_
  refine callsIn_of_wp_marks Try.func9 rfl trivial ?_ rfl
  simp only [Try.ntmps9, List.size_toArray, List.length_cons, List.length_nil, Nat.reduceAdd, Nat.reduceSub, Array.replicate_succ, Array.replicate_zero, List.push_toArray, List.append_toArray, List.nil_append, List.cons_append]
  gi_wp2
  refine ⟨trivial, (callsIn_wide.2 (dRead_to (HD.out.bl HB3.out) 0 (short_of_le CA.out.le) (bRead D 0) 0 rfl HW0.out)).mono ?_⟩
  rintro e w1 ⟨A1, c1, rfl, _, b1, _, _⟩
  have HB1 := Lib.hid (HB3.out.trans b1)
  replace Q0 := Lib.hid (Q0.out.below b1 Q0.out.lt); replace Q1 := Lib.hid (Q1.out.below b1 Q1.out.lt); replace Q2 := Lib.hid (Q2.out.below b1 Q2.out.lt)
  clear b1
  gi_wp2
  have b1a := HB1.out.trans (Bl.alloc w1 (.cells #[.int .i64 0] 3))
  refine ⟨trivial, (callsIn_wide.2 (acts_new (HD.out.bl b1a) CA.out.le c HC.out hn A cap b hb)).mono ?_⟩
  rintro e w2 ⟨gn, gb, gd, gs, rfl, b2, kn, kb, kd, ks, ln, lb, ld, ls⟩
  rw [World.size_alloc] at ln lb ld ls
  have q0 := (Q0.out.alloc (.cells #[.int .i64 0] 3)).below b2 (by rw [World.size_alloc]; exact Nat.lt_succ_of_lt Q0.out.lt)
  have q1 := (Q1.out.alloc (.cells #[.int .i64 0] 3)).below b2 (by rw [World.size_alloc]; exact Nat.lt_succ_of_lt Q1.out.lt)
  have q2 := (Q2.out.alloc (.cells #[.int .i64 0] 3)).below b2 (by rw [World.size_alloc]; exact Nat.lt_succ_of_lt Q2.out.lt)
  have q3 := (Blk.new w1 3 #[.int .i64 0]).below b2 (Blk.new w1 3 #[.int .i64 0]).lt
  have bw2 := b1a.trans b2
  have z1 := HB1.out.size
  have z0 : w.heap.size + 3 ≤ w1.heap.size := Q2.out.lt
  have HQ0 := Lib.hid q0; have HQ1 := Lib.hid q1; have HQ2 := Lib.hid q2; have HQ3 := Lib.hid q3; have HBW := Lib.hid bw2; have HKN := Lib.hid kn; have HKB := Lib.hid kb; have HKD := Lib.hid kd; have HKS := Lib.hid ks
  clear q0 q1 q2 q3 b1a b2 bw2 kn kb kd ks Q0 Q1 Q2 HB1
  gi_wp2
  refine rangeFunc_outer rfl rfl (gf := 23) (lb := #[.pointer (some ⟨gn, 0, none⟩), .pointer (some ⟨gb, 0, none⟩), .pointer (some ⟨gd, 0, none⟩), .pointer (some ⟨gs, 0, none⟩)]) rfl trivial (enters_of Try.func23 (by kernel_rfl) rfl) ?_
  intro fn hfn rec hrec W1 hW1
  have hs1 : W1.heap.size = w2.heap.size + 2 := by rw [hW1, World.size_alloc, World.size_alloc]
  have bl2 : Bl w2 W1 := by rw [hW1]; exact (Bl.alloc _ _).trans (Bl.alloc _ _)
  have bl := HBW.out.trans bl2
  have hlp := World.alloc_heap_new (w2.alloc (.deferred (some []))) (.loop (rec .ready none))
  rw [World.size_alloc, ← hW1] at hlp
  have hdf := (Below.heap_alloc (w2.alloc (.deferred (some []))) (.loop (rec .ready none)) w2.heap.size (by rw [World.size_alloc]; exact Nat.lt_succ_self _)).trans (World.alloc_heap_new w2 (.deferred (some [])))
  rw [← hW1] at hdf
  have k0 := HQ0.out.below bl2 HQ0.out.lt; have k1 := HQ1.out.below bl2 HQ1.out.lt; have k2 := HQ2.out.below bl2 HQ2.out.lt; have k3 := HQ3.out.below bl2 HQ3.out.lt
  have jn := HKN.out.below bl2 HKN.out.lt; have jb := HKB.out.below bl2 HKB.out.lt; have jd := HKD.out.below bl2 HKD.out.lt; have js := HKS.out.below bl2 HKS.out.lt
  have l0 := HQ0.out.lt; have l1 := HQ1.out.lt; have l2 := HQ2.out.lt; have l3 := HQ3.out.lt
  have m1 := HKN.out.lt; have m2 := HKB.out.lt; have m3 := HKD.out.lt; have m4 := HKS.out.lt
  have hplt := HD.out.plt
  obtain ⟨S, hS⟩ : ∃ S, S = SaveS w.heap.size (w.heap.size + 1) (w.heap.size + 2) w1.heap.size w2.heap.size := ⟨_, rfl⟩
  have hSge : ∀ x, S x → w.heap.size ≤ x ∧ x < W1.heap.size := by
    intro x hx; rw [hS] at hx; unfold SaveS at hx; omega
  have hSn : ∀ x, x < w.heap.size ∨ (w1.heap.size < x ∧ x < w2.heap.size) ∨ w2.heap.size + 2 ≤ x → ¬ S x := by
    intro x hx h; rw [hS] at h; unfold SaveS at h; omega
  have hSi0 : S w.heap.size := by rw [hS]; exact .inl rfl
  have hSi : S (w.heap.size + 1) ∧ S (w.heap.size + 2) ∧ S w1.heap.size ∧ S w2.heap.size ∧ S (w2.heap.size + 1) := by
    rw [hS]; unfold SaveS; exact ⟨.inr (.inl rfl), .inr (.inr (.inl rfl)), .inr (.inr (.inr (.inl rfl))), .inr (.inr (.inr (.inr (.inl rfl)))), .inr (.inr (.inr (.inr (.inr rfl))))⟩
  clear hS
  have hdW : IsDisk p (fun x => X x ∧ ¬ S x) W1 D := (HD.out.weak (fun x hx h => ⟨h, fun e => by have := hSge x e; omega⟩)).bl bl
  have hsafe : ∀ x, w.heap.size ≤ x → x < W1.heap.size → Safe p W1 x := fun x h1 h2 => HD.out.safe_new bl h1 h2
  have I : In2 p (fun x => X x ∧ ¬ S x) S (SaveJ w.heap.size (w.heap.size + 1) (w.heap.size + 2) w1.heap.size w2.heap.size rec stop) (SaveX p (fun x => X x ∧ ¬ S x) (w.heap.size + 1) (w.heap.size + 2) w2.heap.size rec c b D stop) W1 D c b A cap gn gb gd gs := by
    refine ⟨hdW, fun x hx => ⟨HX.out x (by omega), fun e => by have := hSge x e; omega⟩, CA.out, ?_, ?_, hb, jn, jb, jd, js, ⟨hsafe _ (by omega) (by omega), hSn _ (by omega)⟩, ⟨hsafe _ (by omega) (by omega), hSn _ (by omega)⟩, ⟨hsafe _ (by omega) (by omega), hSn _ (by omega)⟩, ⟨hsafe _ (by omega) (by omega), hSn _ (by omega)⟩, HS.out.fr (Fr.of_bl bl hplt), ?_, fun x hx => (hSge x hx).2, fun x hx => hsafe x (by have := hSge x hx; omega) (hSge x hx).2, ?_, ?_⟩
    · have := lastD_bound D
      rw [HC.out] at this
      unfold nextOf; simp only; split <;> omega
    · unfold nextOf; simp only; omega
    · intro a ha hb0 e
      have := (HS.out.safe a ha hb0).1
      have := hSge _ e
      omega
    · intro j u u' hj hbu
      exact ⟨hj.k0.below hbu (by omega), hj.k3.below hbu (by omega), hj.k1.below hbu (by omega), hj.k2.below hbu (by omega), (hbu.block _ (by omega)).trans hj.lp, (hbu.block _ (by omega)).trans hj.df, hj.le⟩
    · intro j u u' g hx hg ho
      exact ⟨(hx.disk.off ho).1, ho.blk hx.k1, ho.blk hx.k2, (ho.block _ (by omega)).trans hx.lp, (ho.block _ (by omega)).trans hx.df, hx.eq, hx.lt⟩
  have hstart : SaveJ w.heap.size (w.heap.size + 1) (w.heap.size + 2) w1.heap.size w2.heap.size rec stop 0 W1 := ⟨k0, k3, k1, k2, hlp, hdf, fun h => h⟩
  have HI := Lib.hid I; have HW1 := Lib.hid hW1; have HBL := Lib.hid bl; have HREC := Lib.hid hrec
  clear k0 k1 k2 k3 jn jb jd js hlp hdf hdW I hW1 bl bl2 HQ0 HQ1 HQ2 HQ3 HKN HKB HKD HKS
  refine (acts2_any HI.out 4 (w2.heap.size + 1) hstart ?_).mono ?_
  · intro m X' j u f hXs hXf hjm hd hj hSs hact
    obtain ⟨g, lb', rfl, eg, hcall⟩ := hact
    refine round_at HREC.out hfn rfl hj.lp ?_
    have HJ := Lib.hid hj
    clear hj
    gi_wp2
    refine ⟨HJ.out.lp, ?_⟩
    obtain ⟨ub, hub⟩ : ∃ ub, ub = u.putObj (w2.heap.size + 1) (.loop (rec .busy none)) := ⟨_, rfl⟩
    rw [← hub]
    have hof : Off u ub (w2.heap.size + 1) := by rw [hub]; exact Off.put HJ.out.lp rfl _
    have hpne : p ≠ w2.heap.size + 1 := by omega
    have hdb := (hd.off hof).1
    have hfr : FrS S p u ub := (FrS.refl S p u).off (.inr hSi.2.2.2.2) hof hpne
    have busy : ub.heap[w2.heap.size + 1]? = some (.loop (rec .busy none)) := by
      rw [hub]; exact World.putObj_heap_same (Array.getElem?_eq_some_iff.1 HJ.out.lp).1
    have df : ub.heap[w2.heap.size]? = some (.deferred (some [])) := (hof.block _ (by omega)).trans HJ.out.df
    have t0 := hof.blk HJ.out.k0; have t1 := hof.blk HJ.out.k1; have t2 := hof.blk HJ.out.k2; have t3 := hof.blk HJ.out.k3
    have y0 := t0.cell 0; have y3 := t3.cell 0; have y1 := t1.cell 0; have y2 := t2.cell 0; have f1 := t1.frozen 0; have f2 := t2.frozen 0
    simp only [List.getElem?_toArray, List.getElem?_cons_zero] at y0 y1 y2 y3
    have hcall' := hcall ub hfr hdb
    have hsafe' : ∀ x, S x → Safe p ub x := fun x hx => hfr.safe _ (hSs x hx)
    have HDB := Lib.hid hdb; have HFR := Lib.hid hfr; have BUSY := Lib.hid busy; have DF := Lib.hid df; have T0 := Lib.hid t0; have T1 := Lib.hid t1; have T2 := Lib.hid t2; have T3 := Lib.hid t3
    clear hd hub hof hdb hfr busy df t0 t1 t2 t3 hcall
    have NE := Lib.hid (show w.heap.size ≠ w1.heap.size ∧ w.heap.size + 1 ≠ w1.heap.size ∧ w.heap.size + 2 ≠ w1.heap.size ∧ w2.heap.size ≠ w1.heap.size ∧ w2.heap.size + 1 ≠ w1.heap.size from ⟨by omega, by omega, by omega, by omega, by omega⟩)
    have HWR := Lib.hid (show -9223372036854775808 ≤ ((j + 1 : Nat) : Int) ∧ ((j + 1 : Nat) : Int) ≤ 9223372036854775807 from by have h1 := hjm; unfold many at h1; omega)
    by_cases hst : 0 ≤ stop ∧ stop = (j : Int)
    · obtain ⟨hst0, rfl⟩ := hst
      have s1 := hSi.1; have s2 := hSi.2.1
      have e1 := T1.out.set_ 0 (.int .i64 (j : Int))
      have e2 := (T2.out.far (p := ⟨w.heap.size + 1, 0, none⟩) (by simp) (.int .i64 (j : Int))).set_ 0 (.int .i64 9)
      have e1' := e1.far (p := ⟨w.heap.size + 2, 0, none⟩) (by simp) (.int .i64 9)
      have q1 := hsafe' _ s1; have q2 := hsafe' _ s2
      have d1 := (HDB.out.far (fun h => (hXs _ h).2 s1) q1.2.1 q1.2.2 0 (.int .i64 (j : Int)))
      have q2' := q2.setCell q1 0 (.int .i64 (j : Int))
      have d2 := (d1.far (fun h => (hXs _ h).2 s2) q2'.2.1 q2'.2.2 0 (.int .i64 9)).weak (Y := fun x => X x ∧ ¬ S x) (fun x _ h => hXs x h)
      have r1 := (HFR.out.setCell (.inr s1) q1 0 (.int .i64 (j : Int))).setCell (.inr s2) q2' 0 (.int .i64 9)
      obtain ⟨ue, hue⟩ : ∃ ue, ue = (ub.setCell ⟨w.heap.size + 1, 0, none⟩ (.int .i64 (j : Int))).setCell ⟨w.heap.size + 2, 0, none⟩ (.int .i64 9) := ⟨_, rfl⟩
      have bz : ue.heap[w2.heap.size + 1]? = some (.loop (rec .busy none)) := by
        rw [hue]
        exact (Below.heap_setCell _ ⟨w.heap.size + 2, 0, none⟩ _ _ (by simp; omega)).trans ((Below.heap_setCell _ ⟨w.heap.size + 1, 0, none⟩ _ _ (by simp; omega)).trans BUSY.out)
      have dz : ue.heap[w2.heap.size]? = some (.deferred (some [])) := by
        rw [hue]
        exact (Below.heap_setCell _ ⟨w.heap.size + 2, 0, none⟩ _ _ (by simp; omega)).trans ((Below.heap_setCell _ ⟨w.heap.size + 1, 0, none⟩ _ _ (by simp; omega)).trans DF.out)
      rw [← hue] at e2 e1' d2 r1
      have hfin : SaveX p (fun x => X x ∧ ¬ S x) (w.heap.size + 1) (w.heap.size + 2) w2.heap.size rec c b D (j : Int) j (ue.putObj (w2.heap.size + 1) (.loop (rec .done (some .ret)))) ∧ FrS S p u (ue.putObj (w2.heap.size + 1) (.loop (rec .done (some .ret)))) := by
        have ho := Off.put bz rfl (.loop (rec .done (some .ret)))
        exact ⟨⟨(d2.off ho).1, ho.blk (by simpa using e1'), ho.blk (by simpa using e2), World.putObj_heap_same (Array.getElem?_eq_some_iff.1 bz).1, (ho.block _ (by omega)).trans dz, rfl, hjm⟩, r1.off (.inr hSi.2.2.2.2) ho hpne⟩
      have HFIN := Lib.hid hfin; have BZ := Lib.hid bz; have HUE := Lib.hid hue
      clear e1 e2 e1' q1 q2 d1 q2' d2 r1 hue bz dz hfin hcall' s1 s2
      gi_wp2
      rw [← HUE.out]
      exact round_post_ret HREC.out BZ.out (.inr ⟨rfl, HFIN.out.1, HFIN.out.2⟩)
    · by_cases h0 : 0 ≤ stop
      · have hlt : ¬ stop ≤ (j : Int) := by have := HJ.out.le h0; omega
        have HLE2 : Hid (0 ≤ stop → ((j + 1 : Nat) : Int) ≤ stop) := fun _ => by rw [Int.natCast_succ]; exact Int.add_one_le_of_lt (Int.not_le.1 hlt)
        gi_wp2
        refine ⟨trivial, fun h => absurd h (by decide), (CallsIn.inRound _ (callsIn_wide.2 hcall')).mono ?_⟩
        rintro e u2 ⟨rfl, hd2, fq⟩
        obtain ⟨q, hq⟩ : ∃ q : Int, q = ((j + 1 : Nat) : Int) := ⟨_, rfl⟩
        obtain ⟨ue, hue, hbz, hv3, hfin⟩ := save_step hd2 fq HFR.out T0.out T3.out T1.out T2.out BUSY.out DF.out (hsafe' _ hSi0) (hsafe' _ hSi.1) (hsafe' _ hSi.2.1) (hsafe' _ hSi.2.2.1) (hsafe' _ hSi.2.2.2.1) (hsafe' _ hSi.2.2.2.2) hSi.2.2.1 hSi.2.2.2.2 (fun h => (hXs _ h).2 hSi.2.2.1) NE.out.1 NE.out.2.1 NE.out.2.2.1 NE.out.2.2.2.1 NE.out.2.2.2.2 hpne HLE2.out q hq
        have hj2 : (j : Int) + 1 = q := by rw [hq, Int.natCast_succ]
        have hwr : wrap64 q = q := by rw [hq]; exact IntWalk.wrap64_in _ HWR.out
        have y3n := hv3.cell 0; have f3n := hv3.frozen 0
        simp only [List.getElem?_toArray, List.getElem?_cons_zero] at y3n
        have HFIN := Lib.hid hfin; have BZ := Lib.hid hbz; have HUE := Lib.hid hue
        clear hfin hbz hue hq hv3 hcall' fq hd2 y0 y1 y2 y3 f1 f2
        gi_wp2
        rw [← HUE.out]
        exact round_post_normal HREC.out BZ.out (.inl ⟨rfl, HFIN.out.1, HFIN.out.2.1, HFIN.out.2.2⟩)
      · have HLE2 : Hid (0 ≤ stop → ((j + 1 : Nat) : Int) ≤ stop) := fun h => absurd h h0
        gi_wp2
        refine ⟨trivial, fun h => absurd h (by decide), (CallsIn.inRound _ (callsIn_wide.2 hcall')).mono ?_⟩
        rintro e u2 ⟨rfl, hd2, fq⟩
        obtain ⟨q, hq⟩ : ∃ q : Int, q = ((j + 1 : Nat) : Int) := ⟨_, rfl⟩
        obtain ⟨ue, hue, hbz, hv3, hfin⟩ := save_step hd2 fq HFR.out T0.out T3.out T1.out T2.out BUSY.out DF.out (hsafe' _ hSi0) (hsafe' _ hSi.1) (hsafe' _ hSi.2.1) (hsafe' _ hSi.2.2.1) (hsafe' _ hSi.2.2.2.1) (hsafe' _ hSi.2.2.2.2) hSi.2.2.1 hSi.2.2.2.2 (fun h => (hXs _ h).2 hSi.2.2.1) NE.out.1 NE.out.2.1 NE.out.2.2.1 NE.out.2.2.2.1 NE.out.2.2.2.2 hpne HLE2.out q hq
        have hj2 : (j : Int) + 1 = q := by rw [hq, Int.natCast_succ]
        have hwr : wrap64 q = q := by rw [hq]; exact IntWalk.wrap64_in _ HWR.out
        have y3n := hv3.cell 0; have f3n := hv3.frozen 0
        simp only [List.getElem?_toArray, List.getElem?_cons_zero] at y3n
        have HFIN := Lib.hid hfin; have BZ := Lib.hid hbz; have HUE := Lib.hid hue
        clear hfin hbz hue hq hv3 hcall' fq hd2 y0 y1 y2 y3 f1 f2
        gi_wp2
        rw [← HUE.out]
        exact round_post_normal HREC.out BZ.out (.inl ⟨rfl, HFIN.out.1, HFIN.out.2.1, HFIN.out.2.2⟩)
  · rintro e W2 ⟨⟨v, rfl⟩, ⟨hd, hj, hf⟩ | ⟨j, hx, hf⟩⟩
    · refine ⟨none, _, end_loop HREC.out hj.lp (by decide), ?_⟩
      obtain ⟨w5, hw5⟩ : ∃ w5, w5 = W2.putObj (w2.heap.size + 1) (.loop (rec .exhausted none)) := ⟨_, rfl⟩
      have hof := Off.put hj.lp rfl (.loop (rec .exhausted none))
      rw [← hw5] at hof ⊢
      have hpne : p ≠ w2.heap.size + 1 := by omega
      have hf5 := hf.off (.inr hSi.2.2.2.2) hof hpne
      have hd5 := (hd.off hof).1
      have t1 := hof.blk hj.k1; have t2 := hof.blk hj.k2; have t3 := hof.blk hj.k3
      have df := (hof.block w2.heap.size (by omega)).trans hj.df
      have hWS : ∀ x, S x → Safe p W1 x := fun x hx => HI.out.Ssafe x hx
      obtain ⟨q, hq⟩ : ∃ q : Int, q = ((many b + 3 : Nat) : Int) := ⟨_, rfl⟩
      obtain ⟨W6, hW6, e1, e2, e3, e4⟩ := save_end (X := X) hd5 hf5 HBL.out hplt hSge hWS hSi.1 hSi.2.1 hSi.2.2.2.1 (fun x h => h.1) (fun x hx h => h.2 hx) t1 t2 df (by omega) (by omega) (by omega) (.int .i64 q) (.int .i64 0)
      have y3 := t3.cell 0; have y1 := t1.cell 0; have y2 := t2.cell 0; have f1 := t1.frozen 0; have f2 := t2.frozen 0
      simp only [List.getElem?_toArray, List.getElem?_cons_zero] at y1 y2 y3
      rw [← hq] at y3
      have hnv : (nSave D b stop : Int) = q ∧ eSave D b stop = 0 ∧ dSave D b stop = runS c b D (many b + 3) := by
        have hno : ¬ (0 ≤ stop ∧ stop < (whole b : Nat)) := fun h => by have := hj.le h.1; unfold whole at h; omega
        have e : nSave D b stop = many b + 3 := by
          unfold nSave; rw [if_neg (by rw [HW0.out]; omega), if_neg hno]; rfl
        refine ⟨by rw [e, hq], ?_, by unfold dSave; rw [e, HC.out]⟩
        unfold eSave; rw [if_neg (by rw [HW0.out]; decide), if_neg (by omega), if_neg hno]
      have HNV := Lib.hid hnv; have E1 := Lib.hid e1; have E2 := Lib.hid e2; have E3 := Lib.hid e3; have E4 := Lib.hid e4; have HW6 := Lib.hid hW6
      clear hd hj hf hof hf5 hd5 t1 t2 t3 df hWS hnv e1 e2 e3 e4 hW6 hw5 hq HI
      gi_wp2
      rw [← HW6.out]
      refine ⟨by simp, .inl ⟨_, _, rfl, run_takeDeferred E4.out.1, ?_⟩⟩
      refine ⟨_, save_results E1.out E2.out rfl rfl, ?_, ?_, E3.out.2⟩
      · rw [HNV.out.1, HNV.out.2.1]
      · rw [HNV.out.2.2]; exact E3.out.1
    · refine ⟨some .ret, _, end_loop HREC.out hx.lp (by decide), ?_⟩
      obtain ⟨w5, hw5⟩ : ∃ w5, w5 = W2.putObj (w2.heap.size + 1) (.loop (rec .exhausted (some .ret))) := ⟨_, rfl⟩
      have hof := Off.put hx.lp rfl (.loop (rec .exhausted (some .ret)))
      rw [← hw5] at hof ⊢
      have hpne : p ≠ w2.heap.size + 1 := by omega
      have hf5 := hf.off (.inr hSi.2.2.2.2) hof hpne
      have hd5 := (hx.disk.off hof).1
      have t1 := hof.blk hx.k1; have t2 := hof.blk hx.k2
      have df := (hof.block w2.heap.size (by omega)).trans hx.df
      have ho2 := Off.put df rfl (.deferred none)
      have hd6 := (hd5.off ho2).1.weak (Y := X) (fun x _ h => h.1)
      have hf6 := hf5.off (.inr hSi.2.2.2.1) ho2 (by omega)
      have hfr := fr_back HBL.out hplt hSge hf6
      have hnv : (nSave D b stop : Int) = (j : Int) ∧ eSave D b stop = 9 ∧ dSave D b stop = runS c b D j := by
        have h1 := hx.eq; have h2 := hx.lt
        have hyes : 0 ≤ stop ∧ stop < (whole b : Nat) := by unfold whole; omega
        have e : nSave D b stop = j := by
          unfold nSave; rw [if_neg (by rw [HW0.out]; omega), if_pos hyes, h1]; simp
        refine ⟨by rw [e], ?_, by unfold dSave; rw [e, HC.out]⟩
        unfold eSave; rw [if_neg (by rw [HW0.out]; decide), if_neg (by omega), if_pos hyes]
      have HNV := Lib.hid hnv; have E1 := Lib.hid (ho2.blk t1); have E2 := Lib.hid (ho2.blk t2); have E3 := Lib.hid hd6; have E4 := Lib.hid hfr; have E5 := Lib.hid df
      clear hx hf hof hf5 hd5 t1 t2 df ho2 hd6 hf6 hfr hnv hw5 HI
      gi_wp2
      refine ⟨by simp, .inl ⟨_, _, rfl, run_takeDeferred E5.out, ?_⟩⟩
      refine ⟨_, save_results E1.out E2.out rfl rfl, ?_, ?_, E4.out⟩
      · rw [HNV.out.1, HNV.out.2.1]
      · rw [HNV.out.2.2]; exact E3.out
end
end Go.Proofs.Ytebillkojmafoaa
