/- What a save's acts are ranged over by: its contract. -/
import Derived.Test.YtebillkojmafoaaRange
import Derived.Test.YtebillkojmafoaaCrcOwn
import Derived.Deep.RegionHeld3
import Derived.Deep.DrawnRows
namespace Go.Proofs.Ytebillkojmafoaa
open Go.RowKit
set_option linter.unusedVariables false
attribute [local go_sem] Oper.semAt_some
attribute [local go_sem ↓] Go.wp_at_zero Go.wp_at_succ

/-- Between two parts. -/
structure J2 {p : Nat} {Xs S : Nat → Prop} {JS : Nat → World → Prop} {Jx : Nat → World → Prop} {W : World} {D0 : DS} {c : Com} {b : List UInt8} {ad : Option Addr} {cap gn gb gd gs : Nat} (I : In2 p Xs S JS Jx W D0 c b ad cap gn gb gd gs) (l1 : Nat) (rec : LoopState → Option Code → Loop) (k : Nat) (w : World) : Prop where
  run : Run2 I (W.heap.size + 1) (W.heap.size + 6) k w
  b5 : Blk w W.heap.size 58 #[.func (.yield l1) #[] #[]]
  b6 : Blk w (W.heap.size + 1) 3 #[.int .i64 ((2 + 31 * (nextOf c b).a + k : Nat) : Int)]
  bs : Blk w (W.heap.size + 2) 22 #[.slice ad b.length cap]
  bn : Blk w (W.heap.size + 3) 3 #[.int .i64 64]
  lp : w.heap[W.heap.size + 5]? = some (.loop (rec .ready none))
  df : w.heap[W.heap.size + 4]? = some (.deferred (some []))
structure J2x (p : Nat) (S : Nat → Prop) (Jx : Nat → World → Prop) (W : World) (rec : LoopState → Option Code → Loop) (w : World) : Prop where
  jx : ∃ j, Jx j w
  fr : FrS S p W w
  lp : w.heap[W.heap.size + 5]? = some (.loop (rec .done (some .ret)))
  df : w.heap[W.heap.size + 4]? = some (.deferred (some []))
theorem of_b {X w1 : World} {T : TypeId} {cs : Array Value} (b : Bl (X.alloc (.cells cs T)) w1) : Blk w1 X.heap.size T cs := (Blk.new X T cs).below b (Blk.new X T cs).lt
theorem set8 {w : World} {g : Nat} {T : TypeId} {v : Value} (h : Blk w g T #[v]) (u : Value) : Blk (w.setCell ⟨g, 0, none⟩ u) g T #[u] := by simpa using h.set_ 0 u
theorem far8 {w : World} {A : Option Addr} {c : Nat} {l : List UInt8} (h : SL w A c l) {g : Nat} (hne : ∀ a, A = some a → a.block ≠ g) (u : Value) : SL (w.setCell ⟨g, 0, none⟩ u) A c l := by
  refine ⟨fun hn => ?_, h.cap, h.none_⟩
  obtain ⟨ad, e, hb, hc⟩ := h.rb hn
  exact ⟨ad, e, by simpa [World.setCell] using hb, fun j hj => (World.cell?_of_block (Below.heap_setCell w ⟨g, 0, none⟩ u _ (by rw [block_of_add]; exact hne ad e))).trans (hc j hj)⟩
theorem of_bd {X w1 : World} {T : TypeId} {cs : Array Value} (b : Bl (X.alloc (.cells cs T)).drew w1) : Blk w1 X.heap.size T cs := of_b (X := X) (Bl.trans (Bl.drewN _ 1) b)
theorem cell8 {w : World} {g : Nat} {T : TypeId} {v : Value} (h : Blk w g T #[v]) : w.cell? ⟨g, 0, none⟩ = some v := h.cell 0
/-- What the drawn region leaves. -/
def Mid6 (a : Act) (gn : Nat) (nx : Com) (w : World) (x : List UInt8) (e : Exit) (a' : Act) (w' : World) : Prop :=
  e = .normal ∧ ∃ (A1 A2 A3 A4 : Option Addr) (n1 n2 n3 k1 k2 k3 k4 g8 : Nat),
    a' = (((((((((((a.put (some 23) (.pointer (some ⟨gn, 0, none⟩))).put (some 24) (.int .u64 (nx.n : Int))).put (some 25) (.slice A1 n1 k1)).put (some 26) (.pointer (some ⟨gn, 1, none⟩))).put (some 27) (.int .u64 (nx.a : Int))).put (some 28) (.slice A2 n2 k2)).put (some 29) (.pointer (some ⟨gn, 2, none⟩))).put (some 30) (.int .u64 (nx.long : Int))).put (some 31) (.slice A3 n3 k3)).put (some 32) (.slice A4 x.length k4)).put (some 8) (.pointer (some ⟨g8, 0, none⟩))) ∧
    Bl w w' ∧ Blk w' g8 22 #[.slice A4 x.length k4] ∧ SL w' A4 k4 x ∧ w.heap.size ≤ g8 ∧ ∀ a, A4 = some a → w.heap.size ≤ a.block
section
variable {p : Nat} {Xs S : Nat → Prop} {JS : Nat → World → Prop} {Jx : Nat → World → Prop} {W : World} {D0 : DS} {c : Com} {b : List UInt8} {ad : Option Addr} {cap gn gb gd gs : Nat}
set_option maxRecDepth 100000 in
set_option maxHeartbeats 4000000 in
theorem acts2_any (I : In2 p Xs S JS Jx W D0 c b ad cap gn gb gd gs) (n l1 : Nat) (h0 : JS 0 W) (hY : ∀ m, Yield1 m l1 p Xs S JS Jx D0 c b) :
    CallsIn Fence.wide n Try.prog 23 #[.func (.yield l1) #[] #[], .pointer (some ⟨gn, 0, none⟩), .pointer (some ⟨gb, 0, none⟩), .pointer (some ⟨gd, 0, none⟩), .pointer (some ⟨gs, 0, none⟩)] W fun e W' => (∃ v, e = .returned v) ∧
      ((IsDisk p Xs W' (runS c b D0 (many b + 3)) ∧ JS (many b + 3) W' ∧ FrS S p W W') ∨ ∃ j, Jx j W' ∧ FrS S p W W') := by
  obtain ⟨nx, hnx⟩ : ∃ nx, nx = nextOf c b := ⟨_, rfl⟩
  have c0 := I.kn.cell 0; have c1 := I.kn.cell 1; have c2 := I.kn.cell 2
  have cb := I.kb.cell 0; have cd := I.kd.cell 0; have cs := I.ks.cell 0
  rw [← hnx] at c0 c1 c2
  unfold comV at c0 c1 c2
  simp only [List.getElem?_toArray, List.getElem?_cons_zero, List.getElem?_cons_succ] at c0 c1 c2 cb cd cs
  have hna := I.na
  rw [← hnx] at hna
  have wa : IntKind.i64.wrap (nx.a : Int) = (nx.a : Int) := IntWalk.i64_in _ (by omega)
  have HN := Lib.hid hnx
  clear hnx
  refine callsIn_of_wp_marks Try.func23 rfl trivial ?_ rfl
  simp only [Try.ntmps23, List.size_toArray, List.length_cons, List.length_nil, Nat.reduceAdd, Nat.reduceSub, Array.replicate_succ, Array.replicate_zero, List.push_toArray, List.append_toArray, List.nil_append, List.cons_append]
  have z1 := I.kn.lt; have z2 := I.kb.lt
  gi_wp2
  refine ⟨trivial, fun h => absurd h (by decide), (callsIn_wide.2 (chunk_any _ _ _ _)).mono ?_⟩
  rintro e w' ⟨rfl, rfl⟩
  gi_wp2
  obtain ⟨W4, hW4⟩ : ∃ W4, W4 = (((W.alloc (.cells #[.func (.yield l1) #[] #[]] 58)).alloc (.cells #[.int .i64 (2 + 31 * (nx.a : Int))] 3)).alloc (.cells #[.slice ad b.length cap] 22)).alloc (.cells #[.int .i64 64] 3) := ⟨_, rfl⟩
  rw [← hW4]
  have hsz : W4.heap.size = W.heap.size + 4 := by rw [hW4]; simp
  have HW4 := Lib.hid hW4
  clear hW4 c0 c1 c2 cb cd cs wa
  refine rangeFunc_outer rfl rfl (gf := 31) (lb := #[.pointer (some ⟨W.heap.size + 2, 0, none⟩), .pointer (some ⟨W.heap.size + 3, 0, none⟩)]) rfl trivial (enters_of Try.func31 (by kernel_rfl) rfl) ?_
  intro fn hfn rec hrec W1 hW1
  rw [hsz]
  have hstart : J2 I l1 rec 0 W1 := by
    have hw4 := HW4.out
    have k5 := (((Blk.new W 58 #[.func (.yield l1) #[] #[]]).alloc (.cells #[.int .i64 (2 + 31 * (nx.a : Int))] 3)).alloc (.cells #[.slice ad b.length cap] 22)).alloc (.cells #[.int .i64 64] 3)
    have k6 := ((new_at (W.alloc (.cells #[.func (.yield l1) #[] #[]] 58)) 3 #[.int .i64 (2 + 31 * (nx.a : Int))] (W.heap.size + 1) (by simp)).alloc (.cells #[.slice ad b.length cap] 22)).alloc (.cells #[.int .i64 64] 3)
    have k7 := (new_at ((W.alloc (.cells #[.func (.yield l1) #[] #[]] 58)).alloc (.cells #[.int .i64 (2 + 31 * (nx.a : Int))] 3)) 22 #[.slice ad b.length cap] (W.heap.size + 2) (by simp)).alloc (.cells #[.int .i64 64] 3)
    have k8 := new_at (((W.alloc (.cells #[.func (.yield l1) #[] #[]] 58)).alloc (.cells #[.int .i64 (2 + 31 * (nx.a : Int))] 3)).alloc (.cells #[.slice ad b.length cap] 22)) 3 #[.int .i64 64] (W.heap.size + 3) (by simp)
    have bl4 := (((Bl.alloc W (.cells #[.func (.yield l1) #[] #[]] 58)).trans (Bl.alloc _ (.cells #[.int .i64 (2 + 31 * (nx.a : Int))] 3))).trans (Bl.alloc _ (.cells #[.slice ad b.length cap] 22))).trans (Bl.alloc _ (.cells #[.int .i64 64] 3))
    rw [← hw4] at k5 k6 k7 k8 bl4
    have bl := (bl4.trans (Bl.alloc W4 (.deferred (some [])))).trans (Bl.alloc _ (.loop (rec .ready none)))
    have e6 : (2 : Int) + 31 * (nx.a : Int) = ((2 + 31 * (nextOf c b).a + 0 : Nat) : Int) := by rw [← HN.out]; omega
    rw [e6] at k6
    have hlp := World.alloc_heap_new (W4.alloc (.deferred (some []))) (.loop (rec .ready none))
    rw [World.size_alloc, hsz] at hlp
    have hd0 := World.alloc_heap_new W4 (.deferred (some []))
    rw [hsz] at hd0
    have hdf := (Below.heap_alloc (W4.alloc (.deferred (some []))) (.loop (rec .ready none)) (W.heap.size + 4) (by rw [World.size_alloc, hsz]; exact Nat.lt_succ_self _)).trans hd0
    have hs1 : W1.heap.size = W.heap.size + 6 := by rw [hW1, World.size_alloc, World.size_alloc, hsz]
    rw [← hW1] at bl hlp hdf
    refine ⟨⟨(I.disk.weak (fun x hx h => ⟨h, by omega⟩)).bl bl, I.hJS _ _ _ h0 bl, FrS.of_fr (Fr.of_bl bl I.disk.plt), fun x h1 h2 => I.disk.safe_new bl h1 (by omega), by omega⟩, ?_, ?_, ?_, ?_, hlp, hdf⟩
    · rw [hW1]; exact (k5.alloc _).alloc _
    · rw [hW1]; exact (k6.alloc _).alloc _
    · rw [hW1]; exact (k7.alloc _).alloc _
    · rw [hW1]; exact (k8.alloc _).alloc _
  refine (chunk1_any (n - 1) (W.heap.size + 5) (W.heap.size + 2) (W.heap.size + 3) b.length cap ad (fun h => by
    obtain ⟨a, e, _⟩ := I.sl.sl.rb h
    exact ⟨a, e⟩) I.nl I.sl.sl.cap (J2 I l1 rec) (J2x p S Jx W rec) ?_ ?_ ?_ W1 hstart).mono ?_
  · intro k w n h
    exact ⟨h.run.bl (Bl.drewN _ _), h.b5, h.b6, h.bs, h.bn, h.lp, h.df⟩
  · intro k w h
    exact ⟨h.bs.cell 0, h.bn.cell 0⟩
  · intro k w hk0 hJ
    have hk : k < many b := hk0
    clear hk0
    have hbl : 0 < b.length := by have hk2 := hk; unfold many at hk2; omega
    obtain ⟨ad', hade, _⟩ := I.sl.sl.rb hbl
    have hslw := hJ.run.fr.sl I.sl I.slS
    have hpv0 : ∃ m, partV ad b.length k = .slice (some (ad'.add (64 * k))) (chunk b k).length m ∧ SLs p w (some (ad'.add (64 * k))) m (chunk b k) := by
      rw [hade] at hslw ⊢
      exact sl_part hslw k
    obtain ⟨mc, hpv, hpsl⟩ := hpv0
    rw [hpv]
    refine round_at hrec hfn rfl hJ.lp ?_
    have HJ := Lib.hid hJ; have HPSL := Lib.hid hpsl
    have hwsz := hJ.run.size
    have HADE := Lib.hid hade
    clear hJ hslw hpsl hpv hade
    gi_wp2
    have hlt5 : W.heap.size + 5 < w.heap.size := (Array.getElem?_eq_some_iff.1 HJ.out.lp).1
    refine ⟨(Below.heap_alloc w _ _ hlt5).trans HJ.out.lp, ?_⟩
    obtain ⟨wa, hwa⟩ : ∃ wa, wa = w.alloc (.cells #[.slice (some (ad'.add (64 * k))) (chunk b k).length mc] 22) := ⟨_, rfl⟩
    obtain ⟨wb, hwb⟩ : ∃ wb, wb = wa.putObj (W.heap.size + 5) (.loop (rec .busy none)) := ⟨_, rfl⟩
    rw [← hwa, ← hwb]
    have hba : Bl w wa := by rw [hwa]; exact Bl.alloc _ _
    have hlpa : wa.heap[W.heap.size + 5]? = some (.loop (rec .ready none)) := (hba.block _ hlt5).trans HJ.out.lp
    have hoff : Off wa wb (W.heap.size + 5) := by rw [hwb]; exact Off.put hlpa rfl _
    have hrun := (HJ.out.run.bl hba).off (by omega) hoff
    have hbusy : wb.heap[W.heap.size + 5]? = some (.loop (rec .busy none)) := by
      rw [hwb]; exact World.putObj_heap_same (Nat.lt_of_lt_of_le hlt5 hba.size)
    have hwas : w.heap.size < wa.heap.size := by rw [hwa, World.size_alloc]; exact Nat.lt_succ_self _
    have hpne : p ≠ W.heap.size + 5 := by have := I.disk.plt; omega
    have hkp : Blk wb w.heap.size 22 #[.slice (some (ad'.add (64 * k))) (chunk b k).length mc] := hoff.blk (by rw [hwa]; exact Blk.new _ _ _)
    have hb5 := hoff.blk (HJ.out.b5.below hba HJ.out.b5.lt)
    have hb6 := hoff.blk (HJ.out.b6.below hba HJ.out.b6.lt)
    have hbs := hoff.blk (HJ.out.bs.below hba HJ.out.bs.lt)
    have hbn := hoff.blk (HJ.out.bn.below hba HJ.out.bn.lt)
    have hdf := (hoff.block (W.heap.size + 4) (by omega)).trans ((hba.block (W.heap.size + 4) (by omega)).trans HJ.out.df)
    have hps : Safe p wb w.heap.size := hoff.safe' hpne (HJ.out.run.disk.safe_new hba (Nat.le_refl _) hwas)
    have hgd := hrun.fr.blk I.kd I.sd.1 I.sd.2
    have hsl0 := HPSL.out.fr (Fr.of_bl hba HJ.out.run.disk.plt)
    have hslb : SLs p wb (some (ad'.add (64 * k))) mc (chunk b k) := ⟨hoff.sl hsl0.sl, fun a ha hn => hoff.safe' hpne (hsl0.safe a ha hn)⟩
    have hact : ActFor p (fun x => Xs x ∧ x ≠ W.heap.size + 1) S wb (.func (.func 25) #[] #[.pointer (some ⟨gd, 0, none⟩), .pointer (some ⟨W.heap.size + 1, 0, none⟩), .pointer (some ⟨w.heap.size, 0, none⟩)]) (runS c b D0 k) (runS c b D0 (k + 1)) := by
      refine ⟨25, _, rfl, enters_of Try.func25 (by kernel_rfl) rfl, fun w' hf' hd' => ?_⟩
      have e : runS c b D0 (k + 1) = dWrite (runS c b D0 k) ((2 + 31 * (nextOf c b).a + k : Nat) : Int) (chunk b k) := by
        show actS c b k _ = _
        unfold actS; rw [if_pos hk]
      rw [e]
      have hcnt := (runS_parts I.calm I.na I.nl k (Nat.le_of_lt hk)).cnt
      have hnS : ∀ x, W.heap.size ≤ x → ¬ S x := fun x hx h => by have := I.Slt x h; omega
      exact actPart_any hd' gd (W.heap.size + 1) w.heap.size ((hf'.blk hgd (hrun.fr.safe _ I.sd.1) I.sd.2).cell 0) _ ((hf'.blk hb6 (hrun.own _ (by omega) (by omega)) (hnS _ (by omega))).cell 0) (some (ad'.add (64 * k))) mc (chunk b k)
        ((hf'.blk hkp hps (hnS _ (by omega))).cell 0) (hf'.sl hslb (fun a ha _ => by cases ha; rw [block_of_add]; exact I.slS ad' HADE.out hbl)).sl (by rw [hcnt]; have := I.nl; have hk2 := hk; unfold many at hk2; omega)
        (fun x hx => ⟨I.hXs x (by have := hf'.size; have := hoff.size; omega), by have := hf'.size; have := hoff.size; omega⟩)
    obtain ⟨fn1, tmps1, assign1, body1, hy, hR⟩ := hY 0 (fun x => Xs x ∧ x ≠ W.heap.size + 1) k wb _ (fun x h => h.1) (fun x hx => ⟨I.hXs x (by have := hoff.size; omega), by have := hoff.size; omega⟩) (by omega) hrun.disk hrun.js (fun x hx => hrun.fr.safe _ (I.Ssafe x hx)) hact
    have y5 := hb5.cell 0
    simp only [List.getElem?_toArray, List.getElem?_cons_zero] at y5
    have HRUN := Lib.hid hrun; have HBUSY := Lib.hid hbusy; have HB5 := Lib.hid hb5; have HB6 := Lib.hid hb6; have HBS := Lib.hid hbs; have HBN := Lib.hid hbn; have HDF := Lib.hid hdf
    have HWB := Lib.hid hwb; have HWA := Lib.hid hwa
    clear hact hslb hsl0 hgd hps hkp hb5 hb6 hbs hbn hdf hbusy hrun hoff hlpa hba hwa hwb
    gi_wp2
    refine ⟨fun h => absurd h (by decide), (roundIn_any hR).mono ?_⟩
    rintro e w3 (⟨rfl, hd3, hj3, hf3⟩ | ⟨rfl, hx3, hf3⟩)
    · have hr3 := HRUN.out.cont hd3 hj3 hf3
      have e5 : Blk w3 _ _ _ := (HRUN.out.own_blk hf3 (Nat.le_refl _) (by omega)).trans HB5.out
      have e6 : Blk w3 _ _ _ := (HRUN.out.own_blk hf3 (Nat.le_succ _) (by omega)).trans HB6.out
      have es : Blk w3 _ _ _ := (HRUN.out.own_blk hf3 (by omega) (by omega)).trans HBS.out
      have en : Blk w3 _ _ _ := (HRUN.out.own_blk hf3 (by omega) (by omega)).trans HBN.out
      have ed := (HRUN.out.own_blk hf3 (by omega) (by omega)).trans HDF.out
      have eb := (HRUN.out.own_blk hf3 (by omega) (by omega)).trans HBUSY.out
      have y6 := e6.cell 0; have f6 := e6.frozen 0
      simp only [List.getElem?_toArray, List.getElem?_cons_zero] at y6
      have hwr : wrap64 (((2 + 31 * (nextOf c b).a + k : Nat) : Int) + 1) = ((2 + 31 * (nextOf c b).a + (k + 1) : Nat) : Int) := by
        rw [IntWalk.wrap64_in _ (by have := I.na; have := I.nl; have hk2 := hk; unfold many at hk2; omega)]; omega
      obtain ⟨q6, hq6⟩ : ∃ q6, q6 = ((2 + 31 * (nextOf c b).a + (k + 1) : Nat) : Int) := ⟨_, rfl⟩
      obtain ⟨q5, hq5⟩ : ∃ q5, q5 = ((2 + 31 * (nextOf c b).a + k : Nat) : Int) := ⟨_, rfl⟩
      rw [← hq5] at y6 hwr
      rw [← hq6] at hwr
      obtain ⟨w4, hw4⟩ : ∃ w4, w4 = w3.setCell ⟨W.heap.size + 1, 0, none⟩ (.int .i64 q6) := ⟨_, rfl⟩
      have hr4 := hr3.box (Nat.le_succ _) (by omega) 0 (.int .i64 q6)
      have t5 := e5.far (p := ⟨W.heap.size + 1, 0, none⟩) (by simp) (.int .i64 q6)
      have ts := es.far (p := ⟨W.heap.size + 1, 0, none⟩) (by simp) (.int .i64 q6)
      have tn := en.far (p := ⟨W.heap.size + 1, 0, none⟩) (by simp) (.int .i64 q6)
      have t6 := e6.set_ 0 (.int .i64 q6)
      have td := (Below.heap_setCell w3 ⟨W.heap.size + 1, 0, none⟩ (.int .i64 q6) (W.heap.size + 4) (by simp)).trans ed
      have tb := (Below.heap_setCell w3 ⟨W.heap.size + 1, 0, none⟩ (.int .i64 q6) (W.heap.size + 5) (by simp)).trans eb
      rw [← hw4] at hr4 t5 ts tn t6 td tb
      have hfin : J2 I l1 rec (k + 1) (w4.putObj (W.heap.size + 5) (.loop (rec .ready none))) := by
        have hof := Off.put tb rfl (.loop (rec .ready none))
        refine ⟨hr4.off (by omega) hof, hof.blk t5, hof.blk (by rw [hq6] at t6; simpa using t6), hof.blk ts, hof.blk tn, World.putObj_heap_same (Array.getElem?_eq_some_iff.1 tb).1, (hof.block _ (by omega)).trans td⟩
      have HFIN := Lib.hid hfin; have HTB := Lib.hid tb; have HW4' := Lib.hid hw4
      clear hr3 e5 e6 es en ed eb hr4 t5 ts tn t6 td tb hfin hw4 hq5 hq6 hd3 hj3 hf3 hR hy y5
      gi_wp2
      rw [← HW4'.out]
      exact round_post_normal hrec HTB.out (.inl ⟨rfl, HFIN.out⟩)
    · have eb := (HRUN.out.own_blk hf3 (by omega) (by omega)).trans HBUSY.out
      have ed := (HRUN.out.own_blk hf3 (by omega) (by omega)).trans HDF.out
      have hof := Off.put eb rfl (.loop (rec .done (some .ret)))
      have hfin : J2x p S Jx W rec (w3.putObj (W.heap.size + 5) (.loop (rec .done (some .ret)))) :=
        ⟨⟨k, I.hJx k w3 _ _ hx3 (by omega) hof⟩, (HRUN.out.fr.trans hf3).off (.inl (by omega)) hof (by have := I.disk.plt; omega), World.putObj_heap_same (Array.getElem?_eq_some_iff.1 eb).1, (hof.block _ (by omega)).trans ed⟩
      have HFIN := Lib.hid hfin; have HEB := Lib.hid eb
      clear eb ed hof hfin hx3 hf3 hR hy y5
      gi_wp2
      exact round_post_ret hrec HEB.out (.inr ⟨rfl, HFIN.out⟩)
  · rintro e W2 ⟨⟨v, rfl⟩, hJ | hJ⟩
    · refine ⟨none, _, end_loop hrec hJ.lp (by decide), ?_⟩
      obtain ⟨w5, hw5⟩ : ∃ w5, w5 = W2.putObj (W.heap.size + 5) (.loop (rec .exhausted none)) := ⟨_, rfl⟩
      rw [← hw5]
      have hof := Off.put hJ.lp rfl (.loop (rec .exhausted none))
      rw [← hw5] at hof
      have hrun : Run2 I (W.heap.size + 1) (W.heap.size + 6) (many b) w5 := hJ.run.off (by omega) hof
      have e5 := hof.blk hJ.b5
      have ed := (hof.block (W.heap.size + 4) (by omega)).trans hJ.df
      have HRUN := Lib.hid hrun; have HB5 := Lib.hid e5; have HDF := Lib.hid ed
      clear hJ hw5 hof hrun e5 ed
      obtain ⟨x, hx⟩ : ∃ x, x = sec (nextOf c b) := ⟨_, rfl⟩
      have k0 := HRUN.out.fr.blk I.kn I.sn.1 I.sn.2
      have c0 := k0.cell 0; have c1 := k0.cell 1; have c2 := k0.cell 2
      rw [← HN.out] at c0 c1 c2
      unfold comV at c0 c1 c2
      simp only [List.getElem?_toArray, List.getElem?_cons_zero, List.getElem?_cons_succ] at c0 c1 c2
      have HX := Lib.hid hx
      clear hx k0
      gi_wp2
      have hnn := I.nn
      rw [← HN.out] at hnn
      have hnl : nx.long ≤ 1984 := by rw [HN.out]; exact I.nl
      obtain ⟨x1, hx1⟩ : ∃ x1, x1 = [] ++ enc nx.n := ⟨_, rfl⟩
      obtain ⟨x2, hx2⟩ : ∃ x2, x2 = x1 ++ enc nx.a := ⟨_, rfl⟩
      obtain ⟨x3, hx3⟩ : ∃ x3, x3 = x2 ++ enc nx.long := ⟨_, rfl⟩
      have hxx : x = crcPut x3 := by rw [HX.out, ← HN.out, hx3, hx2, hx1]; rfl
      have hl1 : x1.length ≤ 10 := by rw [hx1, List.nil_append]; exact enc_len10 hnn
      have hl2 : x2.length ≤ 20 := by rw [hx2, List.length_append]; have := enc_len10 (n := nx.a) (by omega); omega
      have hl3 : x3.length ≤ 30 := by rw [hx3, List.length_append]; have := enc_len10 (n := nx.long) (by omega); omega
      have HX1 := Lib.hid hx1; have HX2 := Lib.hid hx2; have HX3 := Lib.hid hx3; have HXX := Lib.hid hxx
      clear hx1 hx2 hx3 hxx
      refine wpIn_wide.2 (region_mid (fun a => Mid6 a gn nx w5 x) ?_ ?_)
      · have hS0 : (fun w' : World => w'.cell? ⟨gn, 0, none⟩ = some (.int .u64 (nx.n : Int)) ∧ w'.cell? ⟨gn, 1, none⟩ = some (.int .u64 (nx.a : Int)) ∧ w'.cell? ⟨gn, 2, none⟩ = some (.int .u64 (nx.long : Int))) w5.drew := ⟨c0, c1, c2⟩
        have hKB : ∀ w' : World, Bl w5 w' → (fun w' : World => w'.cell? ⟨gn, 0, none⟩ = some (.int .u64 (nx.n : Int)) ∧ w'.cell? ⟨gn, 1, none⟩ = some (.int .u64 (nx.a : Int)) ∧ w'.cell? ⟨gn, 2, none⟩ = some (.int .u64 (nx.long : Int))) w' := fun w' hb => ⟨Bl.some' hb c0, Bl.some' hb c1, Bl.some' hb c2⟩
        have HS0 := Lib.hid hS0; have HKB := Lib.hid hKB
        have bC : Bl w5 w5.drew := Bl.drewN w5 1
        have F1 : True := trivial
        have F2 : True := trivial
        have F3 : True := trivial
        have F4 : True := trivial
        clear hS0 hKB c0 c1 c2
        go_region_held3 (fun w' : World => w'.cell? ⟨gn, 0, none⟩ = some (.int .u64 (nx.n : Int)) ∧ w'.cell? ⟨gn, 1, none⟩ = some (.int .u64 (nx.a : Int)) ∧ w'.cell? ⟨gn, 2, none⟩ = some (.int .u64 (nx.long : Int)))
          (first
            | exact HS0.out
            | exact HKB.out _ bC
            | exact HKB.out _ (bC.trans (Bl.alloc _ _))
            | exact HKB.out _ (Below.setCell bC n8 _))
          (first
            | (go_at_call 28
               have _ := F1
               refine (put_sl (SL.nil_ _) nx.n x1 HX1.out (by simp) hnn).mono ?_
               rintro e w1 ⟨A1, k1, rfl, s1, _, b⟩
               (first | (have f8 := Blk.below f8 b f8.lt; have y8 := cell8 f8; have z8 := f8.frozen 0) | (have n8 := bC.size; have f8 := (by first | exact of_bd b | exact of_b b); have y8 := cell8 f8; have z8 := f8.frozen 0) | skip)
               (try rw [show w5.drew.heap.size = w5.heap.size from rfl] at n8)
               (try rw [show w5.drew.heap.size = w5.heap.size from rfl] at f8)
               (try rw [show w5.drew.heap.size = w5.heap.size from rfl] at y8)
               (try rw [show w5.drew.heap.size = w5.heap.size from rfl] at z8)
               have bC := (by first | exact bC.trans b | exact (bC.trans (Bl.alloc _ _)).trans b)
               clear b F1)
            | (go_at_call 28
               have _ := F2
               refine (put_sl (by first | exact s1 | exact s1.step (Bl.alloc _ _)) nx.a x2 HX2.out (by omega) (by omega)).mono ?_
               rintro e w2 ⟨A2, k2, rfl, s2, _, b⟩
               (first | (have f8 := Blk.below f8 b f8.lt; have y8 := cell8 f8; have z8 := f8.frozen 0) | (have n8 := bC.size; have f8 := (by first | exact of_bd b | exact of_b b); have y8 := cell8 f8; have z8 := f8.frozen 0) | skip)
               (try rw [show w5.drew.heap.size = w5.heap.size from rfl] at n8)
               (try rw [show w5.drew.heap.size = w5.heap.size from rfl] at f8)
               (try rw [show w5.drew.heap.size = w5.heap.size from rfl] at y8)
               (try rw [show w5.drew.heap.size = w5.heap.size from rfl] at z8)
               have bC := (by first | exact bC.trans b | exact (bC.trans (Bl.alloc _ _)).trans b)
               clear b F2)
            | (go_at_call 28
               have _ := F3
               refine (put_sl (by first | exact s2 | exact s2.step (Bl.alloc _ _)) nx.long x3 HX3.out (by omega) (by omega)).mono ?_
               rintro e w3 ⟨A3, k3, rfl, s3, _, b⟩
               (first | (have f8 := Blk.below f8 b f8.lt; have y8 := cell8 f8; have z8 := f8.frozen 0) | (have n8 := bC.size; have f8 := (by first | exact of_bd b | exact of_b b); have y8 := cell8 f8; have z8 := f8.frozen 0) | skip)
               (try rw [show w5.drew.heap.size = w5.heap.size from rfl] at n8)
               (try rw [show w5.drew.heap.size = w5.heap.size from rfl] at f8)
               (try rw [show w5.drew.heap.size = w5.heap.size from rfl] at y8)
               (try rw [show w5.drew.heap.size = w5.heap.size from rfl] at z8)
               have bC := (by first | exact bC.trans b | exact (bC.trans (Bl.alloc _ _)).trans b)
               clear b F3)
            | (go_at_call 27
               have _ := F4
               refine (crcPut_new (by first | exact s3 | exact s3.step (Bl.alloc _ _)) x HXX.out (by omega)).mono ?_
               rintro e w4 ⟨A4, k4, rfl, s4, b, n4⟩
               have nX := bC.size
               (try have n8x := f8.lt)
               (first | (have f8 := Blk.below f8 b f8.lt; have y8 := cell8 f8; have z8 := f8.frozen 0) | (have n8 := bC.size; have f8 := (by first | exact of_bd b | exact of_b b); have y8 := cell8 f8; have z8 := f8.frozen 0) | skip)
               (try rw [show w5.drew.heap.size = w5.heap.size from rfl] at n8)
               (try rw [show w5.drew.heap.size = w5.heap.size from rfl] at f8)
               (try rw [show w5.drew.heap.size = w5.heap.size from rfl] at y8)
               (try rw [show w5.drew.heap.size = w5.heap.size from rfl] at z8)
               have bC := (by first | exact bC.trans b | exact (bC.trans (Bl.alloc _ _)).trans b)
               clear b F4))
        all_goals
          first
            | (refine ⟨rfl, A1, A2, A3, A4, x1.length, x2.length, x3.length, k1, k2, k3, k4, w5.heap.size, by simp only [Act.put, List.setIfInBounds_toArray, List.set_cons_zero, List.set_cons_succ], Below.setCell bC n8 _, set8 f8 _, far8 s4 (fun a ha e => ?_) _, n8, fun a ha => ?_⟩
               · have h1 := n4 a ha
                 (try have h2 := n8x)
                 (try simp at h1)
                 omega
               · have h1 := n4 a ha
                 (try simp at h1)
                 omega)
            | (refine ⟨rfl, A1, A2, A3, A4, x1.length, x2.length, x3.length, k1, k2, k3, k4, w1.heap.size, by simp only [Act.put, List.setIfInBounds_toArray, List.set_cons_zero, List.set_cons_succ], Below.setCell bC n8 _, set8 f8 _, far8 s4 (fun a ha e => ?_) _, n8, fun a ha => ?_⟩
               · have h1 := n4 a ha
                 (try have h2 := n8x)
                 (try simp at h1)
                 omega
               · have h1 := n4 a ha
                 (try simp at h1)
                 omega)
            | (refine ⟨rfl, A1, A2, A3, A4, x1.length, x2.length, x3.length, k1, k2, k3, k4, w2.heap.size, by simp only [Act.put, List.setIfInBounds_toArray, List.set_cons_zero, List.set_cons_succ], Below.setCell bC n8 _, set8 f8 _, far8 s4 (fun a ha e => ?_) _, n8, fun a ha => ?_⟩
               · have h1 := n4 a ha
                 (try have h2 := n8x)
                 (try simp at h1)
                 omega
               · have h1 := n4 a ha
                 (try simp at h1)
                 omega)
            | (refine ⟨rfl, A1, A2, A3, A4, x1.length, x2.length, x3.length, k1, k2, k3, k4, w3.heap.size, by simp only [Act.put, List.setIfInBounds_toArray, List.set_cons_zero, List.set_cons_succ], Below.setCell bC n8 _, set8 f8 _, far8 s4 (fun a ha e => ?_) _, n8, fun a ha => ?_⟩
               · have h1 := n4 a ha
                 (try have h2 := n8x)
                 (try simp at h1)
                 omega
               · have h1 := n4 a ha
                 (try simp at h1)
                 omega)
            | (refine ⟨rfl, A1, A2, A3, A4, x1.length, x2.length, x3.length, k1, k2, k3, k4, w4.heap.size, by simp only [Act.put, List.setIfInBounds_toArray, List.set_cons_zero, List.set_cons_succ], bC.trans (Bl.alloc _ _), Blk.new _ _ _, s4.step (Bl.alloc _ _), bC.size, fun a ha => ?_⟩
               have h1 := n4 a ha
               omega)
      · rintro e a' w6 ⟨rfl, A1, A2, A3, A4, n1, n2, n3, k1, k2, k3, k4, g8, rfl, b6, h8, s8, ng, na⟩
        have hpl := I.disk.plt
        have hnS : ∀ y, W.heap.size ≤ y → ¬ S y := fun y hy h => by have := I.Slt y h; omega
        have r6 : Run2 I (W.heap.size + 1) (W.heap.size + 6) (many b) w6 := HRUN.out.bl b6
        have hs5 := HRUN.out.size
        have e5 := HB5.out.below b6 HB5.out.lt
        replace HDF := Lib.hid ((b6.block (W.heap.size + 4) (by omega)).trans HDF.out)
        have sg8 : Safe p w6 g8 := HRUN.out.disk.safe_new b6 ng h8.lt
        have sl8 : SLs p w6 A4 k4 x := SLs.mk' s8 (fun y hA hlt => HRUN.out.disk.safe_new b6 (by
          cases A4 with
          | none => simp at hA
          | some a => simp at hA; have := na a rfl; omega) hlt)
        have nS8 : ∀ a, A4 = some a → 0 < x.length → ¬ S a.block := fun a ha _ => hnS _ (by have := na a ha; omega)
        have hgd6 := r6.fr.blk I.kd I.sd.1 I.sd.2
        have hgs6 := r6.fr.blk I.ks I.ss.1 I.ss.2
        have ee1 : runS c b D0 (many b + 1) = dSync (runS c b D0 (many b)) := by
          show actS c b (many b) _ = _
          unfold actS; rw [if_neg (by omega), if_pos rfl]
        have ee2 : runS c b D0 (many b + 2) = dWrite (runS c b D0 (many b + 1)) ((nx.n % 2 : Nat) : Int) x := by
          show actS c b (many b + 1) _ = _
          unfold actS; rw [if_neg (by omega), if_neg (by omega), if_pos rfl, HX.out, HN.out]
        have ee3 : runS c b D0 (many b + 3) = dSync (runS c b D0 (many b + 2)) := by
          show actS c b (many b + 2) _ = _
          unfold actS; rw [if_neg (by omega), if_neg (by omega), if_neg (by omega)]
        have hcnt : (runS c b D0 (many b + 1)).waits.length ≤ 100000 := by
          have h1 := (runS_parts I.calm I.na I.nl (many b) (Nat.le_refl _)).cnt
          have h2 := I.nl
          rw [ee1]; unfold dSync; split
          · rw [h1]; unfold many; omega
          · simp
        have hsync : ∀ (w : World) (D : DS), Blk w gd 24 #[.pointer (some ⟨p, 0, none⟩)] → Safe p w gd → ActFor p (fun y => Xs y ∧ y ≠ W.heap.size + 1) S w (.func (.func 21) #[] #[.pointer (some ⟨gd, 0, none⟩)]) D (dSync D) := by
          intro w D hb hs
          exact ⟨21, _, rfl, enters_of Try.func21 (by kernel_rfl) rfl, fun w' hf' hd' => actSync_any hd' gd ((hf'.blk hb hs I.sd.2).cell 0)⟩
        have hact1 := hsync w6 (runS c b D0 (many b)) hgd6 (r6.fr.safe _ I.sd.1)
        rw [← ee1] at hact1
        obtain ⟨fn1, tmps1, assign1, body1, hy1, hR1⟩ := hY 0 (fun y => Xs y ∧ y ≠ W.heap.size + 1) (many b) w6 _ (fun y h => h.1) (fun y hy => ⟨I.hXs y (by have := r6.size; omega), by have := r6.size; omega⟩) (by omega) r6.disk r6.js (fun y hy => r6.fr.safe _ (I.Ssafe y hy)) hact1
        have y5 := e5.cell 0; have ys := hgs6.cell 0
        simp only [List.getElem?_toArray, List.getElem?_cons_zero] at y5 ys
        have HE5 := Lib.hid e5; have HSG8 := Lib.hid sg8; have HSL8 := Lib.hid sl8; have HGD6 := Lib.hid hgd6; have H8 := Lib.hid h8; have HR6 := Lib.hid r6
        have HE1 := Lib.hid ee1; have HE2 := Lib.hid ee2; have HE3 := Lib.hid ee3; have HNS8 := Lib.hid nS8
        have HNG := Lib.hid ng
        clear e5 sg8 sl8 hgd6 hgs6 h8 r6 s8 b6 hact1 ee1 ee2 ee3 na nS8
        simp only [Act.put, List.setIfInBounds_toArray, List.set_cons_zero, List.set_cons_succ]
        gi_wp2
        refine ⟨fun h => absurd h (by decide), (roundIn_any' hR1).mono ?_⟩
        rintro e w7 (⟨rfl, hd7, hj7, hf7⟩ | ⟨rfl, hx7, hf7⟩)
        · have r7 := HR6.out.cont hd7 hj7 hf7
          have h8' := hf7.blk H8.out HSG8.out (hnS _ (by have := HNG.out; omega))
          have sg8' := hf7.safe _ HSG8.out
          have sl8' := hf7.sl HSL8.out HNS8.out
          have hgd7 := hf7.blk HGD6.out (HR6.out.fr.safe _ I.sd.1) I.sd.2
          have hgn7 := r7.fr.blk I.kn I.sn.1 I.sn.2
          have e57 : Blk w7 _ _ _ := (HR6.out.own_blk hf7 (Nat.le_refl _) (by omega)).trans HE5.out
          have hgs7 := r7.fr.blk I.ks I.ss.1 I.ss.2
          replace HDF := Lib.hid ((HR6.out.own_blk hf7 (x := W.heap.size + 4) (by omega) (by omega)).trans HDF.out)
          have hact2 : ActFor p (fun y => Xs y ∧ y ≠ W.heap.size + 1) S w7 (.func (.func 29) #[] #[.pointer (some ⟨gd, 0, none⟩), .pointer (some ⟨gn, 0, none⟩), .pointer (some ⟨g8, 0, none⟩)]) (runS c b D0 (many b + 1)) (runS c b D0 (many b + 2)) := by
            refine ⟨29, _, rfl, enters_of Try.func29 (by kernel_rfl) rfl, fun w' hf' hd' => ?_⟩
            rw [HE2.out]
            have hn0 : w'.cell? ⟨gn, 0, none⟩ = some (.int .u64 (nx.n : Int)) := by
              have := (hf'.blk hgn7 (r7.fr.safe _ I.sn.1) I.sn.2).cell 0
              rw [← HN.out] at this
              exact this
            exact actCommit_any hd' gd gn g8 ((hf'.blk hgd7 (r7.fr.safe _ I.sd.1) I.sd.2).cell 0) nx.n hn0 A4 k4 x ((hf'.blk h8' sg8' (hnS _ (by have := HNG.out; omega))).cell 0) (hf'.sl sl8' HNS8.out).sl hcnt
              (fun y hy => ⟨I.hXs y (by have := r7.size; have := hf'.size; omega), by have := r7.size; have := hf'.size; omega⟩)
          obtain ⟨fn2, tmps2, assign2, body2, hy2, hR2⟩ := hY 0 (fun y => Xs y ∧ y ≠ W.heap.size + 1) (many b + 1) w7 _ (fun y h => h.1) (fun y hy => ⟨I.hXs y (by have := r7.size; omega), by have := r7.size; omega⟩) (by omega) r7.disk r7.js (fun y hy => r7.fr.safe _ (I.Ssafe y hy)) hact2
          have y57 := e57.cell 0
          simp only [List.getElem?_toArray, List.getElem?_cons_zero] at y57
          have HE57 := Lib.hid e57; have HGD7 := Lib.hid hgd7; have HR7 := Lib.hid r7
          clear h8' sg8' sl8' hgd7 hgn7 e57 hgs7 r7 hact2 hd7 hj7 hf7 hy1 hR1 y5 ys
          gi_wp2
          refine ⟨fun h => absurd h (by decide), (roundIn_any' hR2).mono ?_⟩
          rintro e w8 (⟨rfl, hd8, hj8, hf8⟩ | ⟨rfl, hx8, hf8⟩)
          · have r8 := HR7.out.cont hd8 hj8 hf8
            have hgd8 := hf8.blk HGD7.out (HR7.out.fr.safe _ I.sd.1) I.sd.2
            have e58 : Blk w8 _ _ _ := (HR7.out.own_blk hf8 (Nat.le_refl _) (by omega)).trans HE57.out
            have hgs8 := r8.fr.blk I.ks I.ss.1 I.ss.2
            replace HDF := Lib.hid ((HR7.out.own_blk hf8 (x := W.heap.size + 4) (by omega) (by omega)).trans HDF.out)
            have hact3 := hsync w8 (runS c b D0 (many b + 2)) hgd8 (r8.fr.safe _ I.sd.1)
            rw [← HE3.out] at hact3
            obtain ⟨fn3, tmps3, assign3, body3, hy3, hR3⟩ := hY 0 (fun y => Xs y ∧ y ≠ W.heap.size + 1) (many b + 2) w8 _ (fun y h => h.1) (fun y hy => ⟨I.hXs y (by have := r8.size; omega), by have := r8.size; omega⟩) (by omega) r8.disk r8.js (fun y hy => r8.fr.safe _ (I.Ssafe y hy)) hact3
            have y58 := e58.cell 0; have ys8 := hgs8.cell 0
            simp only [List.getElem?_toArray, List.getElem?_cons_zero] at y58 ys8
            have HR8 := Lib.hid r8
            clear hgd8 e58 hgs8 r8 hact3 hd8 hj8 hf8 hy2 hR2 y57
            gi_wp2
            refine ⟨fun h => absurd h (by decide), (roundIn_any' hR3).mono ?_⟩
            rintro e w9 (⟨rfl, hd9, hj9, hf9⟩ | ⟨rfl, hx9, hf9⟩)
            · have r9 := HR8.out.cont hd9 hj9 hf9
              have ed := (HR8.out.own_blk hf9 (x := W.heap.size + 4) (by omega) (by omega)).trans HDF.out
              have hof2 := Off.put ed rfl (.deferred none)
              have r10 := r9.off (by omega) hof2
              have HED := Lib.hid ed; have HR10 := Lib.hid r10
              clear ed hof2 r9 r10 hd9 hj9 hf9 hy3 hR3 y58 ys8
              gi_wp2
              refine ⟨by simp, .inl ⟨_, _, rfl, run_takeDeferred HED.out, ?_⟩⟩
              exact ⟨_, results_none rfl _ _ _, ⟨_, rfl⟩, .inl ⟨HR10.out.disk.weak (fun y _ h => h.1), HR10.out.js, HR10.out.fr⟩⟩
            · clear hy3 hR3 y58 ys8
              have ed := (HR8.out.own_blk hf9 (x := W.heap.size + 4) (by omega) (by omega)).trans HDF.out
              have hof2 := Off.put ed rfl (.deferred none)
              have h2 := I.hJx (many b + 2) _ _ _ hx9 (by omega) hof2
              have h3 := (HR8.out.fr.trans hf9).off (.inl (by omega)) hof2 (by omega)
              have HED := Lib.hid ed; have H2 := Lib.hid h2; have H3 := Lib.hid h3
              clear ed hof2 h2 h3 hx9 hf9
              gi_wp2
              refine ⟨by simp, .inl ⟨_, _, rfl, run_takeDeferred HED.out, ?_⟩⟩
              exact ⟨_, results_none rfl _ _ _, ⟨_, rfl⟩, .inr ⟨(many b + 2), H2.out, H3.out⟩⟩
          · clear hy2 hR2 y57
            have ed := (HR7.out.own_blk hf8 (x := W.heap.size + 4) (by omega) (by omega)).trans HDF.out
            have hof2 := Off.put ed rfl (.deferred none)
            have h2 := I.hJx (many b + 1) _ _ _ hx8 (by omega) hof2
            have h3 := (HR7.out.fr.trans hf8).off (.inl (by omega)) hof2 (by omega)
            have HED := Lib.hid ed; have H2 := Lib.hid h2; have H3 := Lib.hid h3
            clear ed hof2 h2 h3 hx8 hf8
            gi_wp2
            refine ⟨fun _ h => (by cases h), ?_⟩
            gi_wp2
            refine ⟨by simp, .inl ⟨_, _, rfl, run_takeDeferred HED.out, ?_⟩⟩
            exact ⟨_, results_none rfl _ _ _, ⟨_, rfl⟩, .inr ⟨(many b + 1), H2.out, H3.out⟩⟩
        · clear hy1 hR1 y5 ys
          have ed := (HR6.out.own_blk hf7 (x := W.heap.size + 4) (by omega) (by omega)).trans HDF.out
          have hof2 := Off.put ed rfl (.deferred none)
          have h2 := I.hJx (many b) _ _ _ hx7 (by omega) hof2
          have h3 := (HR6.out.fr.trans hf7).off (.inl (by omega)) hof2 (by omega)
          have HED := Lib.hid ed; have H2 := Lib.hid h2; have H3 := Lib.hid h3
          clear ed hof2 h2 h3 hx7 hf7
          gi_wp2
          refine ⟨fun _ h => (by cases h), ?_⟩
          gi_wp2
          refine ⟨by simp, .inl ⟨_, _, rfl, run_takeDeferred HED.out, ?_⟩⟩
          exact ⟨_, results_none rfl _ _ _, ⟨_, rfl⟩, .inr ⟨(many b), H2.out, H3.out⟩⟩
    · refine ⟨some .ret, _, end_loop hrec hJ.lp (by decide), ?_⟩
      have hof := Off.put hJ.lp rfl (.loop (rec .exhausted (some .ret)))
      obtain ⟨w5, hw5⟩ : ∃ w5, w5 = W2.putObj (W.heap.size + 5) (.loop (rec .exhausted (some .ret))) := ⟨_, rfl⟩
      rw [← hw5] at hof ⊢
      have ed := (hof.block (W.heap.size + 4) (by omega)).trans hJ.df
      have hof2 := Off.put ed rfl (.deferred none)
      have hpl := I.disk.plt
      obtain ⟨j, hjx⟩ := hJ.jx
      have h1 := I.hJx j W2 w5 _ hjx (by omega) hof
      have h2 := I.hJx j w5 _ _ h1 (by omega) hof2
      have h3 := (hJ.fr.off (.inl (by omega)) hof (by omega)).off (.inl (by omega)) hof2 (by omega)
      have HD := Lib.hid ed; have H2 := Lib.hid h2; have H3 := Lib.hid h3
      clear hof hof2 ed hjx h1 h2 h3 hJ hw5
      gi_wp2
      refine ⟨by simp, .inl ⟨_, _, rfl, run_takeDeferred HD.out, ?_⟩⟩
      exact ⟨_, results_none rfl _ _ _, ⟨_, rfl⟩, .inr ⟨j, H2.out, H3.out⟩⟩
end
end Go.Proofs.Ytebillkojmafoaa
