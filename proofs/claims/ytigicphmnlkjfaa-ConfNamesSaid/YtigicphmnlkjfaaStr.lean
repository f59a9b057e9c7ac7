/- A row of bytes made a string; nothing of the program. -/
import Derived.Test.YtigicphmnlkjfaaApp
import Derived.Laws.BytesString
import Derived.Lib.SlBytesConst
namespace Go.Proofs.Ytigicphmnlkjfaa
open Go.RowKit

theorem fold_push (l : List UInt8) : ∀ s : ByteArray, (l.map fun c => (c.toNat : Int)).foldl (fun r n => r.push (UInt8.ofNat n.toNat)) s = ⟨s.data ++ l.toArray⟩ := by
  induction l with
  | nil => intro s; simp
  | cons c l ih =>
    intro s
    simp only [List.map_cons, List.foldl_cons]
    rw [ih]
    simp [ByteArray.push]

theorem run_str {P : Program} {t e s : TypeId} (hT : IsBytes P t e) (he : P.underlying e = some (.int .u8)) (hs : P.underlying s = some .string) {w : World} {B : Nat} {A : Option Addr} {l : List UInt8}
    (h : RB w B A l) (n c : Nat) (hn : n = l.length) (hA : A = none → n = 0) : (convert t s (.slice A n c)).run P w = .ok (.string ⟨l.toArray⟩) w := by
  rcases A with _ | ad
  · have h0 := hA rfl
    have hl : l = [] := List.eq_nil_of_length_eq_zero (by omega)
    subst hl
    simp [convert, run_underlying hT.und, run_underlying hs, run_underlying he, Conv.bytesToString]
    rfl
  · rw [run_convert_bytes_string w t s e ad n c hT.und he hs]
    rw [run_bytesToString (ns := l.map fun c => (c.toNat : Int)) w ad n c ?_]
    · rw [fold_push]; simp
    · have hc : ∀ j v, (l.map vb)[j]? = some v → w.cell? (ad.add j) = some v := by
        intro j u hu
        rw [List.getElem?_map] at hu
        obtain ⟨x, hx, rfl⟩ := Option.map_eq_some_iff.1 hu
        obtain ⟨hj, rfl⟩ := List.getElem?_eq_some_iff.1 hx
        obtain ⟨ad', hE, _, hc⟩ := h.at_ hj
        cases hE
        exact hc
      have := run_loadCells_list (P := P) w ad (l.map vb) hc
      rw [List.length_map, ← hn] at this
      rw [this]
      simp [vb, List.map_map, Function.comp_def]
end Go.Proofs.Ytigicphmnlkjfaa
