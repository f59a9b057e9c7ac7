/- make([]byte, n): noughts in a new block. -/
import Derived.Test.YtebillkojmafoaaSL
import Derived.Laws.MakeOwn
import Derived.Laws.Entries
namespace Go.Proofs.Ytebillkojmafoaa
open Go.RowKit
set_option linter.unusedVariables false

/-- n noughts, as cells. -/
def zb (n : Nat) : Array Value := ((List.replicate n (0 : UInt8)).map vb).toArray
theorem zb_made (n : Nat) : madeCells (Value.int .u8 0).cells (n * 1) = zb n := by
  apply Array.ext
  · simp [madeCells, zb]
  · intro j h1 h2
    simp only [madeCells, zb, Value.cells, Array.getElem_map, Array.getElem_range]
    have e : ∀ k, k % (#[Value.int .u8 0]).size = 0 := fun k => by simp; omega
    rw [e]
    simp [vb]
theorem make_bytes (n : Nat) (hn : n ≤ 140737488355328) (w : World) :
    (Instr.makeSlice 22 (.int .i64 (n : Int)) (.int .i64 (n : Int))).run Try.prog w = .ok (.slice (some ⟨w.heap.size, 0, none⟩) n n) (w.alloc (.cells (zb n) 5)) := by
  obtain ⟨i, hi, hz, hs, hby⟩ := info_parts bytesT.info
  have hr := run_make (P := Try.prog) w 22 5 i (.int .u8 0) bytesT.und hi hz .i64 .i64 n n (by omega) (by omega) (by rw [hby]; omega) (by omega)
  rw [hs] at hr
  simp only [Int.toNat_natCast] at hr
  rw [zb_made] at hr
  exact hr
end Go.Proofs.Ytebillkojmafoaa
