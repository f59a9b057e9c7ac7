/-
  No cell of these rows narrows 'for every input' (looked for: loops, veiled, ifaces, maps, wideKeys, modest, calm, conditions, laid).
  DERIVED. THE GIVEN ROWS OF THIS SEAT. 4 by the template 'for every input the law returns true; each argument reads behind the call as it read before'; 0 by the template 'total and deterministic' (their statements: YtebillkojmafoaaTotals.lean).
  GIVEN WITH THE SEED: the statements are not yours to turn. If you find one false, say at which input.
  Laid BY PROGRAM, IN A SANDBOX (cutbox-rows.mjs): the forced cells as the released guide's own fill.sh prints them over the translation 67d461c83da41e46… (all of the seat's roots in one cut). By AI agents, Wed Nov 11 2026. No macro, syntax, notation, axiom, sorry.
-/
import Derived.Test.YtebillkojmafoaaChecked
import GoSem.Claim
import GoSem.ClaimJoined
import GoSem.ClaimMapViews
import Derived.JoinedTies
import Derived.KernelRfl
namespace Go.Proofs.Ytebillkojmafoaa
/- THE CELL 'sum', in the pinned program and in every row, IS THE sha256 OF THE DUMP (.gsa) THAT YtebillkojmafoaaProg.lean LOADS. Nothing in Lean hashes anything: it is a label: what it is worth is what the hold of that sum in a sandbox is worth. -/
noncomputable def Try.pinned : Pinned := { name := "ytebillkojmafoaa", sum := "67d461c83da41e46cc37ea87f4eb1f4ef47c08c8c59ec5f4cb6455a5355a16d8", checked := Try.checked }
namespace Rows
def none {H : Type} : Left H := { results := [], args := [] }

/-- 'ratchetlaw25.SaveLong': WHATEVER THE INPUT: true; the input reads as it did. -/
def saveLongSpec : ChangeSpec := { name := "saveLong", fn := fun _ => fun
  | [d1, d2] => { results := [.lit (.bool true)], args := [d1, d2] }
  | _ => none }
def saveLongRow : OpenClaim := { program := "ytebillkojmafoaa", sum := "67d461c83da41e46cc37ea87f4eb1f4ef47c08c8c59ec5f4cb6455a5355a16d8", func := "ratchet/ratchetlaw25.SaveLong", spec := "saveLong", unfollowed := true, recurses := true, apart := false }
def SaveLongSaid : Prop := saveLongRow.holds Try.pinned (OpenSpec.ofChange saveLongSpec)

/-- ITS FALSE NEIGHBOUR: 'it returns false'. Refute it at one input. -/
def saveLongWrong : ChangeSpec := { name := "saveLong", fn := fun _ => fun
  | [d1, d2] => { results := [.lit (.bool false)], args := [d1, d2] }
  | _ => none }
def SaveLongWrongFalsely : Prop := saveLongRow.holds Try.pinned (OpenSpec.ofChange saveLongWrong)

/-- 'ratchetlaw25.SaveMany': WHATEVER THE INPUT: true; the input reads as it did. -/
def saveManySpec : ChangeSpec := { name := "saveMany", fn := fun _ => fun
  | [d] => { results := [.lit (.bool true)], args := [d] }
  | _ => none }
def saveManyRow : OpenClaim := { program := "ytebillkojmafoaa", sum := "67d461c83da41e46cc37ea87f4eb1f4ef47c08c8c59ec5f4cb6455a5355a16d8", func := "ratchet/ratchetlaw25.SaveMany", spec := "saveMany", unfollowed := true, recurses := true, apart := false }
def SaveManySaid : Prop := saveManyRow.holds Try.pinned (OpenSpec.ofChange saveManySpec)

/-- ITS FALSE NEIGHBOUR: 'it returns false'. Refute it at one input. -/
def saveManyWrong : ChangeSpec := { name := "saveMany", fn := fun _ => fun
  | [d] => { results := [.lit (.bool false)], args := [d] }
  | _ => none }
def SaveManyWrongFalsely : Prop := saveManyRow.holds Try.pinned (OpenSpec.ofChange saveManyWrong)

/-- 'ratchetlaw25.SaveOneOr': WHATEVER THE INPUT: true; the input reads as it did. -/
def saveOneOrSpec : ChangeSpec := { name := "saveOneOr", fn := fun _ => fun
  | [d] => { results := [.lit (.bool true)], args := [d] }
  | _ => none }
def saveOneOrRow : OpenClaim := { program := "ytebillkojmafoaa", sum := "67d461c83da41e46cc37ea87f4eb1f4ef47c08c8c59ec5f4cb6455a5355a16d8", func := "ratchet/ratchetlaw25.SaveOneOr", spec := "saveOneOr", unfollowed := true, recurses := true, apart := false }
def SaveOneOrSaid : Prop := saveOneOrRow.holds Try.pinned (OpenSpec.ofChange saveOneOrSpec)

/-- ITS FALSE NEIGHBOUR: 'it returns false'. Refute it at one input. -/
def saveOneOrWrong : ChangeSpec := { name := "saveOneOr", fn := fun _ => fun
  | [d] => { results := [.lit (.bool false)], args := [d] }
  | _ => none }
def SaveOneOrWrongFalsely : Prop := saveOneOrRow.holds Try.pinned (OpenSpec.ofChange saveOneOrWrong)

/-- 'ratchetlaw25.SaveStays': WHATEVER THE INPUT: true; the input reads as it did. -/
def saveStaysSpec : ChangeSpec := { name := "saveStays", fn := fun _ => fun
  | [d1, d2] => { results := [.lit (.bool true)], args := [d1, d2] }
  | _ => none }
def saveStaysRow : OpenClaim := { program := "ytebillkojmafoaa", sum := "67d461c83da41e46cc37ea87f4eb1f4ef47c08c8c59ec5f4cb6455a5355a16d8", func := "ratchet/ratchetlaw25.SaveStays", spec := "saveStays", unfollowed := true, recurses := true, apart := false }
def SaveStaysSaid : Prop := saveStaysRow.holds Try.pinned (OpenSpec.ofChange saveStaysSpec)

/-- ITS FALSE NEIGHBOUR: 'it returns false'. Refute it at one input. -/
def saveStaysWrong : ChangeSpec := { name := "saveStays", fn := fun _ => fun
  | [d1, d2] => { results := [.lit (.bool false)], args := [d1, d2] }
  | _ => none }
def SaveStaysWrongFalsely : Prop := saveStaysRow.holds Try.pinned (OpenSpec.ofChange saveStaysWrong)

/- THE SECOND FORM. 'bulk': how many values and letters a reading holds, each counted each time it is reached (what is shared counts as often as it is met; a slice's spare places count too). A statement '..UptoSaid' is the law's where the arguments, and the package variables that the reading takes, are together of bulk at most 1048576: NARROWER than '..Said'. Prove '..Said' where nothing that the law and all that it calls make is longer than what came in: it says more and counts as full. Else prove '..UptoSaid'. A law counts once. -/
mutual
def uptoBulk {H : Type} : DataW H → Nat
  | .lit (.string bytes) => bytes.length + 1
  | .lit _ => 1
  | .nil => 1
  | .ptr d => uptoBulk d + 1
  | .slice elems spare => uptoBulkAll elems + uptoBulkAll spare + 1
  | .agg parts => uptoBulkAll parts + 1
  | .iface _ d => uptoBulk d + 1
  | .map entries => uptoBulkEntries entries + 1
  | .held _ => 1
def uptoBulkAll {H : Type} : List (DataW H) → Nat
  | [] => 0
  | d :: r => uptoBulk d + uptoBulkAll r
def uptoBulkEntries {H : Type} : List (Lit × DataW H) → Nat
  | [] => 0
  | x :: r => uptoBulkEntry x + uptoBulkEntries r
def uptoBulkEntry {H : Type} : Lit × DataW H → Nat
  | (.string bytes, d) => bytes.length + uptoBulk d + 1
  | (_, d) => uptoBulk d + 1
 end
def uptoSmall : (H : Type) → List (DataW H) → Bool := fun _ ds => decide (uptoBulkAll ds ≤ 1048576)
def OpenSpec.upto (s : _root_.Go.ChangeSpec) : _root_.Go.OpenSpec := { _root_.Go.OpenSpec.ofChange s with cond := some uptoSmall }

/-- 'ratchetlaw25.SaveLong', WHERE WHAT IT READS IS OF BULK AT MOST 1048576: true; the input reads as it did. -/
def saveLongUptoRow : OpenClaim := { program := "ytebillkojmafoaa", sum := "67d461c83da41e46cc37ea87f4eb1f4ef47c08c8c59ec5f4cb6455a5355a16d8", func := "ratchet/ratchetlaw25.SaveLong", spec := "saveLong", unfollowed := true, recurses := true, apart := false, narrowed := true }
def SaveLongUptoSaid : Prop := saveLongUptoRow.holds Try.pinned (OpenSpec.upto saveLongSpec)

/-- 'ratchetlaw25.SaveMany', WHERE WHAT IT READS IS OF BULK AT MOST 1048576: true; the input reads as it did. -/
def saveManyUptoRow : OpenClaim := { program := "ytebillkojmafoaa", sum := "67d461c83da41e46cc37ea87f4eb1f4ef47c08c8c59ec5f4cb6455a5355a16d8", func := "ratchet/ratchetlaw25.SaveMany", spec := "saveMany", unfollowed := true, recurses := true, apart := false, narrowed := true }
def SaveManyUptoSaid : Prop := saveManyUptoRow.holds Try.pinned (OpenSpec.upto saveManySpec)

/-- 'ratchetlaw25.SaveOneOr', WHERE WHAT IT READS IS OF BULK AT MOST 1048576: true; the input reads as it did. -/
def saveOneOrUptoRow : OpenClaim := { program := "ytebillkojmafoaa", sum := "67d461c83da41e46cc37ea87f4eb1f4ef47c08c8c59ec5f4cb6455a5355a16d8", func := "ratchet/ratchetlaw25.SaveOneOr", spec := "saveOneOr", unfollowed := true, recurses := true, apart := false, narrowed := true }
def SaveOneOrUptoSaid : Prop := saveOneOrUptoRow.holds Try.pinned (OpenSpec.upto saveOneOrSpec)

/-- 'ratchetlaw25.SaveStays', WHERE WHAT IT READS IS OF BULK AT MOST 1048576: true; the input reads as it did. -/
def saveStaysUptoRow : OpenClaim := { program := "ytebillkojmafoaa", sum := "67d461c83da41e46cc37ea87f4eb1f4ef47c08c8c59ec5f4cb6455a5355a16d8", func := "ratchet/ratchetlaw25.SaveStays", spec := "saveStays", unfollowed := true, recurses := true, apart := false, narrowed := true }
def SaveStaysUptoSaid : Prop := saveStaysUptoRow.holds Try.pinned (OpenSpec.upto saveStaysSpec)

end Rows
end Go.Proofs.Ytebillkojmafoaa
