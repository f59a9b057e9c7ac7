/-
  No cell of these rows narrows 'for every input' (looked for: loops, veiled, ifaces, maps, wideKeys, modest, calm, conditions, laid).
  DERIVED. THE GIVEN ROWS OF THIS SEAT. 5 by the template 'for every input the law returns true; each argument reads behind the call as it read before'; 0 by the template 'total and deterministic' (their statements: YtigicphmnlkjfaaTotals.lean).
  GIVEN WITH THE SEED: the statements are not yours to turn. If you find one false, say at which input.
  Laid BY PROGRAM, IN A SANDBOX (cutbox-rows.mjs): the forced cells as the released guide's own fill.sh prints them over the translation d33b07f3a97fe999… (all of the seat's roots in one cut). By AI agents, Wed Nov 11 2026. No macro, syntax, notation, axiom, sorry.
-/
import Derived.Test.YtigicphmnlkjfaaChecked
import GoSem.Claim
import GoSem.ClaimJoined
import GoSem.ClaimMapViews
import Derived.JoinedTies
import Derived.KernelRfl
namespace Go.Proofs.Ytigicphmnlkjfaa
/- THE CELL 'sum', in the pinned program and in every row, IS THE sha256 OF THE DUMP (.gsa) THAT YtigicphmnlkjfaaProg.lean LOADS. Nothing in Lean hashes anything: it is a label: what it is worth is what the hold of that sum in a sandbox is worth. -/
noncomputable def Try.pinned : Pinned := { name := "ytigicphmnlkjfaa", sum := "d33b07f3a97fe999f1b117ba0f1657712c2303e057034f98bd6a85a2f4580b04", checked := Try.checked }
namespace Rows
def none {H : Type} : Left H := { results := [], args := [] }

/-- 'ratchetlaw21.ConfChecks': WHATEVER THE INPUT: true; the input reads as it did. -/
def confChecksSpec : ChangeSpec := { name := "confChecks", fn := fun _ => fun
  | [d1, d2] => { results := [.lit (.bool true)], args := [d1, d2] }
  | _ => none }
def confChecksRow : OpenClaim := { program := "ytigicphmnlkjfaa", sum := "d33b07f3a97fe999f1b117ba0f1657712c2303e057034f98bd6a85a2f4580b04", func := "ratchet/ratchetlaw21.ConfChecks", spec := "confChecks", unfollowed := true, recurses := true, apart := false }
def ConfChecksSaid : Prop := confChecksRow.holds Try.pinned (OpenSpec.ofChange confChecksSpec)

/-- ITS FALSE NEIGHBOUR: 'it returns false'. Refute it at one input. -/
def confChecksWrong : ChangeSpec := { name := "confChecks", fn := fun _ => fun
  | [d1, d2] => { results := [.lit (.bool false)], args := [d1, d2] }
  | _ => none }
def ConfChecksWrongFalsely : Prop := confChecksRow.holds Try.pinned (OpenSpec.ofChange confChecksWrong)

/-- 'ratchetlaw21.ConfBytes': WHATEVER THE INPUT: true; the input reads as it did. -/
def confBytesSpec : ChangeSpec := { name := "confBytes", fn := fun _ => fun
  | [d] => { results := [.lit (.bool true)], args := [d] }
  | _ => none }
def confBytesRow : OpenClaim := { program := "ytigicphmnlkjfaa", sum := "d33b07f3a97fe999f1b117ba0f1657712c2303e057034f98bd6a85a2f4580b04", func := "ratchet/ratchetlaw21.ConfBytes", spec := "confBytes", unfollowed := true, recurses := true, apart := false }
def ConfBytesSaid : Prop := confBytesRow.holds Try.pinned (OpenSpec.ofChange confBytesSpec)

/-- ITS FALSE NEIGHBOUR: 'it returns false'. Refute it at one input. -/
def confBytesWrong : ChangeSpec := { name := "confBytes", fn := fun _ => fun
  | [d] => { results := [.lit (.bool false)], args := [d] }
  | _ => none }
def ConfBytesWrongFalsely : Prop := confBytesRow.holds Try.pinned (OpenSpec.ofChange confBytesWrong)

/-- 'ratchetlaw21.ConfApart': WHATEVER THE INPUT: true; the input reads as it did. -/
def confApartSpec : ChangeSpec := { name := "confApart", fn := fun _ => fun
  | [d1, d2] => { results := [.lit (.bool true)], args := [d1, d2] }
  | _ => none }
def confApartRow : OpenClaim := { program := "ytigicphmnlkjfaa", sum := "d33b07f3a97fe999f1b117ba0f1657712c2303e057034f98bd6a85a2f4580b04", func := "ratchet/ratchetlaw21.ConfApart", spec := "confApart", unfollowed := true, recurses := true, apart := false }
def ConfApartSaid : Prop := confApartRow.holds Try.pinned (OpenSpec.ofChange confApartSpec)

/-- ITS FALSE NEIGHBOUR: 'it returns false'. Refute it at one input. -/
def confApartWrong : ChangeSpec := { name := "confApart", fn := fun _ => fun
  | [d1, d2] => { results := [.lit (.bool false)], args := [d1, d2] }
  | _ => none }
def ConfApartWrongFalsely : Prop := confApartRow.holds Try.pinned (OpenSpec.ofChange confApartWrong)

/-- 'ratchetlaw21.ConfLess': WHATEVER THE INPUT: true; the input reads as it did. -/
def confLessSpec : ChangeSpec := { name := "confLess", fn := fun _ => fun
  | [d] => { results := [.lit (.bool true)], args := [d] }
  | _ => none }
def confLessRow : OpenClaim := { program := "ytigicphmnlkjfaa", sum := "d33b07f3a97fe999f1b117ba0f1657712c2303e057034f98bd6a85a2f4580b04", func := "ratchet/ratchetlaw21.ConfLess", spec := "confLess", unfollowed := true, recurses := true, apart := false }
def ConfLessSaid : Prop := confLessRow.holds Try.pinned (OpenSpec.ofChange confLessSpec)

/-- ITS FALSE NEIGHBOUR: 'it returns false'. Refute it at one input. -/
def confLessWrong : ChangeSpec := { name := "confLess", fn := fun _ => fun
  | [d] => { results := [.lit (.bool false)], args := [d] }
  | _ => none }
def ConfLessWrongFalsely : Prop := confLessRow.holds Try.pinned (OpenSpec.ofChange confLessWrong)

/-- 'ratchetlaw21.ConfNames': WHATEVER THE INPUT: true; the input reads as it did. -/
def confNamesSpec : ChangeSpec := { name := "confNames", fn := fun _ => fun
  | [d1, d2] => { results := [.lit (.bool true)], args := [d1, d2] }
  | _ => none }
def confNamesRow : OpenClaim := { program := "ytigicphmnlkjfaa", sum := "d33b07f3a97fe999f1b117ba0f1657712c2303e057034f98bd6a85a2f4580b04", func := "ratchet/ratchetlaw21.ConfNames", spec := "confNames", unfollowed := true, recurses := true, apart := false }
def ConfNamesSaid : Prop := confNamesRow.holds Try.pinned (OpenSpec.ofChange confNamesSpec)

/-- ITS FALSE NEIGHBOUR: 'it returns false'. Refute it at one input. -/
def confNamesWrong : ChangeSpec := { name := "confNames", fn := fun _ => fun
  | [d1, d2] => { results := [.lit (.bool false)], args := [d1, d2] }
  | _ => none }
def ConfNamesWrongFalsely : Prop := confNamesRow.holds Try.pinned (OpenSpec.ofChange confNamesWrong)

/- THE SECOND FORM. 'bulk': how many values and letters a reading holds, each counted each time it is reached (what is shared counts as often as it is met; a slice's spare places count too). A statement '..UptoSaid' is the law's where the arguments, and the package variables that the reading takes, are together of bulk at most 1048576: NARROWER than '..Said'. Prove '..Said' where nothing that the law and all that it calls make is longer than what came in: it says more and counts as full. Else prove '..UptoSaid'. A law counts once. -/
mutual
def uptoBulk {H : Type} : DataW H → Nat
  | .lit (.string bytes) => bytes.length + 1
  | .lit _ => 1
  | .nil => 1
  | .ptr d => uptoBulk d + 1
  | .slice elems spare => uptoBulkAll elems + uptoBulkAll spare + 1
  | .agg parts => uptoBulkAll parts + 1
  | .iface _ d => uptoBulk d + 1
  | .map entries => uptoBulkEntries entries + 1
  | .held _ => 1
def uptoBulkAll {H : Type} : List (DataW H) → Nat
  | [] => 0
  | d :: r => uptoBulk d + uptoBulkAll r
def uptoBulkEntries {H : Type} : List (Lit × DataW H) → Nat
  | [] => 0
  | x :: r => uptoBulkEntry x + uptoBulkEntries r
def uptoBulkEntry {H : Type} : Lit × DataW H → Nat
  | (.string bytes, d) => bytes.length + uptoBulk d + 1
  | (_, d) => uptoBulk d + 1
 end
def uptoSmall : (H : Type) → List (DataW H) → Bool := fun _ ds => decide (uptoBulkAll ds ≤ 1048576)
def OpenSpec.upto (s : _root_.Go.ChangeSpec) : _root_.Go.OpenSpec := { _root_.Go.OpenSpec.ofChange s with cond := some uptoSmall }

/-- 'ratchetlaw21.ConfChecks', WHERE WHAT IT READS IS OF BULK AT MOST 1048576: true; the input reads as it did. -/
def confChecksUptoRow : OpenClaim := { program := "ytigicphmnlkjfaa", sum := "d33b07f3a97fe999f1b117ba0f1657712c2303e057034f98bd6a85a2f4580b04", func := "ratchet/ratchetlaw21.ConfChecks", spec := "confChecks", unfollowed := true, recurses := true, apart := false, narrowed := true }
def ConfChecksUptoSaid : Prop := confChecksUptoRow.holds Try.pinned (OpenSpec.upto confChecksSpec)

/-- 'ratchetlaw21.ConfBytes', WHERE WHAT IT READS IS OF BULK AT MOST 1048576: true; the input reads as it did. -/
def confBytesUptoRow : OpenClaim := { program := "ytigicphmnlkjfaa", sum := "d33b07f3a97fe999f1b117ba0f1657712c2303e057034f98bd6a85a2f4580b04", func := "ratchet/ratchetlaw21.ConfBytes", spec := "confBytes", unfollowed := true, recurses := true, apart := false, narrowed := true }
def ConfBytesUptoSaid : Prop := confBytesUptoRow.holds Try.pinned (OpenSpec.upto confBytesSpec)

/-- 'ratchetlaw21.ConfApart', WHERE WHAT IT READS IS OF BULK AT MOST 1048576: true; the input reads as it did. -/
def confApartUptoRow : OpenClaim := { program := "ytigicphmnlkjfaa", sum := "d33b07f3a97fe999f1b117ba0f1657712c2303e057034f98bd6a85a2f4580b04", func := "ratchet/ratchetlaw21.ConfApart", spec := "confApart", unfollowed := true, recurses := true, apart := false, narrowed := true }
def ConfApartUptoSaid : Prop := confApartUptoRow.holds Try.pinned (OpenSpec.upto confApartSpec)

/-- 'ratchetlaw21.ConfLess', WHERE WHAT IT READS IS OF BULK AT MOST 1048576: true; the input reads as it did. -/
def confLessUptoRow : OpenClaim := { program := "ytigicphmnlkjfaa", sum := "d33b07f3a97fe999f1b117ba0f1657712c2303e057034f98bd6a85a2f4580b04", func := "ratchet/ratchetlaw21.ConfLess", spec := "confLess", unfollowed := true, recurses := true, apart := false, narrowed := true }
def ConfLessUptoSaid : Prop := confLessUptoRow.holds Try.pinned (OpenSpec.upto confLessSpec)

/-- 'ratchetlaw21.ConfNames', WHERE WHAT IT READS IS OF BULK AT MOST 1048576: true; the input reads as it did. -/
def confNamesUptoRow : OpenClaim := { program := "ytigicphmnlkjfaa", sum := "d33b07f3a97fe999f1b117ba0f1657712c2303e057034f98bd6a85a2f4580b04", func := "ratchet/ratchetlaw21.ConfNames", spec := "confNames", unfollowed := true, recurses := true, apart := false, narrowed := true }
def ConfNamesUptoSaid : Prop := confNamesUptoRow.holds Try.pinned (OpenSpec.upto confNamesSpec)

end Rows
end Go.Proofs.Ytigicphmnlkjfaa
