/-
  No cell of these rows narrows 'for every input' (looked for: loops, veiled, ifaces, maps, wideKeys, modest, calm, conditions, laid).
  DERIVED. THE GIVEN ROWS OF THIS SEAT. 5 by the template 'for every input the law returns true; each argument reads behind the call as it read before'; 0 by the template 'total and deterministic' (their statements: YtocnkfepiknglaaTotals.lean).
  GIVEN WITH THE SEED: the statements are not yours to turn. If you find one false, say at which input.
  Laid BY PROGRAM, IN A SANDBOX (cutbox-rows.mjs): the forced cells as the released guide's own fill.sh prints them over the translation 9f90729eeba08870… (all of the seat's roots in one cut). By AI agents, Wed Nov 11 2026. No macro, syntax, notation, axiom, sorry.
-/
import Derived.Test.YtocnkfepiknglaaChecked
import GoSem.Claim
import GoSem.ClaimJoined
import GoSem.ClaimMapViews
import Derived.JoinedTies
import Derived.KernelRfl
namespace Go.Proofs.Ytocnkfepiknglaa
/- THE CELL 'sum', in the pinned program and in every row, IS THE sha256 OF THE DUMP (.gsa) THAT YtocnkfepiknglaaProg.lean LOADS. Nothing in Lean hashes anything: it is a label: what it is worth is what the hold of that sum in a sandbox is worth. -/
noncomputable def Try.pinned : Pinned := { name := "ytocnkfepiknglaa", sum := "9f90729eeba08870ac44317ceef73c64ef3062e068e0cc52553c265cf14a69a4", checked := Try.checked }
namespace Rows
def none {H : Type} : Left H := { results := [], args := [] }

/-- 'latchkeylaw03.ShaOf': WHATEVER THE INPUT: true; the input reads as it did. -/
def shaOfSpec : ChangeSpec := { name := "shaOf", fn := fun _ => fun
  | [d] => { results := [.lit (.bool true)], args := [d] }
  | _ => none }
def shaOfRow : OpenClaim := { program := "ytocnkfepiknglaa", sum := "9f90729eeba08870ac44317ceef73c64ef3062e068e0cc52553c265cf14a69a4", func := "latchkey/latchkeylaw03.ShaOf", spec := "shaOf", inPlace := ["math/bits.Add64"], unfollowed := true, recurses := true, apart := false }
def ShaOfSaid : Prop := shaOfRow.holds Try.pinned (OpenSpec.ofChange shaOfSpec)

/-- ITS FALSE NEIGHBOUR: 'it returns false'. Refute it at one input. -/
def shaOfWrong : ChangeSpec := { name := "shaOf", fn := fun _ => fun
  | [d] => { results := [.lit (.bool false)], args := [d] }
  | _ => none }
def ShaOfWrongFalsely : Prop := shaOfRow.holds Try.pinned (OpenSpec.ofChange shaOfWrong)

/-- 'latchkeylaw03.ShaPuts': WHATEVER THE INPUT: true; the input reads as it did. -/
def shaPutsSpec : ChangeSpec := { name := "shaPuts", fn := fun _ => fun
  | [d] => { results := [.lit (.bool true)], args := [d] }
  | _ => none }
def shaPutsRow : OpenClaim := { program := "ytocnkfepiknglaa", sum := "9f90729eeba08870ac44317ceef73c64ef3062e068e0cc52553c265cf14a69a4", func := "latchkey/latchkeylaw03.ShaPuts", spec := "shaPuts", inPlace := ["math/bits.Add64"], unfollowed := true, recurses := true, apart := false }
def ShaPutsSaid : Prop := shaPutsRow.holds Try.pinned (OpenSpec.ofChange shaPutsSpec)

/-- ITS FALSE NEIGHBOUR: 'it returns false'. Refute it at one input. -/
def shaPutsWrong : ChangeSpec := { name := "shaPuts", fn := fun _ => fun
  | [d] => { results := [.lit (.bool false)], args := [d] }
  | _ => none }
def ShaPutsWrongFalsely : Prop := shaPutsRow.holds Try.pinned (OpenSpec.ofChange shaPutsWrong)

/-- 'latchkeylaw03.ShaLong': WHATEVER THE INPUT: true; the input reads as it did. -/
def shaLongSpec : ChangeSpec := { name := "shaLong", fn := fun _ => fun
  | [d1, d2, d3] => { results := [.lit (.bool true)], args := [d1, d2, d3] }
  | _ => none }
def shaLongRow : OpenClaim := { program := "ytocnkfepiknglaa", sum := "9f90729eeba08870ac44317ceef73c64ef3062e068e0cc52553c265cf14a69a4", func := "latchkey/latchkeylaw03.ShaLong", spec := "shaLong", inPlace := ["math/bits.Add64"], unfollowed := true, recurses := true, apart := false }
def ShaLongSaid : Prop := shaLongRow.holds Try.pinned (OpenSpec.ofChange shaLongSpec)

/-- ITS FALSE NEIGHBOUR: 'it returns false'. Refute it at one input. -/
def shaLongWrong : ChangeSpec := { name := "shaLong", fn := fun _ => fun
  | [d1, d2, d3] => { results := [.lit (.bool false)], args := [d1, d2, d3] }
  | _ => none }
def ShaLongWrongFalsely : Prop := shaLongRow.holds Try.pinned (OpenSpec.ofChange shaLongWrong)

/-- 'latchkeylaw03.ShaNil': WHATEVER THE INPUT: true; the input reads as it did. -/
def shaNilSpec : ChangeSpec := { name := "shaNil", fn := fun _ => fun
  | [d] => { results := [.lit (.bool true)], args := [d] }
  | _ => none }
def shaNilRow : OpenClaim := { program := "ytocnkfepiknglaa", sum := "9f90729eeba08870ac44317ceef73c64ef3062e068e0cc52553c265cf14a69a4", func := "latchkey/latchkeylaw03.ShaNil", spec := "shaNil", inPlace := ["math/bits.Add64"], unfollowed := true, recurses := true, apart := false }
def ShaNilSaid : Prop := shaNilRow.holds Try.pinned (OpenSpec.ofChange shaNilSpec)

/-- ITS FALSE NEIGHBOUR: 'it returns false'. Refute it at one input. -/
def shaNilWrong : ChangeSpec := { name := "shaNil", fn := fun _ => fun
  | [d] => { results := [.lit (.bool false)], args := [d] }
  | _ => none }
def ShaNilWrongFalsely : Prop := shaNilRow.holds Try.pinned (OpenSpec.ofChange shaNilWrong)

/-- 'latchkeylaw03.ShaAll': WHATEVER THE INPUT: true; the input reads as it did. -/
def shaAllSpec : ChangeSpec := { name := "shaAll", fn := fun _ => fun
  | [d] => { results := [.lit (.bool true)], args := [d] }
  | _ => none }
def shaAllRow : OpenClaim := { program := "ytocnkfepiknglaa", sum := "9f90729eeba08870ac44317ceef73c64ef3062e068e0cc52553c265cf14a69a4", func := "latchkey/latchkeylaw03.ShaAll", spec := "shaAll", inPlace := ["math/bits.Add64"], unfollowed := true, recurses := true, apart := false }
def ShaAllSaid : Prop := shaAllRow.holds Try.pinned (OpenSpec.ofChange shaAllSpec)

/-- ITS FALSE NEIGHBOUR: 'it returns false'. Refute it at one input. -/
def shaAllWrong : ChangeSpec := { name := "shaAll", fn := fun _ => fun
  | [d] => { results := [.lit (.bool false)], args := [d] }
  | _ => none }
def ShaAllWrongFalsely : Prop := shaAllRow.holds Try.pinned (OpenSpec.ofChange shaAllWrong)

/- THE SECOND FORM. 'bulk': how many values and letters a reading holds, each counted each time it is reached (what is shared counts as often as it is met; a slice's spare places count too). A statement '..UptoSaid' is the law's where the arguments, and the package variables that the reading takes, are together of bulk at most 1048576: NARROWER than '..Said'. Prove '..Said' where nothing that the law and all that it calls make is longer than what came in: it says more and counts as full. Else prove '..UptoSaid'. A law counts once. -/
mutual
def uptoBulk {H : Type} : DataW H → Nat
  | .lit (.string bytes) => bytes.length + 1
  | .lit _ => 1
  | .nil => 1
  | .ptr d => uptoBulk d + 1
  | .slice elems spare => uptoBulkAll elems + uptoBulkAll spare + 1
  | .agg parts => uptoBulkAll parts + 1
  | .iface _ d => uptoBulk d + 1
  | .map entries => uptoBulkEntries entries + 1
  | .held _ => 1
def uptoBulkAll {H : Type} : List (DataW H) → Nat
  | [] => 0
  | d :: r => uptoBulk d + uptoBulkAll r
def uptoBulkEntries {H : Type} : List (Lit × DataW H) → Nat
  | [] => 0
  | x :: r => uptoBulkEntry x + uptoBulkEntries r
def uptoBulkEntry {H : Type} : Lit × DataW H → Nat
  | (.string bytes, d) => bytes.length + uptoBulk d + 1
  | (_, d) => uptoBulk d + 1
 end
def uptoSmall : (H : Type) → List (DataW H) → Bool := fun _ ds => decide (uptoBulkAll ds ≤ 1048576)
def OpenSpec.upto (s : _root_.Go.ChangeSpec) : _root_.Go.OpenSpec := { _root_.Go.OpenSpec.ofChange s with cond := some uptoSmall }

/-- 'latchkeylaw03.ShaOf', WHERE WHAT IT READS IS OF BULK AT MOST 1048576: true; the input reads as it did. -/
def shaOfUptoRow : OpenClaim := { program := "ytocnkfepiknglaa", sum := "9f90729eeba08870ac44317ceef73c64ef3062e068e0cc52553c265cf14a69a4", func := "latchkey/latchkeylaw03.ShaOf", spec := "shaOf", inPlace := ["math/bits.Add64"], unfollowed := true, recurses := true, apart := false, narrowed := true }
def ShaOfUptoSaid : Prop := shaOfUptoRow.holds Try.pinned (OpenSpec.upto shaOfSpec)

/-- 'latchkeylaw03.ShaPuts', WHERE WHAT IT READS IS OF BULK AT MOST 1048576: true; the input reads as it did. -/
def shaPutsUptoRow : OpenClaim := { program := "ytocnkfepiknglaa", sum := "9f90729eeba08870ac44317ceef73c64ef3062e068e0cc52553c265cf14a69a4", func := "latchkey/latchkeylaw03.ShaPuts", spec := "shaPuts", inPlace := ["math/bits.Add64"], unfollowed := true, recurses := true, apart := false, narrowed := true }
def ShaPutsUptoSaid : Prop := shaPutsUptoRow.holds Try.pinned (OpenSpec.upto shaPutsSpec)

/-- 'latchkeylaw03.ShaLong', WHERE WHAT IT READS IS OF BULK AT MOST 1048576: true; the input reads as it did. -/
def shaLongUptoRow : OpenClaim := { program := "ytocnkfepiknglaa", sum := "9f90729eeba08870ac44317ceef73c64ef3062e068e0cc52553c265cf14a69a4", func := "latchkey/latchkeylaw03.ShaLong", spec := "shaLong", inPlace := ["math/bits.Add64"], unfollowed := true, recurses := true, apart := false, narrowed := true }
def ShaLongUptoSaid : Prop := shaLongUptoRow.holds Try.pinned (OpenSpec.upto shaLongSpec)

/-- 'latchkeylaw03.ShaNil', WHERE WHAT IT READS IS OF BULK AT MOST 1048576: true; the input reads as it did. -/
def shaNilUptoRow : OpenClaim := { program := "ytocnkfepiknglaa", sum := "9f90729eeba08870ac44317ceef73c64ef3062e068e0cc52553c265cf14a69a4", func := "latchkey/latchkeylaw03.ShaNil", spec := "shaNil", inPlace := ["math/bits.Add64"], unfollowed := true, recurses := true, apart := false, narrowed := true }
def ShaNilUptoSaid : Prop := shaNilUptoRow.holds Try.pinned (OpenSpec.upto shaNilSpec)

/-- 'latchkeylaw03.ShaAll', WHERE WHAT IT READS IS OF BULK AT MOST 1048576: true; the input reads as it did. -/
def shaAllUptoRow : OpenClaim := { program := "ytocnkfepiknglaa", sum := "9f90729eeba08870ac44317ceef73c64ef3062e068e0cc52553c265cf14a69a4", func := "latchkey/latchkeylaw03.ShaAll", spec := "shaAll", inPlace := ["math/bits.Add64"], unfollowed := true, recurses := true, apart := false, narrowed := true }
def ShaAllUptoSaid : Prop := shaAllUptoRow.holds Try.pinned (OpenSpec.upto shaAllSpec)

end Rows
end Go.Proofs.Ytocnkfepiknglaa
