/-
  No cell of these rows narrows 'for every input' (looked for: loops, veiled, ifaces, maps, wideKeys, modest, calm, conditions, laid).
  DERIVED. THE GIVEN ROWS OF THIS SEAT. 6 by the template 'for every input the law returns true; each argument reads behind the call as it read before'; 0 by the template 'total and deterministic' (their statements: YtipijjlajhofkaaTotals.lean).
  GIVEN WITH THE SEED: the statements are not yours to turn. If you find one false, say at which input.
  Laid BY PROGRAM, IN A SANDBOX (cutbox-rows.mjs): the forced cells as the released guide's own fill.sh prints them over the translation 6a38c6e1977318f1… (all of the seat's roots in one cut). By AI agents, Wed Nov 11 2026. No macro, syntax, notation, axiom, sorry.
-/
import Derived.Test.YtipijjlajhofkaaChecked
import GoSem.Claim
import GoSem.ClaimJoined
import GoSem.ClaimMapViews
import Derived.JoinedTies
import Derived.KernelRfl
namespace Go.Proofs.Ytipijjlajhofkaa
/- THE CELL 'sum', in the pinned program and in every row, IS THE sha256 OF THE DUMP (.gsa) THAT YtipijjlajhofkaaProg.lean LOADS. Nothing in Lean hashes anything: it is a label: what it is worth is what the hold of that sum in a sandbox is worth. -/
noncomputable def Try.pinned : Pinned := { name := "ytipijjlajhofkaa", sum := "6a38c6e1977318f1c83230578e7c5ff29e74fcce010de7d4cef82a66e4c8ff5b", checked := Try.checked }
namespace Rows
def none {H : Type} : Left H := { results := [], args := [] }

/-- 'waywiserlaw02.FrameChecks': WHATEVER THE INPUT: true; the input reads as it did. -/
def frameChecksSpec : ChangeSpec := { name := "frameChecks", fn := fun _ => fun
  | [d] => { results := [.lit (.bool true)], args := [d] }
  | _ => none }
def frameChecksRow : OpenClaim := { program := "ytipijjlajhofkaa", sum := "6a38c6e1977318f1c83230578e7c5ff29e74fcce010de7d4cef82a66e4c8ff5b", func := "waywiser/waywiserlaw02.FrameChecks", spec := "frameChecks", apart := false }
def FrameChecksSaid : Prop := frameChecksRow.holds Try.pinned (OpenSpec.ofChange frameChecksSpec)

/-- ITS FALSE NEIGHBOUR: 'it returns false'. Refute it at one input. -/
def frameChecksWrong : ChangeSpec := { name := "frameChecks", fn := fun _ => fun
  | [d] => { results := [.lit (.bool false)], args := [d] }
  | _ => none }
def FrameChecksWrongFalsely : Prop := frameChecksRow.holds Try.pinned (OpenSpec.ofChange frameChecksWrong)

/-- 'waywiserlaw02.FrameBuilds': WHATEVER THE INPUT: true; the input reads as it did. -/
def frameBuildsSpec : ChangeSpec := { name := "frameBuilds", fn := fun _ => fun
  | [d1, d2, d3] => { results := [.lit (.bool true)], args := [d1, d2, d3] }
  | _ => none }
def frameBuildsRow : OpenClaim := { program := "ytipijjlajhofkaa", sum := "6a38c6e1977318f1c83230578e7c5ff29e74fcce010de7d4cef82a66e4c8ff5b", func := "waywiser/waywiserlaw02.FrameBuilds", spec := "frameBuilds", apart := false }
def FrameBuildsSaid : Prop := frameBuildsRow.holds Try.pinned (OpenSpec.ofChange frameBuildsSpec)

/-- ITS FALSE NEIGHBOUR: 'it returns false'. Refute it at one input. -/
def frameBuildsWrong : ChangeSpec := { name := "frameBuilds", fn := fun _ => fun
  | [d1, d2, d3] => { results := [.lit (.bool false)], args := [d1, d2, d3] }
  | _ => none }
def FrameBuildsWrongFalsely : Prop := frameBuildsRow.holds Try.pinned (OpenSpec.ofChange frameBuildsWrong)

/-- 'waywiserlaw02.FrameReads': WHATEVER THE INPUT: true; the input reads as it did. -/
def frameReadsSpec : ChangeSpec := { name := "frameReads", fn := fun _ => fun
  | [d] => { results := [.lit (.bool true)], args := [d] }
  | _ => none }
def frameReadsRow : OpenClaim := { program := "ytipijjlajhofkaa", sum := "6a38c6e1977318f1c83230578e7c5ff29e74fcce010de7d4cef82a66e4c8ff5b", func := "waywiser/waywiserlaw02.FrameReads", spec := "frameReads", apart := false }
def FrameReadsSaid : Prop := frameReadsRow.holds Try.pinned (OpenSpec.ofChange frameReadsSpec)

/-- ITS FALSE NEIGHBOUR: 'it returns false'. Refute it at one input. -/
def frameReadsWrong : ChangeSpec := { name := "frameReads", fn := fun _ => fun
  | [d] => { results := [.lit (.bool false)], args := [d] }
  | _ => none }
def FrameReadsWrongFalsely : Prop := frameReadsRow.holds Try.pinned (OpenSpec.ofChange frameReadsWrong)

/-- 'waywiserlaw02.FrameTorn': WHATEVER THE INPUT: true; the input reads as it did. -/
def frameTornSpec : ChangeSpec := { name := "frameTorn", fn := fun _ => fun
  | [d1, d2, d3] => { results := [.lit (.bool true)], args := [d1, d2, d3] }
  | _ => none }
def frameTornRow : OpenClaim := { program := "ytipijjlajhofkaa", sum := "6a38c6e1977318f1c83230578e7c5ff29e74fcce010de7d4cef82a66e4c8ff5b", func := "waywiser/waywiserlaw02.FrameTorn", spec := "frameTorn", apart := false }
def FrameTornSaid : Prop := frameTornRow.holds Try.pinned (OpenSpec.ofChange frameTornSpec)

/-- ITS FALSE NEIGHBOUR: 'it returns false'. Refute it at one input. -/
def frameTornWrong : ChangeSpec := { name := "frameTorn", fn := fun _ => fun
  | [d1, d2, d3] => { results := [.lit (.bool false)], args := [d1, d2, d3] }
  | _ => none }
def FrameTornWrongFalsely : Prop := frameTornRow.holds Try.pinned (OpenSpec.ofChange frameTornWrong)

/-- 'waywiserlaw02.FrameBack': WHATEVER THE INPUT: true; the input reads as it did. -/
def frameBackSpec : ChangeSpec := { name := "frameBack", fn := fun _ => fun
  | [d1, d2, d3] => { results := [.lit (.bool true)], args := [d1, d2, d3] }
  | _ => none }
def frameBackRow : OpenClaim := { program := "ytipijjlajhofkaa", sum := "6a38c6e1977318f1c83230578e7c5ff29e74fcce010de7d4cef82a66e4c8ff5b", func := "waywiser/waywiserlaw02.FrameBack", spec := "frameBack", apart := false }
def FrameBackSaid : Prop := frameBackRow.holds Try.pinned (OpenSpec.ofChange frameBackSpec)

/-- ITS FALSE NEIGHBOUR: 'it returns false'. Refute it at one input. -/
def frameBackWrong : ChangeSpec := { name := "frameBack", fn := fun _ => fun
  | [d1, d2, d3] => { results := [.lit (.bool false)], args := [d1, d2, d3] }
  | _ => none }
def FrameBackWrongFalsely : Prop := frameBackRow.holds Try.pinned (OpenSpec.ofChange frameBackWrong)

/-- 'waywiserlaw02.FrameTurned': WHATEVER THE INPUT: true; the input reads as it did. -/
def frameTurnedSpec : ChangeSpec := { name := "frameTurned", fn := fun _ => fun
  | [d1, d2] => { results := [.lit (.bool true)], args := [d1, d2] }
  | _ => none }
def frameTurnedRow : OpenClaim := { program := "ytipijjlajhofkaa", sum := "6a38c6e1977318f1c83230578e7c5ff29e74fcce010de7d4cef82a66e4c8ff5b", func := "waywiser/waywiserlaw02.FrameTurned", spec := "frameTurned", apart := false }
def FrameTurnedSaid : Prop := frameTurnedRow.holds Try.pinned (OpenSpec.ofChange frameTurnedSpec)

/-- ITS FALSE NEIGHBOUR: 'it returns false'. Refute it at one input. -/
def frameTurnedWrong : ChangeSpec := { name := "frameTurned", fn := fun _ => fun
  | [d1, d2] => { results := [.lit (.bool false)], args := [d1, d2] }
  | _ => none }
def FrameTurnedWrongFalsely : Prop := frameTurnedRow.holds Try.pinned (OpenSpec.ofChange frameTurnedWrong)

/- THE SECOND FORM. 'bulk': how many values and letters a reading holds, each counted each time it is reached (what is shared counts as often as it is met; a slice's spare places count too). A statement '..UptoSaid' is the law's where the arguments, and the package variables that the reading takes, are together of bulk at most 1048576: NARROWER than '..Said'. Prove '..Said' where nothing that the law and all that it calls make is longer than what came in: it says more and counts as full. Else prove '..UptoSaid'. A law counts once. -/
mutual
def uptoBulk {H : Type} : DataW H → Nat
  | .lit (.string bytes) => bytes.length + 1
  | .lit _ => 1
  | .nil => 1
  | .ptr d => uptoBulk d + 1
  | .slice elems spare => uptoBulkAll elems + uptoBulkAll spare + 1
  | .agg parts => uptoBulkAll parts + 1
  | .iface _ d => uptoBulk d + 1
  | .map entries => uptoBulkEntries entries + 1
  | .held _ => 1
def uptoBulkAll {H : Type} : List (DataW H) → Nat
  | [] => 0
  | d :: r => uptoBulk d + uptoBulkAll r
def uptoBulkEntries {H : Type} : List (Lit × DataW H) → Nat
  | [] => 0
  | x :: r => uptoBulkEntry x + uptoBulkEntries r
def uptoBulkEntry {H : Type} : Lit × DataW H → Nat
  | (.string bytes, d) => bytes.length + uptoBulk d + 1
  | (_, d) => uptoBulk d + 1
 end
def uptoSmall : (H : Type) → List (DataW H) → Bool := fun _ ds => decide (uptoBulkAll ds ≤ 1048576)
def OpenSpec.upto (s : _root_.Go.ChangeSpec) : _root_.Go.OpenSpec := { _root_.Go.OpenSpec.ofChange s with cond := some uptoSmall }

/-- 'waywiserlaw02.FrameChecks', WHERE WHAT IT READS IS OF BULK AT MOST 1048576: true; the input reads as it did. -/
def frameChecksUptoRow : OpenClaim := { program := "ytipijjlajhofkaa", sum := "6a38c6e1977318f1c83230578e7c5ff29e74fcce010de7d4cef82a66e4c8ff5b", func := "waywiser/waywiserlaw02.FrameChecks", spec := "frameChecks", apart := false, narrowed := true }
def FrameChecksUptoSaid : Prop := frameChecksUptoRow.holds Try.pinned (OpenSpec.upto frameChecksSpec)

/-- 'waywiserlaw02.FrameBuilds', WHERE WHAT IT READS IS OF BULK AT MOST 1048576: true; the input reads as it did. -/
def frameBuildsUptoRow : OpenClaim := { program := "ytipijjlajhofkaa", sum := "6a38c6e1977318f1c83230578e7c5ff29e74fcce010de7d4cef82a66e4c8ff5b", func := "waywiser/waywiserlaw02.FrameBuilds", spec := "frameBuilds", apart := false, narrowed := true }
def FrameBuildsUptoSaid : Prop := frameBuildsUptoRow.holds Try.pinned (OpenSpec.upto frameBuildsSpec)

/-- 'waywiserlaw02.FrameReads', WHERE WHAT IT READS IS OF BULK AT MOST 1048576: true; the input reads as it did. -/
def frameReadsUptoRow : OpenClaim := { program := "ytipijjlajhofkaa", sum := "6a38c6e1977318f1c83230578e7c5ff29e74fcce010de7d4cef82a66e4c8ff5b", func := "waywiser/waywiserlaw02.FrameReads", spec := "frameReads", apart := false, narrowed := true }
def FrameReadsUptoSaid : Prop := frameReadsUptoRow.holds Try.pinned (OpenSpec.upto frameReadsSpec)

/-- 'waywiserlaw02.FrameTorn', WHERE WHAT IT READS IS OF BULK AT MOST 1048576: true; the input reads as it did. -/
def frameTornUptoRow : OpenClaim := { program := "ytipijjlajhofkaa", sum := "6a38c6e1977318f1c83230578e7c5ff29e74fcce010de7d4cef82a66e4c8ff5b", func := "waywiser/waywiserlaw02.FrameTorn", spec := "frameTorn", apart := false, narrowed := true }
def FrameTornUptoSaid : Prop := frameTornUptoRow.holds Try.pinned (OpenSpec.upto frameTornSpec)

/-- 'waywiserlaw02.FrameBack', WHERE WHAT IT READS IS OF BULK AT MOST 1048576: true; the input reads as it did. -/
def frameBackUptoRow : OpenClaim := { program := "ytipijjlajhofkaa", sum := "6a38c6e1977318f1c83230578e7c5ff29e74fcce010de7d4cef82a66e4c8ff5b", func := "waywiser/waywiserlaw02.FrameBack", spec := "frameBack", apart := false, narrowed := true }
def FrameBackUptoSaid : Prop := frameBackUptoRow.holds Try.pinned (OpenSpec.upto frameBackSpec)

/-- 'waywiserlaw02.FrameTurned', WHERE WHAT IT READS IS OF BULK AT MOST 1048576: true; the input reads as it did. -/
def frameTurnedUptoRow : OpenClaim := { program := "ytipijjlajhofkaa", sum := "6a38c6e1977318f1c83230578e7c5ff29e74fcce010de7d4cef82a66e4c8ff5b", func := "waywiser/waywiserlaw02.FrameTurned", spec := "frameTurned", apart := false, narrowed := true }
def FrameTurnedUptoSaid : Prop := frameTurnedUptoRow.holds Try.pinned (OpenSpec.upto frameTurnedSpec)

end Rows
end Go.Proofs.Ytipijjlajhofkaa
