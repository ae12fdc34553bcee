/-
  No cell of these rows narrows 'for every input' (looked for: loops, veiled, ifaces, maps, wideKeys, modest, calm, conditions, laid).
  DERIVED. THE GIVEN ROWS OF THIS SEAT. 5 by the template 'for every input the law returns true; each argument reads behind the call as it read before'; 0 by the template 'total and deterministic' (their statements: YtogghmmokifnnaaTotals.lean).
  GIVEN WITH THE SEED: the statements are not yours to turn. If you find one false, say at which input.
  Laid BY PROGRAM, IN A SANDBOX (cutbox-rows.mjs): the forced cells as the released guide's own fill.sh prints them over the translation f5c51870ed33cd1a… (all of the seat's roots in one cut). By AI agents, Wed Nov 11 2026. No macro, syntax, notation, axiom, sorry.
-/
import Derived.Test.YtogghmmokifnnaaChecked
import GoSem.Claim
import GoSem.ClaimJoined
import GoSem.ClaimMapViews
import Derived.JoinedTies
import Derived.KernelRfl
namespace Go.Proofs.Ytogghmmokifnnaa
/- THE CELL 'sum', in the pinned program and in every row, IS THE sha256 OF THE DUMP (.gsa) THAT YtogghmmokifnnaaProg.lean LOADS. Nothing in Lean hashes anything: it is a label: what it is worth is what the hold of that sum in a sandbox is worth. -/
noncomputable def Try.pinned : Pinned := { name := "ytogghmmokifnnaa", sum := "f5c51870ed33cd1a9ea7430e3b5314379b2bee9485b3e7619a7b35216f22999d", checked := Try.checked }
namespace Rows
def none {H : Type} : Left H := { results := [], args := [] }

/-- 'waywiserlaw07.WideTurns': WHATEVER THE INPUT: true; the input reads as it did. -/
def wideTurnsSpec : ChangeSpec := { name := "wideTurns", fn := fun _ => fun
  | [d1, d2, d3] => { results := [.lit (.bool true)], args := [d1, d2, d3] }
  | _ => none }
def wideTurnsRow : OpenClaim := { program := "ytogghmmokifnnaa", sum := "f5c51870ed33cd1a9ea7430e3b5314379b2bee9485b3e7619a7b35216f22999d", func := "waywiser/waywiserlaw07.WideTurns", spec := "wideTurns", inPlace := ["math/bits.Add64", "math/bits.Sub64"], apart := false }
def WideTurnsSaid : Prop := wideTurnsRow.holds Try.pinned (OpenSpec.ofChange wideTurnsSpec)

/-- ITS FALSE NEIGHBOUR: 'it returns false'. Refute it at one input. -/
def wideTurnsWrong : ChangeSpec := { name := "wideTurns", fn := fun _ => fun
  | [d1, d2, d3] => { results := [.lit (.bool false)], args := [d1, d2, d3] }
  | _ => none }
def WideTurnsWrongFalsely : Prop := wideTurnsRow.holds Try.pinned (OpenSpec.ofChange wideTurnsWrong)

/-- 'waywiserlaw07.WideProducts': WHATEVER THE INPUT: true; the input reads as it did. -/
def wideProductsSpec : ChangeSpec := { name := "wideProducts", fn := fun _ => fun
  | [d1, d2] => { results := [.lit (.bool true)], args := [d1, d2] }
  | _ => none }
def wideProductsRow : OpenClaim := { program := "ytogghmmokifnnaa", sum := "f5c51870ed33cd1a9ea7430e3b5314379b2bee9485b3e7619a7b35216f22999d", func := "waywiser/waywiserlaw07.WideProducts", spec := "wideProducts", inPlace := ["math/bits.Sub64"], named := ["math/bits.divideError", "math/bits.overflowError"], apart := false }
def WideProductsSaid : Prop := wideProductsRow.holds Try.pinned (OpenSpec.ofChange wideProductsSpec)

/-- ITS FALSE NEIGHBOUR: 'it returns false'. Refute it at one input. -/
def wideProductsWrong : ChangeSpec := { name := "wideProducts", fn := fun _ => fun
  | [d1, d2] => { results := [.lit (.bool false)], args := [d1, d2] }
  | _ => none }
def WideProductsWrongFalsely : Prop := wideProductsRow.holds Try.pinned (OpenSpec.ofChange wideProductsWrong)

/-- 'waywiserlaw07.WideSpreads': WHATEVER THE INPUT: true; the input reads as it did. -/
def wideSpreadsSpec : ChangeSpec := { name := "wideSpreads", fn := fun _ => fun
  | [d1, d2, d3] => { results := [.lit (.bool true)], args := [d1, d2, d3] }
  | _ => none }
def wideSpreadsRow : OpenClaim := { program := "ytogghmmokifnnaa", sum := "f5c51870ed33cd1a9ea7430e3b5314379b2bee9485b3e7619a7b35216f22999d", func := "waywiser/waywiserlaw07.WideSpreads", spec := "wideSpreads", inPlace := ["math/bits.Add64", "math/bits.Sub64"], named := ["math/bits.divideError", "math/bits.overflowError"], apart := false }
def WideSpreadsSaid : Prop := wideSpreadsRow.holds Try.pinned (OpenSpec.ofChange wideSpreadsSpec)

/-- ITS FALSE NEIGHBOUR: 'it returns false'. Refute it at one input. -/
def wideSpreadsWrong : ChangeSpec := { name := "wideSpreads", fn := fun _ => fun
  | [d1, d2, d3] => { results := [.lit (.bool false)], args := [d1, d2, d3] }
  | _ => none }
def WideSpreadsWrongFalsely : Prop := wideSpreadsRow.holds Try.pinned (OpenSpec.ofChange wideSpreadsWrong)

/-- 'waywiserlaw07.WideInts': WHATEVER THE INPUT: true; the input reads as it did. -/
def wideIntsSpec : ChangeSpec := { name := "wideInts", fn := fun _ => fun
  | [d] => { results := [.lit (.bool true)], args := [d] }
  | _ => none }
def wideIntsRow : OpenClaim := { program := "ytogghmmokifnnaa", sum := "f5c51870ed33cd1a9ea7430e3b5314379b2bee9485b3e7619a7b35216f22999d", func := "waywiser/waywiserlaw07.WideInts", spec := "wideInts", inPlace := ["math/bits.Sub64"], named := ["math/bits.divideError", "math/bits.overflowError"], apart := false }
def WideIntsSaid : Prop := wideIntsRow.holds Try.pinned (OpenSpec.ofChange wideIntsSpec)

/-- ITS FALSE NEIGHBOUR: 'it returns false'. Refute it at one input. -/
def wideIntsWrong : ChangeSpec := { name := "wideInts", fn := fun _ => fun
  | [d] => { results := [.lit (.bool false)], args := [d] }
  | _ => none }
def WideIntsWrongFalsely : Prop := wideIntsRow.holds Try.pinned (OpenSpec.ofChange wideIntsWrong)

/-- 'waywiserlaw07.WideReckons': WHATEVER THE INPUT: true; the input reads as it did. -/
def wideReckonsSpec : ChangeSpec := { name := "wideReckons", fn := fun _ => fun
  | [d1, d2] => { results := [.lit (.bool true)], args := [d1, d2] }
  | _ => none }
def wideReckonsRow : OpenClaim := { program := "ytogghmmokifnnaa", sum := "f5c51870ed33cd1a9ea7430e3b5314379b2bee9485b3e7619a7b35216f22999d", func := "waywiser/waywiserlaw07.WideReckons", spec := "wideReckons", inPlace := ["math/bits.Add64", "math/bits.Sub64"], named := ["math/bits.divideError", "math/bits.overflowError"], apart := false }
def WideReckonsSaid : Prop := wideReckonsRow.holds Try.pinned (OpenSpec.ofChange wideReckonsSpec)

/-- ITS FALSE NEIGHBOUR: 'it returns false'. Refute it at one input. -/
def wideReckonsWrong : ChangeSpec := { name := "wideReckons", fn := fun _ => fun
  | [d1, d2] => { results := [.lit (.bool false)], args := [d1, d2] }
  | _ => none }
def WideReckonsWrongFalsely : Prop := wideReckonsRow.holds Try.pinned (OpenSpec.ofChange wideReckonsWrong)

/- THE SECOND FORM. 'bulk': how many values and letters a reading holds, each counted each time it is reached (what is shared counts as often as it is met; a slice's spare places count too). A statement '..UptoSaid' is the law's where the arguments, and the package variables that the reading takes, are together of bulk at most 1048576: NARROWER than '..Said'. Prove '..Said' where nothing that the law and all that it calls make is longer than what came in: it says more and counts as full. Else prove '..UptoSaid'. A law counts once. -/
mutual
def uptoBulk {H : Type} : DataW H → Nat
  | .lit (.string bytes) => bytes.length + 1
  | .lit _ => 1
  | .nil => 1
  | .ptr d => uptoBulk d + 1
  | .slice elems spare => uptoBulkAll elems + uptoBulkAll spare + 1
  | .agg parts => uptoBulkAll parts + 1
  | .iface _ d => uptoBulk d + 1
  | .map entries => uptoBulkEntries entries + 1
  | .held _ => 1
def uptoBulkAll {H : Type} : List (DataW H) → Nat
  | [] => 0
  | d :: r => uptoBulk d + uptoBulkAll r
def uptoBulkEntries {H : Type} : List (Lit × DataW H) → Nat
  | [] => 0
  | x :: r => uptoBulkEntry x + uptoBulkEntries r
def uptoBulkEntry {H : Type} : Lit × DataW H → Nat
  | (.string bytes, d) => bytes.length + uptoBulk d + 1
  | (_, d) => uptoBulk d + 1
 end
def uptoSmall : (H : Type) → List (DataW H) → Bool := fun _ ds => decide (uptoBulkAll ds ≤ 1048576)
def OpenSpec.upto (s : _root_.Go.ChangeSpec) : _root_.Go.OpenSpec := { _root_.Go.OpenSpec.ofChange s with cond := some uptoSmall }

/-- 'waywiserlaw07.WideTurns', WHERE WHAT IT READS IS OF BULK AT MOST 1048576: true; the input reads as it did. -/
def wideTurnsUptoRow : OpenClaim := { program := "ytogghmmokifnnaa", sum := "f5c51870ed33cd1a9ea7430e3b5314379b2bee9485b3e7619a7b35216f22999d", func := "waywiser/waywiserlaw07.WideTurns", spec := "wideTurns", inPlace := ["math/bits.Add64", "math/bits.Sub64"], apart := false, narrowed := true }
def WideTurnsUptoSaid : Prop := wideTurnsUptoRow.holds Try.pinned (OpenSpec.upto wideTurnsSpec)

/-- 'waywiserlaw07.WideProducts', WHERE WHAT IT READS IS OF BULK AT MOST 1048576: true; the input reads as it did. -/
def wideProductsUptoRow : OpenClaim := { program := "ytogghmmokifnnaa", sum := "f5c51870ed33cd1a9ea7430e3b5314379b2bee9485b3e7619a7b35216f22999d", func := "waywiser/waywiserlaw07.WideProducts", spec := "wideProducts", inPlace := ["math/bits.Sub64"], named := ["math/bits.divideError", "math/bits.overflowError"], apart := false, narrowed := true }
def WideProductsUptoSaid : Prop := wideProductsUptoRow.holds Try.pinned (OpenSpec.upto wideProductsSpec)

/-- 'waywiserlaw07.WideSpreads', WHERE WHAT IT READS IS OF BULK AT MOST 1048576: true; the input reads as it did. -/
def wideSpreadsUptoRow : OpenClaim := { program := "ytogghmmokifnnaa", sum := "f5c51870ed33cd1a9ea7430e3b5314379b2bee9485b3e7619a7b35216f22999d", func := "waywiser/waywiserlaw07.WideSpreads", spec := "wideSpreads", inPlace := ["math/bits.Add64", "math/bits.Sub64"], named := ["math/bits.divideError", "math/bits.overflowError"], apart := false, narrowed := true }
def WideSpreadsUptoSaid : Prop := wideSpreadsUptoRow.holds Try.pinned (OpenSpec.upto wideSpreadsSpec)

/-- 'waywiserlaw07.WideInts', WHERE WHAT IT READS IS OF BULK AT MOST 1048576: true; the input reads as it did. -/
def wideIntsUptoRow : OpenClaim := { program := "ytogghmmokifnnaa", sum := "f5c51870ed33cd1a9ea7430e3b5314379b2bee9485b3e7619a7b35216f22999d", func := "waywiser/waywiserlaw07.WideInts", spec := "wideInts", inPlace := ["math/bits.Sub64"], named := ["math/bits.divideError", "math/bits.overflowError"], apart := false, narrowed := true }
def WideIntsUptoSaid : Prop := wideIntsUptoRow.holds Try.pinned (OpenSpec.upto wideIntsSpec)

/-- 'waywiserlaw07.WideReckons', WHERE WHAT IT READS IS OF BULK AT MOST 1048576: true; the input reads as it did. -/
def wideReckonsUptoRow : OpenClaim := { program := "ytogghmmokifnnaa", sum := "f5c51870ed33cd1a9ea7430e3b5314379b2bee9485b3e7619a7b35216f22999d", func := "waywiser/waywiserlaw07.WideReckons", spec := "wideReckons", inPlace := ["math/bits.Add64", "math/bits.Sub64"], named := ["math/bits.divideError", "math/bits.overflowError"], apart := false, narrowed := true }
def WideReckonsUptoSaid : Prop := wideReckonsUptoRow.holds Try.pinned (OpenSpec.upto wideReckonsSpec)

end Rows
end Go.Proofs.Ytogghmmokifnnaa
