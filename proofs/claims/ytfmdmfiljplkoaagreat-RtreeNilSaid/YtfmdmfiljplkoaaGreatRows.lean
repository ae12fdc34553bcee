/-
  No cell of these rows narrows 'for every input' (looked for: loops, veiled, ifaces, maps, wideKeys, modest, calm, conditions, laid).
  DERIVED. THE GIVEN ROWS OF THIS SEAT. 5 by the template 'for every input the law returns true; each argument reads behind the call as it read before'; 0 by the template 'total and deterministic' (their statements: YtfmdmfiljplkoaaGreatTotals.lean).
  GIVEN WITH THE SEED: the statements are not yours to turn. If you find one false, say at which input.
  Laid BY PROGRAM, IN A SANDBOX (cutbox-rows.mjs): the forced cells as the released guide's own fill.sh prints them over the translation 1f9e8f652a5a1701… (all of the seat's roots in one cut). By AI agents, Wed Nov 11 2026. No macro, syntax, notation, axiom, sorry.
-/
import Derived.Test.YtfmdmfiljplkoaaGreatChecked
import GoSem.Claim
import GoSem.ClaimJoined
import GoSem.ClaimMapViews
import Derived.JoinedTies
import Derived.KernelRfl
namespace Go.Proofs.YtfmdmfiljplkoaaGreat
/- THE CELL 'sum', in the pinned program and in every row, IS THE sha256 OF THE DUMP (.gsa) THAT YtfmdmfiljplkoaaGreatProg.lean LOADS. Nothing in Lean hashes anything: it is a label: what it is worth is what the hold of that sum in a sandbox is worth. -/
noncomputable def Tryz.pinned : Pinned := { name := "ytfmdmfiljplkoaagreat", sum := "1f9e8f652a5a1701efff847ddfa0e9d77c33b8d536726dc78fff8a48a3827ac3", checked := Tryz.checked }
namespace Rows
def none {H : Type} : Left H := { results := [], args := [] }

/-- 'waywiserlaw15.RtreeNearest': WHATEVER THE INPUT: true; the input reads as it did. -/
def rtreeNearestSpec : ChangeSpec := { name := "rtreeNearest", fn := fun _ => fun
  | [d1, d2, d3] => { results := [.lit (.bool true)], args := [d1, d2, d3] }
  | _ => none }
def rtreeNearestRow : OpenClaim := { program := "ytfmdmfiljplkoaagreat", sum := "1f9e8f652a5a1701efff847ddfa0e9d77c33b8d536726dc78fff8a48a3827ac3", func := "waywiser/waywiserlaw15.RtreeNearest", spec := "rtreeNearest", unfollowed := true, recurses := true, apart := false }
def RtreeNearestSaid : Prop := rtreeNearestRow.holds Tryz.pinned (OpenSpec.ofChange rtreeNearestSpec)

/-- ITS FALSE NEIGHBOUR: 'it returns false'. Refute it at one input. -/
def rtreeNearestWrong : ChangeSpec := { name := "rtreeNearest", fn := fun _ => fun
  | [d1, d2, d3] => { results := [.lit (.bool false)], args := [d1, d2, d3] }
  | _ => none }
def RtreeNearestWrongFalsely : Prop := rtreeNearestRow.holds Tryz.pinned (OpenSpec.ofChange rtreeNearestWrong)

/-- 'waywiserlaw15.RtreeWider': WHATEVER THE INPUT: true; the input reads as it did. -/
def rtreeWiderSpec : ChangeSpec := { name := "rtreeWider", fn := fun _ => fun
  | [d1, d2, d3] => { results := [.lit (.bool true)], args := [d1, d2, d3] }
  | _ => none }
def rtreeWiderRow : OpenClaim := { program := "ytfmdmfiljplkoaagreat", sum := "1f9e8f652a5a1701efff847ddfa0e9d77c33b8d536726dc78fff8a48a3827ac3", func := "waywiser/waywiserlaw15.RtreeWider", spec := "rtreeWider", unfollowed := true, recurses := true, apart := false }
def RtreeWiderSaid : Prop := rtreeWiderRow.holds Tryz.pinned (OpenSpec.ofChange rtreeWiderSpec)

/-- ITS FALSE NEIGHBOUR: 'it returns false'. Refute it at one input. -/
def rtreeWiderWrong : ChangeSpec := { name := "rtreeWider", fn := fun _ => fun
  | [d1, d2, d3] => { results := [.lit (.bool false)], args := [d1, d2, d3] }
  | _ => none }
def RtreeWiderWrongFalsely : Prop := rtreeWiderRow.holds Tryz.pinned (OpenSpec.ofChange rtreeWiderWrong)

/-- 'waywiserlaw15.RtreeNil': WHATEVER THE INPUT: true; the input reads as it did. -/
def rtreeNilSpec : ChangeSpec := { name := "rtreeNil", fn := fun _ => fun
  | [d] => { results := [.lit (.bool true)], args := [d] }
  | _ => none }
def rtreeNilRow : OpenClaim := { program := "ytfmdmfiljplkoaagreat", sum := "1f9e8f652a5a1701efff847ddfa0e9d77c33b8d536726dc78fff8a48a3827ac3", func := "waywiser/waywiserlaw15.RtreeNil", spec := "rtreeNil", unfollowed := true, recurses := true, apart := false }
def RtreeNilSaid : Prop := rtreeNilRow.holds Tryz.pinned (OpenSpec.ofChange rtreeNilSpec)

/-- ITS FALSE NEIGHBOUR: 'it returns false'. Refute it at one input. -/
def rtreeNilWrong : ChangeSpec := { name := "rtreeNil", fn := fun _ => fun
  | [d] => { results := [.lit (.bool false)], args := [d] }
  | _ => none }
def RtreeNilWrongFalsely : Prop := rtreeNilRow.holds Tryz.pinned (OpenSpec.ofChange rtreeNilWrong)

/-- 'waywiserlaw15.RtreeFull': WHATEVER THE INPUT: true; the input reads as it did. -/
def rtreeFullSpec : ChangeSpec := { name := "rtreeFull", fn := fun _ => fun
  | [d1, d2] => { results := [.lit (.bool true)], args := [d1, d2] }
  | _ => none }
def rtreeFullRow : OpenClaim := { program := "ytfmdmfiljplkoaagreat", sum := "1f9e8f652a5a1701efff847ddfa0e9d77c33b8d536726dc78fff8a48a3827ac3", func := "waywiser/waywiserlaw15.RtreeFull", spec := "rtreeFull", unfollowed := true, recurses := true, apart := false }
def RtreeFullSaid : Prop := rtreeFullRow.holds Tryz.pinned (OpenSpec.ofChange rtreeFullSpec)

/-- ITS FALSE NEIGHBOUR: 'it returns false'. Refute it at one input. -/
def rtreeFullWrong : ChangeSpec := { name := "rtreeFull", fn := fun _ => fun
  | [d1, d2] => { results := [.lit (.bool false)], args := [d1, d2] }
  | _ => none }
def RtreeFullWrongFalsely : Prop := rtreeFullRow.holds Tryz.pinned (OpenSpec.ofChange rtreeFullWrong)

/-- 'waywiserlaw15.RtreePlays': WHATEVER THE INPUT: true; the input reads as it did. -/
def rtreePlaysSpec : ChangeSpec := { name := "rtreePlays", fn := fun _ => fun
  | [d] => { results := [.lit (.bool true)], args := [d] }
  | _ => none }
def rtreePlaysRow : OpenClaim := { program := "ytfmdmfiljplkoaagreat", sum := "1f9e8f652a5a1701efff847ddfa0e9d77c33b8d536726dc78fff8a48a3827ac3", func := "waywiser/waywiserlaw15.RtreePlays", spec := "rtreePlays", unfollowed := true, recurses := true, apart := false }
def RtreePlaysSaid : Prop := rtreePlaysRow.holds Tryz.pinned (OpenSpec.ofChange rtreePlaysSpec)

/-- ITS FALSE NEIGHBOUR: 'it returns false'. Refute it at one input. -/
def rtreePlaysWrong : ChangeSpec := { name := "rtreePlays", fn := fun _ => fun
  | [d] => { results := [.lit (.bool false)], args := [d] }
  | _ => none }
def RtreePlaysWrongFalsely : Prop := rtreePlaysRow.holds Tryz.pinned (OpenSpec.ofChange rtreePlaysWrong)

/- THE SECOND FORM. 'bulk': how many values and letters a reading holds, each counted each time it is reached (what is shared counts as often as it is met; a slice's spare places count too). A statement '..UptoSaid' is the law's where the arguments, and the package variables that the reading takes, are together of bulk at most 1048576: NARROWER than '..Said'. Prove '..Said' where nothing that the law and all that it calls make is longer than what came in: it says more and counts as full. Else prove '..UptoSaid'. A law counts once. -/
mutual
def uptoBulk {H : Type} : DataW H → Nat
  | .lit (.string bytes) => bytes.length + 1
  | .lit _ => 1
  | .nil => 1
  | .ptr d => uptoBulk d + 1
  | .slice elems spare => uptoBulkAll elems + uptoBulkAll spare + 1
  | .agg parts => uptoBulkAll parts + 1
  | .iface _ d => uptoBulk d + 1
  | .map entries => uptoBulkEntries entries + 1
  | .held _ => 1
def uptoBulkAll {H : Type} : List (DataW H) → Nat
  | [] => 0
  | d :: r => uptoBulk d + uptoBulkAll r
def uptoBulkEntries {H : Type} : List (Lit × DataW H) → Nat
  | [] => 0
  | x :: r => uptoBulkEntry x + uptoBulkEntries r
def uptoBulkEntry {H : Type} : Lit × DataW H → Nat
  | (.string bytes, d) => bytes.length + uptoBulk d + 1
  | (_, d) => uptoBulk d + 1
 end
def uptoSmall : (H : Type) → List (DataW H) → Bool := fun _ ds => decide (uptoBulkAll ds ≤ 1048576)
def OpenSpec.upto (s : _root_.Go.ChangeSpec) : _root_.Go.OpenSpec := { _root_.Go.OpenSpec.ofChange s with cond := some uptoSmall }

/-- 'waywiserlaw15.RtreeNearest', WHERE WHAT IT READS IS OF BULK AT MOST 1048576: true; the input reads as it did. -/
def rtreeNearestUptoRow : OpenClaim := { program := "ytfmdmfiljplkoaagreat", sum := "1f9e8f652a5a1701efff847ddfa0e9d77c33b8d536726dc78fff8a48a3827ac3", func := "waywiser/waywiserlaw15.RtreeNearest", spec := "rtreeNearest", unfollowed := true, recurses := true, apart := false, narrowed := true }
def RtreeNearestUptoSaid : Prop := rtreeNearestUptoRow.holds Tryz.pinned (OpenSpec.upto rtreeNearestSpec)

/-- 'waywiserlaw15.RtreeWider', WHERE WHAT IT READS IS OF BULK AT MOST 1048576: true; the input reads as it did. -/
def rtreeWiderUptoRow : OpenClaim := { program := "ytfmdmfiljplkoaagreat", sum := "1f9e8f652a5a1701efff847ddfa0e9d77c33b8d536726dc78fff8a48a3827ac3", func := "waywiser/waywiserlaw15.RtreeWider", spec := "rtreeWider", unfollowed := true, recurses := true, apart := false, narrowed := true }
def RtreeWiderUptoSaid : Prop := rtreeWiderUptoRow.holds Tryz.pinned (OpenSpec.upto rtreeWiderSpec)

/-- 'waywiserlaw15.RtreeNil', WHERE WHAT IT READS IS OF BULK AT MOST 1048576: true; the input reads as it did. -/
def rtreeNilUptoRow : OpenClaim := { program := "ytfmdmfiljplkoaagreat", sum := "1f9e8f652a5a1701efff847ddfa0e9d77c33b8d536726dc78fff8a48a3827ac3", func := "waywiser/waywiserlaw15.RtreeNil", spec := "rtreeNil", unfollowed := true, recurses := true, apart := false, narrowed := true }
def RtreeNilUptoSaid : Prop := rtreeNilUptoRow.holds Tryz.pinned (OpenSpec.upto rtreeNilSpec)

/-- 'waywiserlaw15.RtreeFull', WHERE WHAT IT READS IS OF BULK AT MOST 1048576: true; the input reads as it did. -/
def rtreeFullUptoRow : OpenClaim := { program := "ytfmdmfiljplkoaagreat", sum := "1f9e8f652a5a1701efff847ddfa0e9d77c33b8d536726dc78fff8a48a3827ac3", func := "waywiser/waywiserlaw15.RtreeFull", spec := "rtreeFull", unfollowed := true, recurses := true, apart := false, narrowed := true }
def RtreeFullUptoSaid : Prop := rtreeFullUptoRow.holds Tryz.pinned (OpenSpec.upto rtreeFullSpec)

/-- 'waywiserlaw15.RtreePlays', WHERE WHAT IT READS IS OF BULK AT MOST 1048576: true; the input reads as it did. -/
def rtreePlaysUptoRow : OpenClaim := { program := "ytfmdmfiljplkoaagreat", sum := "1f9e8f652a5a1701efff847ddfa0e9d77c33b8d536726dc78fff8a48a3827ac3", func := "waywiser/waywiserlaw15.RtreePlays", spec := "rtreePlays", unfollowed := true, recurses := true, apart := false, narrowed := true }
def RtreePlaysUptoSaid : Prop := rtreePlaysUptoRow.holds Tryz.pinned (OpenSpec.upto rtreePlaysSpec)

end Rows
end Go.Proofs.YtfmdmfiljplkoaaGreat
