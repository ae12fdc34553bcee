/-
  No cell of these rows narrows 'for every input' (looked for: loops, veiled, ifaces, maps, wideKeys, modest, calm, conditions, laid).
  DERIVED. THE GIVEN ROWS OF THIS SEAT. 6 by the template 'for every input the law returns true; each argument reads behind the call as it read before'; 0 by the template 'total and deterministic' (their statements: YtklppnknllbfnaaGreatTotals.lean).
  GIVEN WITH THE SEED: the statements are not yours to turn. If you find one false, say at which input.
  Laid BY PROGRAM, IN A SANDBOX (cutbox-rows.mjs): the forced cells as the released guide's own fill.sh prints them over the translation 1b1742ced7b0f3a0… (all of the seat's roots in one cut). By AI agents, Wed Nov 11 2026. No macro, syntax, notation, axiom, sorry.
-/
import Derived.Test.YtklppnknllbfnaaGreatChecked
import GoSem.Claim
import GoSem.ClaimJoined
import GoSem.ClaimMapViews
import Derived.JoinedTies
import Derived.KernelRfl
namespace Go.Proofs.YtklppnknllbfnaaGreat
/- THE CELL 'sum', in the pinned program and in every row, IS THE sha256 OF THE DUMP (.gsa) THAT YtklppnknllbfnaaGreatProg.lean LOADS. Nothing in Lean hashes anything: it is a label: what it is worth is what the hold of that sum in a sandbox is worth. -/
noncomputable def Tryz.pinned : Pinned := { name := "ytklppnknllbfnaagreat", sum := "1b1742ced7b0f3a0696aa42d890795db0c66b8c5fa5b3051a22c764a6b025b99", checked := Tryz.checked }
namespace Rows
def none {H : Type} : Left H := { results := [], args := [] }

/-- 'waywiserlaw12.PoolTakes': WHATEVER THE INPUT: true; the input reads as it did. -/
def poolTakesSpec : ChangeSpec := { name := "poolTakes", fn := fun _ => fun
  | [d] => { results := [.lit (.bool true)], args := [d] }
  | _ => none }
def poolTakesRow : OpenClaim := { program := "ytklppnknllbfnaagreat", sum := "1b1742ced7b0f3a0696aa42d890795db0c66b8c5fa5b3051a22c764a6b025b99", func := "waywiser/waywiserlaw12.PoolTakes", spec := "poolTakes", unfollowed := true, recurses := true, apart := false }
def PoolTakesSaid : Prop := poolTakesRow.holds Tryz.pinned (OpenSpec.ofChange poolTakesSpec)

/-- ITS FALSE NEIGHBOUR: 'it returns false'. Refute it at one input. -/
def poolTakesWrong : ChangeSpec := { name := "poolTakes", fn := fun _ => fun
  | [d] => { results := [.lit (.bool false)], args := [d] }
  | _ => none }
def PoolTakesWrongFalsely : Prop := poolTakesRow.holds Tryz.pinned (OpenSpec.ofChange poolTakesWrong)

/-- 'waywiserlaw12.PoolAnew': WHATEVER THE INPUT: true; the input reads as it did. -/
def poolAnewSpec : ChangeSpec := { name := "poolAnew", fn := fun _ => fun
  | [d] => { results := [.lit (.bool true)], args := [d] }
  | _ => none }
def poolAnewRow : OpenClaim := { program := "ytklppnknllbfnaagreat", sum := "1b1742ced7b0f3a0696aa42d890795db0c66b8c5fa5b3051a22c764a6b025b99", func := "waywiser/waywiserlaw12.PoolAnew", spec := "poolAnew", unfollowed := true, recurses := true, apart := false }
def PoolAnewSaid : Prop := poolAnewRow.holds Tryz.pinned (OpenSpec.ofChange poolAnewSpec)

/-- ITS FALSE NEIGHBOUR: 'it returns false'. Refute it at one input. -/
def poolAnewWrong : ChangeSpec := { name := "poolAnew", fn := fun _ => fun
  | [d] => { results := [.lit (.bool false)], args := [d] }
  | _ => none }
def PoolAnewWrongFalsely : Prop := poolAnewRow.holds Tryz.pinned (OpenSpec.ofChange poolAnewWrong)

/-- 'waywiserlaw12.PoolPlays': WHATEVER THE INPUT: true; the input reads as it did. -/
def poolPlaysSpec : ChangeSpec := { name := "poolPlays", fn := fun _ => fun
  | [d1, d2] => { results := [.lit (.bool true)], args := [d1, d2] }
  | _ => none }
def poolPlaysRow : OpenClaim := { program := "ytklppnknllbfnaagreat", sum := "1b1742ced7b0f3a0696aa42d890795db0c66b8c5fa5b3051a22c764a6b025b99", func := "waywiser/waywiserlaw12.PoolPlays", spec := "poolPlays", unfollowed := true, recurses := true, apart := false }
def PoolPlaysSaid : Prop := poolPlaysRow.holds Tryz.pinned (OpenSpec.ofChange poolPlaysSpec)

/-- ITS FALSE NEIGHBOUR: 'it returns false'. Refute it at one input. -/
def poolPlaysWrong : ChangeSpec := { name := "poolPlays", fn := fun _ => fun
  | [d1, d2] => { results := [.lit (.bool false)], args := [d1, d2] }
  | _ => none }
def PoolPlaysWrongFalsely : Prop := poolPlaysRow.holds Tryz.pinned (OpenSpec.ofChange poolPlaysWrong)

/-- 'waywiserlaw12.PoolNil': WHATEVER THE INPUT: true; the input reads as it did. -/
def poolNilSpec : ChangeSpec := { name := "poolNil", fn := fun _ => fun
  | [d1, d2] => { results := [.lit (.bool true)], args := [d1, d2] }
  | _ => none }
def poolNilRow : OpenClaim := { program := "ytklppnknllbfnaagreat", sum := "1b1742ced7b0f3a0696aa42d890795db0c66b8c5fa5b3051a22c764a6b025b99", func := "waywiser/waywiserlaw12.PoolNil", spec := "poolNil", unfollowed := true, recurses := true, apart := false }
def PoolNilSaid : Prop := poolNilRow.holds Tryz.pinned (OpenSpec.ofChange poolNilSpec)

/-- ITS FALSE NEIGHBOUR: 'it returns false'. Refute it at one input. -/
def poolNilWrong : ChangeSpec := { name := "poolNil", fn := fun _ => fun
  | [d1, d2] => { results := [.lit (.bool false)], args := [d1, d2] }
  | _ => none }
def PoolNilWrongFalsely : Prop := poolNilRow.holds Tryz.pinned (OpenSpec.ofChange poolNilWrong)

/-- 'waywiserlaw12.PoolDead': WHATEVER THE INPUT: true; the input reads as it did. -/
def poolDeadSpec : ChangeSpec := { name := "poolDead", fn := fun _ => fun
  | [d1, d2] => { results := [.lit (.bool true)], args := [d1, d2] }
  | _ => none }
def poolDeadRow : OpenClaim := { program := "ytklppnknllbfnaagreat", sum := "1b1742ced7b0f3a0696aa42d890795db0c66b8c5fa5b3051a22c764a6b025b99", func := "waywiser/waywiserlaw12.PoolDead", spec := "poolDead", unfollowed := true, recurses := true, apart := false }
def PoolDeadSaid : Prop := poolDeadRow.holds Tryz.pinned (OpenSpec.ofChange poolDeadSpec)

/-- ITS FALSE NEIGHBOUR: 'it returns false'. Refute it at one input. -/
def poolDeadWrong : ChangeSpec := { name := "poolDead", fn := fun _ => fun
  | [d1, d2] => { results := [.lit (.bool false)], args := [d1, d2] }
  | _ => none }
def PoolDeadWrongFalsely : Prop := poolDeadRow.holds Tryz.pinned (OpenSpec.ofChange poolDeadWrong)

/-- 'waywiserlaw12.PoolWhole': WHATEVER THE INPUT: true; the input reads as it did. -/
def poolWholeSpec : ChangeSpec := { name := "poolWhole", fn := fun _ => fun
  | [d] => { results := [.lit (.bool true)], args := [d] }
  | _ => none }
def poolWholeRow : OpenClaim := { program := "ytklppnknllbfnaagreat", sum := "1b1742ced7b0f3a0696aa42d890795db0c66b8c5fa5b3051a22c764a6b025b99", func := "waywiser/waywiserlaw12.PoolWhole", spec := "poolWhole", unfollowed := true, recurses := true, apart := false }
def PoolWholeSaid : Prop := poolWholeRow.holds Tryz.pinned (OpenSpec.ofChange poolWholeSpec)

/-- ITS FALSE NEIGHBOUR: 'it returns false'. Refute it at one input. -/
def poolWholeWrong : ChangeSpec := { name := "poolWhole", fn := fun _ => fun
  | [d] => { results := [.lit (.bool false)], args := [d] }
  | _ => none }
def PoolWholeWrongFalsely : Prop := poolWholeRow.holds Tryz.pinned (OpenSpec.ofChange poolWholeWrong)

/- THE SECOND FORM. 'bulk': how many values and letters a reading holds, each counted each time it is reached (what is shared counts as often as it is met; a slice's spare places count too). A statement '..UptoSaid' is the law's where the arguments, and the package variables that the reading takes, are together of bulk at most 1048576: NARROWER than '..Said'. Prove '..Said' where nothing that the law and all that it calls make is longer than what came in: it says more and counts as full. Else prove '..UptoSaid'. A law counts once. -/
mutual
def uptoBulk {H : Type} : DataW H → Nat
  | .lit (.string bytes) => bytes.length + 1
  | .lit _ => 1
  | .nil => 1
  | .ptr d => uptoBulk d + 1
  | .slice elems spare => uptoBulkAll elems + uptoBulkAll spare + 1
  | .agg parts => uptoBulkAll parts + 1
  | .iface _ d => uptoBulk d + 1
  | .map entries => uptoBulkEntries entries + 1
  | .held _ => 1
def uptoBulkAll {H : Type} : List (DataW H) → Nat
  | [] => 0
  | d :: r => uptoBulk d + uptoBulkAll r
def uptoBulkEntries {H : Type} : List (Lit × DataW H) → Nat
  | [] => 0
  | x :: r => uptoBulkEntry x + uptoBulkEntries r
def uptoBulkEntry {H : Type} : Lit × DataW H → Nat
  | (.string bytes, d) => bytes.length + uptoBulk d + 1
  | (_, d) => uptoBulk d + 1
 end
def uptoSmall : (H : Type) → List (DataW H) → Bool := fun _ ds => decide (uptoBulkAll ds ≤ 1048576)
def OpenSpec.upto (s : _root_.Go.ChangeSpec) : _root_.Go.OpenSpec := { _root_.Go.OpenSpec.ofChange s with cond := some uptoSmall }

/-- 'waywiserlaw12.PoolTakes', WHERE WHAT IT READS IS OF BULK AT MOST 1048576: true; the input reads as it did. -/
def poolTakesUptoRow : OpenClaim := { program := "ytklppnknllbfnaagreat", sum := "1b1742ced7b0f3a0696aa42d890795db0c66b8c5fa5b3051a22c764a6b025b99", func := "waywiser/waywiserlaw12.PoolTakes", spec := "poolTakes", unfollowed := true, recurses := true, apart := false, narrowed := true }
def PoolTakesUptoSaid : Prop := poolTakesUptoRow.holds Tryz.pinned (OpenSpec.upto poolTakesSpec)

/-- 'waywiserlaw12.PoolAnew', WHERE WHAT IT READS IS OF BULK AT MOST 1048576: true; the input reads as it did. -/
def poolAnewUptoRow : OpenClaim := { program := "ytklppnknllbfnaagreat", sum := "1b1742ced7b0f3a0696aa42d890795db0c66b8c5fa5b3051a22c764a6b025b99", func := "waywiser/waywiserlaw12.PoolAnew", spec := "poolAnew", unfollowed := true, recurses := true, apart := false, narrowed := true }
def PoolAnewUptoSaid : Prop := poolAnewUptoRow.holds Tryz.pinned (OpenSpec.upto poolAnewSpec)

/-- 'waywiserlaw12.PoolPlays', WHERE WHAT IT READS IS OF BULK AT MOST 1048576: true; the input reads as it did. -/
def poolPlaysUptoRow : OpenClaim := { program := "ytklppnknllbfnaagreat", sum := "1b1742ced7b0f3a0696aa42d890795db0c66b8c5fa5b3051a22c764a6b025b99", func := "waywiser/waywiserlaw12.PoolPlays", spec := "poolPlays", unfollowed := true, recurses := true, apart := false, narrowed := true }
def PoolPlaysUptoSaid : Prop := poolPlaysUptoRow.holds Tryz.pinned (OpenSpec.upto poolPlaysSpec)

/-- 'waywiserlaw12.PoolNil', WHERE WHAT IT READS IS OF BULK AT MOST 1048576: true; the input reads as it did. -/
def poolNilUptoRow : OpenClaim := { program := "ytklppnknllbfnaagreat", sum := "1b1742ced7b0f3a0696aa42d890795db0c66b8c5fa5b3051a22c764a6b025b99", func := "waywiser/waywiserlaw12.PoolNil", spec := "poolNil", unfollowed := true, recurses := true, apart := false, narrowed := true }
def PoolNilUptoSaid : Prop := poolNilUptoRow.holds Tryz.pinned (OpenSpec.upto poolNilSpec)

/-- 'waywiserlaw12.PoolDead', WHERE WHAT IT READS IS OF BULK AT MOST 1048576: true; the input reads as it did. -/
def poolDeadUptoRow : OpenClaim := { program := "ytklppnknllbfnaagreat", sum := "1b1742ced7b0f3a0696aa42d890795db0c66b8c5fa5b3051a22c764a6b025b99", func := "waywiser/waywiserlaw12.PoolDead", spec := "poolDead", unfollowed := true, recurses := true, apart := false, narrowed := true }
def PoolDeadUptoSaid : Prop := poolDeadUptoRow.holds Tryz.pinned (OpenSpec.upto poolDeadSpec)

/-- 'waywiserlaw12.PoolWhole', WHERE WHAT IT READS IS OF BULK AT MOST 1048576: true; the input reads as it did. -/
def poolWholeUptoRow : OpenClaim := { program := "ytklppnknllbfnaagreat", sum := "1b1742ced7b0f3a0696aa42d890795db0c66b8c5fa5b3051a22c764a6b025b99", func := "waywiser/waywiserlaw12.PoolWhole", spec := "poolWhole", unfollowed := true, recurses := true, apart := false, narrowed := true }
def PoolWholeUptoSaid : Prop := poolWholeUptoRow.holds Tryz.pinned (OpenSpec.upto poolWholeSpec)

end Rows
end Go.Proofs.YtklppnknllbfnaaGreat
