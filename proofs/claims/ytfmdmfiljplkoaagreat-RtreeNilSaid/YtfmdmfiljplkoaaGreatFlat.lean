/- A value without depth (structs and arrays within one another), opened to its cells: each cell reads as its own type. -/
import Derived.ProofKit
import Derived.OpenShut
import Derived.Lib.SmallJoins
namespace Go.Proofs.YtfmdmfiljplkoaaGreat
open Go.ChangeShapes Go.WideShapes Go.RowKit Go.Joins
/-- The types of a row's cells: a struct's, an array's parts in a row; all else is one cell. -/
def leaves (P : Program) : Nat → TypeId → Option (List TypeId)
  | 0, _ => none
  | n + 1, t =>
    match P.underlying t with
    | some (.struct fs) =>
      (fs.toList.foldl (fun (acc : Option (List TypeId)) f => acc.bind fun l =>
        if f.offset = l.length then (leaves P n f.type).bind fun m => if m.length = P.cellsOf f.type then some (l ++ m) else none else none) (some [])).bind fun l =>
          if l.length = P.cellsOf t then some l else none
    | some (.array k e) => (leaves P n e).bind fun m => if m.length = P.cellsOf e ∧ k * m.length = P.cellsOf t then some (List.replicate k m).flatten else none
    | _ => if P.cellsOf t = 1 then some [t] else none
section
variable {H : Type} {enc : TypeId × Value → H} {P : Program} {w : World} {base : Nat} {spare : Nat → Bool} {held : Bool}
/-- Every cell of a row reads as its leaf's type. -/
def Cells (enc : TypeId × Value → H) (P : Program) (w : World) (base : Nat) (spare : Nat → Bool) (held : Bool) (l : List TypeId) (cs : List Value) : Prop :=
  l.length = cs.length ∧ ∀ (i : Nat) (t : TypeId) (c : Value), l[i]? = some t → cs[i]? = some c → ∃ n y, DataW.trod enc P w base spare held n t [c] = some y
end
end Go.Proofs.YtfmdmfiljplkoaaGreat
