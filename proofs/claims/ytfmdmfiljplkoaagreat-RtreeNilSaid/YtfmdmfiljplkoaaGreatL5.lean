/- Walks: put. Printed by mk_l5.py. -/
import Derived.Test.YtfmdmfiljplkoaaGreatLA
namespace Go.Proofs.YtfmdmfiljplkoaaGreat
open Go.RowKit Go.Maps
set_option maxRecDepth 8000
variable {ι : Type} [Bar ι]
/-- The sector of a change. -/
def secOf (z : Nat) (L : Lg) (p : Nat) (last : Bool) (l : List Nat) : List Nat := sector z (L.epoch * 2097152 + L.next + 1) (leb p 8 ++ [if last then 1 else 0] ++ l)
/-- What a step of a log leaves standing. -/
def Went (w w' : World) (G b m : Nat) (vl vl' : Value) : Prop := Turn (G :: own b m vl) w w' ∧ ∀ g, vl'.ownBlock = some g → vl.ownBlock = some g ∨ w.heap.size ≤ g
end Go.Proofs.YtfmdmfiljplkoaaGreat
