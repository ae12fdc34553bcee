/- Walks: Commit. Printed by mk_p25.py. -/
import Derived.Test.YtfmdmfiljplkoaaGreatPC
namespace Go.Proofs.YtfmdmfiljplkoaaGreat
open Go.RowKit Go.Maps
set_option maxRecDepth 8000
variable {ι : Type} [Bar ι]
def grpOf (f : Pgs) (ks : List Nat) : List (Int × List Nat) := ks.map fun k : Nat => ((k : Int), (f k).getD [])
def Pl.done (S : Pl) (L : Lg) : Pl := { S with log := some L, last := S.pend.over S.last, pend := Pgs.none_, was := S.now, moved := false }
/-- Commit, from the group on. -/
def appended (S : Pl) (D : Dsk) : Int × Pl × Dsk := match S.log with
  | none => (0, S, D)
  | some L =>
    if (app D L (grpOf S.pend (S.pend.keys D.sectors))).1 ≠ 0 then
      ((app D L (grpOf S.pend (S.pend.keys D.sectors))).1, ({ S with log := some (app D L (grpOf S.pend (S.pend.keys D.sectors))).2.2 } : Pl).die (app D L (grpOf S.pend (S.pend.keys D.sectors))).1, (app D L (grpOf S.pend (S.pend.keys D.sectors))).2.1)
    else (0, S.done (app D L (grpOf S.pend (S.pend.keys D.sectors))).2.2, (app D L (grpOf S.pend (S.pend.keys D.sectors))).2.1)
def Pl.room (S : Pl) : Int := match S.log with
  | none => 0
  | some L => (L.count : Int) - L.next
def Pl.meta0 (S : Pl) (D : Dsk) : Pl := if S.moved then { S with pend := S.pend.put 0 (widen D.rm S.now.metaL) } else S
def Pl.backed (S : Pl) : Pl := { S with now := S.was, pend := Pgs.none_, moved := false }
/-- Commit, behind page 0. -/
def committed (S : Pl) (D : Dsk) : Int × Pl × Dsk :=
  if (S.pend.keys D.sectors).length = 0 then (0, S, D)
  else if S.slots < (S.pend.keys D.sectors).length then (6, S.backed, D)
  else if S.room < (S.pend.keys D.sectors).length then (if (point S D).1 ≠ 0 then point S D else appended (point S D).2.1 (point S D).2.2)
  else appended S D
def commit (S : Pl) (D : Dsk) : Int × Pl × Dsk := if S.dead then (21, S, D) else committed (S.meta0 D) D
section
variable {w w' : World} {M M2 : Mem} {S : Pl} {D D' : Dsk}
structure CmSt (w wr : World) (M M2 : Mem) (S : Pl) (D : Dsk) (v : Value) (ks : List Nat) (gv : Value) (k : Nat) : Prop where
  pool : PoolAt wr M2 S D
  went : PWent w wr M M2
  side : Side wr M2 v ks
  row : Chg wr gv (grpOf S.pend (ks.take k))
  lo : ∀ g, gv.ownBlock = some g → w.heap.size ≤ g ∧ g ∉ M2.own
end
end Go.Proofs.YtfmdmfiljplkoaaGreat
