/- Walks: Open. Printed by mk_p31.py. -/
import Derived.Test.YtfmdmfiljplkoaaGreatP30
import Derived.Test.YtfmdmfiljplkoaaGreatLC
namespace Go.Proofs.YtfmdmfiljplkoaaGreat
open Go.RowKit Go.Maps
set_option maxRecDepth 8000
variable {ι : Type} [Bar ι]
def putG (f : Pgs) (g : List (Int × List Nat)) : Pgs := g.foldl (fun f c => f.put c.1.toNat c.2) f
/-- What a log's groups make of the pages. -/
def putR (f : Pgs) (R : List (List (Int × List Nat))) : Pgs := R.foldl putG f
/-- The pool that Open finds on a disk: epoch E, groups R, state s. -/
def Pl.found (D : Dsk) (E : Nat) (R : List (List (Int × List Nat))) (s : Sta) : Pl := { Pl.laid D 0 with epoch := E, last := putR Pgs.none_ R, now := s, was := s }
/-- Open: its answer, the pool and the disk behind it. -/
def opened (D : Dsk) (E : Nat) (R : List (List (Int × List Nat))) (s : Sta) : Int × Pl × Dsk :=
  if (goWipe 2 D (tornL D 2 ((D.sectors - 2) / 4))).1 ≠ 0 then ((goWipe 2 D (tornL D 2 ((D.sectors - 2) / 4))).1, Pl.found D E R s, (goWipe 2 D (tornL D 2 ((D.sectors - 2) / 4))).2)
  else point (Pl.found D E R s) (goWipe 2 D (tornL D 2 ((D.sectors - 2) / 4))).2
section
variable {w w' : World} {M M2 : Mem} {S : Pl} {D D' : Dsk} {b m : Nat} {vl : Value}
theorem Pl.Ok.same (h : S.Ok D) (h1 : D'.sectors = D.sectors) (h2 : D'.size = D.size) : S.Ok D' := by
  have e : S.pages D' = S.pages D := by unfold Pl.pages; rw [h1]
  have e2 := rm_same h2
  exact ⟨by rw [h2]; exact h.z, by rw [h1]; exact h.s, by rw [h1]; exact h.s2, by rw [h1]; exact h.slots, h.first, by rw [e]; exact h.now, by rw [e]; exact h.was, by rw [e, e2]; exact h.last, by rw [e, e2]; exact h.pend, by rw [e, e2]; exact h.seen⟩
structure OpSt (w wr : World) (b m : Nat) (vl : Value) (M : Mem) (S : Pl) (D : Dsk) (f : Pgs) (gv : Value) (R : List (List (Int × List Nat))) (B : Nat) : Prop where
  pool : PoolAt wr M { S with last := f } D
  went : FWent w wr b m vl M
  rows : Grps wr gv R B
end
end Go.Proofs.YtfmdmfiljplkoaaGreat
