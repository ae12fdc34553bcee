/- Walks: strings of bytes; a log of the call's own on a disk of the call's own. -/
import Derived.Test.YtfmdmfiljplkoaaGreatA1
import Derived.Laws.IdiomStrings
import Derived.Lib.BufferRead
namespace Go.Proofs.YtfmdmfiljplkoaaGreat
open Go.RowKit Go.Maps
set_option maxRecDepth 8000
theorem Byt.of_own' {w : World} {base : Nat} {p : Addr} {n c : Nat} {l : List Nat} (h : Own w base (.slice (some p) n c) l) : Byt w (.slice (some p) n c) l := by
  refine ⟨h.1, ?_⟩
  rcases h.2.2 with ⟨e, h0⟩ | ⟨g, cap, cur, e, hb, hg, hnc, _⟩
  · cases e
  · exact ⟨_, _, e, hnc, ⟨_, _, hg⟩, fun k hk => World.ownsRow.cells h.2 (g := g) (by rw [e]; rfl) k _ (cells_get hk)⟩
/-! ### what an append keeps -/
variable {ι : Type} [Bar ι]
/-- A log in the call's own memory, on a disk there. -/
structure LSt (w0 v : World) (b m : Nat) (vl : Value) (D : Dsk) (G : Nat) (L : Lg) : Prop where
  dk : Dk w0 v b m vl D
  log : LogIn v G b L
  ok : L.Ok
  gl : w0.heap.size ≤ G
section
variable {w0 v v' : World} {b m G n c : Nat} {vl vl' : Value} {D D' : Dsk} {L L' : Lg} {A : Option Addr} {g : List (Int × List Nat)}
end
end Go.Proofs.YtfmdmfiljplkoaaGreat
