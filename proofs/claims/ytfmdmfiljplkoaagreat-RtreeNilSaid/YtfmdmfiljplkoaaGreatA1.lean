/- Walks: what a log that is not there, on no disk or on no place of a disk tells. -/
import Derived.Test.YtfmdmfiljplkoaaGreatLD
namespace Go.Proofs.YtfmdmfiljplkoaaGreat
open Go.RowKit Go.Maps Go.Shelf
attribute [local go_sem] Oper.semAt_some
set_option maxRecDepth 8000
variable {ι : Type} [Bar ι]
def AtNo (P : Option Addr) (f c : Int) (w : World) : Prop := ∀ w', Below w.heap.size w w' → Calls Tryz.prog 110 #[.pointer P, .int .i64 f, .int .i64 c] w' fun r w'' => r = .returned (.tuple #[.agg #[.pointer none, .int .i64 0, .int .i64 0], .int .i64 1]) ∧ Below w'.heap.size w' w''
section
variable {b m : Nat} {vl : Value} {D : Dsk} {w : World}
end
section
variable {b m : Nat} {vl : Value} {D : Dsk} {w : World}
end
end Go.Proofs.YtfmdmfiljplkoaaGreat
