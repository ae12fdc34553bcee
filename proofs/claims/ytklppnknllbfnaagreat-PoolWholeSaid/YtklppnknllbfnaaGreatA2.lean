/- Walks: what a log that is not there, on no disk or on no place of a disk tells. Walks: strings of bytes; a log of the call's own on a disk of the call's own. -/
import Derived.Test.YtklppnknllbfnaaGreatLD
import Derived.Laws.IdiomStrings
import Derived.Lib.BufferRead
namespace Go.Proofs.YtklppnknllbfnaaGreat
open Go.RowKit Go.Maps Go.Shelf
attribute [local go_sem] Oper.semAt_some
set_option maxRecDepth 8000
variable {ι : Type} [Bar ι]
def AtNo (P : Option Addr) (f c : Int) (w : World) : Prop := ∀ w', Below w.heap.size w w' → Calls Tryz.prog 76 #[.pointer P, .int .i64 f, .int .i64 c] w' fun r w'' => r = .returned (.tuple #[.agg #[.pointer none, .int .i64 0, .int .i64 0], .int .i64 1]) ∧ Below w'.heap.size w' w''
section
variable {b m : Nat} {vl : Value} {D : Dsk} {w : World}
end
section
variable {b m : Nat} {vl : Value} {D : Dsk} {w : World}
end
end Go.Proofs.YtklppnknllbfnaaGreat
namespace Go.Proofs.YtklppnknllbfnaaGreat
open Go.RowKit Go.Maps
set_option maxRecDepth 8000
theorem Byt.of_own' {w : World} {base : Nat} {p : Addr} {n c : Nat} {l : List Nat} (h : Own w base (.slice (some p) n c) l) : Byt w (.slice (some p) n c) l := by
 refine ⟨h.1, ?_⟩
 rcases h.2.2 with ⟨e, h0⟩ | ⟨g, cap, cur, e, hb, hg, hnc, _⟩
 ·cases e
 ·exact ⟨_, _, e, hnc, ⟨_, _, hg⟩, fun k hk => World.ownsRow.cells h.2 (g := g) (by rw [e]; rfl) k _ (cells_get hk)⟩
theorem exec_convert {P : Program} {ev : Operand → Value} {o : Oper} (t1 t2 : TypeId) (x : Operand) (ho : o.op = .convert t1 t2 x) {vx r : Value} {w : World} (hx : ev x = vx) (hr : (convert t1 t2 vx).run P w = .ok r w) : (execOp ev o).run P w = .ok (.value r) w := by
 unfold execOp
 simp only [ho, Sem.run_bind, Sem.run_pure, Result.andThen_ok, hx, hr]
theorem Byt.strw {w : World} {v : Value} {l : List Nat} (h : Byt w v l) : (convert 31 9 v).run Tryz.prog w = .ok (.string (str l)) w := by
 obtain ⟨p, c, e, _, r⟩ := h.rd
 subst e
 exact run_str c r
/-! ### what an append keeps -/
variable {ι : Type} [Bar ι]
/-- A log in the call's own memory, on a disk there. -/
structure LSt (w0 v : World) (b m : Nat) (vl : Value) (D : Dsk) (G : Nat) (L : Lg) : Prop where
 dk : Dk w0 v b m vl D
 log : LogIn v G b L
 ok : L.Ok
 gl : w0.heap.size ≤ G
section
variable {w0 v v' : World} {b m G n c : Nat} {vl vl' : Value} {D D' : Dsk} {L L' : Lg} {A : Option Addr} {g : List (Int × List Nat)}
end
end Go.Proofs.YtklppnknllbfnaaGreat
