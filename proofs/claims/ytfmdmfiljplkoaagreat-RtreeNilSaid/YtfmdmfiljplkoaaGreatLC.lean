/- Walks: a slot's change. A row of groups in memory; what a log's slots hold in an epoch. What stands in memory while a log's slots are read. Walks: log.Read. (UNDER WAY) -/
import Derived.Test.YtfmdmfiljplkoaaGreatLB
namespace Go.Proofs.YtfmdmfiljplkoaaGreat
open Go.RowKit Go.Maps
set_option maxRecDepth 8000
variable {ι : Type} [Bar ι]
/-- What a slot's load says: a page, its load, whether it is the last of a group. -/
def chOf (ld : List Nat) : Option ((Int × List Nat) × Bool) := if 2147483647 < num (ld.take 8) ∨ 1 < ld[8]?.getD 0 then none else some (((num (ld.take 8) : Int), ld.drop 9), ld[8]?.getD 0 == 1)
end Go.Proofs.YtfmdmfiljplkoaaGreat
namespace Go.Proofs.YtfmdmfiljplkoaaGreat
open Go.RowKit Go.Maps
set_option maxRecDepth 8000
/-- The slice v is a row of these groups, whose rows lie below block B. -/
def Grps (w : World) (v : Value) (gs : List (List (Int × List Nat))) (B : Nat) : Prop :=
  ∃ vs : List Value, vs.length = gs.length ∧ w.ownsRow 0 130 1 v gs.length vs ∧ ∀ k (h : k < gs.length), ∃ u, vs[k]? = some u ∧ u.oneCell' = true ∧ Chg w u gs[k] ∧ ∀ j, u.ownBlock = some j → j < B
section
variable {T : List Nat} {w w' : World} {v : Value} {gs : List (List (Int × List Nat))} {B : Nat}
/-- .. and the group begun has a row of its own. -/
def Gap (w : World) (v : Value) (gs : List (List (Int × List Nat))) (gv : Value) : Prop := ∃ B, B ≤ w.heap.size ∧ Grps w v gs B ∧ ∀ j, gv.ownBlock = some j → B ≤ j
variable {gv : Value}
end
/-- What slots hold in an epoch, of what each says (its epoch, its change): the groups, behind 'out' and the group 'g' begun. -/
def grpL (e : Int) : List (Int × Option ((Int × List Nat) × Bool)) → List (List (Int × List Nat)) → List (Int × List Nat) → List (List (Int × List Nat))
  | [], out, _ => out
  | (a, b) :: r, out, g =>
    if a ≠ e then out
    else match b with
      | none => out
      | some (c, last) => if last then grpL e r (out ++ [g ++ [c]]) [] else grpL e r out (g ++ [c])
/-- What n slots from i on say. -/
def slL (D : Dsk) (f : Nat) : Nat → Nat → List (Int × Option ((Int × List Nat) × Bool))
  | 0, _ => []
  | n + 1, i => (slotEp (D.tells ((f : Int) + i)) i, chOf (slotLoad (D.tells ((f : Int) + i)) i)) :: slL D f n (i + 1)
/-- What n slots from i on hold in an epoch: the groups, behind 'out' and the group 'g' begun. -/
def grp (D : Dsk) (f : Nat) (e : Int) (n i : Nat) (out : List (List (Int × List Nat))) (g : List (Int × List Nat)) : List (List (Int × List Nat)) := grpL e (slL D f n i) out g
end Go.Proofs.YtfmdmfiljplkoaaGreat
namespace Go.Proofs.YtfmdmfiljplkoaaGreat
open Go.RowKit Go.Maps
set_option maxRecDepth 8000
variable {ι : Type} [Bar ι]
structure RdS (w0 v : World) (b m : Nat) (vl : Value) (D : Dsk) (f c X EP EB OB GB d l : Nat) (e : Int) (ov gv : Value) (gs : List (List (Int × List Nat))) (g : List (Int × List Nat)) (o : Loop) : Prop where
  disk : DiskAt v b m vl D
  kX : Blk v X #[.pointer (some ⟨b, 0, none⟩), .int .i64 f, .int .i64 c] 172
  kP : Blk v EP #[.int .i64 e] 3
  kE : Blk v EB #[.int .i64 0] 30
  kO : Blk v OB #[ov] 143
  kG : Blk v GB #[gv] 130
  out : Gap v ov gs gv
  row : Chg v gv g
  ne : ∀ j, ov.ownBlock = some j → j ≠ GB ∧ w0.heap.size ≤ j
  nw : ∀ j, gv.ownBlock = some j → w0.heap.size ≤ j
  kd : v.heap[d]? = some (.deferred (some []))
  kl : v.heap[l]? = some (.loop o)
  low : Below w0.heap.size w0 v
  lo : w0.heap.size ≤ OB ∧ w0.heap.size ≤ GB ∧ w0.heap.size ≤ l ∧ w0.heap.size ≤ d
section
variable {w0 v v' : World} {b m : Nat} {vl : Value} {D : Dsk} {f c X EP EB OB GB d l : Nat} {e : Int} {ov gv : Value} {gs : List (List (Int × List Nat))} {g : List (Int × List Nat)} {o o' : Loop}
end
end Go.Proofs.YtfmdmfiljplkoaaGreat
namespace Go.Proofs.YtfmdmfiljplkoaaGreat
open Go.RowKit Go.Maps Go.Shelf
attribute [local go_sem] Oper.semAt_some
set_option maxRecDepth 8000
variable {ι : Type} [Bar ι]
theorem wpListIn_append_run {F : Fence} {n : Nat} {P : Program} (w : World) {ops : Array Oper} {rest : List Oper} {o : Oper} {a : Act} {Q : Exit → Act → World → Prop} (hgd : o.guard = none) (s x : Operand) (t tn : TypeId)
    (ho : o.op = .call { callee := .builtin .append, args := #[s, x], argTypes := #[t, tn] }) (vs vx : Value) (hs : a.eval s = vs) (hx : a.eval x = vx)
    (v' : Value) (w' : World) (hr : (Builtin.append_ #[t, tn] o.type #[vs, vx]).run P w = .ok v' w') (h : wpListIn F n P ops Q rest (a.put o.dst v') w') : wpListIn F n P ops Q (o :: rest) a w := by
  refine wpListIn_plain hgd fun K hK => ?_
  unfold Oper.wpIn
  refine ⟨?_, ?_⟩
  · simp [Oper.about, ho, resolve, Target.leads, Sem.run_pure]
  · rw [Oper.semAt_plain F _ _ (by rw [ho]; intro c hc'; cases hc')]
    simp [execOp, ho, resolve, invoke, builtin, hs, hx, hr, Result.andThen]
    exact hK _ _ h
section
variable {w0 v : World} {b m : Nat} {vl : Value} {D : Dsk} {f c X EP EB OB GB d l : Nat} {e : Int} {ov gv : Value} {gs : List (List (Int × List Nat))} {g : List (Int × List Nat)} {o : Loop}
end
end Go.Proofs.YtfmdmfiljplkoaaGreat
