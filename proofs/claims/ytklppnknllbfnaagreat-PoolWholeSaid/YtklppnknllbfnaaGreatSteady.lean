/- A region that draws its order, whose operations all yield, in every world that meets S, one value and leave S standing: it is walked in the text's order. -/
import Derived.Test.YtklppnknllbfnaaGreatAid
import Derived.Deep.RegionHeld3
namespace Go.Proofs.YtklppnknllbfnaaGreat
open Go.RowKit
section
variable {P : Program} {ops : Array Oper} {Q : Exit → Act → World → Prop} {md : Region.Mode} {S : World → Prop}
/-- A result that yields v, S standing behind it. -/
def Gives (P : Program) (S : World → Prop) (v : Value) : Result Next → Prop
 | .ok (.value u) w' => u = v ∧ S w'
 | .ok .skip w' => undef = v ∧ S w'
 | .ok (.enter f args) w' => Calls P f args w' fun e w'' => e = .returned v ∧ S w''
 | _ => False
/-- In state a, in every world that meets S, operation o yields v, and S stands behind it. -/
def Steady (P : Program) (ops : Array Oper) (S : World → Prop) (o : Oper) (v : Value) (a : Act) : Prop :=
 (Region.wanted o (yielded ops a.tmps) = true ∧ ∀ w, S w → Gives P S v ((execOp a.eval o).run P w)) ∨
 (Region.wanted o (yielded ops a.tmps) = false ∧ v = undef)
/-- Whatever order is picked from here on, in whatever world that meets S, S stands behind every operation. -/
def wpS (P : Program) (md : Region.Mode) (ops : Array Oper) (Q : Exit → Act → World → Prop) (S : World → Prop) : Nat → Array Bool → Act → Prop
 | 0, listed, a => Region.ready md ops listed = [] ∧ ∀ w, S w → Q .normal a w
 | fuel + 1, listed, a =>
  (Region.ready md ops listed = [] → ∀ w, S w → Q .normal a w) ∧
  ∀ i ∈ Region.ready md ops listed, ∀ w, S w → wpOp P ops Q i (fun a' w' => S w' ∧ wpS P md ops Q S fuel (listed.setIfInBounds i true) a') a w
end
end Go.Proofs.YtklppnknllbfnaaGreat
