/- A region that draws its order, whose operations all yield, in every world that meets S, one value and leave S standing: it is walked in the text's order. -/
import Derived.Test.YtklppnknllbfnaaGreatAid
import Derived.Deep.RegionHeld3
namespace Go.Proofs.YtklppnknllbfnaaGreat
open Go.RowKit
section
variable {P : Program} {ops : Array Oper} {Q : Exit → Act → World → Prop} {md : Region.Mode} {S : World → Prop}
/-- A result that yields v, S standing behind it. -/
def Gives (P : Program) (S : World → Prop) (v : Value) : Result Next → Prop
  | .ok (.value u) w' => u = v ∧ S w'
  | .ok .skip w' => undef = v ∧ S w'
  | .ok (.enter f args) w' => Calls P f args w' fun e w'' => e = .returned v ∧ S w''
  | _ => False
/-- In state a, in every world that meets S, operation o yields v, and S stands behind it. -/
def Steady (P : Program) (ops : Array Oper) (S : World → Prop) (o : Oper) (v : Value) (a : Act) : Prop :=
  (Region.wanted o (yielded ops a.tmps) = true ∧ ∀ w, S w → Gives P S v ((execOp a.eval o).run P w)) ∨
  (Region.wanted o (yielded ops a.tmps) = false ∧ v = undef)
theorem Steady.of_same {o : Oper} {v : Value} {a a' : Act} (hy : Steady P ops S o v a) (he : execOp a'.eval o = execOp a.eval o)
    (hw : Region.wanted o (yielded ops a'.tmps) = Region.wanted o (yielded ops a.tmps)) : Steady P ops S o v a' := by
  unfold Steady at *
  rw [he, hw]
  exact hy
theorem Steady.wpOp {i : Nat} {o : Oper} {v : Value} {a : Act} (hi : ops[i]? = some o) (hy : Steady P ops S o v a)
    {K : Act → World → Prop} {w : World} (hS : S w) (h : ∀ w', S w' → K (a.put o.dst v) w') : wpOp P ops Q i K a w := by
  unfold Go.wpOp
  simp only [hi]
  rcases hy with ⟨hw, hv⟩ | ⟨hw, rfl⟩
  · simp only [hw, if_true]
    refine .inl ?_
    have hv := hv w hS
    unfold Oper.wp
    generalize (execOp a.eval o).run P w = r at *
    cases r with
    | ok n w' =>
      cases n <;> simp only [Gives] at hv <;> simp only [Oper.upon]
      case value u => obtain ⟨rfl, hs⟩ := hv; exact h _ hs
      case skip => obtain ⟨rfl, hs⟩ := hv; exact h _ hs
      case enter f args =>
        refine Calls.mono hv fun e w'' he => ?_
        obtain ⟨rfl, hs⟩ := he
        exact h _ hs
    | halt x w' => simp only [Gives] at hv
  · simp only [hw, Bool.false_eq_true, if_false]; exact h _ hS
/-- Whatever order is picked from here on, in whatever world that meets S, S stands behind every operation. -/
def wpS (P : Program) (md : Region.Mode) (ops : Array Oper) (Q : Exit → Act → World → Prop) (S : World → Prop) : Nat → Array Bool → Act → Prop
  | 0, listed, a => Region.ready md ops listed = [] ∧ ∀ w, S w → Q .normal a w
  | fuel + 1, listed, a =>
    (Region.ready md ops listed = [] → ∀ w, S w → Q .normal a w) ∧
    ∀ i ∈ Region.ready md ops listed, ∀ w, S w → wpOp P ops Q i (fun a' w' => S w' ∧ wpS P md ops Q S fuel (listed.setIfInBounds i true) a') a w
/-- An operation that reads or reckons. -/
theorem Steady.value {o : Oper} {v : Value} {a : Act} (hw : Region.wanted o (yielded ops a.tmps) = true) (h : ∀ w, S w → (execOp a.eval o).run P w = .ok (.value v) w) : Steady P ops S o v a :=
  .inl ⟨hw, fun w hS => by rw [h w hS]; exact ⟨rfl, hS⟩⟩
/-- A call. -/
theorem Steady.call {o : Oper} {v : Value} {a : Act} {f : FuncId} {args : Array Value} (hw : Region.wanted o (yielded ops a.tmps) = true)
    (hc : ∀ w, S w → Calls P f args w fun e w' => e = .returned v ∧ S w') (h : ∀ w, S w → (execOp a.eval o).run P w = .ok (.enter f args) w) : Steady P ops S o v a :=
  .inl ⟨hw, fun w hS => by rw [h w hS]; exact hc w hS⟩
/-- One that is not wanted. -/
theorem Steady.off {o : Oper} {a : Act} (hw : Region.wanted o (yielded ops a.tmps) = false) : Steady P ops S o undef a := .inr ⟨hw, rfl⟩
end
end Go.Proofs.YtklppnknllbfnaaGreat
