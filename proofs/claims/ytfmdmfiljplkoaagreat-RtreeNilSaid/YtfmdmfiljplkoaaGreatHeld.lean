/- A region that draws its order, walked by hand: what yields first, wanted or not; then what comes up alone. -/
import Derived.Test.YtfmdmfiljplkoaaGreatSteady
namespace Go.Proofs.YtfmdmfiljplkoaaGreat
open Go.RowKit
section
variable {P : Program} {ops : Array Oper} {Q : Exit → Act → World → Prop} {md : Region.Mode} {S : World → Prop}
theorem wpH_take {i d : Nat} {oi : Oper} {v : Value} {fuel : Nat} {listed : Array Bool} {T : Array Value} {D : List Deferred} {w : World} (hi : ops[i]? = some oi) (hd : oi.dst = some d)
    (hs : Region.noSelect ops = true) (hf : Region.free md ops listed i = true) (hr : (Region.ready md ops listed).contains i = true)
    (hQ : ∀ c a w, Q (.panic c) (a.put oi.dst v) w → Q (.panic c) a w) (hy : YieldsIf P ops S oi v { tmps := T, defers := D }) (hS : S w)
    (h : wpAnyH P md ops Q S fuel (listed.setIfInBounds i true) { tmps := T.setIfInBounds d v, defers := D } w) : wpAnyH P md ops Q S (fuel + 1) listed { tmps := T, defers := D } w :=
  wpAnyH_take hi hs hf hr hQ hy hS (by rw [hd]; exact h)
/-- A call that comes up alone. -/
theorem wpH_call {i d : Nat} {oi : Oper} {v : Value} {fuel : Nat} {listed : Array Bool} {T : Array Value} {D : List Deferred} {w : World} {f : FuncId} {args : Array Value} {R : World → Prop}
    (hr : Region.ready md ops listed = [i]) (hi : ops[i]? = some oi) (hd : oi.dst = some d) (hw : Region.wanted oi (yielded ops T) = true)
    (hc : Calls P f args w fun e w' => e = .returned v ∧ R w') (hrun : (execOp (Act.eval { tmps := T, defers := D }) oi).run P w = .ok (.enter f args) w)
    (h : ∀ w', R w' → S w' ∧ wpAnyH P md ops Q S fuel (listed.setIfInBounds i true) { tmps := T.setIfInBounds d v, defers := D } w') : wpAnyH P md ops Q S (fuel + 1) listed { tmps := T, defers := D } w := by
  refine wpAnyH_all hr (by simp) fun j hj => ?_
  obtain rfl : j = i := by simpa using hj
  unfold Go.wpOp
  simp only [hi, hw, if_true]
  refine .inl ?_
  unfold Oper.wp
  rw [hrun]
  refine Calls.mono hc fun e w' he => ?_
  obtain ⟨rfl, hR⟩ := he
  simp only [Act.put, hd]
  exact h w' hR
/-- An operation that comes up alone and runs. -/
theorem wpH_run {i d : Nat} {oi : Oper} {v : Value} {fuel : Nat} {listed : Array Bool} {T : Array Value} {D : List Deferred} {w w' : World}
    (hr : Region.ready md ops listed = [i]) (hi : ops[i]? = some oi) (hd : oi.dst = some d) (hw : Region.wanted oi (yielded ops T) = true)
    (hrun : (execOp (Act.eval { tmps := T, defers := D }) oi).run P w = .ok (.value v) w') (hS : S w')
    (h : wpAnyH P md ops Q S fuel (listed.setIfInBounds i true) { tmps := T.setIfInBounds d v, defers := D } w') : wpAnyH P md ops Q S (fuel + 1) listed { tmps := T, defers := D } w := by
  refine wpAnyH_all hr (by simp) fun j hj => ?_
  obtain rfl : j = i := by simpa using hj
  unfold Go.wpOp
  simp only [hi, hw, if_true]
  refine .inl ?_
  unfold Oper.wp
  rw [hrun]
  simp only [Oper.upon, Act.put, hd]
  exact ⟨hS, h⟩
/-- A store that comes up alone. -/
theorem wpH_store {i : Nat} {oi : Oper} {fuel : Nat} {listed : Array Bool} {a : Act} {w w' : World}
    (hr : Region.ready md ops listed = [i]) (hi : ops[i]? = some oi) (hd : oi.dst = none) (hw : Region.wanted oi (yielded ops a.tmps) = true)
    (hrun : (execOp a.eval oi).run P w = .ok .skip w') (hS : S w')
    (h : wpAnyH P md ops Q S fuel (listed.setIfInBounds i true) a w') : wpAnyH P md ops Q S (fuel + 1) listed a w := by
  refine wpAnyH_all hr (by simp) fun j hj => ?_
  obtain rfl : j = i := by simpa using hj
  unfold Go.wpOp
  simp only [hi, hw, if_true]
  refine .inl ?_
  unfold Oper.wp
  rw [hrun]
  simp only [Oper.upon, Act.put, hd]
  exact ⟨hS, h⟩
/-- A call that comes up alone, its value not known ahead. -/
theorem wpH_callv {i d : Nat} {oi : Oper} {fuel : Nat} {listed : Array Bool} {T : Array Value} {D : List Deferred} {w : World} {f : FuncId} {args : Array Value} {R : Value → World → Prop}
    (hr : Region.ready md ops listed = [i]) (hi : ops[i]? = some oi) (hd : oi.dst = some d) (hw : Region.wanted oi (yielded ops T) = true)
    (hc : Calls P f args w fun e w' => ∃ v, e = .returned v ∧ R v w') (hrun : (execOp (Act.eval { tmps := T, defers := D }) oi).run P w = .ok (.enter f args) w)
    (h : ∀ v w', R v w' → S w' ∧ wpAnyH P md ops Q S fuel (listed.setIfInBounds i true) { tmps := T.setIfInBounds d v, defers := D } w') : wpAnyH P md ops Q S (fuel + 1) listed { tmps := T, defers := D } w := by
  refine wpAnyH_all hr (by simp) fun j hj => ?_
  obtain rfl : j = i := by simpa using hj
  unfold Go.wpOp
  simp only [hi, hw, if_true]
  refine .inl ?_
  unfold Oper.wp
  rw [hrun]
  refine Calls.mono hc fun e w' he => ?_
  obtain ⟨v, rfl, hR⟩ := he
  simp only [Act.put, hd]
  exact h v w' hR
theorem wp_region_H {id : Nat} {a : Act} {w : World} (S : World → Prop) (hm : P.follows .mixedOrders = true)
    (h : ∀ v, v = w.drew → wpAnyH P .any ops Q S ops.size (Array.replicate ops.size false) a v) : (Code.region id ops true).wp P Q a w :=
  wp_region_held hm (h _ rfl)
end
end Go.Proofs.YtfmdmfiljplkoaaGreat
