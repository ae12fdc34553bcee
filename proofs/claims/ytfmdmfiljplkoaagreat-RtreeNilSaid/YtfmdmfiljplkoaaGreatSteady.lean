/- A region that draws its order, whose operations all yield, in every world that meets S, one value and leave S standing: it is walked in the text's order. -/
import Derived.Test.YtfmdmfiljplkoaaGreatAid
import Derived.Deep.RegionHeld3
namespace Go.Proofs.YtfmdmfiljplkoaaGreat
open Go.RowKit
section
variable {P : Program} {ops : Array Oper} {Q : Exit → Act → World → Prop} {md : Region.Mode} {S : World → Prop}
/-- A result that yields v, S standing behind it. -/
def Gives (P : Program) (S : World → Prop) (v : Value) : Result Next → Prop
  | .ok (.value u) w' => u = v ∧ S w'
  | .ok .skip w' => undef = v ∧ S w'
  | .ok (.enter f args) w' => Calls P f args w' fun e w'' => e = .returned v ∧ S w''
  | _ => False
/-- In state a, in every world that meets S, operation o yields v, and S stands behind it. -/
def Steady (P : Program) (ops : Array Oper) (S : World → Prop) (o : Oper) (v : Value) (a : Act) : Prop :=
  (Region.wanted o (yielded ops a.tmps) = true ∧ ∀ w, S w → Gives P S v ((execOp a.eval o).run P w)) ∨
  (Region.wanted o (yielded ops a.tmps) = false ∧ v = undef)
theorem Steady.of_same {o : Oper} {v : Value} {a a' : Act} (hy : Steady P ops S o v a) (he : execOp a'.eval o = execOp a.eval o)
    (hw : Region.wanted o (yielded ops a'.tmps) = Region.wanted o (yielded ops a.tmps)) : Steady P ops S o v a' := by
  unfold Steady at *
  rw [he, hw]
  exact hy
theorem Steady.wpOp {i : Nat} {o : Oper} {v : Value} {a : Act} (hi : ops[i]? = some o) (hy : Steady P ops S o v a)
    {K : Act → World → Prop} {w : World} (hS : S w) (h : ∀ w', S w' → K (a.put o.dst v) w') : wpOp P ops Q i K a w := by
  unfold Go.wpOp
  simp only [hi]
  rcases hy with ⟨hw, hv⟩ | ⟨hw, rfl⟩
  · simp only [hw, if_true]
    refine .inl ?_
    have hv := hv w hS
    unfold Oper.wp
    generalize (execOp a.eval o).run P w = r at *
    cases r with
    | ok n w' =>
      cases n <;> simp only [Gives] at hv <;> simp only [Oper.upon]
      case value u => obtain ⟨rfl, hs⟩ := hv; exact h _ hs
      case skip => obtain ⟨rfl, hs⟩ := hv; exact h _ hs
      case enter f args =>
        refine Calls.mono hv fun e w'' he => ?_
        obtain ⟨rfl, hs⟩ := he
        exact h _ hs
    | halt x w' => simp only [Gives] at hv
  · simp only [hw, Bool.false_eq_true, if_false]; exact h _ hS
theorem wpOp_putS {j : Nat} {oi oj : Oper} {v : Value} (hj : ops[j]? = some oj) (hap : oi.apart ops oj = true)
    (hsi : ∀ cs b, oi.op ≠ .select cs b) (hsj : ∀ cs b, oj.op ≠ .select cs b)
    (hQ : ∀ c a w, Q (.panic c) (a.put oi.dst v) w → Q (.panic c) a w) {K : Act → World → Prop} {a : Act} {w : World}
    (hy : Steady P ops S oi v a) (h : wpOp P ops Q j K (a.put oi.dst v) w) :
    wpOp P ops Q j (fun a' w' => Steady P ops S oi v a' ∧ K (a'.put oi.dst v) w') a w := by
  obtain ⟨h1, h2, h3⟩ := Oper.apart_spec hap
  have keep : ∀ (a : Act), Steady P ops S oi v a → ∀ u, Steady P ops S oi v (a.put oj.dst u) := fun a hy u =>
    hy.of_same (execOp_put oi hsi a oj.dst u h3) (wanted_put oi a oj.dst u h3)
  have keepD : ∀ d, Steady P ops S oi v { a with defers := d :: a.defers } := fun d => hy.of_same rfl rfl
  unfold wpOp at *
  simp only [hj] at *
  rw [wanted_put oj a oi.dst v h1] at h
  split
  · rename_i hw
    simp only [hw, if_true] at h
    rcases h with h | ⟨hasks, hlets⟩
    case inr => exact .inr ⟨by unfold Oper.asks at *; rw [execOp_put oj hsj a oi.dst v h1] at hasks; exact hasks, hlets⟩
    refine .inl ?_
    unfold Oper.wp at *
    rw [execOp_put oj hsj a oi.dst v h1] at h
    generalize (execOp a.eval oj).run P w = r at *
    cases r with
    | ok n w' =>
      cases n <;> simp only [Oper.upon] at h ⊢
      case value u => exact ⟨keep a hy u, by rw [← Act.put_comm a v u h2]; exact h⟩
      case skip => exact ⟨keep a hy _, by rw [← Act.put_comm a v undef h2]; exact h⟩
      case defer d =>
        refine ⟨keep _ (keepD d) _, ?_⟩
        rw [← Act.put_comm _ v undef h2, ← Act.put_defers]
        exact h
      case enter f args =>
        refine Calls.mono h fun e w'' he => ?_
        cases e with
        | returned u => exact ⟨keep a hy u, by rw [← Act.put_comm a v u h2]; exact he⟩
        | panicked c => exact hQ _ _ _ he
        | outgrown => exact he
      case row row args => exact Rows.mono h fun u w'' he => ⟨keep a hy u, by rw [← Act.put_comm a v u h2]; exact he⟩
    | halt x w' =>
      cases x <;> simp only [Oper.upon] at h ⊢
      case panic u => exact hQ _ _ _ h
  · rename_i hw
    simp only [hw] at h
    exact ⟨keep a hy _, by rw [← Act.put_comm a v undef h2]; exact h⟩
/-- Whatever order is picked from here on, in whatever world that meets S, S stands behind every operation. -/
def wpS (P : Program) (md : Region.Mode) (ops : Array Oper) (Q : Exit → Act → World → Prop) (S : World → Prop) : Nat → Array Bool → Act → Prop
  | 0, listed, a => Region.ready md ops listed = [] ∧ ∀ w, S w → Q .normal a w
  | fuel + 1, listed, a =>
    (Region.ready md ops listed = [] → ∀ w, S w → Q .normal a w) ∧
    ∀ i ∈ Region.ready md ops listed, ∀ w, S w → wpOp P ops Q i (fun a' w' => S w' ∧ wpS P md ops Q S fuel (listed.setIfInBounds i true) a') a w
theorem wpAny_of_S : ∀ (fuel : Nat) (listed : Array Bool) (a : Act) (w : World), S w → wpS P md ops Q S fuel listed a → wpAny P md ops Q fuel listed a w
  | 0, _, _, w, hS, h => ⟨h.1, h.2 w hS⟩
  | fuel + 1, _, _, w, hS, h => ⟨fun hr => h.1 hr w hS, fun i hi => wpOp_mono (fun a' w' h' => wpAny_of_S fuel _ a' w' h'.1 h'.2) (h.2 i hi w hS)⟩
theorem wpS_first {i : Nat} {oi : Oper} {v : Value} (hi : ops[i]? = some oi) (hsel : ∀ (j : Nat) (o : Oper) cs b, ops[j]? = some o → o.op ≠ .select cs b)
    (hQ : ∀ c a w, Q (.panic c) (a.put oi.dst v) w → Q (.panic c) a w) :
    ∀ (fuel : Nat) (listed : Array Bool) (a : Act),
      (∀ j oj, ops[j]? = some oj → j ≠ i → listed.getD j true = false → (∀ e ∈ oj.after, Region.binds md e = true → e.on ≠ i) → oi.apart ops oj = true) →
      i ∈ Region.ready md ops listed → Steady P ops S oi v a →
      wpS P md ops Q S fuel (listed.setIfInBounds i true) (a.put oi.dst v) → wpS P md ops Q S (fuel + 1) listed a := by
  intro fuel
  induction fuel with
  | zero =>
    intro listed a _ hr hy H
    refine ⟨fun h => (by rw [h] at hr; cases hr), fun j hj w hS => ?_⟩
    by_cases hji : j = i
    · subst hji; exact hy.wpOp hi hS (fun w' hs => ⟨hs, H⟩)
    · have := ready_mono hj hji
      rw [H.1] at this
      cases this
  | succ fuel ih =>
    intro listed a hfree hr hy H
    refine ⟨fun h => (by rw [h] at hr; cases hr), fun j hj w hS => ?_⟩
    by_cases hji : j = i
    · subst hji; exact hy.wpOp hi hS (fun w' hs => ⟨hs, H⟩)
    · have h1 := H.2 j (ready_mono hj hji) w hS
      obtain ⟨hjun, oj, hoj, hall⟩ := mem_ready.1 hj
      have hnot : ∀ e ∈ oj.after, Region.binds md e = true → e.on ≠ i := fun e he hb heq => by
        have h1 := hall e he hb
        have h0 := (mem_ready.1 hr).1
        rw [heq] at h1
        rcases Nat.lt_or_ge i listed.size with h' | h'
        · simp [h'] at h0 h1; rw [h0] at h1; cases h1
        · simp [Array.getElem?_eq_none h'] at h1
      have h2 := wpOp_putS hoj (hfree j oj hoj hji hjun hnot) (fun cs b => hsel i oi cs b hi) (fun cs b => hsel j oj cs b hoj) hQ hy h1
      have hfree' : ∀ k ok, ops[k]? = some ok → k ≠ i → (listed.setIfInBounds j true).getD k true = false →
          (∀ e ∈ ok.after, Region.binds md e = true → e.on ≠ i) → oi.apart ops ok = true := fun k ok hk hki hun hno => by
        refine hfree k ok hk hki ?_ hno
        by_cases hjk : j = k
        · subst hjk; exact hjun
        · rw [getD_set_ne true hjk] at hun; exact hun
      refine wpOp_mono (fun a' w' h3 => ⟨h3.2.1, ih (listed.setIfInBounds j true) a' hfree' (ready_mono hr (Ne.symm hji)) h3.1 ?_⟩) h2
      rw [Array.setIfInBounds_comm _ _ hji]
      exact h3.2.2
theorem wpS_take {i d : Nat} {oi : Oper} {v : Value} {fuel : Nat} {listed : Array Bool} {T : Array Value} {D : List Deferred} (hi : ops[i]? = some oi) (hd : oi.dst = some d)
    (hs : Region.noSelect ops = true) (hf : Region.free md ops listed i = true) (hr : (Region.ready md ops listed).contains i = true)
    (hQ : ∀ c a w, Q (.panic c) (a.put oi.dst v) w → Q (.panic c) a w) (hy : Steady P ops S oi v { tmps := T, defers := D })
    (h : wpS P md ops Q S fuel (listed.setIfInBounds i true) { tmps := T.setIfInBounds d v, defers := D }) : wpS P md ops Q S (fuel + 1) listed { tmps := T, defers := D } :=
  wpS_first hi (Region.noSelect_spec hs) hQ fuel listed _ (Region.free_spec hi hf) (by simpa using hr) hy (by rw [hd]; exact h)
/-- An operation that reads or reckons. -/
theorem Steady.value {o : Oper} {v : Value} {a : Act} (hw : Region.wanted o (yielded ops a.tmps) = true) (h : ∀ w, S w → (execOp a.eval o).run P w = .ok (.value v) w) : Steady P ops S o v a :=
  .inl ⟨hw, fun w hS => by rw [h w hS]; exact ⟨rfl, hS⟩⟩
/-- A call. -/
theorem Steady.call {o : Oper} {v : Value} {a : Act} {f : FuncId} {args : Array Value} (hw : Region.wanted o (yielded ops a.tmps) = true)
    (hc : ∀ w, S w → Calls P f args w fun e w' => e = .returned v ∧ S w') (h : ∀ w, S w → (execOp a.eval o).run P w = .ok (.enter f args) w) : Steady P ops S o v a :=
  .inl ⟨hw, fun w hS => by rw [h w hS]; exact hc w hS⟩
theorem wpS_done {listed : Array Bool} {a : Act} (hr : Region.ready md ops listed = []) (h : ∀ w, S w → Q .normal a w) :
    ∀ fuel, wpS P md ops Q S fuel listed a
  | 0 => ⟨hr, h⟩
  | _ + 1 => ⟨fun _ => h, by rw [hr]; simp⟩
theorem wp_region_steady {id : Nat} {a : Act} {w : World} (hm : P.follows .mixedOrders = true) (hS : S w.drew)
    (h : wpS P .any ops Q S ops.size (Array.replicate ops.size false) a) : (Code.region id ops true).wp P Q a w :=
  wp_region_any hm (wpAny_of_S _ _ _ _ hS h)
/-- A contract that turns nothing that was there, as the law wants it. -/
theorem steady_below {f : FuncId} {args : Array Value} {v : Value} (keep : ∀ a b : World, Below a.heap.size a b → S a → S b)
    (h : ∀ w, Calls P f args w fun e w' => e = .returned v ∧ Below w.heap.size w w') : ∀ w, S w → Calls P f args w fun e w' => e = .returned v ∧ S w' :=
  fun w hS => (h w).mono fun _ w' ⟨he, hb⟩ => ⟨he, keep w w' hb hS⟩
end
end Go.Proofs.YtfmdmfiljplkoaaGreat
