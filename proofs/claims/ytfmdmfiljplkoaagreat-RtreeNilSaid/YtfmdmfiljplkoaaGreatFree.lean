/- A region that draws its order. What yields one value in every world that meets S, and turns nothing that was there, is taken in the text's order (loads, arithmetic, calls); what is left (an alloc, a call that makes a row, a store) is branched over, and may say MORE of the world than S ('S''), or, where every other operation of the region waits for it or it for that one, another thing. -/
import Derived.Test.YtfmdmfiljplkoaaGreatAid
import Derived.Deep.RegionHeld3
namespace Go.Proofs.YtfmdmfiljplkoaaGreat
open Go.RowKit
section
variable {P : Program} {ops : Array Oper} {Q : Exit → Act → World → Prop} {md : Region.Mode} {S : World → Prop}
/-- What has grown leaves S standing. -/
def Stands (S : World → Prop) : Prop := ∀ a b : World, Below a.heap.size a b → S a → S b
/-- A result that yields v and turns nothing that was there. -/
def GivesX (P : Program) (w : World) (v : Value) : Result Next → Prop
  | .ok (.value u) w' => u = v ∧ Below w.heap.size w w'
  | .ok .skip w' => undef = v ∧ Below w.heap.size w w'
  | .ok (.enter f args) w' => Calls P f args w' fun e w'' => e = .returned v ∧ Below w.heap.size w w''
  | _ => False
/-- In state a, in every world that meets S, operation o yields v and turns nothing that was there. -/
def SteadyX (P : Program) (ops : Array Oper) (S : World → Prop) (o : Oper) (v : Value) (a : Act) : Prop :=
  (Region.wanted o (yielded ops a.tmps) = true ∧ ∀ w, S w → GivesX P w v ((execOp a.eval o).run P w)) ∨
  (Region.wanted o (yielded ops a.tmps) = false ∧ v = undef)
theorem SteadyX.of_same {o : Oper} {v : Value} {a a' : Act} (hy : SteadyX P ops S o v a) (he : execOp a'.eval o = execOp a.eval o)
    (hw : Region.wanted o (yielded ops a'.tmps) = Region.wanted o (yielded ops a.tmps)) : SteadyX P ops S o v a' := by
  unfold SteadyX at *
  rw [he, hw]
  exact hy
theorem SteadyX.mono {S' : World → Prop} {o : Oper} {v : Value} {a : Act} (hy : SteadyX P ops S o v a) (h : ∀ w, S' w → S w) : SteadyX P ops S' o v a :=
  hy.imp (fun ⟨hw, hv⟩ => ⟨hw, fun w hS => hv w (h w hS)⟩) id
theorem SteadyX.wpOp {i : Nat} {o : Oper} {v : Value} {a : Act} (hi : ops[i]? = some o) (hy : SteadyX P ops S o v a)
    {K : Act → World → Prop} {w : World} (hS : S w) (h : ∀ w', Below w.heap.size w w' → K (a.put o.dst v) w') : wpOp P ops Q i K a w := by
  unfold Go.wpOp
  simp only [hi]
  rcases hy with ⟨hw, hv⟩ | ⟨hw, rfl⟩
  · simp only [hw, if_true]
    refine .inl ?_
    have hv := hv w hS
    unfold Oper.wp
    generalize (execOp a.eval o).run P w = r at *
    cases r with
    | ok n w' =>
      cases n <;> simp only [GivesX] at hv <;> simp only [Oper.upon]
      case value u => obtain ⟨rfl, hs⟩ := hv; exact h _ hs
      case skip => obtain ⟨rfl, hs⟩ := hv; exact h _ hs
      case enter f args =>
        refine Calls.mono hv fun e w'' he => ?_
        obtain ⟨rfl, hs⟩ := he
        exact h _ hs
    | halt x w' => simp only [GivesX] at hv
  · simp only [hw, Bool.false_eq_true, if_false]; exact h _ (Below.refl _ w)
theorem wpOp_putX {j : Nat} {oi oj : Oper} {v : Value} (hj : ops[j]? = some oj) (hap : oi.apart ops oj = true)
    (hsi : ∀ cs b, oi.op ≠ .select cs b) (hsj : ∀ cs b, oj.op ≠ .select cs b)
    (hQ : ∀ c a w, Q (.panic c) (a.put oi.dst v) w → Q (.panic c) a w) {K : Act → World → Prop} {a : Act} {w : World}
    (hy : SteadyX P ops S oi v a) (h : wpOp P ops Q j K (a.put oi.dst v) w) :
    wpOp P ops Q j (fun a' w' => SteadyX P ops S oi v a' ∧ K (a'.put oi.dst v) w') a w := by
  obtain ⟨h1, h2, h3⟩ := Oper.apart_spec hap
  have keep : ∀ (a : Act), SteadyX P ops S oi v a → ∀ u, SteadyX P ops S oi v (a.put oj.dst u) := fun a hy u =>
    hy.of_same (execOp_put oi hsi a oj.dst u h3) (wanted_put oi a oj.dst u h3)
  have keepD : ∀ d, SteadyX P ops S oi v { a with defers := d :: a.defers } := fun d => hy.of_same rfl rfl
  unfold wpOp at *
  simp only [hj] at *
  rw [wanted_put oj a oi.dst v h1] at h
  split
  · rename_i hw
    simp only [hw, if_true] at h
    rcases h with h | ⟨hasks, hlets⟩
    case inr => exact .inr ⟨by unfold Oper.asks at *; rw [execOp_put oj hsj a oi.dst v h1] at hasks; exact hasks, hlets⟩
    refine .inl ?_
    unfold Oper.wp at *
    rw [execOp_put oj hsj a oi.dst v h1] at h
    generalize (execOp a.eval oj).run P w = r at *
    cases r with
    | ok n w' =>
      cases n <;> simp only [Oper.upon] at h ⊢
      case value u => exact ⟨keep a hy u, by rw [← Act.put_comm a v u h2]; exact h⟩
      case skip => exact ⟨keep a hy _, by rw [← Act.put_comm a v undef h2]; exact h⟩
      case defer d =>
        refine ⟨keep _ (keepD d) _, ?_⟩
        rw [← Act.put_comm _ v undef h2, ← Act.put_defers]
        exact h
      case enter f args =>
        refine Calls.mono h fun e w'' he => ?_
        cases e with
        | returned u => exact ⟨keep a hy u, by rw [← Act.put_comm a v u h2]; exact he⟩
        | panicked c => exact hQ _ _ _ he
        | outgrown => exact he
      case row row args => exact Rows.mono h fun u w'' he => ⟨keep a hy u, by rw [← Act.put_comm a v u h2]; exact he⟩
    | halt x w' =>
      cases x <;> simp only [Oper.upon] at h ⊢
      case panic u => exact hQ _ _ _ h
  · rename_i hw
    simp only [hw] at h
    exact ⟨keep a hy _, by rw [← Act.put_comm a v undef h2]; exact h⟩
/-- j waits for k, or for one that waits for k. -/
def waits (md : Region.Mode) (ops : Array Oper) (j k : Nat) : Bool :=
  match ops[j]? with
  | some o => o.after.any fun e => Region.binds md e && (e.on == k || match ops[e.on]? with | some o' => o'.after.any (fun e' => Region.binds md e' && e'.on == k) | none => false)
  | none => false
/-- What asks nothing of the world. -/
def pureB (o : Oper) : Bool := match o.op with
  | .move _ | .assign _ | .extract _ _ => true
  | _ => false
theorem SteadyX.pure {S' : World → Prop} {o : Oper} {v : Value} {a : Act} (hp : pureB o = true) (hy : SteadyX P ops S o v a) {w : World} (hS : S w) : SteadyX P ops S' o v a := by
  rcases hy with ⟨hw, hv⟩ | ⟨hw, rfl⟩
  · refine .inl ⟨hw, fun w2 _ => ?_⟩
    have h := hv w hS
    unfold execOp at h ⊢
    unfold pureB at hp
    split at hp <;> rename_i ho
    · simp only [ho, Sem.run_pure, GivesX] at h ⊢
      exact ⟨h.1, Below.refl _ _⟩
    · simp only [ho, Sem.run_pure, GivesX] at h ⊢
      exact ⟨h.1, Below.refl _ _⟩
    · rename_i x i
      simp only [ho] at h ⊢
      unfold Instr.extract at h ⊢
      generalize a.eval x = u at h ⊢
      cases u with
      | tuple vs =>
        dsimp only at h ⊢
        generalize vs[i]? = y at h ⊢
        cases y with
        | some u =>
          simp only [Sem.run_bind, Sem.run_pure, Result.andThen_ok, GivesX] at h ⊢
          exact ⟨h.1, Below.refl _ _⟩
        | none => exact (show False from h).elim
      | _ => exact (show False from h).elim
    · cases hp
  · exact .inr ⟨hw, rfl⟩
def pureAt (ops : Array Oper) (k : Nat) : Bool := match ops[k]? with
  | some o => pureB o
  | none => false
/-- Of number i and any other operation (that asks something of the world), one waits for the other. -/
def cutB (md : Region.Mode) (ops : Array Oper) (i : Nat) : Bool := (List.range ops.size).all fun k => k == i || waits md ops i k || waits md ops k i || pureAt ops k
/-- What is listed has all listed that it waits for. -/
def Closed (md : Region.Mode) (ops : Array Oper) (listed : Array Bool) : Prop := ∀ (k : Nat) (o : Oper), ops[k]? = some o → listed.getD k false = true → ∀ e ∈ o.after, Region.binds md e = true → listed.getD e.on false = true
def closedB (md : Region.Mode) (ops : Array Oper) (listed : Array Bool) : Bool :=
  (List.range ops.size).all fun k => !(listed.getD k false) || match ops[k]? with | some o => o.after.all (fun e => !Region.binds md e || listed.getD e.on false) | none => true
theorem closed_of {listed : Array Bool} (h : closedB md ops listed = true) : Closed md ops listed := by
  intro k o ho hk e he hb
  have hlt : k < ops.size := by
    rcases Nat.lt_or_ge k ops.size with h | h
    · exact h
    · rw [Array.getElem?_eq_none h] at ho; cases ho
  have h1 := List.all_eq_true.1 h k (List.mem_range.2 hlt)
  simp only [hk, ho, Bool.not_true, Bool.false_or] at h1
  obtain ⟨n, hn, rfl⟩ := Array.mem_iff_getElem.1 he
  have h2 := Array.all_eq_true.1 h1 n hn
  simpa [hb] using h2
theorem closed_set {listed : Array Bool} {j : Nat} (h : Closed md ops listed) (hj : j ∈ Region.ready md ops listed) : Closed md ops (listed.setIfInBounds j true) := by
  have up : ∀ x, listed.getD x false = true → (listed.setIfInBounds j true).getD x false = true := fun x hx => by
    rcases Nat.lt_or_ge x listed.size with h' | h'
    · simp [h'] at hx ⊢
      rw [Array.getElem_setIfInBounds h']
      split
      · rfl
      · exact hx
    · simp [Array.getElem?_eq_none h'] at hx
  intro k o ho hk e he hb
  by_cases hkj : k = j
  · subst hkj
    obtain ⟨_, o', ho', ha⟩ := mem_ready.1 hj
    rw [ho] at ho'
    cases ho'
    exact up _ (ha e he hb)
  · refine up _ (h k o ho ?_ e he hb)
    rcases Nat.lt_or_ge k listed.size with h' | h'
    · simp [h'] at hk ⊢
      rw [Array.getElem_setIfInBounds h', if_neg (Ne.symm hkj)] at hk
      exact hk
    · have h2 : (listed.setIfInBounds j true).size ≤ k := by simpa using h'
      rw [Array.getD_eq_getD_getElem?, Array.getElem?_eq_none h2] at hk
      simp at hk
theorem cut_no {listed : Array Bool} {i j : Nat} (hcl : Closed md ops listed) (hc : cutB md ops j = true) (hij : j ≠ i) (hi : i ∈ Region.ready md ops listed) (hj : j ∈ Region.ready md ops listed) : pureAt ops i = true := by
  obtain ⟨hiu, oi, hoi, hia⟩ := mem_ready.1 hi
  obtain ⟨hju, oj, hoj, hja⟩ := mem_ready.1 hj
  have hlt : i < ops.size := by
    rcases Nat.lt_or_ge i ops.size with h | h
    · exact h
    · rw [Array.getElem?_eq_none h] at hoi; cases hoi
  have h := List.all_eq_true.1 hc i (List.mem_range.2 hlt)
  have no : ∀ k, listed.getD k true = false → listed.getD k false = true → False := fun k h1 h2 => by
    rcases Nat.lt_or_ge k listed.size with h' | h'
    · simp [h'] at h1 h2; rw [h1] at h2; cases h2
    · simp [Array.getElem?_eq_none h'] at h1
  have clash : ∀ (j k : Nat) (o : Oper), ops[j]? = some o → (∀ e ∈ o.after, Region.binds md e = true → listed.getD e.on false = true) → listed.getD k true = false → waits md ops j k = true → False := by
    intro j k o ho ha hu hy
    unfold waits at hy
    rw [ho] at hy
    obtain ⟨n, hn, hb⟩ := Array.any_eq_true.1 hy
    simp only [Bool.and_eq_true, Bool.or_eq_true, beq_iff_eq] at hb
    have h1 := ha _ (Array.getElem_mem hn) hb.1
    rcases hb.2 with h2 | h2
    · rw [h2] at h1
      exact no k hu h1
    · cases h3 : ops[o.after[n].on]? with
      | none => rw [h3] at h2; cases h2
      | some o' =>
        rw [h3] at h2
        obtain ⟨n', hn', hb'⟩ := Array.any_eq_true.1 h2
        simp only [Bool.and_eq_true, beq_iff_eq] at hb'
        have h4 := hcl _ _ h3 h1 _ (Array.getElem_mem hn') hb'.1
        rw [hb'.2] at h4
        exact no k hu h4
  simp only [Bool.or_eq_true] at h
  rcases h with ((h | h) | h) | h
  · exact absurd (show i = j by simpa using h).symm hij
  · exact (clash j i oj hoj hja hiu h).elim
  · exact (clash i j oi hoi hia hju h).elim
  · exact h
/-- Whatever order is picked from here on, in whatever world that meets S. -/
def wpX (P : Program) (md : Region.Mode) (ops : Array Oper) (Q : Exit → Act → World → Prop) : (World → Prop) → Nat → Array Bool → Act → Prop
  | S, 0, listed, a => Region.ready md ops listed = [] ∧ ∀ w, S w → Q .normal a w
  | S, fuel + 1, listed, a =>
    (Region.ready md ops listed = [] → ∀ w, S w → Q .normal a w) ∧
    ∀ i ∈ Region.ready md ops listed, ∀ w, S w → wpOp P ops Q i (fun a' w' => ∃ S', Stands S' ∧ (cutB md ops i = true ∨ ∀ v, S' v → S v) ∧ S' w' ∧ wpX P md ops Q S' fuel (listed.setIfInBounds i true) a') a w
theorem wpAny_of_X : ∀ (fuel : Nat) (S : World → Prop) (listed : Array Bool) (a : Act) (w : World), S w → wpX P md ops Q S fuel listed a → wpAny P md ops Q fuel listed a w
  | 0, _, _, _, w, hS, h => ⟨h.1, h.2 w hS⟩
  | fuel + 1, _, _, _, w, hS, h => ⟨fun hr => h.1 hr w hS, fun i hi => wpOp_mono (fun a' w' h' => by
      obtain ⟨S', _, _, hs, hw⟩ := h'
      exact wpAny_of_X fuel S' _ a' w' hs hw) (h.2 i hi w hS)⟩
theorem wpX_first {i : Nat} {oi : Oper} {v : Value} (hi : ops[i]? = some oi) (hsel : ∀ (j : Nat) (o : Oper) cs b, ops[j]? = some o → o.op ≠ .select cs b)
    (hQ : ∀ c a w, Q (.panic c) (a.put oi.dst v) w → Q (.panic c) a w) :
    ∀ (fuel : Nat) (S : World → Prop) (listed : Array Bool) (a : Act), Stands S → Closed md ops listed →
      (∀ j oj, ops[j]? = some oj → j ≠ i → listed.getD j true = false → (∀ e ∈ oj.after, Region.binds md e = true → e.on ≠ i) → oi.apart ops oj = true) →
      i ∈ Region.ready md ops listed → SteadyX P ops S oi v a →
      wpX P md ops Q S fuel (listed.setIfInBounds i true) (a.put oi.dst v) → wpX P md ops Q S (fuel + 1) listed a := by
  intro fuel
  induction fuel with
  | zero =>
    intro S listed a hst hcl hfree hr hy H
    refine ⟨fun h => (by rw [h] at hr; cases hr), fun j hj w hS => ?_⟩
    by_cases hji : j = i
    · subst hji; exact hy.wpOp hi hS (fun w' hs => ⟨S, hst, .inr fun _ h => h, hst _ _ hs hS, H⟩)
    · have := ready_mono hj hji
      rw [H.1] at this
      cases this
  | succ fuel ih =>
    intro S listed a hst hcl hfree hr hy H
    refine ⟨fun h => (by rw [h] at hr; cases hr), fun j hj w hS => ?_⟩
    by_cases hji : j = i
    · subst hji; exact hy.wpOp hi hS (fun w' hs => ⟨S, hst, .inr fun _ h => h, hst _ _ hs hS, H⟩)
    · have h1 := H.2 j (ready_mono hj hji) w hS
      obtain ⟨hjun, oj, hoj, hall⟩ := mem_ready.1 hj
      have hnot : ∀ e ∈ oj.after, Region.binds md e = true → e.on ≠ i := fun e he hb heq => by
        have h1 := hall e he hb
        have h0 := (mem_ready.1 hr).1
        rw [heq] at h1
        rcases Nat.lt_or_ge i listed.size with h' | h'
        · simp [h'] at h0 h1; rw [h0] at h1; cases h1
        · simp [Array.getElem?_eq_none h'] at h1
      have h2 := wpOp_putX hoj (hfree j oj hoj hji hjun hnot) (fun cs b => hsel i oi cs b hi) (fun cs b => hsel j oj cs b hoj) hQ hy h1
      have hfree' : ∀ k ok, ops[k]? = some ok → k ≠ i → (listed.setIfInBounds j true).getD k true = false →
          (∀ e ∈ ok.after, Region.binds md e = true → e.on ≠ i) → oi.apart ops ok = true := fun k ok hk hki hun hno => by
        refine hfree k ok hk hki ?_ hno
        by_cases hjk : j = k
        · subst hjk; exact hjun
        · rw [getD_set_ne true hjk] at hun; exact hun
      refine wpOp_mono (fun a' w' h3 => ?_) h2
      obtain ⟨hy', S', hst', hsub, hs', hw'⟩ := h3
      have hyS : SteadyX P ops S' oi v a' := by
        rcases hsub with h | h
        · have hp := cut_no hcl h hji hr hj
          unfold pureAt at hp
          rw [hi] at hp
          exact hy'.pure hp hS
        · exact hy'.mono h
      refine ⟨S', hst', hsub, hs', ih S' (listed.setIfInBounds j true) a' hst' (closed_set hcl hj) hfree' (ready_mono hr (Ne.symm hji)) hyS ?_⟩
      rw [Array.setIfInBounds_comm _ _ hji]
      exact hw'
theorem wpX_take {i d : Nat} {oi : Oper} {v : Value} {fuel : Nat} {listed : Array Bool} {T : Array Value} {D : List Deferred} (hst : Stands S) (hi : ops[i]? = some oi) (hd : oi.dst = some d)
    (hs : Region.noSelect ops = true) (hf : Region.free md ops listed i = true) (hr : (Region.ready md ops listed).contains i = true) (hcl : closedB md ops listed = true)
    (hQ : ∀ c a w, Q (.panic c) (a.put oi.dst v) w → Q (.panic c) a w) (hy : SteadyX P ops S oi v { tmps := T, defers := D })
    (h : wpX P md ops Q S fuel (listed.setIfInBounds i true) { tmps := T.setIfInBounds d v, defers := D }) : wpX P md ops Q S (fuel + 1) listed { tmps := T, defers := D } :=
  wpX_first hi (Region.noSelect_spec hs) hQ fuel S listed _ hst (closed_of hcl) (Region.free_spec hi hf) (by simpa using hr) hy (by rw [hd]; exact h)
/-- An operation that reads or reckons. -/
theorem SteadyX.value {o : Oper} {v : Value} {a : Act} (hw : Region.wanted o (yielded ops a.tmps) = true) (h : ∀ w, S w → (execOp a.eval o).run P w = .ok (.value v) w) : SteadyX P ops S o v a :=
  .inl ⟨hw, fun w hS => by rw [h w hS]; exact ⟨rfl, Below.refl _ w⟩⟩
/-- A call. -/
theorem SteadyX.call {o : Oper} {v : Value} {a : Act} {f : FuncId} {args : Array Value} (hw : Region.wanted o (yielded ops a.tmps) = true)
    (hc : ∀ w, S w → Calls P f args w fun e w' => e = .returned v ∧ Below w.heap.size w w') (h : ∀ w, S w → (execOp a.eval o).run P w = .ok (.enter f args) w) : SteadyX P ops S o v a :=
  .inl ⟨hw, fun w hS => by rw [h w hS]; exact hc w hS⟩
/-- One that is not wanted. -/
theorem SteadyX.off {o : Oper} {a : Act} (hw : Region.wanted o (yielded ops a.tmps) = false) : SteadyX P ops S o undef a := .inr ⟨hw, rfl⟩
theorem wpX_done {listed : Array Bool} {a : Act} (hr : Region.ready md ops listed = []) (h : ∀ w, S w → Q .normal a w) :
    ∀ fuel, wpX P md ops Q S fuel listed a
  | 0 => ⟨hr, h⟩
  | _ + 1 => ⟨fun _ => h, by rw [hr]; simp⟩
/-- One alone may come up. -/
theorem wpX_one {i : Nat} {fuel : Nat} {listed : Array Bool} {a : Act} (hr : Region.ready md ops listed = [i])
    (h : ∀ w, S w → wpOp P ops Q i (fun a' w' => ∃ S', Stands S' ∧ (cutB md ops i = true ∨ ∀ v, S' v → S v) ∧ S' w' ∧ wpX P md ops Q S' fuel (listed.setIfInBounds i true) a') a w) : wpX P md ops Q S (fuel + 1) listed a := by
  refine ⟨fun h0 => absurd (hr ▸ h0) (by simp), fun j hj => ?_⟩
  rw [hr] at hj
  obtain rfl : j = i := by simpa using hj
  exact h
/-- An operation that runs, and what may be said behind it. -/
theorem wpX_run {i d : Nat} {oi : Oper} {v : Value} {fuel : Nat} {listed : Array Bool} {T : Array Value} {D : List Deferred} {w w' : World} (S' : World → Prop)
    (hi : ops[i]? = some oi) (hd : oi.dst = some d) (hw : Region.wanted oi (yielded ops T) = true)
    (hrun : (execOp (Act.eval { tmps := T, defers := D }) oi).run P w = .ok (.value v) w') (hst : Stands S') (hc : cutB md ops i = true ∨ ∀ v, S' v → S v) (hs : S' w')
    (h : wpX P md ops Q S' fuel (listed.setIfInBounds i true) { tmps := T.setIfInBounds d v, defers := D }) :
    wpOp P ops Q i (fun a' w' => ∃ S', Stands S' ∧ (cutB md ops i = true ∨ ∀ v, S' v → S v) ∧ S' w' ∧ wpX P md ops Q S' fuel (listed.setIfInBounds i true) a') { tmps := T, defers := D } w := by
  unfold Go.wpOp
  simp only [hi, hw, if_true]
  refine .inl ?_
  unfold Oper.wp
  rw [hrun]
  simp only [Oper.upon, Act.put, hd]
  exact ⟨S', hst, hc, hs, h⟩
/-- A store. -/
theorem wpX_store {i : Nat} {oi : Oper} {fuel : Nat} {listed : Array Bool} {a : Act} {w w' : World} (S' : World → Prop)
    (hi : ops[i]? = some oi) (hd : oi.dst = none) (hw : Region.wanted oi (yielded ops a.tmps) = true)
    (hrun : (execOp a.eval oi).run P w = .ok .skip w') (hst : Stands S') (hc : cutB md ops i = true ∨ ∀ v, S' v → S v) (hs : S' w')
    (h : wpX P md ops Q S' fuel (listed.setIfInBounds i true) a) :
    wpOp P ops Q i (fun a' w' => ∃ S', Stands S' ∧ (cutB md ops i = true ∨ ∀ v, S' v → S v) ∧ S' w' ∧ wpX P md ops Q S' fuel (listed.setIfInBounds i true) a') a w := by
  unfold Go.wpOp
  simp only [hi, hw, if_true]
  refine .inl ?_
  unfold Oper.wp
  rw [hrun]
  simp only [Oper.upon, Act.put, hd]
  exact ⟨S', hst, hc, hs, h⟩
/-- A call. -/
theorem wpX_call {i d : Nat} {oi : Oper} {fuel : Nat} {listed : Array Bool} {T : Array Value} {D : List Deferred} {w : World} {f : FuncId} {args : Array Value} {R : Value → World → Prop}
    (hi : ops[i]? = some oi) (hd : oi.dst = some d) (hw : Region.wanted oi (yielded ops T) = true)
    (hc : Calls P f args w fun e w' => ∃ v, e = .returned v ∧ R v w') (hrun : (execOp (Act.eval { tmps := T, defers := D }) oi).run P w = .ok (.enter f args) w)
    (h : ∀ v w', R v w' → ∃ S', Stands S' ∧ (cutB md ops i = true ∨ ∀ v, S' v → S v) ∧ S' w' ∧ wpX P md ops Q S' fuel (listed.setIfInBounds i true) { tmps := T.setIfInBounds d v, defers := D }) :
    wpOp P ops Q i (fun a' w' => ∃ S', Stands S' ∧ (cutB md ops i = true ∨ ∀ v, S' v → S v) ∧ S' w' ∧ wpX P md ops Q S' fuel (listed.setIfInBounds i true) a') { tmps := T, defers := D } w := by
  unfold Go.wpOp
  simp only [hi, hw, if_true]
  refine .inl ?_
  unfold Oper.wp
  rw [hrun]
  refine Calls.mono hc fun e w' he => ?_
  obtain ⟨v, rfl, hR⟩ := he
  simp only [Act.put, hd]
  exact h v w' hR
theorem wp_region_X {id : Nat} {a : Act} {w : World} (hm : P.follows .mixedOrders = true) (hS : S w.drew)
    (h : wpX P .any ops Q S ops.size (Array.replicate ops.size false) a) : (Code.region id ops true).wp P Q a w :=
  wp_region_any hm (wpAny_of_X _ _ _ _ _ hS h)
theorem Stands.and {A B : World → Prop} (ha : Stands A) (hb : Stands B) : Stands fun w => A w ∧ B w := fun a b h k => ⟨ha a b h k.1, hb a b h k.2⟩
theorem stands_blk (b : Nat) (c : Array Value) (t : TypeId) : Stands fun w => Blk w b c t := fun _ _ h k => k.grew h
theorem stands_cell (p : Addr) (v : Value) : Stands fun w => w.cell? p = some v := fun _ _ h k => cell_grew k h
theorem stands_size (n : Nat) : Stands fun w => n ≤ w.heap.size := fun _ _ h k => Nat.le_trans k h.size
end
/-- 'append', its run known as an equation. -/
theorem exec_append {P : Program} {ev : Operand → Value} {o : Oper} (s x : Operand) (t tn : TypeId) (ho : o.op = .call { callee := .builtin .append, args := #[s, x], argTypes := #[t, tn] }) {vs vx v' : Value} {w w' : World} (hs : ev s = vs) (hx : ev x = vx)
    (hr : (Builtin.append_ #[t, tn] o.type #[vs, vx]).run P w = .ok v' w') : (execOp ev o).run P w = .ok (.value v') w' := by
  unfold execOp
  simp only [ho, resolve, invoke, builtin, Sem.run_bind, Sem.run_pure, Result.andThen_ok, List.map_toArray, List.map_cons, List.map_nil, hs, hx, hr]
end Go.Proofs.YtfmdmfiljplkoaaGreat
