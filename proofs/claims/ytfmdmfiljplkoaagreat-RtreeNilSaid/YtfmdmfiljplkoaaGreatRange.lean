/- A range over a function, in worlds that are not written out: what a round's record turns leaves all else as it was. -/
import Derived.RangeFuncNested
import Derived.RangeFuncBound
import Derived.RangeFuncCalls
import Derived.RangeFuncLeaves
import Derived.Shelf.Abstract
import Derived.Shelf.RegionOpen
import Derived.OwnWalkIn
import Derived.TacticsInMore
import Derived.LoopNIn
import Derived.LoopIn
import Derived.Test.YtfmdmfiljplkoaaGreatAid
namespace Go.Proofs.YtfmdmfiljplkoaaGreat
open Go.RowKit Go.Shelf
/-- The world W' is W but for block l, which is o now. -/
structure Turned (l : Nat) (o : Obj) (W W' : World) : Prop where
  os : W'.os = W.os
  tape : W'.tape = W.tape
  output : W'.output = W.output
  size : W'.heap.size = W.heap.size
  same : ∀ k, k ≠ l → W'.heap[k]? = W.heap[k]?
  at_ : W'.heap[l]? = some o
theorem Turned.put {W : World} {l : Nat} {o : Obj} (o' : Obj) (h : W.heap[l]? = some o) : Turned l o' W (W.putObj l o') :=
  ⟨rfl, rfl, rfl, by simp, fun _ hk => World.putObj_heap_other hk, World.putObj_heap_same (lt_of_block h)⟩
theorem Turned.below {W W' : World} {l B : Nat} {o : Obj} (h : Turned l o W W') (hB : B ≤ l) : Below B W W' :=
  ⟨h.os, h.tape, h.output, Nat.le_of_eq h.size.symm, fun k hk => h.same k (by omega)⟩
theorem Blk.turned {W W' : World} {b l : Nat} {c : Array Value} {t : TypeId} {o : Obj} {r : Loop} (h : Blk W b c t) (hl : W.heap[l]? = some (.loop r)) (k : Turned l o W W') : Blk W' b c t := by
  refine (k.same b ?_).trans h
  intro e
  subst e
  unfold Blk at h
  rw [hl] at h
  cases h
/-- The loop's record, as entering the statement lays it. -/
def recOf (fn : FuncId) (tmps : Array Value) (ps : Array Tmp) (assign body : Code) (D : Nat) (st : LoopState) (pe : Option Code) : Loop :=
  { state := st, pending := pe, fn, tmps, params := ps, assign, body, defers := D }
/-- How a round may be left. -/
def rPost (l : Nat) (rec : LoopState → Option Code → Loop) (R : Ending → World → Prop) : Exit → Act → World → Prop
  | .normal, _, W => W.heap[l]? = some (.loop (rec .busy none)) ∧ ∀ W', Turned l (.loop (rec .ready none)) W W' → R (.returned (.bool true)) W'
  | .ret, _, W => W.heap[l]? = some (.loop (rec .busy none)) ∧ ∀ W', Turned l (.loop (rec .done (some .ret))) W W' → R (.returned (.bool false)) W'
  | .exit id, _, W => W.heap[l]? = some (.loop (rec .busy none)) ∧ ∀ W', Turned l (.loop (rec .done (some (.exit id)))) W W' → R (.returned (.bool false)) W'
  | .goto t, _, W => W.heap[l]? = some (.loop (rec .busy none)) ∧ ∀ W', Turned l (.loop (rec .done (some (.goto t)))) W W' → R (.returned (.bool false)) W'
  | .panic _, _, _ => False
  | .outgrown, _, _ => False
variable {F : Fence} {n : Nat} {P : Program}
theorem roundPost_of {l D : Nat} {fn : FuncId} {tmps : Array Value} {ps : Array Tmp} {assign body : Code} {R : Ending → World → Prop} {e : Exit} {a : Act} {W : World}
    (h : rPost l (recOf fn tmps ps assign body D) R e a W) : roundPost P l R e a W := by
  cases e with
  | normal => exact ⟨_, _, run_endRound none h.1, h.2 _ (Turned.put _ h.1)⟩
  | ret => exact ⟨_, _, run_endRound (some .ret) h.1, h.2 _ (Turned.put _ h.1)⟩
  | exit id => exact ⟨_, _, run_endRound (some (.exit id)) h.1, h.2 _ (Turned.put _ h.1)⟩
  | goto t => exact ⟨_, _, run_endRound (some (.goto t)) h.1, h.2 _ (Turned.put _ h.1)⟩
  | panic c => exact h.elim
  | outgrown => exact h.elim
/-- ONE ROUND, AT A CALL OF yield. -/
theorem yield_of {l D : Nat} {fn : FuncId} {tmps : Array Value} {ps : Array Tmp} {assign body : Code} {R : Ending → World → Prop} {args : Array Value} {W : World}
    (hfn : F.fn fn) (hl : W.heap[l]? = some (.loop (recOf fn tmps ps assign body D .ready none))) (hs : args.size = ps.size)
    (h : assign.wpIn (F.inRound l) n P (Exit.then (fun a₁ W' => W'.heap[l]? = some (.loop (recOf fn tmps ps assign body D .ready none)) ∧
        ∀ W'', Turned l (.loop (recOf fn tmps ps assign body D .busy none)) W' W'' → body.wpIn (F.inRound l) n P (rPost l (recOf fn tmps ps assign body D) R) a₁ W'') (fun _ _ _ => False))
      { tmps := (ps.zip args).foldl (fun t (p, v) => t.setIfInBounds p v) tmps, defers := [] } W) :
    YieldAt F n P l args W R := by
  refine ⟨fn, _, assign, body, run_yield hl hs, roundIn_of_wpIn hfn (wpIn_mono h ?_)⟩
  intro e a W' hq
  cases e with
  | normal => exact ⟨_, run_beginRound hq.1 rfl, wpIn_mono (hq.2 _ (Turned.put _ hq.1)) fun _ _ _ => roundPost_of⟩
  | ret => exact hq
  | exit id => exact hq
  | goto t => exact hq
  | panic c => exact hq
  | outgrown => exact hq
/-- The walk stands at a call of yield: the round. -/
theorem upon_yield {o : Oper} {a : Act} {next : Act → World → Prop} {Q : Exit → Act → World → Prop} {l : Nat} {args : Array Value} {W : World} (h1 : F.depth.isSome = true → 1 ≤ n)
    (h : YieldAt F (n - 1) P l args W fun
      | .returned v, w'' => next (a.put o.dst v) w''
      | .panicked chain, w'' => Q (.panic chain) a w''
      | .outgrown, _ => LetsOut Q) : o.uponIn F n P a next Q ((Instr.yield l args).run P W) := by
  obtain ⟨fn, tmps, asg, bdy, hy, hr⟩ := h
  rw [hy, Oper.uponIn_round]
  exact ⟨h1, hr⟩
theorem heap_setCell {W : World} {b k : Nat} {o : Obj} (h : W.heap[k]? = some o) (hk : k ≠ b) (i : Nat) (v : Value) : (W.setCell ⟨b, i, none⟩ v).heap[k]? = some o := (Below.heap_setCell W ⟨b, i, none⟩ v k hk).trans h
/-- THE STATEMENT, at an outermost loop. -/
theorem wpIn_range {g : Operand} {ps : Array Tmp} {assign body : Code} {Q : Exit → Act → World → Prop} {a : Act} {w : World}
    (hro : F.round = none) (h1 : 1 ≤ n) {gf : Nat} {lb : Array Value} (hg : a.eval g = .func (.func gf) #[] lb) (hFg : F.fn gf) (eg : ∀ args w, (callFunc gf args).run P w = .ok (.enter gf args) w)
    (h : ∀ fn, F.fn fn → ∀ W1, Below w.heap.size w W1 → W1.heap.size = w.heap.size + 2 → W1.heap[w.heap.size]? = some (.deferred (some [])) →
      W1.heap[w.heap.size + 1]? = some (.loop (recOf fn a.tmps ps assign body w.heap.size .ready none)) →
      CallsIn F (n - 1) P gf (#[.func (.yield (w.heap.size + 1)) #[] #[]] ++ lb) W1 fun e W2 => (∃ v, e = .returned v) ∧
        ((W2.heap[w.heap.size + 1]? = some (.loop (recOf fn a.tmps ps assign body w.heap.size .ready none)) ∧
            ∀ W3, Turned (w.heap.size + 1) (.loop (recOf fn a.tmps ps assign body w.heap.size .exhausted none)) W2 W3 → Q .normal { a with defers := { target := .collected w.heap.size, args := #[] } :: a.defers } W3) ∨
         (∃ c, W2.heap[w.heap.size + 1]? = some (.loop (recOf fn a.tmps ps assign body w.heap.size .done (some c))) ∧
            ∀ W3, Turned (w.heap.size + 1) (.loop (recOf fn a.tmps ps assign body w.heap.size .exhausted (some c))) W2 W3 → c.wpIn F n P Q { a with defers := { target := .collected w.heap.size, args := #[] } :: a.defers } W3))) :
    (Code.rangeFunc g ps assign body).wpIn F n P Q a w := by
  refine wpIn_rangeFunc ?_
  intro fn hfn
  rw [hro]
  obtain ⟨W1, hW1⟩ : ∃ W1, (w.alloc (.deferred (some []))).alloc (.loop (recOf fn a.tmps ps assign body w.heap.size .ready none)) = W1 := ⟨_, rfl⟩
  have hL1 : W1.heap[w.heap.size + 1]? = some (.loop (recOf fn a.tmps ps assign body w.heap.size .ready none)) := by
    rw [← hW1]; have := World.alloc_heap_new (w.alloc (.deferred (some []))) (.loop (recOf fn a.tmps ps assign body w.heap.size .ready none)); rwa [World.size_alloc] at this
  have hK1 : W1.heap[w.heap.size]? = some (.deferred (some [])) := by
    rw [← hW1]; exact (Below.heap_alloc _ _ _ (by simp)).trans (World.alloc_heap_new w _)
  have hb1 : Below w.heap.size w W1 := by
    rw [← hW1]; exact (((Below.refl _ w).alloc (Nat.le_refl _) _).alloc (by simp) _)
  have hz1 : W1.heap.size = w.heap.size + 2 := by rw [← hW1]; simp
  refine ⟨w.heap.size + 1, [{ target := .collected w.heap.size, args := #[] }], W1, { target := .fn (.func gf) lb, args := #[.func (.yield (w.heap.size + 1)) #[] #[]] }, W1, gf,
    #[.func (.yield (w.heap.size + 1)) #[] #[]] ++ lb, W1, ?_, ?_, ?_, ?_, fun _ => h1, ?_⟩
  · rw [← hW1]; exact run_enterLoop_outer _ _ _ _ _
  · simp only [resolve, hg]
    simp [go_sem]
  · intro f' hf'; simp [Target.leads] at hf'; subst hf'; exact hFg
  · simp [invoke, go_sem, eg]
  · refine (h fn hfn W1 hb1 hz1 hK1 hL1).mono ?_
    rintro e W2 ⟨⟨v, rfl⟩, (⟨hl, hq⟩ | ⟨c, hl, hq⟩)⟩
    · exact ⟨none, _, run_endLoop hl (by simp [recOf]), hq _ (Turned.put _ hl)⟩
    · exact ⟨some c, _, run_endLoop hl (by simp [recOf]), hq _ (Turned.put _ hl)⟩
end Go.Proofs.YtfmdmfiljplkoaaGreat
