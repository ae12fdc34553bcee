/- Boxes and rows of a call's own, all in one fact; structs loaded, stored, boxed whole. -/
import Derived.Test.YtfmdmfiljplkoaaGreatA19
import Derived.Laws.CopyRow
namespace Go.Proofs.YtfmdmfiljplkoaaGreat
open Go.RowKit
set_option maxRecDepth 8000
/-- A block that is known whole. -/
structure Bx where
  b : Nat
  c : Array Value
  t : TypeId
/-- A row of the call's own: elements of s cells. -/
structure Rx where
  t : TypeId
  s : Nat
  v : Value
  n : Nat
  l : List Value
def Bx.ne (x y : Bx) : Prop := x.b ≠ y.b
def Rx.ne (x y : Rx) : Prop := ∀ g, x.v.ownBlock = some g → y.v.ownBlock ≠ some g
structure Bxs (w0 w : World) (L : List Bx) (R : List Rx) : Prop where
  low : Below w0.heap.size w0 w
  blk : ∀ e ∈ L, Blk w e.b e.c e.t ∧ w0.heap.size ≤ e.b
  row : ∀ r ∈ R, w.ownsRow w0.heap.size r.t r.s r.v r.n r.l
  p1 : L.Pairwise Bx.ne
  p2 : R.Pairwise Rx.ne
  p3 : ∀ e ∈ L, ∀ r ∈ R, r.v.ownBlock ≠ some e.b
section
variable {α : Type} {Rel : α → α → Prop} {l : List α}
theorem pair_at (sym : ∀ x y, Rel x y → Rel y x) (h : l.Pairwise Rel) {i j : Nat} {x y : α} (hi : l[i]? = some x) (hj : l[j]? = some y) (hne : i ≠ j) : Rel x y := by
  obtain ⟨h1, rfl⟩ := List.getElem?_eq_some_iff.1 hi
  obtain ⟨h2, rfl⟩ := List.getElem?_eq_some_iff.1 hj
  rcases Nat.lt_or_gt_of_ne hne with hlt | hlt
  · exact (List.pairwise_iff_getElem.1 h) i j h1 h2 hlt
  · exact sym _ _ ((List.pairwise_iff_getElem.1 h) j i h2 h1 hlt)
theorem pair_set (sym : ∀ x y, Rel x y → Rel y x) (h : l.Pairwise Rel) {i : Nat} {e : α} (hx : ∀ j y, j ≠ i → l[j]? = some y → Rel e y) : (l.set i e).Pairwise Rel := by
  rw [List.pairwise_iff_getElem]
  intro a b ha0 hb0 hab
  have ha : a < l.length := by simpa using ha0
  have hb : b < l.length := by simpa using hb0
  by_cases ea : a = i
  · subst ea
    rw [List.getElem_set_self, List.getElem_set_ne (by omega)]
    exact hx b _ (by omega) (List.getElem?_eq_getElem hb)
  · by_cases eb : b = i
    · subst eb
      rw [List.getElem_set_self, List.getElem_set_ne (by omega)]
      exact sym _ _ (hx a _ ea (List.getElem?_eq_getElem ha))
    · rw [List.getElem_set_ne (by omega), List.getElem_set_ne (by omega)]
      exact (List.pairwise_iff_getElem.1 h) a b ha hb hab
theorem mem_set {i : Nat} {e x : α} (h : x ∈ l.set i e) : x = e ∨ ∃ j, j ≠ i ∧ l[j]? = some x := by
  obtain ⟨j, hj⟩ := List.mem_iff_getElem?.1 h
  rw [List.getElem?_set] at hj
  by_cases hij : i = j
  · rw [if_pos hij] at hj
    split at hj
    · cases hj; exact .inl rfl
    · cases hj
  · rw [if_neg hij] at hj
    exact .inr ⟨j, fun e => hij e.symm, hj⟩
end
theorem Bx.ne_symm (x y : Bx) (h : x.ne y) : y.ne x := fun e => h e.symm
theorem Rx.ne_symm (x y : Rx) (h : x.ne y) : y.ne x := fun g h1 h2 => h g h2 h1
section
variable {w0 w w' : World} {L L' : List Bx} {R R' : List Rx} {P : Program}
theorem blk_turn {T : List Nat} {b : Nat} {c : Array Value} {t : TypeId} (h : Blk w b c t) (k : Turn T w w') (hb : b ∉ T) : Blk w' b c t := (k.block b h.lt hb).trans h
theorem Bxs.start (w : World) : Bxs w w [] [] := ⟨Below.refl _ _, by simp, by simp, List.Pairwise.nil, List.Pairwise.nil, by simp⟩
theorem Bxs.at_ (h : Bxs w0 w L R) {i : Nat} {e : Bx} (hi : L[i]? = some e) : Blk w e.b e.c e.t := (h.blk e (List.mem_of_getElem? hi)).1
theorem Bxs.row_ (h : Bxs w0 w L R) {i : Nat} {r : Rx} (hi : R[i]? = some r) : w.ownsRow w0.heap.size r.t r.s r.v r.n r.l := h.row r (List.mem_of_getElem? hi)
theorem Bxs.row_lt (h : Bxs w0 w L R) {r : Rx} (hr : r ∈ R) {g : Nat} (hg : r.v.ownBlock = some g) : w0.heap.size ≤ g ∧ g < w.heap.size := World.ownsRow.lt (h.row r hr) g hg
theorem Bxs.of_turn {T : List Nat} (h : Bxs w0 w L R) (k : Turn T w w') (hT : ∀ j ∈ T, w0.heap.size ≤ j ∧ (∀ e ∈ L, e.b ≠ j) ∧ ∀ r ∈ R, r.v.ownBlock ≠ some j) : Bxs w0 w' L R :=
  ⟨h.low.trans (k.below h.low.size (fun j hj => (hT j hj).1)), fun e he => ⟨blk_turn (h.blk e he).1 k (fun hb => (hT _ hb).2.1 e he rfl), (h.blk e he).2⟩, fun r hr => row_turn (h.row r hr) k (fun _ hg hb => (hT _ hb).2.2 r hr hg), h.p1, h.p2, h.p3⟩
theorem Bxs.grew (h : Bxs w0 w L R) (k : Below w.heap.size w w') : Bxs w0 w' L R := h.of_turn (Turn.of_below k []) (by simp)
theorem Bxs.drew (h : Bxs w0 w L R) : Bxs w0 w.drew L R := h.grew ⟨rfl, rfl, rfl, Nat.le_refl _, fun _ _ => rfl⟩
theorem Bxs.stands (w0 : World) (L : List Bx) (R : List Rx) : Stands fun w => Bxs w0 w L R := fun _ _ k h => h.grew k
/-- A new box. -/
theorem Bxs.push (h : Bxs w0 w L R) (c : Array Value) (t : TypeId) : Bxs w0 (w.alloc (.cells c t)) (⟨w.heap.size, c, t⟩ :: L) R := by
  have h' := h.grew ((Below.refl _ w).alloc (Nat.le_refl _) (.cells c t))
  refine ⟨h'.low, ?_, h'.row, List.pairwise_cons.2 ⟨fun e he e2 => ?_, h.p1⟩, h.p2, ?_⟩
  · intro e he
    rcases List.mem_cons.1 he with rfl | he
    · exact ⟨Blk.new w c t, h.low.size⟩
    · exact h'.blk e he
  · have := (h.blk e he).1.lt
    have e2 : w.heap.size = e.b := e2
    omega
  · intro e he r hr
    rcases List.mem_cons.1 he with rfl | he
    · intro e2
      have := (h.row_lt hr e2).2
      dsimp only at this
      omega
    · exact h.p3 e he r hr
/-- A row that a call gave. -/
theorem Bxs.own (h : Bxs w0 w L R) (k : Below w.heap.size w w') {t : TypeId} {s n : Nat} {v : Value} {l : List Value} (hr : w'.ownsRow w.heap.size t s v n l) : Bxs w0 w' L (⟨t, s, v, n, l⟩ :: R) := by
  have h' := h.grew k
  refine ⟨h'.low, h'.blk, ?_, h.p1, List.pairwise_cons.2 ⟨fun r hr' g h1 h2 => ?_, h.p2⟩, fun e he r hr' => ?_⟩
  · intro r hr'
    rcases List.mem_cons.1 hr' with rfl | hr'
    · exact Own.base_ h.low.size hr
    · exact h'.row r hr'
  · have h3 := (h.row_lt hr' h2).2
    have h4 := (World.ownsRow.lt hr g h1).1
    omega
  · rcases List.mem_cons.1 hr' with rfl | hr'
    · intro e2
      have h4 := (World.ownsRow.lt hr _ e2).1
      have := (h.blk e he).1.lt
      omega
    · exact h.p3 e he r hr'
/-- A box is laid anew. -/
theorem Bxs.put (h : Bxs w0 w L R) {i : Nat} {e : Bx} (hi : L[i]? = some e) {c : Array Value} (hb : Blk w' e.b c e.t) (k : Turn [e.b] w w') : Bxs w0 w' (L.set i { e with c := c }) R := by
  have hm := List.mem_of_getElem? hi
  have hoth : ∀ j x, j ≠ i → L[j]? = some x → x.b ≠ e.b := fun j x hj hx => pair_at Bx.ne_symm h.p1 hx hi hj
  refine ⟨h.low.trans (k.below h.low.size (by intro j hj; simp at hj; subst hj; exact (h.blk e hm).2)), ?_, ?_, pair_set Bx.ne_symm h.p1 (fun j y hj hy e2 => hoth j y hj hy e2.symm), h.p2, ?_⟩
  · intro x hx
    rcases mem_set hx with rfl | ⟨j, hj, hx⟩
    · exact ⟨hb, (h.blk e hm).2⟩
    · have hx' := h.blk x (List.mem_of_getElem? hx)
      exact ⟨blk_turn hx'.1 k (fun e2 => hoth j x hj hx (by simpa using e2)), hx'.2⟩
  · intro r hr
    exact row_turn (h.row r hr) k (fun g hg e2 => by simp at e2; subst e2; exact h.p3 e hm r hr hg)
  · intro x hx r hr
    rcases mem_set hx with rfl | ⟨j, hj, hx⟩
    · exact h.p3 e hm r hr
    · exact h.p3 x (List.mem_of_getElem? hx) r hr
theorem Bxs.set (h : Bxs w0 w L R) {i : Nat} {e : Bx} (hi : L[i]? = some e) (o : Nat) (x : Value) : Bxs w0 (w.setCell ⟨e.b, o, none⟩ x) (L.set i { e with c := e.c.setIfInBounds o x }) R :=
  h.put hi ((h.at_ hi).set o x) ((Turn.refl [e.b] w).set (a := ⟨e.b, o, none⟩) (.inl (by simp)) x)
/-- Less is known. -/
theorem Bxs.sub (h : Bxs w0 w L R) (hL : L'.Sublist L) (hR : R'.Sublist R) : Bxs w0 w L' R' :=
  ⟨h.low, fun e he => h.blk e (hL.subset he), fun r hr => h.row r (hR.subset hr), h.p1.sublist hL, h.p2.sublist hR, fun e he r hr => h.p3 e (hL.subset he) r (hR.subset hr)⟩
/-- A row that was laid anew: its own block turned, or a new one. -/
theorem Bxs.rowput (h : Bxs w0 w L R) {i : Nat} {r : Rx} (hi : R[i]? = some r) {v' : Value} {n' : Nat} {l' : List Value} (hr : w'.ownsRow w0.heap.size r.t r.s v' n' l') (ht : Turn r.v.ownBlock.toList w w')
    (ho : v'.ownBlock = r.v.ownBlock ∨ v'.ownBlock = some w.heap.size) : Bxs w0 w' L (R.set i ⟨r.t, r.s, v', n', l'⟩) := by
  have hm := List.mem_of_getElem? hi
  have hnew : ∀ g, v'.ownBlock = some g → r.v.ownBlock = some g ∨ w.heap.size ≤ g := fun g hg => by
    rcases ho with ho | ho
    · exact .inl (ho ▸ hg)
    · rw [ho] at hg; cases hg; exact .inr (Nat.le_refl _)
  have hoth : ∀ j q, j ≠ i → R[j]? = some q → Rx.ne q r := fun j q hj hq => pair_at Rx.ne_symm h.p2 hq hi hj
  refine ⟨h.low.trans (ht.below h.low.size (by intro j hj; rw [Option.mem_toList] at hj; exact (h.row_lt hm hj).1)), fun e he => ⟨blk_turn (h.blk e he).1 ht (fun e2 => ?_), (h.blk e he).2⟩, ?_, h.p1, pair_set Rx.ne_symm h.p2 (fun j q hj hq g h1 h2 => ?_), ?_⟩
  · rw [Option.mem_toList] at e2
    exact h.p3 e he r hm e2
  · intro q hq
    rcases mem_set hq with rfl | ⟨j, hj, hq⟩
    · exact hr
    · exact row_turn (h.row q (List.mem_of_getElem? hq)) ht (fun g hg e2 => by rw [Option.mem_toList] at e2; exact hoth j q hj hq g hg e2)
  · rcases hnew g h1 with h3 | h3
    · exact hoth j q hj hq g h2 h3
    · have := (h.row_lt (List.mem_of_getElem? hq) h2).2
      omega
  · intro e he q hq
    rcases mem_set hq with rfl | ⟨j, hj, hq⟩
    · intro e2
      rcases hnew _ e2 with h3 | h3
      · exact h.p3 e he r hm h3
      · have := (h.blk e he).1.lt
        omega
    · exact h.p3 e he q (List.mem_of_getElem? hq)
/-- A row that grew. -/
theorem Bxs.rowgrew (h : Bxs w0 w L R) {i : Nat} {r : Rx} (hi : R[i]? = some r) {v' : Value} {n' : Nat} {l' : List Value} (hr : w'.ownsRow w0.heap.size r.t r.s v' n' l') (hg : w.grownBy w' r.v.ownBlock)
    (ho : v'.ownBlock = r.v.ownBlock ∨ v'.ownBlock = some w.heap.size) : Bxs w0 w' L (R.set i ⟨r.t, r.s, v', n', l'⟩) :=
  h.rowput hi hr ((Turn.refl _ w).grown hg (fun k e => .inl (by rw [Option.mem_toList]; exact e))) ho
/-! ### operations -/
theorem exec_load {ev : Operand → Value} {o : Oper} (t : TypeId) (x : Operand) (ho : o.op = .load t x) {vx v : Value} (hx : ev x = vx) (hr : (Instr.loadAt t vx).run P w = .ok v w) : (execOp ev o).run P w = .ok (.value v) w := by
  unfold execOp
  simp only [ho, Sem.run_bind, Sem.run_pure, Result.andThen_ok, hx, hr]
theorem exec_store {ev : Operand → Value} {o : Oper} (t : TypeId) (x y : Operand) (ho : o.op = .store t x y) {vx vy : Value} (hx : ev x = vx) (hy : ev y = vy) (hr : (Instr.storeAt t vx vy).run P w = .ok () w') : (execOp ev o).run P w = .ok .skip w' := by
  unfold execOp
  simp only [ho, Sem.run_bind, Sem.run_pure, Result.andThen_ok, hx, hy, hr]
theorem run_load_one {t : TypeId} {b o : Nat} {cs : Array Value} {T : TypeId} {v : Value} (hA : (isAgg t).run P w = .ok false w) (h : Blk w b cs T) (hv : cs[o]? = some v) : (Instr.loadAt t (.pointer (some ⟨b, o, none⟩))).run P w = .ok v w := by
  have hc := h.cell o
  rw [hv] at hc
  simp [Instr.loadAt, Instr.sureAddr, loadVar, hA, go_sem, hc]
theorem run_load_agg {t : TypeId} {n b o : Nat} {cs : Array Value} {T : TypeId} (hA : (isAgg t).run P w = .ok true w) (hz : (Go.sizeOf t).run P w = .ok n w) (h : Blk w b cs T) (hn : o + n ≤ cs.size) :
    (Instr.loadAt t (.pointer (some ⟨b, o, none⟩))).run P w = .ok (.agg ((cs.toList.drop o).take n).toArray) w := by
  have hl : ((cs.toList.drop o).take n).length = n := by simp; omega
  have hc := run_loadCells_list (P := P) w ⟨b, o, none⟩ ((cs.toList.drop o).take n) (fun j v hv => by
    have e : (⟨b, o, none⟩ : Addr).add j = ⟨b, o + j, none⟩ := by unfold Addr.add; split <;> simp_all
    rw [e, h.cell]
    rw [List.getElem?_take] at hv
    split at hv
    · rw [List.getElem?_drop] at hv
      simpa using hv
    · cases hv)
  rw [hl] at hc
  unfold loadCells at hc
  simp [Instr.loadAt, Instr.sureAddr, loadVar, hA, hz, go_sem, hc]
def splice (cur : Array Value) (o : Nat) (cs : Array Value) : Array Value := (cur.toList.take o ++ cs.toList ++ cur.toList.drop (o + cs.toList.length)).toArray
theorem setRow_turn (w : World) (g : Nat) (cs : Array Value) {cur : Array Value} {T : TypeId} (h : Blk w g cur T) : Blk (w.setRow g cs) g cs T ∧ Turn [g] w (w.setRow g cs) :=
  ⟨setRow_heap w g cur cs T _ h, rfl, rfl, rfl, by simp, fun k _ hk => setRow_other w g k cs (by simpa using hk)⟩
theorem run_store_agg {t : TypeId} {n b o : Nat} {cur cs : Array Value} {T : TypeId} (hz : (Go.sizeOf t).run P w = .ok n w) (h : Blk w b cur T) (hs : cs.size = n) (hn : o + n ≤ cur.size) (h1 : ∀ v ∈ cs.toList, v.oneCell' = true) :
    (Instr.storeAt t (.pointer (some ⟨b, o, none⟩)) (.agg cs)).run P w = .ok () (w.setRow b (splice cur o cs)) := by
  have hst := run_storeCells_at P b o T cs.toList 0 cur w h (by simp; omega) h1
  rw [Nat.add_zero] at hst
  unfold splice
  simp [Instr.storeAt, Instr.sureAddr, storeVar, hz, go_sem, hs] at hst ⊢
  rw [hst]
theorem run_store_one {t : TypeId} {b o : Nat} {cur : Array Value} {T : TypeId} {v : Value} (hz : (Go.sizeOf t).run P w = .ok 1 w) (h : Blk w b cur T) (hn : o < cur.size) (h1 : v.oneCell' = true) :
    (Instr.storeAt t (.pointer (some ⟨b, o, none⟩)) v).run P w = .ok () (w.setCell ⟨b, o, none⟩ v) := by
  have hc := h.cell o
  rw [Array.getElem?_eq_getElem hn] at hc
  have hf := h.free o
  have hr : (store ⟨b, o, none⟩ v).run P w = .ok () (w.setCell ⟨b, o, none⟩ v) := by
    rw [run_store P w ⟨b, o, none⟩ v .plain h1, hc]
    simp [hf]
  have ha : ((⟨b, o, none⟩ : Addr).add 0) = ⟨b, o, none⟩ := rfl
  have hs : (storeCells ⟨b, o, none⟩ [v]).run P w = .ok () (w.setCell ⟨b, o, none⟩ v) := by
    unfold storeCells
    rw [ha, Sem.run_bind, hr]
    rfl
  cases v with
  | agg _ => simp [Value.oneCell'] at h1
  | _ => simp [Instr.storeAt, Instr.sureAddr, storeVar, hz, Sem.run_bind, Value.cells, hs]
end
/-! ### the walk's steps -/
section
variable {P : Program} {ops : Array Oper} {rest : List Oper} {o : Oper} {a : Act} {Q : Exit → Act → World → Prop} {w0 w : World} {L : List Bx} {R : List Rx}
/-- 'wpList', not to be opened. -/
@[irreducible] def WL (P : Program) (ops : Array Oper) (Q : Exit → Act → World → Prop) (l : List Oper) (a : Act) (w : World) : Prop := wpList P ops Q l a w
theorem wpl_id (P : Program) (ops : Array Oper) (Q : Exit → Act → World → Prop) (l : List Oper) (a : Act) (w : World) : wpList P ops Q l a w = WL P ops Q l a w := by unfold WL; rfl
theorem WL.of {l : List Oper} (h : wpList P ops Q l a w) : WL P ops Q l a w := by unfold WL; exact h
/-- An operation that is done: it has no guard, or its guard says yes. -/
def Want (ops : Array Oper) (o : Oper) (a : Act) : Prop := o.guard = none ∨ ∃ j z d z', o.guard = some (j, z) ∧ (ops[j]?).bind (·.dst) = some d ∧ a.tmps[d]? = some (.bool z') ∧ z' = z
theorem Want.out (h : Want ops o a) : Region.wanted o (yielded ops a.tmps) = true := by
  unfold Region.wanted
  rcases h with h | ⟨j, z, d, z', h1, h2, h3, rfl⟩
  · rw [h]
  · rw [h1]
    unfold yielded
    simp [h2, h3]
theorem wpl_step (hw : Want ops o a) (h : ∀ K : Act → World → Prop, (∀ a w, wpList P ops Q rest a w → K a w) → o.wp P a w K Q) : WL P ops Q (o :: rest) a w :=
  WL.of (wpList_step fun K hK => by rw [if_pos hw.out]; exact h K hK)
theorem wpl_run {v : Value} {w' : World} (hgd : Want ops o a) (hr : (execOp a.eval o).run P w = .ok (.value v) w') (k : wpList P ops Q rest (a.put o.dst v) w') : WL P ops Q (o :: rest) a w :=
  wpl_step hgd fun K hK => by
    unfold Oper.wp
    rw [hr]
    exact hK _ _ k
theorem wpl_skip {w' : World} (hgd : Want ops o a) (hd : o.dst = none) (hr : (execOp a.eval o).run P w = .ok .skip w') (k : wpList P ops Q rest a w') : WL P ops Q (o :: rest) a w :=
  wpl_step hgd fun K hK => by
    unfold Oper.wp
    rw [hr]
    show K (a.put o.dst undef) w'
    rw [hd]
    exact hK _ _ k
/-- A cell of a box is read. -/
theorem wpl_ld (H : Hid (Bxs w0 w L R)) (i : Nat) {e : Bx} (hi : L[i]? = some e) (t : TypeId) (x : Operand) (ho : o.op = .load t x) (hgd : Want ops o a) {off : Nat} (hx : a.eval x = .pointer (some ⟨e.b, off, none⟩))
    (hA : ∀ w, (isAgg t).run P w = .ok false w) {v : Value} (hv : e.c.toList[off]? = some v) (k : wpList P ops Q rest (a.put o.dst v) w) : WL P ops Q (o :: rest) a w :=
  wpl_run hgd (exec_load t x ho hx (run_load_one (hA w) (H.out.at_ hi) (by rw [← Array.getElem?_toList]; exact hv))) k
/-- A struct that stands in a box is read. -/
theorem wpl_lda (H : Hid (Bxs w0 w L R)) (i : Nat) {e : Bx} (hi : L[i]? = some e) (t : TypeId) (x : Operand) (ho : o.op = .load t x) (hgd : Want ops o a) {off : Nat} (hx : a.eval x = .pointer (some ⟨e.b, off, none⟩))
    {n : Nat} (hA : ∀ w, (isAgg t).run P w = .ok true w) (hz : ∀ w, (Go.sizeOf t).run P w = .ok n w) (hn : decide (off + n ≤ e.c.size) = true) {cs : Array Value} (hv : ((e.c.toList.drop off).take n).toArray = cs) (k : wpList P ops Q rest (a.put o.dst (.agg cs)) w) : WL P ops Q (o :: rest) a w := by
  subst hv
  exact wpl_run hgd (exec_load t x ho hx (run_load_agg (hA w) (hz w) (H.out.at_ hi) (of_decide_eq_true hn))) k
/-- A cell of a box is written. -/
theorem wpl_st (H : Hid (Bxs w0 w L R)) (i : Nat) {e : Bx} (hi : L[i]? = some e) (hd : o.dst = none) (t : TypeId) (x y : Operand) (ho : o.op = .store t x y) (hgd : Want ops o a) {off : Nat} (hx : a.eval x = .pointer (some ⟨e.b, off, none⟩)) {v : Value} (hy : a.eval y = v)
    (hz : ∀ w, (Go.sizeOf t).run P w = .ok 1 w) (h1 : v.oneCell' = true) (hn : decide (off < e.c.size) = true) {cs : Array Value} (hv : e.c.setIfInBounds off v = cs)
    (k : ∀ w', Hid (Bxs w0 w' (L.set i { e with c := cs }) R) → wpList P ops Q rest a w') : WL P ops Q (o :: rest) a w := by
  subst hv
  exact wpl_skip hgd hd (exec_store t x y ho hx hy (run_store_one (hz w) (H.out.at_ hi) (of_decide_eq_true hn) h1)) (k _ (Lib.hid (H.out.set hi off v)))
/-- A struct is written into a box. -/
theorem wpl_sta (H : Hid (Bxs w0 w L R)) (i : Nat) {e : Bx} (hi : L[i]? = some e) (hd : o.dst = none) (t : TypeId) (x y : Operand) (ho : o.op = .store t x y) (hgd : Want ops o a) {off : Nat} (hx : a.eval x = .pointer (some ⟨e.b, off, none⟩)) {v : Array Value} (hy : a.eval y = .agg v)
    {n : Nat} (hz : ∀ w, (Go.sizeOf t).run P w = .ok n w) (hs : v.size = n) (h1 : v.toList.all (·.oneCell') = true) (hn : decide (off + n ≤ e.c.size) = true) {cs : Array Value} (hv : splice e.c off v = cs)
    (k : ∀ w', Hid (Bxs w0 w' (L.set i { e with c := cs }) R) → wpList P ops Q rest a w') : WL P ops Q (o :: rest) a w := by
  subst hv
  have hb := H.out.at_ hi
  have ht := setRow_turn w e.b (splice e.c off v) hb
  exact wpl_skip hgd hd (exec_store t x y ho hx hy (run_store_agg (hz w) hb hs (of_decide_eq_true hn) (fun x hx => List.all_eq_true.1 h1 x hx))) (k _ (Lib.hid (H.out.put hi ht.1 ht.2)))
theorem exec_box {ev : Operand → Value} {o : Oper} {t : TypeId} {x : Operand} (ho : o.op = .box t x) {cs : Array Value} (hx : ev x = .agg cs) : (execOp ev o).run P w = .ok (.value (.pointer (some ⟨w.heap.size, 0, none⟩))) (w.alloc (.cells cs t)) := by
  unfold execOp
  simp only [ho, hx]
  rfl
theorem exec_alloc {ev : Operand → Value} {o : Oper} {t : TypeId} (ho : o.op = .alloc t) {z : Value} (hz : (zeroValue t).run P w = .ok z w) : (execOp ev o).run P w = .ok (.value (.pointer (some ⟨w.heap.size, 0, none⟩))) (w.alloc (.cells z.cells t)) := by
  unfold execOp
  simp only [ho, Instr.alloc, Sem.run_bind, hz, Result.andThen_ok]
  rfl
/-- A struct is boxed. -/
theorem wpl_box (H : Hid (Bxs w0 w L R)) (t : TypeId) (x : Operand) (ho : o.op = .box t x) (hgd : Want ops o a) {cs : Array Value} (hx : a.eval x = .agg cs)
    (k : ∀ b w', Hid (Bxs w0 w' (⟨b, cs, t⟩ :: L) R) → wpList P ops Q rest (a.put o.dst (.pointer (some ⟨b, 0, none⟩))) w') : WL P ops Q (o :: rest) a w :=
  wpl_run hgd (exec_box ho hx) (k _ _ (Lib.hid (H.out.push cs t)))
/-- A box of zeros. -/
theorem wpl_new (H : Hid (Bxs w0 w L R)) (t : TypeId) (ho : o.op = .alloc t) (hgd : Want ops o a) {z : Value} (hz : ∀ w, (zeroValue t).run P w = .ok z w) {cs : Array Value} (hc : z.cells = cs)
    (k : ∀ b w', Hid (Bxs w0 w' (⟨b, cs, t⟩ :: L) R) → wpList P ops Q rest (a.put o.dst (.pointer (some ⟨b, 0, none⟩))) w') : WL P ops Q (o :: rest) a w := by
  subst hc
  exact wpl_run hgd (exec_alloc ho (hz w)) (k _ _ (Lib.hid (H.out.push z.cells t)))
theorem res_cell {fn : Func} {t : Tmp} {ty : TypeId} {T : Array Value} {b n : Nat} {cs : Array Value} {t0 : TypeId} (hf : fn.results = #[.cell t ty]) (hT : T[t]?.getD undef = .pointer (some ⟨b, 0, none⟩)) (h : Blk w b cs t0) (hA : (isAgg ty).run P w = .ok true w) (hz : (Go.sizeOf ty).run P w = .ok n w) (hn : cs.size = n) :
    (results fn T).run P w = .ok (.agg cs) w := by
  have hl := run_load_agg hA hz h (by omega : 0 + n ≤ cs.size)
  rw [List.drop_zero, List.take_of_length_le (by simp; omega)] at hl
  simp [Instr.loadAt, Instr.sureAddr, loadVar, go_sem, hA, hz] at hl
  simp [results, hf, go_sem, hT, hA, hz, hl]
/-- Elements of a row, written out. -/
theorem run_lit {t e : TypeId} {d : TypeInfo} (hu : P.underlying t = some (.slice e)) (hi : P.info? e = some d) : (Instr.buildSlice t 0 #[]).run P w = .ok (.slice (some ⟨w.heap.size, 0, none⟩) 0 0) (w.alloc (.cells #[] e)) := by
  simp [Instr.buildSlice, run_underlying hu, sizeOf, typeInfo, hi, go_sem, Instr.fill]
end
end Go.Proofs.YtfmdmfiljplkoaaGreat
