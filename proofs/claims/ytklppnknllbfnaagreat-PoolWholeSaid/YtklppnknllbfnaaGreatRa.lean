/- The document's pool in memory; copied. -/
import Derived.Test.YtklppnknllbfnaaGreatR1
import Derived.Test.YtklppnknllbfnaaGreatSg
import Derived.Maps.AppendAt
namespace Go.Proofs.YtklppnknllbfnaaGreat
open Go.RowKit Go.Maps
set_option maxRecDepth 8000
set_option linter.unusedSimpArgs false
/-- Elements of one cell. -/
structure Elem (t e : TypeId) : Prop where
 u : Tryz.prog.underlying t = some (.slice e)
 i : ∃ i z, Tryz.prog.info? e = some i ∧ i.zero = some z ∧ i.size = 1 ∧ i.bytes ≤ 16 ∧ z.cells.size = 1
theorem el9 : Elem 42 9 := by
 obtain ⟨i, hi, hz, hs, hb⟩ := info_parts (show (Tryz.prog.info? 9).map (fun i => (i.zero, i.size, i.bytes)) = some (some (.string ⟨#[]⟩), 1, 16) by kernel_rfl)
 exact ⟨Tryz.underlying42, i, _, hi, hz, hs, by omega, rfl⟩
theorem el3 : Elem 43 3 := by
 obtain ⟨i, hi, hz, hs, hb⟩ := info_parts (show (Tryz.prog.info? 3).map (fun i => (i.zero, i.size, i.bytes)) = some (some (.int .i64 0), 1, 8) by kernel_rfl)
 exact ⟨Tryz.underlying43, i, _, hi, hz, hs, by omega, rfl⟩
theorem notAgg (t : TypeId) (h : t = 3 ∨ t = 4 ∨ t = 9 ∨ t = 42 ∨ t = 43) : ∀ w, (isAgg t).run Tryz.prog w = .ok false w := by
 rcases h with rfl | rfl | rfl | rfl | rfl
 ·exact Tryz.isAgg3
 ·exact Tryz.isAgg4
 ·exact Tryz.isAgg9
 ·exact Tryz.isAgg42
 ·exact Tryz.isAgg43
theorem oneSize (t : TypeId) (h : t = 3 ∨ t = 4 ∨ t = 9 ∨ t = 42 ∨ t = 43) : ∀ w, (Go.sizeOf t).run Tryz.prog w = .ok 1 w := by
 rcases h with rfl | rfl | rfl | rfl | rfl
 ·exact Tryz.sizeOf3
 ·exact Tryz.sizeOf4
 ·exact Tryz.sizeOf9
 ·exact Tryz.sizeOf42
 ·exact Tryz.sizeOf43
section
variable {ops : Array Oper} {rest : List Oper} {o : Oper} {a : Act} {Q : Exit → Act → World → Prop} {w0 w : World} {L : List Bx} {R : List Rx} {t e : TypeId}
theorem exec_lit {ev : Operand → Value} {o : Oper} {n : Nat} {parts : Array (Nat × Operand)} {ps : Array (Nat × Value)} {v : Value} {w w' : World} (ho : o.op = .buildSlice t n parts) (hp : parts.map (fun (i, x) => (i, ev x)) = ps) (hr : (Instr.buildSlice t n ps).run Tryz.prog w = .ok v w') : (execOp ev o).run Tryz.prog w = .ok (.value v) w' := by
 unfold execOp
 simp only [ho, Sem.run_bind, hp, hr]
 rfl
theorem wpl_lit0 (E : Elem t e) (H : Hid (Bxs w0 w L R)) (ho : o.op = .buildSlice t 0 #[]) (hgd : Want ops o a)
  (k : ∀ b w', Hid (Bxs w0 w' L (⟨e, 1, .slice (some ⟨b, 0, none⟩) 0 0, 0, []⟩ :: R)) → wpList Tryz.prog ops Q rest (a.put o.dst (.slice (some ⟨b, 0, none⟩) 0 0)) w') : WL Tryz.prog ops Q (o :: rest) a w := by
 obtain ⟨i, z, hi, hz, hs, hb, hc⟩ := E.i
 refine wpl_run hgd (exec_lit ho (ps := #[]) (by simp) (run_lit E.u hi)) (k _ _ (Lib.hid (H.out.own ((Below.refl _ w).alloc (Nat.le_refl _) _) ?_)))
 exact World.ownsRow_lit w #[] 0 (Nat.le_refl _) (by simp [maxLen]) rfl
theorem wpl_lit1 (E : Elem t e) (H : Hid (Bxs w0 w L R)) (y : Operand) (ho : o.op = .buildSlice t 1 #[(0, y)]) (hgd : Want ops o a) {v : Value} (hy : a.eval y = v) (hv : (∃ s, v = .string s) ∨ ∃ n, v = .int .i64 n)
  (k : ∀ b w', Hid (Bxs w0 w' L (⟨e, 1, .slice (some ⟨b, 0, none⟩) 1 1, 1, [v]⟩ :: R)) → wpList Tryz.prog ops Q rest (a.put o.dst (.slice (some ⟨b, 0, none⟩) 1 1)) w') : WL Tryz.prog ops Q (o :: rest) a w := by
 obtain ⟨i, z, hi, hz, hs, hb, hc⟩ := E.i
 refine wpl_run hgd (exec_lit ho (ps := #[(0, v)]) (by simp [hy]) (run_lit1 E.u hi hs hz hv)) (k _ _ (Lib.hid (H.out.own ((Below.refl _ w).alloc (Nat.le_refl _) _) ?_)))
 exact World.ownsRow_lit w #[v] 1 (Nat.le_refl _) (by simp [maxLen]) rfl
theorem run_appB (E : Elem t e) (ty : TypeId) (h : Bxs w0 w L R) (j : Nat) {v : Value} {n : Nat} {l : List Value} (hj : R[j]? = some ⟨e, 1, v, n, l⟩) {vx : Value} {m bs : Nat} {news : List Value} (hsrc : w.ownsRow bs e 1 vx m news) (h1 : ∀ u ∈ news, u.oneCell' = true) (hb : n + m ≤ 4000000) :
  ∃ A c w', (Builtin.append_ #[t, t] ty #[v, vx]).run Tryz.prog w = .ok (.slice A (n + m) c) w' ∧ Bxs w0 w' L (R.set j ⟨e, 1, .slice A (n + m) c, n + m, l ++ news⟩) := by
 obtain ⟨i, z, hi, hz, hs, hby, hc⟩ := E.i
 have hr := h.row_ hj
 rcases hsrc.2 with ⟨rfl, rfl⟩ | ⟨g, cap, cur, rfl, _⟩
 ·obtain ⟨A, c, rfl, hnc⟩ : ∃ A c, v = .slice A n c ∧ n ≤ c := by
   rcases hr.2 with ⟨e1, e2⟩ | ⟨g', cap, cur, e1, _, _, h5, _⟩
   ·dsimp only at e1 e2
    exact ⟨none, 0, by rw [e1, e2], by omega⟩
   ·exact ⟨_, _, e1, h5⟩
  have hx : news = [] := List.eq_nil_of_length_eq_zero (by have := hsrc.1; omega)
  subst hx
  refine ⟨A, c, w, ?_, ?_⟩
  ·cases A <;> simp [Builtin.append_, run_underlying E.u, sizeOf, typeInfo, hi, Builtin.lenOf, Builtin.firstCells, storeCells, hs, hnc]
  ·rw [Nat.add_zero, List.append_nil]
   have e2 : R.set j ⟨e, 1, .slice A n c, n, l⟩ = R := by
    apply List.ext_getElem?
    intro k
    rw [List.getElem?_set]
    split
    ·rename_i hk
     subst hk
     rw [if_pos (List.getElem?_eq_some_iff.1 hj).1, hj]
    ·rfl
   rw [e2]
   exact h
 ·obtain ⟨v', w', hrun, h2, h3, _, h5⟩ := run_append_own_at (P := Tryz.prog) w w0.heap.size t ty e i z 1 i.bytes E.u hi hz hs rfl hc (by omega) v n l hr ⟨g, 0, none⟩ m cap news (by have := hsrc.1; omega)
   (fun k u hu => World.ownsRow.cells hsrc (g := g) rfl k u hu) h1 (by simp only [maxLen]; omega) (by have := Nat.mul_le_mul hb hby; omega) h.low.size
  obtain ⟨A', c', rfl, _⟩ : ∃ A c, v' = .slice A (n + m) c ∧ n + m ≤ c := by
   rcases h2.2 with ⟨e1, e2⟩ | ⟨g', cap, cur, e1, _, _, h5, _⟩
   ·exact ⟨none, 0, by rw [e1, e2], by omega⟩
   ·exact ⟨_, _, e1, h5⟩
  exact ⟨A', c', w', hrun, h.rowgrew hj h2 h3 h5⟩
theorem wpl_app (E : Elem t e) (H : Hid (Bxs w0 w L R)) (j : Nat) {v : Value} {n : Nat} {l : List Value} (hj : R[j]? = some ⟨e, 1, v, n, l⟩) (s x : Operand)
  (ho : o.op = .call { callee := .builtin .append, args := #[s, x], argTypes := #[t, t] }) (hgd : Want ops o a) (hs : a.eval s = v) {vx : Value} {m bs : Nat} {news : List Value} (hx : a.eval x = vx) (hsrc : w.ownsRow bs e 1 vx m news) (h1 : ∀ u ∈ news, u.oneCell' = true) (hb : n + m ≤ 4000000)
  {N : Nat} (hN : n + m = N) {l' : List Value} (hl : l ++ news = l')
  (k : ∀ A c w', Hid (Bxs w0 w' L (R.set j ⟨e, 1, .slice A N c, N, l'⟩)) → wpList Tryz.prog ops Q rest (a.put o.dst (.slice A N c)) w') : WL Tryz.prog ops Q (o :: rest) a w := by
 subst hN hl
 obtain ⟨A, c, w', hr, hk⟩ := run_appB E o.type H.out j hj hsrc h1 hb
 exact wpl_step hgd fun K hK => Lib.wp_append_run w s x t t ho v vx hs hx _ w' hr (hK _ _ (k A c w' (Lib.hid hk)))
end
def strs (ls : List (List Nat)) : List Value := ls.map fun l => .string (str l)
def nums (l : List Nat) : List Value := l.map fun n : Nat => .int .i64 (n : Int)
theorem strs_one (ls : List (List Nat)) : ∀ u ∈ strs ls, u.oneCell' = true := by
 intro u hu
 obtain ⟨i, _, rfl⟩ := List.mem_map.1 hu
 rfl
theorem nums_one (l : List Nat) : ∀ u ∈ nums l, u.oneCell' = true := by
 intro u hu
 obtain ⟨i, _, rfl⟩ := List.mem_map.1 hu
 rfl
/-- A row of strings. -/
def RowS (w : World) (v : Value) (ls : List (List Nat)) : Prop := w.ownsRow 0 9 1 v ls.length (strs ls)
/-- The document's state, its pool, as cells. -/
def sc (l f : Value) (r : R8) : Array Value := #[l, f, .int .i64 r.r0, .int .i64 r.r1, .int .i64 r.r2, .int .i64 r.r3, .int .i64 r.r4, .int .i64 r.r5, .int .i64 r.r6, .int .i64 r.r7]
structure Rm where
 nl : Value
 nf : Value
 wl : Value
 wf : Value
 cv : Value
def pc (m : Rm) (R : Rp) : Array Value :=
 #[m.nl, m.nf, .int .i64 R.now.roots.r0, .int .i64 R.now.roots.r1, .int .i64 R.now.roots.r2, .int .i64 R.now.roots.r3, .int .i64 R.now.roots.r4, .int .i64 R.now.roots.r5, .int .i64 R.now.roots.r6, .int .i64 R.now.roots.r7,
  m.wl, m.wf, .int .i64 R.was.roots.r0, .int .i64 R.was.roots.r1, .int .i64 R.was.roots.r2, .int .i64 R.was.roots.r3, .int .i64 R.was.roots.r4, .int .i64 R.was.roots.r5, .int .i64 R.was.roots.r6, .int .i64 R.was.roots.r7,
  .bool R.moved, m.cv, .int .i64 (R.pages : Nat), .int .i64 (R.slot : Nat), .int .i64 (R.room : Nat)]
structure RpAt (w : World) (m : Rm) (R : Rp) : Prop where
 bn : ∀ l ∈ R.now.loads, ∀ b ∈ l, b < 256
 bw : ∀ l ∈ R.was.loads, ∀ b ∈ l, b < 256
 sn : R.now.loads.length ≤ 1048576 ∧ R.now.free.length ≤ 1048576 ∧ R.was.loads.length ≤ 1048576 ∧ R.was.free.length ≤ 1048576 ∧ R.ch.length ≤ 1048576
 nl : RowS w m.nl R.now.loads
 nf : RowI w m.nf R.now.free
 wl : RowS w m.wl R.was.loads
 wf : RowI w m.wf R.was.free
 cv : RowI w m.cv R.ch
theorem RowS.low {w w' : World} {v : Value} {ls : List (List Nat)} (h : RowS w v ls) (k : Below w.heap.size w w') : RowS w' v ls := row_turn h (Turn.of_below k []) (by simp)
theorem RowI.low {w w' : World} {v : Value} {l : List Nat} (h : RowI w v l) (k : Below w.heap.size w w') : RowI w' v l := row_turn h (Turn.of_below k []) (by simp)
theorem RpAt.low {w w' : World} {m : Rm} {R : Rp} (h : RpAt w m R) (k : Below w.heap.size w w') : RpAt w' m R := ⟨h.bn, h.bw, h.sn, h.nl.low k, h.nf.low k, h.wl.low k, h.wf.low k, h.cv.low k⟩
theorem whole_take {cs : Array Value} {n : Nat} (h : cs.size = n) : ((cs.toList.drop 0).take n).toArray = cs := by
 rw [List.drop_zero, List.take_of_length_le (by simp; omega)]
theorem splice_whole {z cs : Array Value} {n : Nat} (h1 : z.size = n) (h2 : cs.size = n) : splice z 0 cs = cs := by
 unfold splice
 rw [List.take_zero, List.nil_append, List.drop_eq_nil_of_le (by simp; omega), List.append_nil]
theorem slice_shape {w : World} {bs e n : Nat} {v : Value} {xs : List Value} (h : w.ownsRow bs e 1 v n xs) : ∃ A c, v = .slice A n c := by
 rcases h.2 with ⟨e1, e2⟩ | ⟨g, c, cur, e, _⟩
 ·exact ⟨none, 0, by rw [e1, e2]⟩
 ·exact ⟨_, _, e⟩
theorem RpAt.shape {w : World} {m : Rm} {R : Rp} (h : RpAt w m R) : ∃ A1 c1 A2 c2 A3 c3 A4 c4 A5 c5, m = ⟨.slice A1 R.now.loads.length c1, .slice A2 R.now.free.length c2, .slice A3 R.was.loads.length c3, .slice A4 R.was.free.length c4, .slice A5 R.ch.length c5⟩ := by
 obtain ⟨nl, nf, wl, wf, cv⟩ := m
 obtain ⟨A1, c1, e1⟩ := slice_shape h.nl
 obtain ⟨A2, c2, e2⟩ := slice_shape h.nf
 obtain ⟨A3, c3, e3⟩ := slice_shape h.wl
 obtain ⟨A4, c4, e4⟩ := slice_shape h.wf
 obtain ⟨A5, c5, e5⟩ := slice_shape h.cv
 dsimp only at e1 e2 e3 e4 e5
 exact ⟨A1, c1, A2, c2, A3, c3, A4, c4, A5, c5, by rw [e1, e2, e3, e4, e5]⟩
def Rm.blocks (m : Rm) : List Nat := m.nl.ownBlock.toList ++ (m.nf.ownBlock.toList ++ (m.wl.ownBlock.toList ++ (m.wf.ownBlock.toList ++ m.cv.ownBlock.toList)))
/-- A row that is one of m's, or new. -/
def FreshV (N : Nat) (m : Rm) (v : Value) : Prop := ∀ g, v.ownBlock = some g → g ∈ m.blocks ∨ N ≤ g
def Fresh (N : Nat) (m m' : Rm) : Prop := ∀ g ∈ m'.blocks, g ∈ m.blocks ∨ N ≤ g
section
variable {N : Nat} {m m' : Rm} {w : World}
theorem mem_blocks {g : Nat} : g ∈ m.blocks ↔ m.nl.ownBlock = some g ∨ m.nf.ownBlock = some g ∨ m.wl.ownBlock = some g ∨ m.wf.ownBlock = some g ∨ m.cv.ownBlock = some g := by
 unfold Rm.blocks
 simp only [List.mem_append, Option.mem_toList]
theorem FreshV.nl : FreshV N m m.nl := fun _ h => .inl (mem_blocks.2 (.inl h))
theorem FreshV.nf : FreshV N m m.nf := fun _ h => .inl (mem_blocks.2 (.inr (.inl h)))
theorem FreshV.wl : FreshV N m m.wl := fun _ h => .inl (mem_blocks.2 (.inr (.inr (.inl h))))
theorem FreshV.wf : FreshV N m m.wf := fun _ h => .inl (mem_blocks.2 (.inr (.inr (.inr (.inl h)))))
theorem FreshV.cv : FreshV N m m.cv := fun _ h => .inl (mem_blocks.2 (.inr (.inr (.inr (.inr h)))))
theorem FreshV.none_ : FreshV N m (.slice none 0 0) := fun _ h => by cases h
theorem FreshV.row {e s n : Nat} {v : Value} {xs : List Value} (h : w.ownsRow N e s v n xs) : FreshV N m v := fun g hg => .inr (World.ownsRow.lt h g hg).1
theorem Fresh.mk5 {a b c d e : Value} (h1 : FreshV N m a) (h2 : FreshV N m b) (h3 : FreshV N m c) (h4 : FreshV N m d) (h5 : FreshV N m e) : Fresh N m ⟨a, b, c, d, e⟩ := fun g hg => by
 rcases mem_blocks.1 hg with h | h | h | h | h
 ·exact h1 g h
 ·exact h2 g h
 ·exact h3 g h
 ·exact h4 g h
 ·exact h5 g h
theorem Fresh.refl : Fresh N m m := fun _ h => .inl h
theorem Fresh.mono {N' : Nat} (h : Fresh N' m m') (hN : N ≤ N') : Fresh N m m' := fun g hg => (h g hg).imp id fun h => by omega
theorem Fresh.with_cv {N' : Nat} {v : Value} (h : Fresh N m m') (hN : N ≤ N') (hv : FreshV N' m' v) : Fresh N m { m' with cv := v } := fun g hg => by
 rcases mem_blocks.1 hg with h1 | h1 | h1 | h1 | h1
 ·exact h g (mem_blocks.2 (.inl h1))
 ·exact h g (mem_blocks.2 (.inr (.inl h1)))
 ·exact h g (mem_blocks.2 (.inr (.inr (.inl h1))))
 ·exact h g (mem_blocks.2 (.inr (.inr (.inr (.inl h1)))))
 ·rcases hv g h1 with h2 | h2
  ·exact h g h2
  ·exact .inr (by omega)
end
/-- The zero of the document's pool. -/
def z48 : Array Value := #[.slice none 0 0, .slice none 0 0, .int .i64 0, .int .i64 0, .int .i64 0, .int .i64 0, .int .i64 0, .int .i64 0, .int .i64 0, .int .i64 0, .slice none 0 0, .slice none 0 0, .int .i64 0, .int .i64 0, .int .i64 0, .int .i64 0, .int .i64 0, .int .i64 0, .int .i64 0, .int .i64 0, .bool false, .slice none 0 0, .int .i64 0, .int .i64 0, .int .i64 0]
theorem copied_ref {w : World} {lv fv : Value} {ls : List (List Nat)} {fr : List Nat} (r : R8) (h1 : RowS w lv ls) (h2 : RowI w fv fr) (hl : ls.length ≤ 1048576) (hf : fr.length ≤ 1048576) :
  Calls Tryz.prog 59 #[.agg (sc lv fv r)] w fun e w' => ∃ lv' fv', e = .returned (.agg (sc lv' fv' r)) ∧ w'.ownsRow w.heap.size 9 1 lv' ls.length (strs ls) ∧ w'.ownsRow w.heap.size 3 1 fv' fr.length (nums fr) ∧ Below w.heap.size w w' := by
 have H := Lib.hid (Bxs.start w)
 have HL := Lib.hid h1
 have HF := Lib.hid h2
 have HB := Lib.hid (And.intro hl hf)
 clear h1 h2 hl hf
 go_enter Tryz.func59, Tryz.ntmps59
 go_wp2_with (rw [wpl_id]; first
  | (refine wpl_box H _ _ rfl (wnt rfl) rfl (fun b w' H2 => ?_); clear H; have H := H2; clear H2)
  | (refine wpl_new H _ rfl (wnt rfl) Tryz.zeroValue46 rfl (fun b w' H2 => ?_); simp only [Value.cells] at H2; clear H; have H := H2; clear H2)
  | (refine wpl_lit0 el9 H rfl (wnt rfl) (fun b w' H2 => ?_); clear H; have H := H2; clear H2)
  | (refine wpl_lit0 el3 H rfl (wnt rfl) (fun b w' H2 => ?_); clear H; have H := H2; clear H2)
  | (refine wpl_ld H 1 rfl _ _ rfl (wnt rfl) (by exact rfl) (notAgg _ (by decide)) (by exact rfl) ?_)
  | (refine wpl_app el9 H 0 rfl _ _ rfl (wnt rfl) rfl rfl (HL.out.low H.out.low) (strs_one _) (by have := HB.out; omega) (Nat.zero_add _) rfl (fun A c w' H2 => ?_); simp only [List.set_cons_succ, List.set_cons_zero] at H2; clear H; have H := H2; clear H2)
  | (refine wpl_app el3 H 0 rfl _ _ rfl (wnt rfl) rfl rfl (HF.out.low H.out.low) (nums_one _) (by have := HB.out; omega) (Nat.zero_add _) rfl (fun A c w' H2 => ?_); simp only [List.set_cons_succ, List.set_cons_zero] at H2; clear H; have H := H2; clear H2)
  | (refine wpl_st H 1 rfl rfl _ _ _ rfl (wnt rfl) (by exact rfl) (by (conv => lhs; whnf) <;> exact rfl) (oneSize _ (by decide)) rfl (by kernel_rfl) (by simp only [sc, pc, Value.cells, List.setIfInBounds_toArray, List.set_cons_succ, List.set_cons_zero, List.drop_succ_cons, List.drop_zero, List.take_succ_cons, List.take_zero, splice, List.length_cons, List.length_nil, List.drop_nil, List.append_nil, List.nil_append, List.cons_append, Nat.zero_add, Nat.reduceAdd] <;> exact rfl) (fun w' H2 => ?_); simp only [List.set_cons_succ, List.set_cons_zero] at H2; clear H; have H := H2; clear H2)
  | (refine wpl_lda H 1 rfl _ _ rfl (wnt rfl) (by exact rfl) Tryz.isAgg46 Tryz.sizeOf46 (by kernel_rfl) (by simp only [sc, pc, Value.cells, List.setIfInBounds_toArray, List.set_cons_succ, List.set_cons_zero, List.drop_succ_cons, List.drop_zero, List.take_succ_cons, List.take_zero, splice, List.length_cons, List.length_nil, List.drop_nil, List.append_nil, List.nil_append, List.cons_append, Nat.zero_add, Nat.reduceAdd] <;> exact rfl) ?_)
  | (refine wpl_sta H 0 rfl rfl _ _ _ rfl (wnt rfl) (by exact rfl) (by exact rfl) Tryz.sizeOf46 (by kernel_rfl) (by kernel_rfl) (by kernel_rfl) (by simp only [sc, pc, Value.cells, List.setIfInBounds_toArray, List.set_cons_succ, List.set_cons_zero, List.drop_succ_cons, List.drop_zero, List.take_succ_cons, List.take_zero, splice, List.length_cons, List.length_nil, List.drop_nil, List.append_nil, List.nil_append, List.cons_append, Nat.zero_add, Nat.reduceAdd] <;> exact rfl) (fun w' H2 => ?_); simp only [List.set_cons_succ, List.set_cons_zero] at H2; clear H; have H := H2; clear H2))
 refine bodyPost_ret (res_cell rfl rfl (H.out.at_ (i := 0) rfl) (Tryz.isAgg46 _) (Tryz.sizeOf46 _) rfl) rfl ⟨_, _, rfl, H.out.row_ (i := 1) rfl, H.out.row_ (i := 0) rfl, H.out.low⟩
end Go.Proofs.YtklppnknllbfnaaGreat
