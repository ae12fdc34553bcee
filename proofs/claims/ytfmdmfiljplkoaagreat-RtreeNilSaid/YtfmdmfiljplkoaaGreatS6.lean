/- A node read from bytes: parse. Printed by mk_s6.py. -/
import Derived.Test.YtfmdmfiljplkoaaGreatS5
namespace Go.Proofs.YtfmdmfiljplkoaaGreat
open Go.RowKit Go.Maps Go.Shelf
set_option maxRecDepth 8000
set_option linter.unusedSimpArgs false
attribute [local go_sem] Oper.semAt_some
section
variable {P : Program} {ops : Array Oper} {rest : List Oper} {o : Oper} {a : Act} {Q : Exit → Act → World → Prop} {w0 w : World} {L : List Bx} {R : List Rx}
theorem exec_boxv {ev : Operand → Value} {o : Oper} {t : TypeId} {x : Operand} (ho : o.op = .box t x) {v : Value} (hx : ev x = v) : (execOp ev o).run P w = .ok (.value (.pointer (some ⟨w.heap.size, 0, none⟩))) (w.alloc (.cells v.cells t)) := by
  unfold execOp
  simp only [ho, hx]
  rfl
theorem wpl_boxv (H : Hid (Bxs w0 w L R)) (t : TypeId) (x : Operand) (ho : o.op = .box t x) (hgd : Want ops o a) {v : Value} (hx : a.eval x = v) {cs : Array Value} (hc : v.cells = cs)
    (k : ∀ b w', Hid (Bxs w0 w' (⟨b, cs, t⟩ :: L) R) → wpList P ops Q rest (a.put o.dst (.pointer (some ⟨b, 0, none⟩))) w') : WL P ops Q (o :: rest) a w := by
  subst hc
  exact wpl_run hgd (exec_boxv ho hx) (k _ _ (Lib.hid (H.out.push v.cells t)))
theorem i64_or_nat (a b : Nat) (ha : a < 4611686018427387904) (hb : b < 4611686018427387904) : bits .or .i64 (a : Int) (b : Int) = ((a ||| b : Nat) : Int) := by
  have hx : a ||| b < 2 ^ 62 := Nat.or_lt_two_pow (by omega) (by omega)
  show IntKind.i64.wrap ((BitVec.ofInt 64 (a : Int) ||| BitVec.ofInt 64 (b : Int)).toNat : Int) = _
  rw [BitVec.toNat_or, ofInt_u64 a (by omega), ofInt_u64 b (by omega), IntKind.wrap_i64]
  omega
theorem or_count (a b : Nat) (ha : a < 256) (hb : b < 256) : bits .or .i64 (a : Int) ((b : Int) * 256) = ((a + b * 256 : Nat) : Int) := by
  rw [show (b : Int) * 256 = ((b * 256 : Nat) : Int) by omega, i64_or_nat a _ (by omega) (by omega), Nat.or_comm, show b * 256 = 2 ^ 8 * b by omega, ← Nat.two_pow_add_eq_or_of_lt (by omega : a < 2 ^ 8)]
  congr 1
  omega
/-- Only the plain end is left. -/
def onlyN (Q : Exit → Act → World → Prop) : Exit → Act → World → Prop
  | .normal, a, w => Q .normal a w
  | _, _, _ => False
theorem region_cut {P : Program} {c : Code} {Q : Exit → Act → World → Prop} {a : Act} {w : World} (h : c.wp P (onlyN Q) a w) : c.wp P Q a w :=
  wp_mono h fun e a w hq => by
    cases e with
    | normal => exact hq
    | _ => exact hq.elim
theorem chunk_facts {T u m c : Nat} (h : 1 ≤ u ∧ T + u ≤ m) (h2 : m ≤ c ∧ m ≤ 100000) : ∃ E : Nat, wrap64 ((T : Int) + (u : Int)) = (E : Int) ∧ (E : Int) ≤ (c : Int) ∧ (T : Int) ≤ (E : Int) ∧ T ≤ E ∧ E - T = u ∧ ¬ E = T ∧ (0 : Int) ≤ E :=
  ⟨T + u, by unfold wrap64; omega, by omega, by omega, by omega, by omega, by omega, by omega⟩
theorem PsSt.stands (w : World) (L : List Bx) (R : List Rx) (d l : Nat) (o : Loop) : Stands fun v => PsSt w v L R d l o := fun _ _ k h => h.grew k
theorem Bxs.nilrow (h : Bxs w0 w L R) : Bxs w0 w L (⟨84, 5, .slice none 0 0, 0, []⟩ :: R) := h.own (Below.refl _ _) (World.ownsRow_nil _ _ _ _)
theorem Chunk_B (h : Bxs w0 w L R) (A : Option Addr) (n c : Nat) : Calls Tryz.prog 154 #[.slice A n c, .int .i64 40] w fun e w' => ∃ b1 b2, e = .returned (.func (.func 198) #[] #[.pointer (some ⟨b1, 0, none⟩), .pointer (some ⟨b2, 0, none⟩)]) ∧ Bxs w0 w' (⟨b2, #[.int .i64 40], 3⟩ :: ⟨b1, #[.slice A n c], 108⟩ :: L) R := by
  have H := Lib.hid h
  clear h
  go_enter Tryz.func154, Tryz.ntmps154
  go_wp2_with (rw [wpl_id]; first
    | (refine wpl_boxv H 108 _ rfl (by first | exact .inl rfl | exact .inr ⟨_, _, _, _, rfl, rfl, rfl, rfl⟩) rfl rfl (fun b1 w' H2 => ?_); clear H; have H := H2; clear H2)
    | (refine wpl_boxv H 3 _ rfl (by first | exact .inl rfl | exact .inr ⟨_, _, _, _, rfl, rfl, rfl, rfl⟩) rfl rfl (fun b2 w' H2 => ?_); clear H; have H := H2; clear H2)
    | (refine wpl_ld H 0 rfl _ _ rfl (by first | exact .inl rfl | exact .inr ⟨_, _, _, _, rfl, rfl, rfl, rfl⟩) (by exact rfl) Tryz.isAgg3 rfl ?_))
  go_ret
  exact ⟨_, _, rfl, H.out⟩
theorem num_at {w v : World} {p : Addr} {l s q : List Nat} {T : Nat} (hr : Rd w w.heap.size (some p) l) (hb : Below w.heap.size w v) (hs : s = l.drop 3) (hq : q = s.drop T) (h40 : 40 ≤ q.length) {f : Nat → Int} (hf : f = fun k => sgn (num ((q.drop (8 * k)).take 8))) {k o n : Nat} (hk : k < 5) (ho : o = p.off + 3 + T + 8 * k) (hn : n = 40 - 8 * k) :
    Calls Tryz.prog 155 #[.slice (some ⟨p.block, o, none⟩) n n] v fun e w' => ∃ x : Int, e = .returned (.int .u64 x) ∧ IntKind.i64.wrap x = f k ∧ v = w' := by
  have ha : p.add (3 + T + 8 * k) = ⟨p.block, o, none⟩ := by
    unfold Addr.add
    rw [if_neg (by omega), ho]
    simp only [Addr.mk.injEq, true_and, and_true]
    omega
  have h2 : (l.drop (3 + T + 8 * k)) = q.drop (8 * k) := by rw [hq, hs, List.drop_drop, List.drop_drop, Nat.add_assoc]
  have h1 := ((hr.below hb hb.size).drop_ (3 + T + 8 * k)).take_ n
  rw [ha, h2] at h1
  have hl : ((q.drop (8 * k)).take n).length = n := by rw [List.length_take, List.length_drop]; omega
  refine (rnum_any _ _ n n v hl h1 (by omega)).mono ?_
  rintro e w' ⟨rfl, rfl⟩
  refine ⟨_, rfl, ?_, rfl⟩
  rw [List.take_take, Nat.min_eq_left (by omega), hf]
  rfl
theorem wpH_pair {P : Program} {ops : Array Oper} {Q : Exit → Act → World → Prop} {md : Region.Mode} {S : World → Prop} {i j d1 d2 : Nat} {oi oj : Oper} {v1 v2 : Value} {fuel : Nat} {listed : Array Bool} {T : Array Value} {D : List Deferred} {w w2 : World}
    (hr : Region.ready md ops listed = [i, j]) (hr1 : Region.ready md ops (listed.setIfInBounds i true) = [j]) (hr2 : Region.ready md ops (listed.setIfInBounds j true) = [i]) (hi : ops[i]? = some oi) (hj : ops[j]? = some oj) (hd1 : oi.dst = some d1) (hd2 : oj.dst = some d2) (hd : d1 ≠ d2) (hij : i ≠ j)
    (hw1 : Region.wanted oi (yielded ops T) = true) (hw2 : Region.wanted oj (yielded ops T) = true) (hw1' : Region.wanted oi (yielded ops (T.setIfInBounds d2 v2)) = true) (hw2' : Region.wanted oj (yielded ops (T.setIfInBounds d1 v1)) = true)
    (hrun1 : (execOp (Act.eval { tmps := T, defers := D }) oi).run P w = .ok (.value v1) w) (hrun1' : (execOp (Act.eval { tmps := T.setIfInBounds d2 v2, defers := D }) oi).run P w2 = .ok (.value v1) w2)
    (hrun2 : (execOp (Act.eval { tmps := T, defers := D }) oj).run P w = .ok (.value v2) w2) (hrun2' : (execOp (Act.eval { tmps := T.setIfInBounds d1 v1, defers := D }) oj).run P w = .ok (.value v2) w2) (hS : S w) (hS2 : S w2)
    (h : wpAnyH P md ops Q S fuel ((listed.setIfInBounds i true).setIfInBounds j true) { tmps := (T.setIfInBounds d1 v1).setIfInBounds d2 v2, defers := D } w2) : wpAnyH P md ops Q S (fuel + 2) listed { tmps := T, defers := D } w := by
  refine wpAnyH_all hr (by simp) fun k hk => ?_
  rcases List.mem_cons.1 hk with rfl | hk
  · unfold Go.wpOp
    simp only [hi, hw1, if_true]
    refine .inl ?_
    unfold Oper.wp
    rw [hrun1]
    simp only [Oper.upon, Act.put, hd1]
    exact ⟨hS, wpH_run hr1 hj hd2 hw2' hrun2' hS2 h⟩
  · obtain rfl : k = j := by simpa using hk
    unfold Go.wpOp
    simp only [hj, hw2, if_true]
    refine .inl ?_
    unfold Oper.wp
    rw [hrun2]
    simp only [Oper.upon, Act.put, hd2]
    refine ⟨hS2, wpH_run hr2 hi hd1 hw1' hrun1' hS2 ?_⟩
    rw [Array.setIfInBounds_comm _ _ (Ne.symm hij), Array.setIfInBounds_comm _ _ (Ne.symm hd)]
    exact h
theorem cellsE_snoc (z : Nat) (es : List En) (q : List Nat) (f : Nat → Int) (hf : f = fun k => sgn (num ((q.drop (8 * k)).take 8))) {ty : TypeId} (hty : tyE z = ty) :
    cellsE z es ++ (#[.int .i64 (f 0), .int .i64 (f 1), .int .i64 (f 2), .int .i64 (f 3), .iface ty (.int .i64 (f 4))] : Array Value).toList = cellsE z (es ++ [entAt q]) := by
  subst hf hty
  unfold cellsE
  rw [List.flatMap_append]
  congr 1
theorem goP_next {cn t T : Nat} {s q : List Nat} {es : List En} (h : goP cn s = es ++ goP (cn - t) (s.drop T)) (ht : t < cn) (hq : q = s.drop T) (h40 : 40 ≤ q.length) : goP cn s = (es ++ [entAt q]) ++ goP (cn - (t + 1)) (s.drop (T + 40)) := by
  rw [h, show cn - t = (cn - (t + 1)) + 1 by omega, ← hq, goP_step h40, List.append_assoc, hq, List.drop_drop]
  rfl
theorem meas_step {m T : Nat} (h1 : m - (T + 40) < m - T) (h2 : wrap64 ((T : Int) + 40) = ((T + 40 : Nat) : Int)) : m - (intOf (.int .i64 (wrap64 ((T : Int) + 40)))).toNat < m - (intOf (.int .i64 (T : Int))).toNat := by
  rw [h2]
  show m - ((T + 40 : Nat) : Int).toNat < m - ((T : Nat) : Int).toNat
  omega
theorem step_facts {T m u t cn : Nat} (h : 1 ≤ u ∧ T + u ≤ m) (hu : u = 40) (h2 : m ≤ 100000) (hT : T = 40 * t) (ht : t < cn) : T + 40 ≤ m ∧ T + 40 = 40 * (t + 1) ∧ t + 1 ≤ cn ∧ wrap64 ((T : Int) + 40) = ((T + 40 : Nat) : Int) ∧ m - (T + 40) < m - T := by
  refine ⟨by omega, by omega, by omega, by unfold wrap64; omega, by omega⟩
def xc (f : Nat → Int) (k : Nat) : Array Value := #[.int .i64 (if 0 < k then f 0 else 0), .int .i64 (if 1 < k then f 1 else 0), .int .i64 (if 2 < k then f 2 else 0), .int .i64 (if 3 < k then f 3 else 0), .int .i64 (if 4 < k then f 4 else 0)]
end
set_option maxHeartbeats 8000000 in
theorem parse_any {w : World} {p : Addr} {l : List Nat} {n c : Nat} (hr : Rd w w.heap.size (some p) l) (hn : l.length = n) (h3 : 4 ≤ n) (hnc : n ≤ c) (hb : n ≤ 100000) :
    Calls Tryz.prog 94 #[.slice (some p) n c] w fun e w' => ∃ pn A' c', e = .returned (.pointer (some ⟨pn, 0, none⟩)) ∧ Bxs w w' [⟨pn, #[.int .i64 (l.getD 0 0 : Nat), .slice A' (parseL l).length c'], 93⟩] [⟨84, 5, .slice A' (parseL l).length c', (parseL l).length, cellsE (l.getD 0 0) (parseL l)⟩] := by
  have H := Lib.hid (Bxs.start w)
  have HR := Lib.hid hr
  have HB := Lib.hid (And.intro hn (And.intro h3 (And.intro hnc hb)))
  obtain ⟨q0, e0, hq0, c0, l0⟩ := hr.get (k := 0) (by omega)
  cases e0
  obtain ⟨q1, e1, _, c1, l1⟩ := hr.get (k := 1) (by omega)
  cases e1
  obtain ⟨q2, e2, _, c2, l2⟩ := hr.get (k := 2) (by omega)
  cases e2
  obtain ⟨z0, hz0⟩ : ∃ z, z = l[0] := ⟨_, rfl⟩
  obtain ⟨z1, hz1⟩ : ∃ z, z = l[1] := ⟨_, rfl⟩
  obtain ⟨z2, hz2⟩ : ∃ z, z = l[2] := ⟨_, rfl⟩
  rw [← hz0] at c0 l0
  rw [← hz1] at c1 l1
  rw [← hz2] at c2 l2
  have HZ := Lib.hid (And.intro (show l.getD 0 0 = z0 by rw [hz0]; simp [List.getD, List.getElem?_eq_getElem (show 0 < l.length by omega)]) (show countL l = z1 + z2 * 256 by unfold countL; rw [hz1, hz2]; simp [List.getD, List.getElem?_eq_getElem (show 1 < l.length by omega), List.getElem?_eq_getElem (show 2 < l.length by omega)]))
  have hc0 : w.cell? p = some (.int .u8 z0) := by simpa [Addr.add] using c0
  have ad : ∀ (q : Addr) (j : Nat), j ≠ 0 → q.add j = ⟨q.block, q.off + j, none⟩ := fun q j hj => by unfold Addr.add; simp [hj]
  rw [ad _ 1 (by decide)] at c1
  rw [ad _ 2 (by decide)] at c2
  clear c0 hz0 hz1 hz2 ad
  have hz0' : (0 : Int) < n := by omega
  have hz1' : (1 : Int) < n := by omega
  have hz2' : (2 : Int) < n := by omega
  have hc3 : ¬ c = 3 := by omega
  have hn3 : (3 : Int) ≤ n := by omega
  have hc3' : (3 : Int) ≤ c := by omega
  clear hr hn h3 hnc hb
  refine (callsIn_wide (n := 5)).1 ?_
  refine callsIn_of_wp_marks Tryz.func94 rfl trivial ?_
  simp only [Tryz.ntmps94, List.size_toArray, List.length_cons, List.length_nil, Nat.reduceAdd, Nat.reduceSub, Array.replicate_succ, Array.replicate_zero, List.push_toArray, List.append_toArray, List.nil_append, List.cons_append]
  refine wpIn_wide.2 ?_
  go_wp2_with (rw [wpl_id]; first
    | (refine wpl_box H 93 _ rfl (by first | exact .inl rfl | exact .inr ⟨_, _, _, _, rfl, rfl, rfl, rfl⟩) rfl (fun pn w' H2 => ?_); clear H; have H := H2; clear H2)
    | (refine wpl_new H _ rfl (by first | exact .inl rfl | exact .inr ⟨_, _, _, _, rfl, rfl, rfl, rfl⟩) Tryz.zeroValue88 rfl (fun b3 w' H2 => ?_); simp only [Value.cells] at H2; clear H; have H := H2; clear H2)
    | (refine wpl_st H 0 rfl rfl _ _ _ rfl (by first | exact .inl rfl | exact .inr ⟨_, _, _, _, rfl, rfl, rfl, rfl⟩) (by exact rfl) (by (conv => lhs; whnf) <;> exact rfl) Tryz.sizeOf88 rfl (by kernel_rfl) rfl (fun w' H2 => ?_); simp only [List.set_cons_succ, List.set_cons_zero, List.setIfInBounds_toArray] at H2; clear H; have H := H2; clear H2))
  dsimp only [Act.put]
  simp only [List.setIfInBounds_toArray, List.set_cons_zero, List.set_cons_succ]
  have HC := Lib.hid (fun (v : World) (k : Below w.heap.size w v) => (show v.cell? ⟨p.block, p.off + 1, none⟩ = some (.int .u8 z1) ∧ v.cell? ⟨p.block, p.off + 2, none⟩ = some (.int .u8 z2) from ⟨by rw [← c1]; exact World.cell?_of_block (k.block _ hq0), by rw [← c2]; exact World.cell?_of_block (k.block _ hq0)⟩))
  obtain ⟨d1, d2⟩ := HC.out _ H.out.low
  have OR := Lib.hid (or_count z1 z2 l1 l2)
  clear c1 c2 hc0 hq0
  refine region_cut ?_
  obtain ⟨Sw0, Sw0d⟩ : ∃ S : World → Prop, S = fun v : World => Bxs w v [⟨b3, #[.pointer (some ⟨pn, 0, none⟩)], 88⟩, ⟨pn, #[.int .i64 z0, .slice none 0 0], 93⟩] [] ∧ v.cell? ⟨p.block, p.off + 1, none⟩ = some (.int .u8 z1) ∧ v.cell? ⟨p.block, p.off + 2, none⟩ = some (.int .u8 z2) := ⟨_, rfl⟩
  have Sw0t0 : Stands Sw0 := by rw [Sw0d]; exact ((Bxs.stands _ _ _).and ((stands_cell _ _).and (stands_cell _ _)))
  have Sw0u0 : ∀ v, Sw0 v → Bxs w v [⟨b3, #[.pointer (some ⟨pn, 0, none⟩)], 88⟩, ⟨pn, #[.int .i64 z0, .slice none 0 0], 93⟩] [] ∧ v.cell? ⟨p.block, p.off + 1, none⟩ = some (.int .u8 z1) ∧ v.cell? ⟨p.block, p.off + 2, none⟩ = some (.int .u8 z2) := fun v h => by rw [Sw0d] at h; exact h
  have Sw0m0 : ∀ v, (Bxs w v [⟨b3, #[.pointer (some ⟨pn, 0, none⟩)], 88⟩, ⟨pn, #[.int .i64 z0, .slice none 0 0], 93⟩] [] ∧ v.cell? ⟨p.block, p.off + 1, none⟩ = some (.int .u8 z1) ∧ v.cell? ⟨p.block, p.off + 2, none⟩ = some (.int .u8 z2)) → Sw0 v := fun v h => by rw [Sw0d]; exact h
  have Sw0u := Lib.hid Sw0u0
  have Sw0m := Lib.hid Sw0m0
  have Sw0t := Lib.hid Sw0t0
  clear Sw0d Sw0u0 Sw0m0 Sw0t0
  refine wp_region_X (S := Sw0) (by kernel_rfl) (Sw0m.out _ ⟨H.out.drew, d1, d2⟩) ?_
  refine wpX_take (i := 0) (v := ?_) Sw0t.out rfl rfl (by kernel_rfl) (by kernel_rfl) (by kernel_rfl) (by kernel_rfl) (fun _ _ _ h => h) (SteadyX.value (by rfl) ?_) ?_
  rotate_left
  · (intro w_ hS; go_simp; try with_reducible rfl)
  simp only [List.setIfInBounds_toArray, List.set_cons_zero, List.set_cons_succ]
  refine wpX_take (i := 1) (v := ?_) Sw0t.out rfl rfl (by kernel_rfl) (by kernel_rfl) (by kernel_rfl) (by kernel_rfl) (fun _ _ _ h => h) (SteadyX.value (by rfl) ?_) ?_
  rotate_left
  · (intro w_ hS; go_simp; try with_reducible rfl)
  simp only [List.setIfInBounds_toArray, List.set_cons_zero, List.set_cons_succ]
  refine wpX_take (i := 2) (v := ?_) Sw0t.out rfl rfl (by kernel_rfl) (by kernel_rfl) (by kernel_rfl) (by kernel_rfl) (fun _ _ _ h => h) (SteadyX.value (by rfl) ?_) ?_
  rotate_left
  · (intro w_ hS; obtain ⟨q0, q1, q2⟩ := Sw0u.out _ hS; (clear q0); go_simp; try with_reducible rfl)
  simp only [List.setIfInBounds_toArray, List.set_cons_zero, List.set_cons_succ]
  refine wpX_take (i := 3) (v := .int .i64 (z1 : Int)) Sw0t.out rfl rfl (by kernel_rfl) (by kernel_rfl) (by kernel_rfl) (by kernel_rfl) (fun _ _ _ h => h) (SteadyX.value (by rfl) (fun w_ hS => by obtain ⟨q0, q1, q2⟩ := Sw0u.out _ hS; (go_simp; try (rw [IntKind.wrap_i64]; omega)))) ?_
  simp only [List.setIfInBounds_toArray, List.set_cons_zero, List.set_cons_succ]
  refine wpX_take (i := 4) (v := ?_) Sw0t.out rfl rfl (by kernel_rfl) (by kernel_rfl) (by kernel_rfl) (by kernel_rfl) (fun _ _ _ h => h) (SteadyX.value (by rfl) ?_) ?_
  rotate_left
  · (intro w_ hS; go_simp; try with_reducible rfl)
  simp only [List.setIfInBounds_toArray, List.set_cons_zero, List.set_cons_succ]
  refine wpX_take (i := 5) (v := ?_) Sw0t.out rfl rfl (by kernel_rfl) (by kernel_rfl) (by kernel_rfl) (by kernel_rfl) (fun _ _ _ h => h) (SteadyX.value (by rfl) ?_) ?_
  rotate_left
  · (intro w_ hS; go_simp; try with_reducible rfl)
  simp only [List.setIfInBounds_toArray, List.set_cons_zero, List.set_cons_succ]
  refine wpX_take (i := 6) (v := ?_) Sw0t.out rfl rfl (by kernel_rfl) (by kernel_rfl) (by kernel_rfl) (by kernel_rfl) (fun _ _ _ h => h) (SteadyX.value (by rfl) ?_) ?_
  rotate_left
  · (intro w_ hS; obtain ⟨q0, q1, q2⟩ := Sw0u.out _ hS; (clear q0); go_simp; try with_reducible rfl)
  simp only [List.setIfInBounds_toArray, List.set_cons_zero, List.set_cons_succ]
  refine wpX_take (i := 7) (v := .int .i64 (z2 : Int)) Sw0t.out rfl rfl (by kernel_rfl) (by kernel_rfl) (by kernel_rfl) (by kernel_rfl) (fun _ _ _ h => h) (SteadyX.value (by rfl) (fun w_ hS => by obtain ⟨q0, q1, q2⟩ := Sw0u.out _ hS; (go_simp; try (rw [IntKind.wrap_i64]; omega)))) ?_
  simp only [List.setIfInBounds_toArray, List.set_cons_zero, List.set_cons_succ]
  refine wpX_take (i := 8) (v := .int .i64 ((z2 : Int) * 256)) Sw0t.out rfl rfl (by kernel_rfl) (by kernel_rfl) (by kernel_rfl) (by kernel_rfl) (fun _ _ _ h => h) (SteadyX.value (by rfl) (fun w_ hS => by obtain ⟨q0, q1, q2⟩ := Sw0u.out _ hS; (go_simp; try (rw [IntKind.wrap_i64]; omega)))) ?_
  simp only [List.setIfInBounds_toArray, List.set_cons_zero, List.set_cons_succ]
  refine wpX_take (i := 9) (v := .int .i64 ((z1 + z2 * 256 : Nat) : Int)) Sw0t.out rfl rfl (by kernel_rfl) (by kernel_rfl) (by kernel_rfl) (by kernel_rfl) (fun _ _ _ h => h) (SteadyX.value (by rfl) (fun w_ hS => by obtain ⟨q0, q1, q2⟩ := Sw0u.out _ hS; (have OR2 := OR.out; go_simp; try exact OR2))) ?_
  simp only [List.setIfInBounds_toArray, List.set_cons_zero, List.set_cons_succ]
  refine wpX_one (i := 10) (by kernel_rfl) (fun w_ hS => ?_)
  obtain ⟨q0, q1, q2⟩ := Sw0u.out _ hS
  obtain ⟨b4, hb4⟩ : ∃ b4, b4 = w_.heap.size := ⟨_, rfl⟩
  have hbn := (Below.refl w_.heap.size w_).alloc (Nat.le_refl _) (.cells #[.int .i64 0] 3)
  have qn := q0.push #[.int .i64 0] 3
  rw [← hb4] at qn
  obtain ⟨Sw1, Sw1d⟩ : ∃ S : World → Prop, S = fun v : World => Bxs w v [⟨b3, #[.pointer (some ⟨pn, 0, none⟩)], 88⟩, ⟨pn, #[.int .i64 z0, .slice none 0 0], 93⟩] [] ∧ v.cell? ⟨p.block, p.off + 1, none⟩ = some (.int .u8 z1) ∧ v.cell? ⟨p.block, p.off + 2, none⟩ = some (.int .u8 z2) ∧ Bxs w v [⟨b4, #[.int .i64 0], 3⟩, ⟨b3, #[.pointer (some ⟨pn, 0, none⟩)], 88⟩, ⟨pn, #[.int .i64 z0, .slice none 0 0], 93⟩] [] := ⟨_, rfl⟩
  have Sw1t0 : Stands Sw1 := by rw [Sw1d]; exact ((Bxs.stands _ _ _).and ((stands_cell _ _).and ((stands_cell _ _).and (Bxs.stands _ _ _))))
  have Sw1u0 : ∀ v, Sw1 v → Bxs w v [⟨b3, #[.pointer (some ⟨pn, 0, none⟩)], 88⟩, ⟨pn, #[.int .i64 z0, .slice none 0 0], 93⟩] [] ∧ v.cell? ⟨p.block, p.off + 1, none⟩ = some (.int .u8 z1) ∧ v.cell? ⟨p.block, p.off + 2, none⟩ = some (.int .u8 z2) ∧ Bxs w v [⟨b4, #[.int .i64 0], 3⟩, ⟨b3, #[.pointer (some ⟨pn, 0, none⟩)], 88⟩, ⟨pn, #[.int .i64 z0, .slice none 0 0], 93⟩] [] := fun v h => by rw [Sw1d] at h; exact h
  have Sw1m0 : ∀ v, (Bxs w v [⟨b3, #[.pointer (some ⟨pn, 0, none⟩)], 88⟩, ⟨pn, #[.int .i64 z0, .slice none 0 0], 93⟩] [] ∧ v.cell? ⟨p.block, p.off + 1, none⟩ = some (.int .u8 z1) ∧ v.cell? ⟨p.block, p.off + 2, none⟩ = some (.int .u8 z2) ∧ Bxs w v [⟨b4, #[.int .i64 0], 3⟩, ⟨b3, #[.pointer (some ⟨pn, 0, none⟩)], 88⟩, ⟨pn, #[.int .i64 z0, .slice none 0 0], 93⟩] []) → Sw1 v := fun v h => by rw [Sw1d]; exact h
  have Sw1u := Lib.hid Sw1u0
  have Sw1m := Lib.hid Sw1m0
  have Sw1t := Lib.hid Sw1t0
  clear Sw1d Sw1u0 Sw1m0 Sw1t0
  have st_ : Sw1 (w_.alloc (.cells #[.int .i64 0] 3)) := Sw1m.out _ ⟨q0.grew hbn, cell_grew q1 hbn, cell_grew q2 hbn, qn⟩
  refine wpX_run (i := 10) (v := .pointer (some ⟨b4, 0, none⟩)) (w' := (w_.alloc (.cells #[.int .i64 0] 3))) Sw1 rfl rfl (by rfl) (by subst hb4; exact exec_alloc rfl (Tryz.zeroValue3 _)) Sw1t.out (.inr fun v h => Sw0m.out _ (by obtain ⟨q0, q1, q2, q3⟩ := Sw1u.out _ h; exact ⟨q0, q1, q2⟩)) st_ ?_
  clear hS st_ hbn qn hb4 q0 q1 q2
  clear w_
  simp only [List.setIfInBounds_toArray, List.set_cons_zero, List.set_cons_succ]
  refine wpX_one (i := 11) (by kernel_rfl) (fun w_ hS => ?_)
  obtain ⟨q0, q1, q2, q3⟩ := Sw1u.out _ hS
  obtain ⟨Sw2, Sw2d⟩ : ∃ S : World → Prop, S = fun v : World => Bxs w v [⟨b4, #[.int .i64 ((z1 + z2 * 256 : Nat) : Int)], 3⟩, ⟨b3, #[.pointer (some ⟨pn, 0, none⟩)], 88⟩, ⟨pn, #[.int .i64 z0, .slice none 0 0], 93⟩] [] := ⟨_, rfl⟩
  have Sw2t0 : Stands Sw2 := by rw [Sw2d]; exact (Bxs.stands _ _ _)
  have Sw2u0 : ∀ v, Sw2 v → Bxs w v [⟨b4, #[.int .i64 ((z1 + z2 * 256 : Nat) : Int)], 3⟩, ⟨b3, #[.pointer (some ⟨pn, 0, none⟩)], 88⟩, ⟨pn, #[.int .i64 z0, .slice none 0 0], 93⟩] [] := fun v h => by rw [Sw2d] at h; exact h
  have Sw2m0 : ∀ v, (Bxs w v [⟨b4, #[.int .i64 ((z1 + z2 * 256 : Nat) : Int)], 3⟩, ⟨b3, #[.pointer (some ⟨pn, 0, none⟩)], 88⟩, ⟨pn, #[.int .i64 z0, .slice none 0 0], 93⟩] []) → Sw2 v := fun v h => by rw [Sw2d]; exact h
  have Sw2u := Lib.hid Sw2u0
  have Sw2m := Lib.hid Sw2m0
  have Sw2t := Lib.hid Sw2t0
  clear Sw2d Sw2u0 Sw2m0 Sw2t0
  have st_ : Sw2 (w_.setCell ⟨b4, 0, none⟩ (.int .i64 ((z1 + z2 * 256 : Nat) : Int))) := Sw2m.out _ (q3.set (i := 0) rfl 0 _)
  refine wpX_store (i := 11) (w' := (w_.setCell ⟨b4, 0, none⟩ (.int .i64 ((z1 + z2 * 256 : Nat) : Int)))) Sw2 rfl rfl (by rfl) (by exact exec_store 3 (.tmp 4) (.tmp 24) rfl (vx := .pointer (some ⟨b4, 0, none⟩)) rfl (vy := .int .i64 ((z1 + z2 * 256 : Nat) : Int)) rfl (run_store_one (Tryz.sizeOf3 _) (q3.at_ (i := 0) rfl) (by show 0 < 1; decide) rfl)) Sw2t.out (.inl (by kernel_rfl)) st_ ?_
  clear hS st_  q0 q1 q2 q3
  clear w_
  refine wpX_done (by kernel_rfl) (fun W hS => ?_) _
  have q0 := Sw2u.out _ hS
  clear hS Sw0u Sw0m Sw0t Sw1u Sw1m Sw1t Sw2u Sw2m Sw2t
  clear Sw0 Sw1 Sw2
  dsimp only [onlyN]
  obtain ⟨cn, hcn⟩ : ∃ cn, cn = z1 + z2 * 256 := ⟨_, rfl⟩
  rw [← hcn] at q0
  have HCN := Lib.hid (And.intro hcn (show cn ≤ 100000 by omega))
  have H2 := Lib.hid q0; clear H q0; have H := H2; clear H2
  clear d1 d2 OR HC hcn
  go_wp2_with fail
  refine (Chunk_B H.out _ _ _).mono ?_
  rintro e w2 ⟨b1, b2, rfl, hq⟩
  have H2 := Lib.hid hq.nilrow; clear H hq; have H := H2; clear H2
  go_wp2_with fail
  refine (wpIn_wide (n := 5)).1 ?_
  refine wpIn_range rfl (by decide) (gf := 198) (lb := #[.pointer (some ⟨b1, 0, none⟩), .pointer (some ⟨b2, 0, none⟩)]) rfl trivial (enters_of Tryz.func198 (by kernel_rfl) rfl) ?_
  intro fn hfn W1 hb1 hz1 hD hL
  generalize hrec : recOf fn _ _ _ _ _ = rec at hL ⊢
  have HREC := Lib.hid hrec
  clear hrec
  have R1 : PsSt w W1 [⟨b2, #[.int .i64 40], 3⟩, ⟨b1, #[.slice (some ⟨p.block, p.off + 3, none⟩) (n - 3) (c - 3)], 108⟩, ⟨b4, #[.int .i64 (cn : Int)], 3⟩, ⟨b3, #[.pointer (some ⟨pn, 0, none⟩)], 88⟩, ⟨pn, #[.int .i64 z0, .slice none 0 0], 93⟩] [⟨84, 5, .slice none 0 0, 0, []⟩] w2.heap.size (w2.heap.size + 1) (rec .ready none) :=
    ⟨H.out.grew hb1, hD, hL, H.out.low.size, Nat.le_trans H.out.low.size (by omega)⟩
  have RR := Lib.hid R1
  clear H hD hL hb1 R1 hz1
  generalize w2.heap.size = d at *
  refine callsIn_of_wp Tryz.func198 rfl trivial ?_
  simp only [Tryz.ntmps198, List.size_toArray, List.length_cons, List.length_nil, Nat.reduceAdd, Nat.reduceSub, Array.replicate_succ, Array.replicate_zero, List.push_toArray, List.append_toArray, List.nil_append, List.cons_append]
  gi_wp2_with fail
  obtain ⟨s, hs⟩ : ∃ s, s = l.drop 3 := ⟨_, rfl⟩
  obtain ⟨m, hm⟩ : ∃ m, m = n - 3 := ⟨_, rfl⟩
  have HM := Lib.hid (And.intro hs (And.intro hm (show s.length = m by rw [hs, hm, List.length_drop, HB.out.1])))
  rw [← hm] at RR
  clear hs hm
  gi_loopw [4] (fun iv wr => ∃ (t T : Nat) (es : List En) (A' : Option Addr) (c' : Nat), Hid (T = 40 * t) ∧ T ≤ m ∧ t ≤ cn ∧ iv = .int .i64 (T : Int) ∧ Hid (PsSt w wr [⟨b2, #[.int .i64 40], 3⟩, ⟨b1, #[.slice (some ⟨p.block, p.off + 3, none⟩) m (c - 3)], 108⟩, ⟨b4, #[.int .i64 (cn : Int)], 3⟩, ⟨b3, #[.pointer (some ⟨pn, 0, none⟩)], 88⟩, ⟨pn, #[.int .i64 z0, .slice A' t c'], 93⟩] [⟨84, 5, .slice A' t c', t, cellsE z0 es⟩] d (d + 1) (rec .ready none) ∧ es.length = t ∧ goP cn s = es ++ goP (cn - t) (s.drop T))) (fun iv _ => m - (intOf iv).toNat)
  case atStart => exact ⟨0, 0, [], none, 0, Lib.hid rfl, by omega, by omega, rfl, Lib.hid ⟨RR.out, rfl, by simp⟩⟩
  case round =>
    obtain ⟨t, T, es, A', c', HT, ht, htc, rfl, B⟩ := hrel
    clear RR
    have cb1 := (B.out.1.bx.at_ (i := 1) rfl).cell 0
    have cb2 := (B.out.1.bx.at_ (i := 0) rfl).cell 0
    simp only [List.getElem?_toArray, List.getElem?_cons_zero] at cb1 cb2
    by_cases hlt : T < m
    · have hlt' : (T : Int) < (m : Int) := by omega
      have hmb := HM.out.2.1
      have hbb := HB.out
      obtain ⟨u, hu⟩ : ∃ u, u = min 40 (m - T) := ⟨_, rfl⟩
      have hu1 : 1 ≤ u ∧ T + u ≤ m := by omega
      have HU := Lib.hid (And.intro hu (And.intro hu1 (show m ≤ c - 3 ∧ m ≤ 100000 by omega)))
      have hcne : ¬ c - 3 = T := by omega
      have hq3 : (T : Int) ≤ (m : Int) := by omega
      have hq4 : (T : Int) ≤ ((c - 3 : Nat) : Int) := by omega
      clear hmb hbb hu hu1
      gi_wp2_with fail
      refine wpIn_wide.2 (region_cut ?_)
      obtain ⟨Si0, Si0d⟩ : ∃ S : World → Prop, S = fun v : World => PsSt w v [⟨b2, #[.int .i64 40], 3⟩, ⟨b1, #[.slice (some ⟨p.block, p.off + 3, none⟩) m (c - 3)], 108⟩, ⟨b4, #[.int .i64 (cn : Int)], 3⟩, ⟨b3, #[.pointer (some ⟨pn, 0, none⟩)], 88⟩, ⟨pn, #[.int .i64 z0, .slice A' t c'], 93⟩] [⟨84, 5, .slice A' t c', t, cellsE z0 es⟩] d (d + 1) (rec .ready none) ∧ v.cell? ⟨b1, 0, none⟩ = some (.slice (some ⟨p.block, p.off + 3, none⟩) m (c - 3)) ∧ v.cell? ⟨b2, 0, none⟩ = some (.int .i64 40) := ⟨_, rfl⟩
      have Si0t0 : Stands Si0 := by rw [Si0d]; exact ((PsSt.stands _ _ _ _ _ _).and ((stands_cell _ _).and (stands_cell _ _)))
      have Si0u0 : ∀ v, Si0 v → PsSt w v [⟨b2, #[.int .i64 40], 3⟩, ⟨b1, #[.slice (some ⟨p.block, p.off + 3, none⟩) m (c - 3)], 108⟩, ⟨b4, #[.int .i64 (cn : Int)], 3⟩, ⟨b3, #[.pointer (some ⟨pn, 0, none⟩)], 88⟩, ⟨pn, #[.int .i64 z0, .slice A' t c'], 93⟩] [⟨84, 5, .slice A' t c', t, cellsE z0 es⟩] d (d + 1) (rec .ready none) ∧ v.cell? ⟨b1, 0, none⟩ = some (.slice (some ⟨p.block, p.off + 3, none⟩) m (c - 3)) ∧ v.cell? ⟨b2, 0, none⟩ = some (.int .i64 40) := fun v h => by rw [Si0d] at h; exact h
      have Si0m0 : ∀ v, (PsSt w v [⟨b2, #[.int .i64 40], 3⟩, ⟨b1, #[.slice (some ⟨p.block, p.off + 3, none⟩) m (c - 3)], 108⟩, ⟨b4, #[.int .i64 (cn : Int)], 3⟩, ⟨b3, #[.pointer (some ⟨pn, 0, none⟩)], 88⟩, ⟨pn, #[.int .i64 z0, .slice A' t c'], 93⟩] [⟨84, 5, .slice A' t c', t, cellsE z0 es⟩] d (d + 1) (rec .ready none) ∧ v.cell? ⟨b1, 0, none⟩ = some (.slice (some ⟨p.block, p.off + 3, none⟩) m (c - 3)) ∧ v.cell? ⟨b2, 0, none⟩ = some (.int .i64 40)) → Si0 v := fun v h => by rw [Si0d]; exact h
      have Si0u := Lib.hid Si0u0
      have Si0m := Lib.hid Si0m0
      have Si0t := Lib.hid Si0t0
      clear Si0d Si0u0 Si0m0 Si0t0
      refine wp_region_X (S := Si0) (by kernel_rfl) (Si0m.out _ ⟨B.out.1.grew ⟨rfl, rfl, rfl, Nat.le_refl _, fun _ _ => rfl⟩, cb1, cb2⟩) ?_
      refine wpX_take (i := 0) (v := ?_) Si0t.out rfl rfl (by kernel_rfl) (by kernel_rfl) (by kernel_rfl) (by kernel_rfl) (fun _ _ _ h => h) (SteadyX.value (by rfl) ?_) ?_
      rotate_left
      · (intro w_ hS; obtain ⟨q0, q1, q2⟩ := Si0u.out _ hS; (clear q0); go_simp; try with_reducible rfl)
      simp only [List.setIfInBounds_toArray, List.set_cons_zero, List.set_cons_succ]
      refine wpX_take (i := 1) (v := ?_) Si0t.out rfl rfl (by kernel_rfl) (by kernel_rfl) (by kernel_rfl) (by kernel_rfl) (fun _ _ _ h => h) (SteadyX.value (by rfl) ?_) ?_
      rotate_left
      · (intro w_ hS; obtain ⟨q0, q1, q2⟩ := Si0u.out _ hS; (clear q0); go_simp; try with_reducible rfl)
      simp only [List.setIfInBounds_toArray, List.set_cons_zero, List.set_cons_succ]
      refine wpX_take (i := 2) (v := ?_) Si0t.out rfl rfl (by kernel_rfl) (by kernel_rfl) (by kernel_rfl) (by kernel_rfl) (fun _ _ _ h => h) (SteadyX.value (by rfl) ?_) ?_
      rotate_left
      · (intro w_ hS; go_simp; try with_reducible rfl)
      simp only [List.setIfInBounds_toArray, List.set_cons_zero, List.set_cons_succ]
      refine wpX_take (i := 3) (v := ?_) Si0t.out rfl rfl (by kernel_rfl) (by kernel_rfl) (by kernel_rfl) (by kernel_rfl) (fun _ _ _ h => h) (SteadyX.value (by rfl) ?_) ?_
      rotate_left
      · (intro w_ hS; obtain ⟨q0, q1, q2⟩ := Si0u.out _ hS; (clear q0); go_simp; try with_reducible rfl)
      simp only [List.setIfInBounds_toArray, List.set_cons_zero, List.set_cons_succ]
      refine wpX_take (i := 4) (v := .int .i64 ((m - T : Nat) : Int)) Si0t.out rfl rfl (by kernel_rfl) (by kernel_rfl) (by kernel_rfl) (by kernel_rfl) (fun _ _ _ h => h) (SteadyX.value (by rfl) (fun w_ hS => by obtain ⟨q0, q1, q2⟩ := Si0u.out _ hS; (go_simp; try omega))) ?_
      simp only [List.setIfInBounds_toArray, List.set_cons_zero, List.set_cons_succ]
      refine wpX_take (i := 5) (v := .int .i64 (u : Int)) Si0t.out rfl rfl (by kernel_rfl) (by kernel_rfl) (by kernel_rfl) (by kernel_rfl) (fun _ _ _ h => h) (SteadyX.value (by rfl) (fun w_ hS => by obtain ⟨q0, q1, q2⟩ := Si0u.out _ hS; (have hu := HU.out.1; go_simp; try omega))) ?_
      simp only [List.setIfInBounds_toArray, List.set_cons_zero, List.set_cons_succ]
      refine wpX_take (i := 6) (v := ?_) Si0t.out rfl rfl (by kernel_rfl) (by kernel_rfl) (by kernel_rfl) (by kernel_rfl) (fun _ _ _ h => h) (SteadyX.value (by rfl) ?_) ?_
      rotate_left
      · (intro w_ hS; go_simp; try with_reducible rfl)
      simp only [List.setIfInBounds_toArray, List.set_cons_zero, List.set_cons_succ]
      refine wpX_done (by kernel_rfl) (fun W hS => ?_) _
      obtain ⟨q0, q1, q2⟩ := Si0u.out _ hS
      clear hS Si0u Si0m Si0t
      clear Si0
      dsimp only [onlyN]
      have B2 := Lib.hid (And.intro q0 B.out.2)
      clear B q0
      have B := B2
      clear B2
      obtain ⟨E, ew, hE1, hE2, hE3, hEu, hEn, hE4⟩ := chunk_facts HU.out.2.1 HU.out.2.2
      gi_wp2_with fail
      clear ew hE1 hE2 hE3 hEu hEn hE4 hcne hq3 hq4
      refine upon_yield (by intro h; cases h) ?_
      have dL := B.out.1.kl
      rw [← HREC.out] at dL
      refine yield_of trivial dL rfl ?_
      gi_wp2
      refine ⟨dL, ?_⟩
      intro W3 hT3
      have C3 := B.out.1.turned (o' := rec .busy none) (by rw [HREC.out] at hT3; exact hT3)
      have hpost : goP cn s = es ++ goP (cn - t) (s.drop T) := B.out.2.2
      have HP := Lib.hid (And.intro B.out.2.1 hpost)
      have hx3 := (C3.bx.at_ (i := 3) rfl).cell 0
      have hx4 := (C3.bx.at_ (i := 4) rfl).cell 1
      have hx2 := (C3.bx.at_ (i := 2) rfl).cell 0
      simp only [List.getElem?_toArray, List.getElem?_cons_succ, List.getElem?_cons_zero] at hx2 hx3 hx4
      clear hpost dL cb1 cb2 hT3 B
      have hcs : t = cn ∨ t < cn := by omega
      rcases hcs with hcs | hcs
      · gi_wp2_with fail
        obtain ⟨Sr0, Sr0d⟩ : ∃ S : World → Prop, S = fun v : World => PsSt w v [⟨b2, #[.int .i64 40], 3⟩, ⟨b1, #[.slice (some ⟨p.block, p.off + 3, none⟩) m (c - 3)], 108⟩, ⟨b4, #[.int .i64 (cn : Int)], 3⟩, ⟨b3, #[.pointer (some ⟨pn, 0, none⟩)], 88⟩, ⟨pn, #[.int .i64 z0, .slice A' t c'], 93⟩] [⟨84, 5, .slice A' t c', t, cellsE z0 es⟩] d (d + 1) (rec .busy none) ∧ v.cell? ⟨b3, 0, none⟩ = some (.pointer (some ⟨pn, 0, none⟩)) ∧ v.cell? ⟨pn, 1, none⟩ = some (.slice A' t c') ∧ v.cell? ⟨b4, 0, none⟩ = some (.int .i64 (cn : Int)) := ⟨_, rfl⟩
        have Sr0t0 : Stands Sr0 := by rw [Sr0d]; exact ((PsSt.stands _ _ _ _ _ _).and ((stands_cell _ _).and ((stands_cell _ _).and (stands_cell _ _))))
        have Sr0u0 : ∀ v, Sr0 v → PsSt w v [⟨b2, #[.int .i64 40], 3⟩, ⟨b1, #[.slice (some ⟨p.block, p.off + 3, none⟩) m (c - 3)], 108⟩, ⟨b4, #[.int .i64 (cn : Int)], 3⟩, ⟨b3, #[.pointer (some ⟨pn, 0, none⟩)], 88⟩, ⟨pn, #[.int .i64 z0, .slice A' t c'], 93⟩] [⟨84, 5, .slice A' t c', t, cellsE z0 es⟩] d (d + 1) (rec .busy none) ∧ v.cell? ⟨b3, 0, none⟩ = some (.pointer (some ⟨pn, 0, none⟩)) ∧ v.cell? ⟨pn, 1, none⟩ = some (.slice A' t c') ∧ v.cell? ⟨b4, 0, none⟩ = some (.int .i64 (cn : Int)) := fun v h => by rw [Sr0d] at h; exact h
        have Sr0m0 : ∀ v, (PsSt w v [⟨b2, #[.int .i64 40], 3⟩, ⟨b1, #[.slice (some ⟨p.block, p.off + 3, none⟩) m (c - 3)], 108⟩, ⟨b4, #[.int .i64 (cn : Int)], 3⟩, ⟨b3, #[.pointer (some ⟨pn, 0, none⟩)], 88⟩, ⟨pn, #[.int .i64 z0, .slice A' t c'], 93⟩] [⟨84, 5, .slice A' t c', t, cellsE z0 es⟩] d (d + 1) (rec .busy none) ∧ v.cell? ⟨b3, 0, none⟩ = some (.pointer (some ⟨pn, 0, none⟩)) ∧ v.cell? ⟨pn, 1, none⟩ = some (.slice A' t c') ∧ v.cell? ⟨b4, 0, none⟩ = some (.int .i64 (cn : Int))) → Sr0 v := fun v h => by rw [Sr0d]; exact h
        have Sr0u := Lib.hid Sr0u0
        have Sr0m := Lib.hid Sr0m0
        have Sr0t := Lib.hid Sr0t0
        clear Sr0d Sr0u0 Sr0m0 Sr0t0
        refine wpIn_region_D (S := Sr0) (by kernel_rfl) (by kernel_rfl) (by rintro ⟨_, _, h⟩; exact h) (Sr0m.out _ ⟨C3.grew ⟨rfl, rfl, rfl, Nat.le_refl _, fun _ _ => rfl⟩, hx3, hx4, hx2⟩) ?_
        refine wpX_take (i := 0) (v := ?_) Sr0t.out rfl rfl (by kernel_rfl) (by kernel_rfl) (by kernel_rfl) (by kernel_rfl) (fun _ _ _ h => h) (SteadyX.value (by rfl) ?_) ?_
        rotate_left
        · (intro w_ hS; obtain ⟨q0, q1, q2, q3⟩ := Sr0u.out _ hS; (clear q0); go_simp; try with_reducible rfl)
        simp only [List.setIfInBounds_toArray, List.set_cons_zero, List.set_cons_succ]
        refine wpX_take (i := 1) (v := ?_) Sr0t.out rfl rfl (by kernel_rfl) (by kernel_rfl) (by kernel_rfl) (by kernel_rfl) (fun _ _ _ h => h) (SteadyX.value (by rfl) ?_) ?_
        rotate_left
        · (intro w_ hS; obtain ⟨q0, q1, q2, q3⟩ := Sr0u.out _ hS; (clear q0); go_simp; try with_reducible rfl)
        simp only [List.setIfInBounds_toArray, List.set_cons_zero, List.set_cons_succ]
        refine wpX_take (i := 2) (v := ?_) Sr0t.out rfl rfl (by kernel_rfl) (by kernel_rfl) (by kernel_rfl) (by kernel_rfl) (fun _ _ _ h => h) (SteadyX.value (by rfl) ?_) ?_
        rotate_left
        · (intro w_ hS; go_simp; try with_reducible rfl)
        simp only [List.setIfInBounds_toArray, List.set_cons_zero, List.set_cons_succ]
        refine wpX_take (i := 3) (v := ?_) Sr0t.out rfl rfl (by kernel_rfl) (by kernel_rfl) (by kernel_rfl) (by kernel_rfl) (fun _ _ _ h => h) (SteadyX.value (by rfl) ?_) ?_
        rotate_left
        · (intro w_ hS; obtain ⟨q0, q1, q2, q3⟩ := Sr0u.out _ hS; (clear q0); go_simp; try with_reducible rfl)
        simp only [List.setIfInBounds_toArray, List.set_cons_zero, List.set_cons_succ]
        refine wpX_take (i := 4) (v := ?_) Sr0t.out rfl rfl (by kernel_rfl) (by kernel_rfl) (by kernel_rfl) (by kernel_rfl) (fun _ _ _ h => h) (SteadyX.value (by rfl) ?_) ?_
        rotate_left
        · (intro w_ hS; obtain ⟨q0, q1, q2, q3⟩ := Sr0u.out _ hS; (clear q0); go_simp; try with_reducible rfl)
        simp only [List.setIfInBounds_toArray, List.set_cons_zero, List.set_cons_succ]
        refine wpX_take (i := 5) (v := ?_) Sr0t.out rfl rfl (by kernel_rfl) (by kernel_rfl) (by kernel_rfl) (by kernel_rfl) (fun _ _ _ h => h) (SteadyX.value (by rfl) ?_) ?_
        rotate_left
        · (intro w_ hS; obtain ⟨q0, q1, q2, q3⟩ := Sr0u.out _ hS; (clear q0); go_simp; try with_reducible rfl)
        simp only [List.setIfInBounds_toArray, List.set_cons_zero, List.set_cons_succ]
        refine wpX_take (i := 6) (v := .bool true) Sr0t.out rfl rfl (by kernel_rfl) (by kernel_rfl) (by kernel_rfl) (by kernel_rfl) (fun _ _ _ h => h) (SteadyX.value (by rfl) (fun w_ hS => by obtain ⟨q0, q1, q2, q3⟩ := Sr0u.out _ hS; (go_simp; try first | omega | (simp; omega)))) ?_
        simp only [List.setIfInBounds_toArray, List.set_cons_zero, List.set_cons_succ]
        refine wpX_take (i := 7) (v := ?_) Sr0t.out rfl rfl (by kernel_rfl) (by kernel_rfl) (by kernel_rfl) (by kernel_rfl) (fun _ _ _ h => h) (SteadyX.value (by rfl) ?_) ?_
        rotate_left
        · (intro w_ hS; go_simp; try with_reducible rfl)
        simp only [List.setIfInBounds_toArray, List.set_cons_zero, List.set_cons_succ]
        refine wpX_take (i := 8) (v := undef) Sr0t.out rfl rfl (by kernel_rfl) (by kernel_rfl) (by kernel_rfl) (by kernel_rfl) (fun _ _ _ h => h) (SteadyX.off (by rfl)) ?_
        simp only [List.setIfInBounds_toArray, List.set_cons_zero, List.set_cons_succ]
        refine wpX_take (i := 9) (v := undef) Sr0t.out rfl rfl (by kernel_rfl) (by kernel_rfl) (by kernel_rfl) (by kernel_rfl) (fun _ _ _ h => h) (SteadyX.off (by rfl)) ?_
        simp only [List.setIfInBounds_toArray, List.set_cons_zero, List.set_cons_succ]
        refine wpX_take (i := 10) (v := undef) Sr0t.out rfl rfl (by kernel_rfl) (by kernel_rfl) (by kernel_rfl) (by kernel_rfl) (fun _ _ _ h => h) (SteadyX.off (by rfl)) ?_
        simp only [List.setIfInBounds_toArray, List.set_cons_zero, List.set_cons_succ]
        refine wpX_take (i := 11) (v := ?_) Sr0t.out rfl rfl (by kernel_rfl) (by kernel_rfl) (by kernel_rfl) (by kernel_rfl) (fun _ _ _ h => h) (SteadyX.value (by rfl) ?_) ?_
        rotate_left
        · (intro w_ hS; go_simp; try with_reducible rfl)
        simp only [List.setIfInBounds_toArray, List.set_cons_zero, List.set_cons_succ]
        refine wpX_done (by kernel_rfl) (fun W4 hS => ?_) _
        obtain ⟨q0, q1, q2, q3⟩ := Sr0u.out _ hS
        clear hS Sr0u Sr0m Sr0t
        clear Sr0
        clear q1 q2 q3 hx2 hx3 hx4 C3
        have HEND := Lib.hid (show es = parseL l from by
          have h1 := HP.out.2
          rw [show goP (cn - t) (s.drop T) = [] by rw [hcs, Nat.sub_self]; rfl, List.append_nil] at h1
          unfold parseL
          rw [HZ.out.2, ← HCN.out.1, ← HM.out.1, h1])
        have Q0 := Lib.hid q0
        clear q0
        gi_wp2_with fail
        refine ⟨by rw [HREC.out]; exact Q0.out.kl, ?_⟩
        intro W5 hT5
        have C5 := Q0.out.turned (o' := rec .done (some (.exit 0))) (by rw [HREC.out] at hT5; exact hT5)
        have kl5 := C5.kl
        have C5' := Lib.hid C5
        clear Q0 C5 hT5
        gi_wp2
        refine bodyPost_ret (results_none rfl _ _ _) rfl ⟨⟨_, rfl⟩, Or.inr ⟨_, kl5, ?_⟩⟩
        intro W6 hT6
        have C6 := C5'.out.turned (o' := rec .exhausted (some (.exit 0))) (by exact hT6)
        clear kl5 hT6
        refine wpIn_wide.2 ?_
        have C6' := Lib.hid C6
        clear C6
        have hy3 := (C6'.out.bx.at_ (i := 3) rfl).cell 0
        simp only [List.getElem?_toArray, List.getElem?_cons_zero] at hy3
        go_wp2_with fail
        have hp := Turned.put (.deferred none) C6'.out.kd
        have hb6 := C6'.out.bx.turned C6'.out.kd (by intro _ _ _ e; cases e) C6'.out.ld hp
        refine ⟨by simp, .inl ⟨_, _, rfl, run_takeDeferred C6'.out.kd, ?_⟩⟩
        refine ⟨_, results_tmp rfl _ _ _, pn, A', c', rfl, ?_⟩
        rw [HZ.out.1, ← HEND.out, HP.out.1]
        exact hb6.sub (List.Sublist.cons _ (List.Sublist.cons _ (List.Sublist.cons _ (List.Sublist.cons _ (List.Sublist.refl _))))) (List.Sublist.refl _)
      · have hus : u < 40 ∨ u = 40 := by have := HU.out.1; omega
        rcases hus with hus | hus
        · gi_wp2_with fail
          obtain ⟨Sr0, Sr0d⟩ : ∃ S : World → Prop, S = fun v : World => PsSt w v [⟨b2, #[.int .i64 40], 3⟩, ⟨b1, #[.slice (some ⟨p.block, p.off + 3, none⟩) m (c - 3)], 108⟩, ⟨b4, #[.int .i64 (cn : Int)], 3⟩, ⟨b3, #[.pointer (some ⟨pn, 0, none⟩)], 88⟩, ⟨pn, #[.int .i64 z0, .slice A' t c'], 93⟩] [⟨84, 5, .slice A' t c', t, cellsE z0 es⟩] d (d + 1) (rec .busy none) ∧ v.cell? ⟨b3, 0, none⟩ = some (.pointer (some ⟨pn, 0, none⟩)) ∧ v.cell? ⟨pn, 1, none⟩ = some (.slice A' t c') ∧ v.cell? ⟨b4, 0, none⟩ = some (.int .i64 (cn : Int)) := ⟨_, rfl⟩
          have Sr0t0 : Stands Sr0 := by rw [Sr0d]; exact ((PsSt.stands _ _ _ _ _ _).and ((stands_cell _ _).and ((stands_cell _ _).and (stands_cell _ _))))
          have Sr0u0 : ∀ v, Sr0 v → PsSt w v [⟨b2, #[.int .i64 40], 3⟩, ⟨b1, #[.slice (some ⟨p.block, p.off + 3, none⟩) m (c - 3)], 108⟩, ⟨b4, #[.int .i64 (cn : Int)], 3⟩, ⟨b3, #[.pointer (some ⟨pn, 0, none⟩)], 88⟩, ⟨pn, #[.int .i64 z0, .slice A' t c'], 93⟩] [⟨84, 5, .slice A' t c', t, cellsE z0 es⟩] d (d + 1) (rec .busy none) ∧ v.cell? ⟨b3, 0, none⟩ = some (.pointer (some ⟨pn, 0, none⟩)) ∧ v.cell? ⟨pn, 1, none⟩ = some (.slice A' t c') ∧ v.cell? ⟨b4, 0, none⟩ = some (.int .i64 (cn : Int)) := fun v h => by rw [Sr0d] at h; exact h
          have Sr0m0 : ∀ v, (PsSt w v [⟨b2, #[.int .i64 40], 3⟩, ⟨b1, #[.slice (some ⟨p.block, p.off + 3, none⟩) m (c - 3)], 108⟩, ⟨b4, #[.int .i64 (cn : Int)], 3⟩, ⟨b3, #[.pointer (some ⟨pn, 0, none⟩)], 88⟩, ⟨pn, #[.int .i64 z0, .slice A' t c'], 93⟩] [⟨84, 5, .slice A' t c', t, cellsE z0 es⟩] d (d + 1) (rec .busy none) ∧ v.cell? ⟨b3, 0, none⟩ = some (.pointer (some ⟨pn, 0, none⟩)) ∧ v.cell? ⟨pn, 1, none⟩ = some (.slice A' t c') ∧ v.cell? ⟨b4, 0, none⟩ = some (.int .i64 (cn : Int))) → Sr0 v := fun v h => by rw [Sr0d]; exact h
          have Sr0u := Lib.hid Sr0u0
          have Sr0m := Lib.hid Sr0m0
          have Sr0t := Lib.hid Sr0t0
          clear Sr0d Sr0u0 Sr0m0 Sr0t0
          refine wpIn_region_D (S := Sr0) (by kernel_rfl) (by kernel_rfl) (by rintro ⟨_, _, h⟩; exact h) (Sr0m.out _ ⟨C3.grew ⟨rfl, rfl, rfl, Nat.le_refl _, fun _ _ => rfl⟩, hx3, hx4, hx2⟩) ?_
          refine wpX_take (i := 0) (v := ?_) Sr0t.out rfl rfl (by kernel_rfl) (by kernel_rfl) (by kernel_rfl) (by kernel_rfl) (fun _ _ _ h => h) (SteadyX.value (by rfl) ?_) ?_
          rotate_left
          · (intro w_ hS; obtain ⟨q0, q1, q2, q3⟩ := Sr0u.out _ hS; (clear q0); go_simp; try with_reducible rfl)
          simp only [List.setIfInBounds_toArray, List.set_cons_zero, List.set_cons_succ]
          refine wpX_take (i := 1) (v := ?_) Sr0t.out rfl rfl (by kernel_rfl) (by kernel_rfl) (by kernel_rfl) (by kernel_rfl) (fun _ _ _ h => h) (SteadyX.value (by rfl) ?_) ?_
          rotate_left
          · (intro w_ hS; obtain ⟨q0, q1, q2, q3⟩ := Sr0u.out _ hS; (clear q0); go_simp; try with_reducible rfl)
          simp only [List.setIfInBounds_toArray, List.set_cons_zero, List.set_cons_succ]
          refine wpX_take (i := 2) (v := ?_) Sr0t.out rfl rfl (by kernel_rfl) (by kernel_rfl) (by kernel_rfl) (by kernel_rfl) (fun _ _ _ h => h) (SteadyX.value (by rfl) ?_) ?_
          rotate_left
          · (intro w_ hS; go_simp; try with_reducible rfl)
          simp only [List.setIfInBounds_toArray, List.set_cons_zero, List.set_cons_succ]
          refine wpX_take (i := 3) (v := ?_) Sr0t.out rfl rfl (by kernel_rfl) (by kernel_rfl) (by kernel_rfl) (by kernel_rfl) (fun _ _ _ h => h) (SteadyX.value (by rfl) ?_) ?_
          rotate_left
          · (intro w_ hS; obtain ⟨q0, q1, q2, q3⟩ := Sr0u.out _ hS; (clear q0); go_simp; try with_reducible rfl)
          simp only [List.setIfInBounds_toArray, List.set_cons_zero, List.set_cons_succ]
          refine wpX_take (i := 4) (v := ?_) Sr0t.out rfl rfl (by kernel_rfl) (by kernel_rfl) (by kernel_rfl) (by kernel_rfl) (fun _ _ _ h => h) (SteadyX.value (by rfl) ?_) ?_
          rotate_left
          · (intro w_ hS; obtain ⟨q0, q1, q2, q3⟩ := Sr0u.out _ hS; (clear q0); go_simp; try with_reducible rfl)
          simp only [List.setIfInBounds_toArray, List.set_cons_zero, List.set_cons_succ]
          refine wpX_take (i := 5) (v := ?_) Sr0t.out rfl rfl (by kernel_rfl) (by kernel_rfl) (by kernel_rfl) (by kernel_rfl) (fun _ _ _ h => h) (SteadyX.value (by rfl) ?_) ?_
          rotate_left
          · (intro w_ hS; obtain ⟨q0, q1, q2, q3⟩ := Sr0u.out _ hS; (clear q0); go_simp; try with_reducible rfl)
          simp only [List.setIfInBounds_toArray, List.set_cons_zero, List.set_cons_succ]
          refine wpX_take (i := 6) (v := .bool false) Sr0t.out rfl rfl (by kernel_rfl) (by kernel_rfl) (by kernel_rfl) (by kernel_rfl) (fun _ _ _ h => h) (SteadyX.value (by rfl) (fun w_ hS => by obtain ⟨q0, q1, q2, q3⟩ := Sr0u.out _ hS; (go_simp; try first | omega | (simp; omega)))) ?_
          simp only [List.setIfInBounds_toArray, List.set_cons_zero, List.set_cons_succ]
          refine wpX_take (i := 7) (v := ?_) Sr0t.out rfl rfl (by kernel_rfl) (by kernel_rfl) (by kernel_rfl) (by kernel_rfl) (fun _ _ _ h => h) (SteadyX.value (by rfl) ?_) ?_
          rotate_left
          · (intro w_ hS; go_simp; try with_reducible rfl)
          simp only [List.setIfInBounds_toArray, List.set_cons_zero, List.set_cons_succ]
          refine wpX_take (i := 8) (v := ?_) Sr0t.out rfl rfl (by kernel_rfl) (by kernel_rfl) (by kernel_rfl) (by kernel_rfl) (fun _ _ _ h => h) (SteadyX.value (by rfl) ?_) ?_
          rotate_left
          · (intro w_ hS; go_simp; try with_reducible rfl)
          simp only [List.setIfInBounds_toArray, List.set_cons_zero, List.set_cons_succ]
          refine wpX_take (i := 9) (v := ?_) Sr0t.out rfl rfl (by kernel_rfl) (by kernel_rfl) (by kernel_rfl) (by kernel_rfl) (fun _ _ _ h => h) (SteadyX.value (by rfl) ?_) ?_
          rotate_left
          · (intro w_ hS; obtain ⟨q0, q1, q2, q3⟩ := Sr0u.out _ hS; (clear q0); go_simp; try with_reducible rfl)
          simp only [List.setIfInBounds_toArray, List.set_cons_zero, List.set_cons_succ]
          refine wpX_take (i := 10) (v := .bool true) Sr0t.out rfl rfl (by kernel_rfl) (by kernel_rfl) (by kernel_rfl) (by kernel_rfl) (fun _ _ _ h => h) (SteadyX.value (by rfl) (fun w_ hS => by obtain ⟨q0, q1, q2, q3⟩ := Sr0u.out _ hS; (go_simp; try first | omega | (simp; omega)))) ?_
          simp only [List.setIfInBounds_toArray, List.set_cons_zero, List.set_cons_succ]
          refine wpX_take (i := 11) (v := ?_) Sr0t.out rfl rfl (by kernel_rfl) (by kernel_rfl) (by kernel_rfl) (by kernel_rfl) (fun _ _ _ h => h) (SteadyX.value (by rfl) ?_) ?_
          rotate_left
          · (intro w_ hS; go_simp; try with_reducible rfl)
          simp only [List.setIfInBounds_toArray, List.set_cons_zero, List.set_cons_succ]
          refine wpX_done (by kernel_rfl) (fun W4 hS => ?_) _
          obtain ⟨q0, q1, q2, q3⟩ := Sr0u.out _ hS
          clear hS Sr0u Sr0m Sr0t
          clear Sr0
          clear q1 q2 q3 hx2 hx3 hx4 C3
          have HEND := Lib.hid (show es = parseL l from by
            have h1 := HP.out.2
            rw [goP_stop (k := cn - t) (l := s.drop T) (by rw [List.length_drop, HM.out.2.2]; have := HU.out.1; omega), List.append_nil] at h1
            unfold parseL
            rw [HZ.out.2, ← HCN.out.1, ← HM.out.1, h1])
          have Q0 := Lib.hid q0
          clear q0
          gi_wp2_with fail
          refine ⟨by rw [HREC.out]; exact Q0.out.kl, ?_⟩
          intro W5 hT5
          have C5 := Q0.out.turned (o' := rec .done (some (.exit 0))) (by rw [HREC.out] at hT5; exact hT5)
          have kl5 := C5.kl
          have C5' := Lib.hid C5
          clear Q0 C5 hT5
          gi_wp2
          refine bodyPost_ret (results_none rfl _ _ _) rfl ⟨⟨_, rfl⟩, Or.inr ⟨_, kl5, ?_⟩⟩
          intro W6 hT6
          have C6 := C5'.out.turned (o' := rec .exhausted (some (.exit 0))) (by exact hT6)
          clear kl5 hT6
          refine wpIn_wide.2 ?_
          have C6' := Lib.hid C6
          clear C6
          have hy3 := (C6'.out.bx.at_ (i := 3) rfl).cell 0
          simp only [List.getElem?_toArray, List.getElem?_cons_zero] at hy3
          go_wp2_with fail
          have hp := Turned.put (.deferred none) C6'.out.kd
          have hb6 := C6'.out.bx.turned C6'.out.kd (by intro _ _ _ e; cases e) C6'.out.ld hp
          refine ⟨by simp, .inl ⟨_, _, rfl, run_takeDeferred C6'.out.kd, ?_⟩⟩
          refine ⟨_, results_tmp rfl _ _ _, pn, A', c', rfl, ?_⟩
          rw [HZ.out.1, ← HEND.out, HP.out.1]
          exact hb6.sub (List.Sublist.cons _ (List.Sublist.cons _ (List.Sublist.cons _ (List.Sublist.cons _ (List.Sublist.refl _))))) (List.Sublist.refl _)
        · subst hus
          gi_wp2_with fail
          obtain ⟨Sr0, Sr0d⟩ : ∃ S : World → Prop, S = fun v : World => PsSt w v [⟨b2, #[.int .i64 40], 3⟩, ⟨b1, #[.slice (some ⟨p.block, p.off + 3, none⟩) m (c - 3)], 108⟩, ⟨b4, #[.int .i64 (cn : Int)], 3⟩, ⟨b3, #[.pointer (some ⟨pn, 0, none⟩)], 88⟩, ⟨pn, #[.int .i64 z0, .slice A' t c'], 93⟩] [⟨84, 5, .slice A' t c', t, cellsE z0 es⟩] d (d + 1) (rec .busy none) ∧ v.cell? ⟨b3, 0, none⟩ = some (.pointer (some ⟨pn, 0, none⟩)) ∧ v.cell? ⟨pn, 1, none⟩ = some (.slice A' t c') ∧ v.cell? ⟨b4, 0, none⟩ = some (.int .i64 (cn : Int)) := ⟨_, rfl⟩
          have Sr0t0 : Stands Sr0 := by rw [Sr0d]; exact ((PsSt.stands _ _ _ _ _ _).and ((stands_cell _ _).and ((stands_cell _ _).and (stands_cell _ _))))
          have Sr0u0 : ∀ v, Sr0 v → PsSt w v [⟨b2, #[.int .i64 40], 3⟩, ⟨b1, #[.slice (some ⟨p.block, p.off + 3, none⟩) m (c - 3)], 108⟩, ⟨b4, #[.int .i64 (cn : Int)], 3⟩, ⟨b3, #[.pointer (some ⟨pn, 0, none⟩)], 88⟩, ⟨pn, #[.int .i64 z0, .slice A' t c'], 93⟩] [⟨84, 5, .slice A' t c', t, cellsE z0 es⟩] d (d + 1) (rec .busy none) ∧ v.cell? ⟨b3, 0, none⟩ = some (.pointer (some ⟨pn, 0, none⟩)) ∧ v.cell? ⟨pn, 1, none⟩ = some (.slice A' t c') ∧ v.cell? ⟨b4, 0, none⟩ = some (.int .i64 (cn : Int)) := fun v h => by rw [Sr0d] at h; exact h
          have Sr0m0 : ∀ v, (PsSt w v [⟨b2, #[.int .i64 40], 3⟩, ⟨b1, #[.slice (some ⟨p.block, p.off + 3, none⟩) m (c - 3)], 108⟩, ⟨b4, #[.int .i64 (cn : Int)], 3⟩, ⟨b3, #[.pointer (some ⟨pn, 0, none⟩)], 88⟩, ⟨pn, #[.int .i64 z0, .slice A' t c'], 93⟩] [⟨84, 5, .slice A' t c', t, cellsE z0 es⟩] d (d + 1) (rec .busy none) ∧ v.cell? ⟨b3, 0, none⟩ = some (.pointer (some ⟨pn, 0, none⟩)) ∧ v.cell? ⟨pn, 1, none⟩ = some (.slice A' t c') ∧ v.cell? ⟨b4, 0, none⟩ = some (.int .i64 (cn : Int))) → Sr0 v := fun v h => by rw [Sr0d]; exact h
          have Sr0u := Lib.hid Sr0u0
          have Sr0m := Lib.hid Sr0m0
          have Sr0t := Lib.hid Sr0t0
          clear Sr0d Sr0u0 Sr0m0 Sr0t0
          refine wpIn_region_D (S := Sr0) (by kernel_rfl) (by kernel_rfl) (by rintro ⟨_, _, h⟩; exact h) (Sr0m.out _ ⟨C3.grew ⟨rfl, rfl, rfl, Nat.le_refl _, fun _ _ => rfl⟩, hx3, hx4, hx2⟩) ?_
          refine wpX_take (i := 0) (v := ?_) Sr0t.out rfl rfl (by kernel_rfl) (by kernel_rfl) (by kernel_rfl) (by kernel_rfl) (fun _ _ _ h => h) (SteadyX.value (by rfl) ?_) ?_
          rotate_left
          · (intro w_ hS; obtain ⟨q0, q1, q2, q3⟩ := Sr0u.out _ hS; (clear q0); go_simp; try with_reducible rfl)
          simp only [List.setIfInBounds_toArray, List.set_cons_zero, List.set_cons_succ]
          refine wpX_take (i := 1) (v := ?_) Sr0t.out rfl rfl (by kernel_rfl) (by kernel_rfl) (by kernel_rfl) (by kernel_rfl) (fun _ _ _ h => h) (SteadyX.value (by rfl) ?_) ?_
          rotate_left
          · (intro w_ hS; obtain ⟨q0, q1, q2, q3⟩ := Sr0u.out _ hS; (clear q0); go_simp; try with_reducible rfl)
          simp only [List.setIfInBounds_toArray, List.set_cons_zero, List.set_cons_succ]
          refine wpX_take (i := 2) (v := ?_) Sr0t.out rfl rfl (by kernel_rfl) (by kernel_rfl) (by kernel_rfl) (by kernel_rfl) (fun _ _ _ h => h) (SteadyX.value (by rfl) ?_) ?_
          rotate_left
          · (intro w_ hS; go_simp; try with_reducible rfl)
          simp only [List.setIfInBounds_toArray, List.set_cons_zero, List.set_cons_succ]
          refine wpX_take (i := 3) (v := ?_) Sr0t.out rfl rfl (by kernel_rfl) (by kernel_rfl) (by kernel_rfl) (by kernel_rfl) (fun _ _ _ h => h) (SteadyX.value (by rfl) ?_) ?_
          rotate_left
          · (intro w_ hS; obtain ⟨q0, q1, q2, q3⟩ := Sr0u.out _ hS; (clear q0); go_simp; try with_reducible rfl)
          simp only [List.setIfInBounds_toArray, List.set_cons_zero, List.set_cons_succ]
          refine wpX_take (i := 4) (v := ?_) Sr0t.out rfl rfl (by kernel_rfl) (by kernel_rfl) (by kernel_rfl) (by kernel_rfl) (fun _ _ _ h => h) (SteadyX.value (by rfl) ?_) ?_
          rotate_left
          · (intro w_ hS; obtain ⟨q0, q1, q2, q3⟩ := Sr0u.out _ hS; (clear q0); go_simp; try with_reducible rfl)
          simp only [List.setIfInBounds_toArray, List.set_cons_zero, List.set_cons_succ]
          refine wpX_take (i := 5) (v := ?_) Sr0t.out rfl rfl (by kernel_rfl) (by kernel_rfl) (by kernel_rfl) (by kernel_rfl) (fun _ _ _ h => h) (SteadyX.value (by rfl) ?_) ?_
          rotate_left
          · (intro w_ hS; obtain ⟨q0, q1, q2, q3⟩ := Sr0u.out _ hS; (clear q0); go_simp; try with_reducible rfl)
          simp only [List.setIfInBounds_toArray, List.set_cons_zero, List.set_cons_succ]
          refine wpX_take (i := 6) (v := .bool false) Sr0t.out rfl rfl (by kernel_rfl) (by kernel_rfl) (by kernel_rfl) (by kernel_rfl) (fun _ _ _ h => h) (SteadyX.value (by rfl) (fun w_ hS => by obtain ⟨q0, q1, q2, q3⟩ := Sr0u.out _ hS; (go_simp; try first | omega | (simp; omega)))) ?_
          simp only [List.setIfInBounds_toArray, List.set_cons_zero, List.set_cons_succ]
          refine wpX_take (i := 7) (v := ?_) Sr0t.out rfl rfl (by kernel_rfl) (by kernel_rfl) (by kernel_rfl) (by kernel_rfl) (fun _ _ _ h => h) (SteadyX.value (by rfl) ?_) ?_
          rotate_left
          · (intro w_ hS; go_simp; try with_reducible rfl)
          simp only [List.setIfInBounds_toArray, List.set_cons_zero, List.set_cons_succ]
          refine wpX_take (i := 8) (v := ?_) Sr0t.out rfl rfl (by kernel_rfl) (by kernel_rfl) (by kernel_rfl) (by kernel_rfl) (fun _ _ _ h => h) (SteadyX.value (by rfl) ?_) ?_
          rotate_left
          · (intro w_ hS; go_simp; try with_reducible rfl)
          simp only [List.setIfInBounds_toArray, List.set_cons_zero, List.set_cons_succ]
          refine wpX_take (i := 9) (v := ?_) Sr0t.out rfl rfl (by kernel_rfl) (by kernel_rfl) (by kernel_rfl) (by kernel_rfl) (fun _ _ _ h => h) (SteadyX.value (by rfl) ?_) ?_
          rotate_left
          · (intro w_ hS; obtain ⟨q0, q1, q2, q3⟩ := Sr0u.out _ hS; (clear q0); go_simp; try with_reducible rfl)
          simp only [List.setIfInBounds_toArray, List.set_cons_zero, List.set_cons_succ]
          refine wpX_take (i := 10) (v := .bool false) Sr0t.out rfl rfl (by kernel_rfl) (by kernel_rfl) (by kernel_rfl) (by kernel_rfl) (fun _ _ _ h => h) (SteadyX.value (by rfl) (fun w_ hS => by obtain ⟨q0, q1, q2, q3⟩ := Sr0u.out _ hS; (go_simp; try first | omega | (simp; omega)))) ?_
          simp only [List.setIfInBounds_toArray, List.set_cons_zero, List.set_cons_succ]
          refine wpX_take (i := 11) (v := ?_) Sr0t.out rfl rfl (by kernel_rfl) (by kernel_rfl) (by kernel_rfl) (by kernel_rfl) (fun _ _ _ h => h) (SteadyX.value (by rfl) ?_) ?_
          rotate_left
          · (intro w_ hS; go_simp; try with_reducible rfl)
          simp only [List.setIfInBounds_toArray, List.set_cons_zero, List.set_cons_succ]
          refine wpX_done (by kernel_rfl) (fun W4 hS => ?_) _
          obtain ⟨q0, q1, q2, q3⟩ := Sr0u.out _ hS
          clear hS Sr0u Sr0m Sr0t
          clear Sr0
          clear q1 q2 q3 hx2 hx3 hx4 C3
          have HQ := Lib.hid q0
          clear q0
          have hq := HU.out.2.1
          have hlen := HM.out.2.2
          obtain ⟨q, hqd⟩ : ∃ q, q = s.drop T := ⟨_, rfl⟩
          have hq40 : 40 ≤ q.length := by rw [hqd, List.length_drop, hlen]; omega
          obtain ⟨f, hf⟩ : ∃ f : Nat → Int, f = fun k => sgn (num ((q.drop (8 * k)).take 8)) := ⟨_, rfl⟩
          have HF := Lib.hid (fun (v : World) (hv : Below w.heap.size w v) (k o n : Nat) (hk : k < 5) (ho : o = p.off + 3 + T + 8 * k) (hn : n = 40 - 8 * k) => num_at HR.out hv HM.out.1 hqd hq40 hf hk ho hn)
          have HQD := Lib.hid (And.intro hqd (And.intro hq40 hf))
          clear hq hlen hqd hq40 hf
          gi_wp2_with (rw [wpli_id]; first
            | (refine wpli_new HQ 204 rfl (by first | exact .inl rfl | exact .inr ⟨_, _, _, _, rfl, rfl, rfl, rfl⟩) Tryz.zeroValue204 rfl (fun bx w' H2 => ?_); simp only [Value.cells] at H2; clear HQ; have HQ := H2; clear H2))
          gi_loopw [41] (fun iv wr => ∃ k : Nat, k ≤ 5 ∧ iv = .int .i64 (k : Int) ∧ Hid (PsSt w wr (⟨bx, xc f k, 204⟩ :: [⟨b2, #[.int .i64 40], 3⟩, ⟨b1, #[.slice (some ⟨p.block, p.off + 3, none⟩) m (c - 3)], 108⟩, ⟨b4, #[.int .i64 (cn : Int)], 3⟩, ⟨b3, #[.pointer (some ⟨pn, 0, none⟩)], 88⟩, ⟨pn, #[.int .i64 z0, .slice A' t c'], 93⟩]) [⟨84, 5, .slice A' t c', t, cellsE z0 es⟩] d (d + 1) (rec .busy none))) (fun iv _ => 5 - (intOf iv).toNat)
          case atStart => exact ⟨0, by omega, rfl, HQ⟩
          case round =>
            obtain ⟨k, hk, rfl, HQ2⟩ := hrel
            clear HQ
            have HQ := HQ2
            clear HQ2
            have hk5 : k = 0 ∨ k = 1 ∨ k = 2 ∨ k = 3 ∨ k = 4 ∨ k = 5 := by omega
            clear hk
            rcases hk5 with rfl | rfl | rfl | rfl | rfl | rfl
            · gi_wp2_with fail
              refine ⟨trivial, CallsIn.inRound _ (callsIn_wide.2 ((HF.out _ HQ.out.bx.low 0 _ _ (by decide) rfl rfl).mono ?_))⟩
              rintro e w2 ⟨x, rfl, hx, rfl⟩
              gi_wp2_with (rw [wpli_id]; first
                | (refine wpli_st HQ 0 rfl rfl _ _ _ rfl (by first | exact .inl rfl | exact .inr ⟨_, _, _, _, rfl, rfl, rfl, rfl⟩) (by exact rfl) (by (conv => lhs; whnf) <;> exact rfl) Tryz.sizeOf2 rfl (by kernel_rfl) (cs := xc f 1) (by rfl) (fun w' H2 => ?_); simp only [List.set_cons_succ, List.set_cons_zero, List.setIfInBounds_toArray] at H2; clear HQ; have HQ := H2; clear H2))
              clear hx x
              go_roundw
              case rel => exact ⟨1, by omega, by go_num, HQ⟩
              case measure => simp [intOf]
            · gi_wp2_with fail
              refine ⟨trivial, CallsIn.inRound _ (callsIn_wide.2 ((HF.out _ HQ.out.bx.low 1 _ _ (by decide) rfl rfl).mono ?_))⟩
              rintro e w2 ⟨x, rfl, hx, rfl⟩
              gi_wp2_with (rw [wpli_id]; first
                | (refine wpli_st HQ 0 rfl rfl _ _ _ rfl (by first | exact .inl rfl | exact .inr ⟨_, _, _, _, rfl, rfl, rfl, rfl⟩) (by exact rfl) (by (conv => lhs; whnf) <;> exact rfl) Tryz.sizeOf2 rfl (by kernel_rfl) (cs := xc f 2) (by rfl) (fun w' H2 => ?_); simp only [List.set_cons_succ, List.set_cons_zero, List.setIfInBounds_toArray] at H2; clear HQ; have HQ := H2; clear H2))
              clear hx x
              go_roundw
              case rel => exact ⟨2, by omega, by go_num, HQ⟩
              case measure => simp [intOf]
            · gi_wp2_with fail
              refine ⟨trivial, CallsIn.inRound _ (callsIn_wide.2 ((HF.out _ HQ.out.bx.low 2 _ _ (by decide) rfl rfl).mono ?_))⟩
              rintro e w2 ⟨x, rfl, hx, rfl⟩
              gi_wp2_with (rw [wpli_id]; first
                | (refine wpli_st HQ 0 rfl rfl _ _ _ rfl (by first | exact .inl rfl | exact .inr ⟨_, _, _, _, rfl, rfl, rfl, rfl⟩) (by exact rfl) (by (conv => lhs; whnf) <;> exact rfl) Tryz.sizeOf2 rfl (by kernel_rfl) (cs := xc f 3) (by rfl) (fun w' H2 => ?_); simp only [List.set_cons_succ, List.set_cons_zero, List.setIfInBounds_toArray] at H2; clear HQ; have HQ := H2; clear H2))
              clear hx x
              go_roundw
              case rel => exact ⟨3, by omega, by go_num, HQ⟩
              case measure => simp [intOf]
            · gi_wp2_with fail
              refine ⟨trivial, CallsIn.inRound _ (callsIn_wide.2 ((HF.out _ HQ.out.bx.low 3 _ _ (by decide) rfl rfl).mono ?_))⟩
              rintro e w2 ⟨x, rfl, hx, rfl⟩
              gi_wp2_with (rw [wpli_id]; first
                | (refine wpli_st HQ 0 rfl rfl _ _ _ rfl (by first | exact .inl rfl | exact .inr ⟨_, _, _, _, rfl, rfl, rfl, rfl⟩) (by exact rfl) (by (conv => lhs; whnf) <;> exact rfl) Tryz.sizeOf2 rfl (by kernel_rfl) (cs := xc f 4) (by rfl) (fun w' H2 => ?_); simp only [List.set_cons_succ, List.set_cons_zero, List.setIfInBounds_toArray] at H2; clear HQ; have HQ := H2; clear H2))
              clear hx x
              go_roundw
              case rel => exact ⟨4, by omega, by go_num, HQ⟩
              case measure => simp [intOf]
            · gi_wp2_with fail
              refine ⟨trivial, CallsIn.inRound _ (callsIn_wide.2 ((HF.out _ HQ.out.bx.low 4 _ _ (by decide) rfl rfl).mono ?_))⟩
              rintro e w2 ⟨x, rfl, hx, rfl⟩
              gi_wp2_with (rw [wpli_id]; first
                | (refine wpli_st HQ 0 rfl rfl _ _ _ rfl (by first | exact .inl rfl | exact .inr ⟨_, _, _, _, rfl, rfl, rfl, rfl⟩) (by exact rfl) (by (conv => lhs; whnf) <;> exact rfl) Tryz.sizeOf2 rfl (by kernel_rfl) (cs := xc f 5) (by rfl) (fun w' H2 => ?_); simp only [List.set_cons_succ, List.set_cons_zero, List.setIfInBounds_toArray] at H2; clear HQ; have HQ := H2; clear H2))
              clear hx x
              go_roundw
              case rel => exact ⟨5, by omega, by go_num, HQ⟩
              case measure => simp [intOf]
            · have H2 := Lib.hid (show PsSt w wr (⟨bx, #[.int .i64 (f 0), .int .i64 (f 1), .int .i64 (f 2), .int .i64 (f 3), .int .i64 (f 4)], 204⟩ :: [⟨b2, #[.int .i64 40], 3⟩, ⟨b1, #[.slice (some ⟨p.block, p.off + 3, none⟩) m (c - 3)], 108⟩, ⟨b4, #[.int .i64 (cn : Int)], 3⟩, ⟨b3, #[.pointer (some ⟨pn, 0, none⟩)], 88⟩, ⟨pn, #[.int .i64 z0, .slice A' t c'], 93⟩]) [⟨84, 5, .slice A' t c', t, cellsE z0 es⟩] d (d + 1) (rec .busy none) from HQ.out)
              clear HQ
              have HQ := H2
              clear H2
              have hzz : z0 = 0 ∨ ¬ z0 = 0 := by omega
              rcases hzz with hzz | hzz
              · have hzq : ((z0 : Int) == 0) = true := by simp [hzz]
                have hty : tyE z0 = 82 := by unfold tyE; simp [hzz]
                clear hzz
                gi_wp2_with (rw [wpli_id]; first
                  | (refine wpli_ld HQ 0 rfl _ _ rfl (by first | exact .inl rfl | exact .inr ⟨_, _, _, _, rfl, rfl, rfl, rfl⟩) (by exact rfl) Tryz.isAgg2 rfl ?_)
                  | (refine wpli_ld HQ 1 rfl _ _ rfl (by first | exact .inl rfl | exact .inr ⟨_, _, _, _, rfl, rfl, rfl, rfl⟩) (by exact rfl) Tryz.isAgg2 rfl ?_)
                  | (refine wpli_ld HQ 5 rfl _ _ rfl (by first | exact .inl rfl | exact .inr ⟨_, _, _, _, rfl, rfl, rfl, rfl⟩) (by exact rfl) Tryz.isAgg88 rfl ?_)
                  | (refine wpli_ld HQ 6 rfl _ _ rfl (by first | exact .inl rfl | exact .inr ⟨_, _, _, _, rfl, rfl, rfl, rfl⟩) (by exact rfl) Tryz.isAgg3 rfl ?_)
                  | (refine wpli_new HQ 84 rfl (by first | exact .inl rfl | exact .inr ⟨_, _, _, _, rfl, rfl, rfl, rfl⟩) Tryz.zeroValue84 rfl (fun be w' H2 => ?_); simp only [Value.cells] at H2; clear HQ; have HQ := H2; clear H2)
                  | (refine wpli_sta HQ 0 rfl rfl _ _ _ rfl (by first | exact .inl rfl | exact .inr ⟨_, _, _, _, rfl, rfl, rfl, rfl⟩) (by exact rfl) (by (conv => lhs; whnf) <;> exact rfl) Tryz.sizeOf84 rfl (by kernel_rfl) (by kernel_rfl) rfl (fun w' H2 => ?_); simp only [List.set_cons_succ, List.set_cons_zero, List.setIfInBounds_toArray] at H2; clear HQ; have HQ := H2; clear H2)
                  | (refine wpli_st HQ 0 rfl rfl _ _ _ rfl (by first | exact .inl rfl | exact .inr ⟨_, _, _, _, rfl, rfl, rfl, rfl⟩) (by exact rfl) (by (conv => lhs; whnf) <;> exact rfl) Tryz.sizeOf20 rfl (by kernel_rfl) rfl (fun w' H2 => ?_); simp only [List.set_cons_succ, List.set_cons_zero, List.setIfInBounds_toArray] at H2; clear HQ; have HQ := H2; clear H2))
                refine wpIn_region_H (S := fun v => Blk v b3 #[.pointer (some ⟨pn, 0, none⟩)] 88 ∧ Blk v be #[.int .i64 (f 0), .int .i64 (f 1), .int .i64 (f 2), .int .i64 (f 3), .iface 82 (.int .i64 (f 4))] 84) (by kernel_rfl) (by kernel_rfl) (by rintro ⟨_, _, h⟩; exact h) (fun u hu => ?_)
                have hS0 : (fun v => Blk v b3 #[.pointer (some ⟨pn, 0, none⟩)] 88 ∧ Blk v be #[.int .i64 (f 0), .int .i64 (f 1), .int .i64 (f 2), .int .i64 (f 3), .iface 82 (.int .i64 (f 4))] 84) u := by subst hu; exact ⟨(HQ.out.bx.at_ (i := 5) rfl).drew, (HQ.out.bx.at_ (i := 0) rfl).drew⟩
                have HQ0 := Lib.hid (show PsSt w u _ _ d (d + 1) (rec .busy none) from by subst hu; exact HQ.out.grew ⟨rfl, rfl, rfl, Nat.le_refl _, fun _ _ => rfl⟩)
                clear hu HQ
                refine wpH_take (i := 0) (v := ?_) rfl rfl (by kernel_rfl) (by kernel_rfl) (by kernel_rfl) (fun _ _ _ h => h) (Or.inl ⟨by rfl, ?_⟩) hS0 ?_
                rotate_left
                · (intro w_ hw_; obtain ⟨q1, q2⟩ := hw_; have q3 := q1.one; go_simp; try with_reducible rfl)
                simp only [List.setIfInBounds_toArray, List.set_cons_zero, List.set_cons_succ]
                refine wpH_take (i := 1) (v := ?_) rfl rfl (by kernel_rfl) (by kernel_rfl) (by kernel_rfl) (fun _ _ _ h => h) (Or.inl ⟨by rfl, ?_⟩) hS0 ?_
                rotate_left
                · (intro w_ hw_; obtain ⟨q1, q2⟩ := hw_; have q3 := q1.one; go_simp; try with_reducible rfl)
                simp only [List.setIfInBounds_toArray, List.set_cons_zero, List.set_cons_succ]
                refine wpH_take (i := 2) (v := ?_) rfl rfl (by kernel_rfl) (by kernel_rfl) (by kernel_rfl) (fun _ _ _ h => h) (Or.inl ⟨by rfl, ?_⟩) hS0 ?_
                rotate_left
                · (intro w_ hw_; obtain ⟨q1, q2⟩ := hw_; have q3 := q1.one; go_simp; try with_reducible rfl)
                simp only [List.setIfInBounds_toArray, List.set_cons_zero, List.set_cons_succ]
                refine wpH_take (i := 3) (v := ?_) rfl rfl (by kernel_rfl) (by kernel_rfl) (by kernel_rfl) (fun _ _ _ h => h) (Or.inl ⟨by rfl, ?_⟩) hS0 ?_
                rotate_left
                · (intro w_ hw_; go_simp; try with_reducible rfl)
                simp only [List.setIfInBounds_toArray, List.set_cons_zero, List.set_cons_succ]
                refine wpH_take (i := 5) (v := .agg #[.int .i64 (f 0), .int .i64 (f 1), .int .i64 (f 2), .int .i64 (f 3), .iface 82 (.int .i64 (f 4))]) rfl rfl (by kernel_rfl) (by kernel_rfl) (by kernel_rfl) (fun _ _ _ h => h) (Or.inl ⟨by rfl, ?_⟩) hS0 ?_
                · (intro w_ hw_; exact exec_load 84 (.tmp 8) rfl rfl (run_load_agg (Tryz.isAgg84 _) (Tryz.sizeOf84 _) hw_.2 (by simp)))
                simp only [List.setIfInBounds_toArray, List.set_cons_zero, List.set_cons_succ]
                have hbl := (Below.refl u.heap.size u).alloc (Nat.le_refl _) (.cells #[.int .i64 (f 0), .int .i64 (f 1), .int .i64 (f 2), .int .i64 (f 3), .iface 82 (.int .i64 (f 4))] 84)
                have hlit : (u.alloc (.cells #[.int .i64 (f 0), .int .i64 (f 1), .int .i64 (f 2), .int .i64 (f 3), .iface 82 (.int .i64 (f 4))] 84)).ownsRow u.heap.size 84 5 (.slice (some ⟨u.heap.size, 0, none⟩) 1 1) 1 (#[.int .i64 (f 0), .int .i64 (f 1), .int .i64 (f 2), .int .i64 (f 3), .iface 82 (.int .i64 (f 4))] : Array Value).toList := World.ownsRow_lit u #[.int .i64 (f 0), .int .i64 (f 1), .int .i64 (f 2), .int .i64 (f 3), .iface 82 (.int .i64 (f 4))] 1 (Nat.le_refl _) (by simp [maxLen]) rfl
                have HQ1 := Lib.hid (HQ0.out.grew hbl)
                obtain ⟨A2, c2, u2, hap, hps⟩ := HQ1.out.app 91 0 rfl (Own.base_ HQ0.out.bx.low.size hlit) (by intro x hx; simp at hx; rcases hx with rfl | rfl | rfl | rfl | rfl <;> rfl) (by have := HCN.out.2; omega)
                have hS1 : (fun v => Blk v b3 #[.pointer (some ⟨pn, 0, none⟩)] 88 ∧ Blk v be #[.int .i64 (f 0), .int .i64 (f 1), .int .i64 (f 2), .int .i64 (f 3), .iface 82 (.int .i64 (f 4))] 84) (u.alloc (.cells #[.int .i64 (f 0), .int .i64 (f 1), .int .i64 (f 2), .int .i64 (f 3), .iface 82 (.int .i64 (f 4))] 84)) := ⟨HQ1.out.bx.at_ (i := 5) rfl, HQ1.out.bx.at_ (i := 0) rfl⟩
                refine wpH_pair (i := 4) (j := 6) (v1 := .slice A' t c') (v2 := .slice (some ⟨u.heap.size, 0, none⟩) 1 1) (w2 := u.alloc (.cells #[.int .i64 (f 0), .int .i64 (f 1), .int .i64 (f 2), .int .i64 (f 3), .iface 82 (.int .i64 (f 4))] 84)) (by kernel_rfl) (by kernel_rfl) (by kernel_rfl) rfl rfl rfl rfl (by decide) (by decide) (by rfl) (by rfl) (by rfl) (by rfl) (exec_load 91 (.tmp 78) rfl rfl (run_load_one (Tryz.isAgg91 _) (HQ0.out.bx.at_ (i := 6) rfl) rfl)) (exec_load 91 (.tmp 78) rfl rfl (run_load_one (Tryz.isAgg91 _) (HQ1.out.bx.at_ (i := 6) rfl) rfl)) (exec_lit rfl (ps := #[(0, .agg #[.int .i64 (f 0), .int .i64 (f 1), .int .i64 (f 2), .int .i64 (f 3), .iface 82 (.int .i64 (f 4))])]) (by simp only [List.map_toArray, List.map_cons, List.map_nil]; rfl) (run_lit84 _ _ _ _ _ u)) (exec_lit rfl (ps := #[(0, .agg #[.int .i64 (f 0), .int .i64 (f 1), .int .i64 (f 2), .int .i64 (f 3), .iface 82 (.int .i64 (f 4))])]) (by simp only [List.map_toArray, List.map_cons, List.map_nil]; rfl) (run_lit84 _ _ _ _ _ u)) hS0 hS1 ?_
                simp only [List.setIfInBounds_toArray, List.set_cons_zero, List.set_cons_succ]
                have hS2 : (fun v => Blk v b3 #[.pointer (some ⟨pn, 0, none⟩)] 88 ∧ Blk v be #[.int .i64 (f 0), .int .i64 (f 1), .int .i64 (f 2), .int .i64 (f 3), .iface 82 (.int .i64 (f 4))] 84) u2 := ⟨hps.bx.at_ (i := 5) rfl, hps.bx.at_ (i := 0) rfl⟩
                refine wpH_run (i := 7) (v := .slice A2 (t + 1) c2) (w' := u2) (by kernel_rfl) rfl rfl (by rfl) (exec_append (.tmp 79) (.tmp 81) 91 91 rfl rfl rfl hap) hS2 ?_
                simp only [List.setIfInBounds_toArray, List.set_cons_zero, List.set_cons_succ]
                have HQ := Lib.hid hps
                clear hps hap hbl hlit hS0 hS1 HQ0 HQ1
                refine wpH_take (i := 8) (v := ?_) rfl rfl (by kernel_rfl) (by kernel_rfl) (by kernel_rfl) (fun _ _ _ h => h) (Or.inl ⟨by rfl, ?_⟩) hS2 ?_
                rotate_left
                · (intro w_ hw_; obtain ⟨q1, q2⟩ := hw_; have q3 := q1.one; go_simp; try with_reducible rfl)
                simp only [List.setIfInBounds_toArray, List.set_cons_zero, List.set_cons_succ]
                refine wpH_take (i := 9) (v := ?_) rfl rfl (by kernel_rfl) (by kernel_rfl) (by kernel_rfl) (fun _ _ _ h => h) (Or.inl ⟨by rfl, ?_⟩) hS2 ?_
                rotate_left
                · (intro w_ hw_; go_simp; try with_reducible rfl)
                simp only [List.setIfInBounds_toArray, List.set_cons_zero, List.set_cons_succ]
                have hst := HQ.out.set (i := 6) rfl 1 (.slice A2 (t + 1) c2)
                have hS3 : (fun v => Blk v b3 #[.pointer (some ⟨pn, 0, none⟩)] 88 ∧ Blk v be #[.int .i64 (f 0), .int .i64 (f 1), .int .i64 (f 2), .int .i64 (f 3), .iface 82 (.int .i64 (f 4))] 84) (u2.setCell ⟨pn, 1, none⟩ (.slice A2 (t + 1) c2)) := ⟨hst.bx.at_ (i := 5) rfl, hst.bx.at_ (i := 0) rfl⟩
                refine wpH_store (i := 10) (w' := u2.setCell ⟨pn, 1, none⟩ (.slice A2 (t + 1) c2)) (by kernel_rfl) rfl rfl (by rfl) (exec_store 91 (.tmp 84) (.tmp 82) rfl rfl rfl (run_store_one (Tryz.sizeOf91 _) (HQ.out.bx.at_ (i := 6) rfl) (by simp) rfl)) hS3 ?_
                clear HQ hS2 hS3
                have HQ := Lib.hid hst
                clear hst
                refine wpAnyH_done (by kernel_rfl) ?_ _
                generalize u2.setCell ⟨pn, 1, none⟩ (.slice A2 (t + 1) c2) = u3 at *
                gi_wp2
                refine ⟨HQ.out.kl.trans (congrArg (fun r => some (Obj.loop (r .busy none))) HREC.out.symm), ?_⟩
                intro W5 hT5
                have C5 := HQ.out.turned (o' := rec .ready none) (Eq.mp (congrArg (fun r => Turned (d + 1) (Obj.loop (r .ready none)) u3 W5) HREC.out) hT5)
                have C6 := Lib.hid (C5.sub (List.Sublist.cons _ (List.Sublist.cons _ (List.Sublist.refl _))) (List.Sublist.refl _))
                clear C5 HQ hT5
                have C7 : PsSt w W5 [⟨b2, #[.int .i64 40], 3⟩, ⟨b1, #[.slice (some ⟨p.block, p.off + 3, none⟩) m (c - 3)], 108⟩, ⟨b4, #[.int .i64 (cn : Int)], 3⟩, ⟨b3, #[.pointer (some ⟨pn, 0, none⟩)], 88⟩, ⟨pn, #[.int .i64 (z0 : Nat), .slice A2 (t + 1) c2], 93⟩] [⟨84, 5, .slice A2 (t + 1) c2, t + 1, cellsE z0 (es ++ [entAt q])⟩] d (d + 1) (rec .ready none) := by
                  rw [← cellsE_snoc z0 es q f HQD.out.2.2 hty]
                  exact C6.out
                have C8 := Lib.hid C7
                clear C6 C7 hty hzq
                have cb2 := (C8.out.bx.at_ (i := 0) rfl).cell 0
                simp only [List.getElem?_toArray, List.getElem?_cons_zero] at cb2
                obtain ⟨g1, g2, g3, g4, g5⟩ := step_facts HU.out.2.1 rfl HU.out.2.2.2 HT.out hcs
                have HG := Lib.hid (And.intro g1 (And.intro g2 (And.intro g3 g5)))
                have HNX := Lib.hid (goP_next HP.out.2 hcs HQD.out.1 HQD.out.2.1)
                clear g1 g2 g3 g5
                gi_wp2
                go_roundw
                case rel => exact ⟨t + 1, T + 40, es ++ [entAt q], A2, c2, Lib.hid HG.out.2.1, HG.out.1, HG.out.2.2.1, by rw [g4], Lib.hid ⟨C8.out, by rw [List.length_append, HP.out.1]; rfl, HNX.out⟩⟩
                case measure => exact meas_step HG.out.2.2.2 g4
              · have hzq : ((z0 : Int) == 0) = false := by simpa using hzz
                have hty : tyE z0 = 96 := by unfold tyE; simp [hzz]
                clear hzz
                gi_wp2_with (rw [wpli_id]; first
                  | (refine wpli_ld HQ 0 rfl _ _ rfl (by first | exact .inl rfl | exact .inr ⟨_, _, _, _, rfl, rfl, rfl, rfl⟩) (by exact rfl) Tryz.isAgg2 rfl ?_)
                  | (refine wpli_ld HQ 1 rfl _ _ rfl (by first | exact .inl rfl | exact .inr ⟨_, _, _, _, rfl, rfl, rfl, rfl⟩) (by exact rfl) Tryz.isAgg2 rfl ?_)
                  | (refine wpli_ld HQ 5 rfl _ _ rfl (by first | exact .inl rfl | exact .inr ⟨_, _, _, _, rfl, rfl, rfl, rfl⟩) (by exact rfl) Tryz.isAgg88 rfl ?_)
                  | (refine wpli_ld HQ 6 rfl _ _ rfl (by first | exact .inl rfl | exact .inr ⟨_, _, _, _, rfl, rfl, rfl, rfl⟩) (by exact rfl) Tryz.isAgg3 rfl ?_)
                  | (refine wpli_new HQ 84 rfl (by first | exact .inl rfl | exact .inr ⟨_, _, _, _, rfl, rfl, rfl, rfl⟩) Tryz.zeroValue84 rfl (fun be w' H2 => ?_); simp only [Value.cells] at H2; clear HQ; have HQ := H2; clear H2)
                  | (refine wpli_sta HQ 0 rfl rfl _ _ _ rfl (by first | exact .inl rfl | exact .inr ⟨_, _, _, _, rfl, rfl, rfl, rfl⟩) (by exact rfl) (by (conv => lhs; whnf) <;> exact rfl) Tryz.sizeOf84 rfl (by kernel_rfl) (by kernel_rfl) rfl (fun w' H2 => ?_); simp only [List.set_cons_succ, List.set_cons_zero, List.setIfInBounds_toArray] at H2; clear HQ; have HQ := H2; clear H2)
                  | (refine wpli_st HQ 0 rfl rfl _ _ _ rfl (by first | exact .inl rfl | exact .inr ⟨_, _, _, _, rfl, rfl, rfl, rfl⟩) (by exact rfl) (by (conv => lhs; whnf) <;> exact rfl) Tryz.sizeOf20 rfl (by kernel_rfl) rfl (fun w' H2 => ?_); simp only [List.set_cons_succ, List.set_cons_zero, List.setIfInBounds_toArray] at H2; clear HQ; have HQ := H2; clear H2))
                refine wpIn_region_H (S := fun v => Blk v b3 #[.pointer (some ⟨pn, 0, none⟩)] 88 ∧ Blk v be #[.int .i64 (f 0), .int .i64 (f 1), .int .i64 (f 2), .int .i64 (f 3), .iface 96 (.int .i64 (f 4))] 84) (by kernel_rfl) (by kernel_rfl) (by rintro ⟨_, _, h⟩; exact h) (fun u hu => ?_)
                have hS0 : (fun v => Blk v b3 #[.pointer (some ⟨pn, 0, none⟩)] 88 ∧ Blk v be #[.int .i64 (f 0), .int .i64 (f 1), .int .i64 (f 2), .int .i64 (f 3), .iface 96 (.int .i64 (f 4))] 84) u := by subst hu; exact ⟨(HQ.out.bx.at_ (i := 5) rfl).drew, (HQ.out.bx.at_ (i := 0) rfl).drew⟩
                have HQ0 := Lib.hid (show PsSt w u _ _ d (d + 1) (rec .busy none) from by subst hu; exact HQ.out.grew ⟨rfl, rfl, rfl, Nat.le_refl _, fun _ _ => rfl⟩)
                clear hu HQ
                refine wpH_take (i := 0) (v := ?_) rfl rfl (by kernel_rfl) (by kernel_rfl) (by kernel_rfl) (fun _ _ _ h => h) (Or.inl ⟨by rfl, ?_⟩) hS0 ?_
                rotate_left
                · (intro w_ hw_; obtain ⟨q1, q2⟩ := hw_; have q3 := q1.one; go_simp; try with_reducible rfl)
                simp only [List.setIfInBounds_toArray, List.set_cons_zero, List.set_cons_succ]
                refine wpH_take (i := 1) (v := ?_) rfl rfl (by kernel_rfl) (by kernel_rfl) (by kernel_rfl) (fun _ _ _ h => h) (Or.inl ⟨by rfl, ?_⟩) hS0 ?_
                rotate_left
                · (intro w_ hw_; obtain ⟨q1, q2⟩ := hw_; have q3 := q1.one; go_simp; try with_reducible rfl)
                simp only [List.setIfInBounds_toArray, List.set_cons_zero, List.set_cons_succ]
                refine wpH_take (i := 2) (v := ?_) rfl rfl (by kernel_rfl) (by kernel_rfl) (by kernel_rfl) (fun _ _ _ h => h) (Or.inl ⟨by rfl, ?_⟩) hS0 ?_
                rotate_left
                · (intro w_ hw_; obtain ⟨q1, q2⟩ := hw_; have q3 := q1.one; go_simp; try with_reducible rfl)
                simp only [List.setIfInBounds_toArray, List.set_cons_zero, List.set_cons_succ]
                refine wpH_take (i := 3) (v := ?_) rfl rfl (by kernel_rfl) (by kernel_rfl) (by kernel_rfl) (fun _ _ _ h => h) (Or.inl ⟨by rfl, ?_⟩) hS0 ?_
                rotate_left
                · (intro w_ hw_; go_simp; try with_reducible rfl)
                simp only [List.setIfInBounds_toArray, List.set_cons_zero, List.set_cons_succ]
                refine wpH_take (i := 5) (v := .agg #[.int .i64 (f 0), .int .i64 (f 1), .int .i64 (f 2), .int .i64 (f 3), .iface 96 (.int .i64 (f 4))]) rfl rfl (by kernel_rfl) (by kernel_rfl) (by kernel_rfl) (fun _ _ _ h => h) (Or.inl ⟨by rfl, ?_⟩) hS0 ?_
                · (intro w_ hw_; exact exec_load 84 (.tmp 8) rfl rfl (run_load_agg (Tryz.isAgg84 _) (Tryz.sizeOf84 _) hw_.2 (by simp)))
                simp only [List.setIfInBounds_toArray, List.set_cons_zero, List.set_cons_succ]
                have hbl := (Below.refl u.heap.size u).alloc (Nat.le_refl _) (.cells #[.int .i64 (f 0), .int .i64 (f 1), .int .i64 (f 2), .int .i64 (f 3), .iface 96 (.int .i64 (f 4))] 84)
                have hlit : (u.alloc (.cells #[.int .i64 (f 0), .int .i64 (f 1), .int .i64 (f 2), .int .i64 (f 3), .iface 96 (.int .i64 (f 4))] 84)).ownsRow u.heap.size 84 5 (.slice (some ⟨u.heap.size, 0, none⟩) 1 1) 1 (#[.int .i64 (f 0), .int .i64 (f 1), .int .i64 (f 2), .int .i64 (f 3), .iface 96 (.int .i64 (f 4))] : Array Value).toList := World.ownsRow_lit u #[.int .i64 (f 0), .int .i64 (f 1), .int .i64 (f 2), .int .i64 (f 3), .iface 96 (.int .i64 (f 4))] 1 (Nat.le_refl _) (by simp [maxLen]) rfl
                have HQ1 := Lib.hid (HQ0.out.grew hbl)
                obtain ⟨A2, c2, u2, hap, hps⟩ := HQ1.out.app 91 0 rfl (Own.base_ HQ0.out.bx.low.size hlit) (by intro x hx; simp at hx; rcases hx with rfl | rfl | rfl | rfl | rfl <;> rfl) (by have := HCN.out.2; omega)
                have hS1 : (fun v => Blk v b3 #[.pointer (some ⟨pn, 0, none⟩)] 88 ∧ Blk v be #[.int .i64 (f 0), .int .i64 (f 1), .int .i64 (f 2), .int .i64 (f 3), .iface 96 (.int .i64 (f 4))] 84) (u.alloc (.cells #[.int .i64 (f 0), .int .i64 (f 1), .int .i64 (f 2), .int .i64 (f 3), .iface 96 (.int .i64 (f 4))] 84)) := ⟨HQ1.out.bx.at_ (i := 5) rfl, HQ1.out.bx.at_ (i := 0) rfl⟩
                refine wpH_pair (i := 4) (j := 6) (v1 := .slice A' t c') (v2 := .slice (some ⟨u.heap.size, 0, none⟩) 1 1) (w2 := u.alloc (.cells #[.int .i64 (f 0), .int .i64 (f 1), .int .i64 (f 2), .int .i64 (f 3), .iface 96 (.int .i64 (f 4))] 84)) (by kernel_rfl) (by kernel_rfl) (by kernel_rfl) rfl rfl rfl rfl (by decide) (by decide) (by rfl) (by rfl) (by rfl) (by rfl) (exec_load 91 (.tmp 78) rfl rfl (run_load_one (Tryz.isAgg91 _) (HQ0.out.bx.at_ (i := 6) rfl) rfl)) (exec_load 91 (.tmp 78) rfl rfl (run_load_one (Tryz.isAgg91 _) (HQ1.out.bx.at_ (i := 6) rfl) rfl)) (exec_lit rfl (ps := #[(0, .agg #[.int .i64 (f 0), .int .i64 (f 1), .int .i64 (f 2), .int .i64 (f 3), .iface 96 (.int .i64 (f 4))])]) (by simp only [List.map_toArray, List.map_cons, List.map_nil]; rfl) (run_lit84 _ _ _ _ _ u)) (exec_lit rfl (ps := #[(0, .agg #[.int .i64 (f 0), .int .i64 (f 1), .int .i64 (f 2), .int .i64 (f 3), .iface 96 (.int .i64 (f 4))])]) (by simp only [List.map_toArray, List.map_cons, List.map_nil]; rfl) (run_lit84 _ _ _ _ _ u)) hS0 hS1 ?_
                simp only [List.setIfInBounds_toArray, List.set_cons_zero, List.set_cons_succ]
                have hS2 : (fun v => Blk v b3 #[.pointer (some ⟨pn, 0, none⟩)] 88 ∧ Blk v be #[.int .i64 (f 0), .int .i64 (f 1), .int .i64 (f 2), .int .i64 (f 3), .iface 96 (.int .i64 (f 4))] 84) u2 := ⟨hps.bx.at_ (i := 5) rfl, hps.bx.at_ (i := 0) rfl⟩
                refine wpH_run (i := 7) (v := .slice A2 (t + 1) c2) (w' := u2) (by kernel_rfl) rfl rfl (by rfl) (exec_append (.tmp 79) (.tmp 81) 91 91 rfl rfl rfl hap) hS2 ?_
                simp only [List.setIfInBounds_toArray, List.set_cons_zero, List.set_cons_succ]
                have HQ := Lib.hid hps
                clear hps hap hbl hlit hS0 hS1 HQ0 HQ1
                refine wpH_take (i := 8) (v := ?_) rfl rfl (by kernel_rfl) (by kernel_rfl) (by kernel_rfl) (fun _ _ _ h => h) (Or.inl ⟨by rfl, ?_⟩) hS2 ?_
                rotate_left
                · (intro w_ hw_; obtain ⟨q1, q2⟩ := hw_; have q3 := q1.one; go_simp; try with_reducible rfl)
                simp only [List.setIfInBounds_toArray, List.set_cons_zero, List.set_cons_succ]
                refine wpH_take (i := 9) (v := ?_) rfl rfl (by kernel_rfl) (by kernel_rfl) (by kernel_rfl) (fun _ _ _ h => h) (Or.inl ⟨by rfl, ?_⟩) hS2 ?_
                rotate_left
                · (intro w_ hw_; go_simp; try with_reducible rfl)
                simp only [List.setIfInBounds_toArray, List.set_cons_zero, List.set_cons_succ]
                have hst := HQ.out.set (i := 6) rfl 1 (.slice A2 (t + 1) c2)
                have hS3 : (fun v => Blk v b3 #[.pointer (some ⟨pn, 0, none⟩)] 88 ∧ Blk v be #[.int .i64 (f 0), .int .i64 (f 1), .int .i64 (f 2), .int .i64 (f 3), .iface 96 (.int .i64 (f 4))] 84) (u2.setCell ⟨pn, 1, none⟩ (.slice A2 (t + 1) c2)) := ⟨hst.bx.at_ (i := 5) rfl, hst.bx.at_ (i := 0) rfl⟩
                refine wpH_store (i := 10) (w' := u2.setCell ⟨pn, 1, none⟩ (.slice A2 (t + 1) c2)) (by kernel_rfl) rfl rfl (by rfl) (exec_store 91 (.tmp 84) (.tmp 82) rfl rfl rfl (run_store_one (Tryz.sizeOf91 _) (HQ.out.bx.at_ (i := 6) rfl) (by simp) rfl)) hS3 ?_
                clear HQ hS2 hS3
                have HQ := Lib.hid hst
                clear hst
                refine wpAnyH_done (by kernel_rfl) ?_ _
                generalize u2.setCell ⟨pn, 1, none⟩ (.slice A2 (t + 1) c2) = u3 at *
                gi_wp2
                refine ⟨HQ.out.kl.trans (congrArg (fun r => some (Obj.loop (r .busy none))) HREC.out.symm), ?_⟩
                intro W5 hT5
                have C5 := HQ.out.turned (o' := rec .ready none) (Eq.mp (congrArg (fun r => Turned (d + 1) (Obj.loop (r .ready none)) u3 W5) HREC.out) hT5)
                have C6 := Lib.hid (C5.sub (List.Sublist.cons _ (List.Sublist.cons _ (List.Sublist.refl _))) (List.Sublist.refl _))
                clear C5 HQ hT5
                have C7 : PsSt w W5 [⟨b2, #[.int .i64 40], 3⟩, ⟨b1, #[.slice (some ⟨p.block, p.off + 3, none⟩) m (c - 3)], 108⟩, ⟨b4, #[.int .i64 (cn : Int)], 3⟩, ⟨b3, #[.pointer (some ⟨pn, 0, none⟩)], 88⟩, ⟨pn, #[.int .i64 (z0 : Nat), .slice A2 (t + 1) c2], 93⟩] [⟨84, 5, .slice A2 (t + 1) c2, t + 1, cellsE z0 (es ++ [entAt q])⟩] d (d + 1) (rec .ready none) := by
                  rw [← cellsE_snoc z0 es q f HQD.out.2.2 hty]
                  exact C6.out
                have C8 := Lib.hid C7
                clear C6 C7 hty hzq
                have cb2 := (C8.out.bx.at_ (i := 0) rfl).cell 0
                simp only [List.getElem?_toArray, List.getElem?_cons_zero] at cb2
                obtain ⟨g1, g2, g3, g4, g5⟩ := step_facts HU.out.2.1 rfl HU.out.2.2.2 HT.out hcs
                have HG := Lib.hid (And.intro g1 (And.intro g2 (And.intro g3 g5)))
                have HNX := Lib.hid (goP_next HP.out.2 hcs HQD.out.1 HQD.out.2.1)
                clear g1 g2 g3 g5
                gi_wp2
                go_roundw
                case rel => exact ⟨t + 1, T + 40, es ++ [entAt q], A2, c2, Lib.hid HG.out.2.1, HG.out.1, HG.out.2.2.1, by rw [g4], Lib.hid ⟨C8.out, by rw [List.length_append, HP.out.1]; rfl, HNX.out⟩⟩
                case measure => exact meas_step HG.out.2.2.2 g4
    · have hnt : ¬ (T : Int) < (m : Int) := by omega
      have HP := Lib.hid (And.intro B.out.2.1 B.out.2.2)
      have HEND := Lib.hid (show es = parseL l from by
        have h1 := HP.out.2
        rw [show goP (cn - t) (s.drop T) = [] from goP_stop (by rw [List.length_drop, HM.out.2.2]; omega), List.append_nil] at h1
        unfold parseL
        rw [HZ.out.2, ← HCN.out.1, ← HM.out.1, h1])
      gi_wp2
      go_end0
      refine ⟨⟨_, rfl⟩, Or.inl ⟨B.out.1.kl, ?_⟩⟩
      intro W6 hT6
      have C6 := B.out.1.turned (o' := rec .exhausted none) (by exact hT6)
      clear hT6 B cb1 cb2
      have C6' := Lib.hid C6
      clear C6
      have hy3 := (C6'.out.bx.at_ (i := 3) rfl).cell 0
      simp only [List.getElem?_toArray, List.getElem?_cons_zero] at hy3
      go_wp2_with fail
      have hp := Turned.put (.deferred none) C6'.out.kd
      have hb6 := C6'.out.bx.turned C6'.out.kd (by intro _ _ _ e; cases e) C6'.out.ld hp
      refine ⟨by simp, .inl ⟨_, _, rfl, run_takeDeferred C6'.out.kd, ?_⟩⟩
      refine ⟨_, results_tmp rfl _ _ _, pn, A', c', rfl, ?_⟩
      rw [HZ.out.1, ← HEND.out, HP.out.1]
      exact hb6.sub (List.Sublist.cons _ (List.Sublist.cons _ (List.Sublist.cons _ (List.Sublist.cons _ (List.Sublist.refl _))))) (List.Sublist.refl _)
end Go.Proofs.YtfmdmfiljplkoaaGreat
