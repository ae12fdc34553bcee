/- Structs stored beside a pool; what a page has behind Take and Write. Printed by mk_s8.py. -/
import Derived.Test.YtfmdmfiljplkoaaGreatS7
namespace Go.Proofs.YtfmdmfiljplkoaaGreat
open Go.RowKit Go.Maps Go.Shelf
set_option maxRecDepth 8000
set_option linter.unusedSimpArgs false
variable {ι : Type} [Bar ι]
section
variable {w0 v v' : World} {L L' : List Bx} {R R' : List Rx} {M M' : Mem} {S S' : Pl} {D D' : Dsk} {K : Ks}
section
variable {ops : Array Oper} {rest : List Oper} {o : Oper} {a : Act} {Q : Exit → Act → World → Prop}
theorem wpln_new (H : Hid (Qn w0 v L R M S D K)) (t : TypeId) (ho : o.op = .alloc t) (hgd : Want ops o a) {z : Value} (hz : ∀ w, (zeroValue t).run Tryz.prog w = .ok z w) {cs : Array Value} (hc : z.cells = cs)
    (k : ∀ b w', Hid (Qn w0 w' (⟨b, cs, t⟩ :: L) R M S D K) → wpList Tryz.prog ops Q rest (a.put o.dst (.pointer (some ⟨b, 0, none⟩))) w') : WL Tryz.prog ops Q (o :: rest) a v := by
  subst hc
  exact wpl_run hgd (exec_alloc ho (hz v)) (k _ _ (Lib.hid (H.out.push z.cells t)))
theorem wpln_sta (H : Hid (Qn w0 v L R M S D K)) (i : Nat) {e : Bx} (hi : L[i]? = some e) (hd : o.dst = none) (t : TypeId) (x y : Operand) (ho : o.op = .store t x y) (hgd : Want ops o a) {off : Nat} (hx : a.eval x = .pointer (some ⟨e.b, off, none⟩)) {u : Array Value} (hy : a.eval y = .agg u)
    {n : Nat} (hz : ∀ w, (Go.sizeOf t).run Tryz.prog w = .ok n w) (hs : u.size = n) (h1 : u.toList.all (·.oneCell') = true) (hn : decide (off + n ≤ e.c.size) = true) (ht5 : decide (e.t ≠ 5) = true) {cs : Array Value} (hv : splice e.c off u = cs)
    (k : ∀ w', Hid (Qn w0 w' (L.set i { e with c := cs }) R M S D K) → wpList Tryz.prog ops Q rest a w') : WL Tryz.prog ops Q (o :: rest) a v := by
  subst hv
  have hb := H.out.bx.at_ hi
  have ht := setRow_turn v e.b (splice e.c off u) hb
  exact wpl_skip hgd hd (exec_store t x y ho hx hy (run_store_agg (hz v) hb hs (of_decide_eq_true hn) (fun x hx => List.all_eq_true.1 h1 x hx))) (k _ (Lib.hid (H.out.setb hi ht.1 ht.2 (of_decide_eq_true ht5))))
end
theorem taken_iff (s : Sta) (k : Nat) : s.taken (k : Nat) = true ↔ 0 < k ∧ k < s.next ∧ k ∉ s.free := by
  unfold Sta.taken
  simp
  constructor
  · rintro ⟨⟨h1, h2⟩, h3⟩
    exact ⟨h1, h2, fun h => h3 k h rfl⟩
  · rintro ⟨h1, h2, h3⟩
    exact ⟨⟨h1, h2⟩, fun x hx e => h3 (by rw [← Int.ofNat_inj.1 e]; exact hx)⟩
section
variable {rows : List (List (Int × List Nat))} {page lv : Nat} {es : List En}
/-- Behind a node that was written. -/
theorem write_node (hi : InvR S D rows) (ht : S.now.taken page = true) (he : ∀ e ∈ es, e.Ok) (hlv : lv < 256) (hle : 3 + 40 * es.length ≤ D.rm) :
    (S.write D page (nodeL lv es)).1 = 0 ∧ NodeP (S.write D page (nodeL lv es)).2 D page lv es ∧ (S.write D page (nodeL lv es)).2.now = S.now ∧ ∀ j, j ≠ page → (S.write D page (nodeL lv es)).2.val D j = S.val D j := by
  have hz := rm_size hi.cl.ok hi.cl.z
  have hz2 := hi.cl.ok.z2
  have hz3 := hi.cl.z
  unfold Pl.write
  rw [if_neg (by rw [hi.dead]; simp), if_neg (by rw [ht]; simp), if_neg (by rw [nodeL_length]; omega)]
  have e : ∀ j, ({ S with pend := S.pend.put page (widen D.rm (nodeL lv es)) } : Pl).val D j = if j = page then widen D.rm (nodeL lv es) else S.val D j := fun j => val_put S D page _ j (x := S.now) (f := S.seen) (m := S.moved)
  refine ⟨rfl, ⟨ht, ?_, he, hlv, by omega⟩, rfl, fun j hj => ?_⟩
  · show ({ S with pend := S.pend.put page (widen D.rm (nodeL lv es)) } : Pl).val D page = _
    rw [e, if_pos rfl]
  · show ({ S with pend := S.pend.put page (widen D.rm (nodeL lv es)) } : Pl).val D j = _
    rw [e, if_neg hj]
/-- Behind a page that was taken. -/
theorem take_new (hi : InvR S D rows) (h : (S.take D).2.1 = 0) : ∃ k : Nat, (S.take D).1 = k ∧ 0 < k ∧ S.now.taken k = false ∧ (∀ j : Nat, (S.take D).2.2.now.taken j = (S.now.taken j || decide (j = k))) ∧ (∀ j, j ≠ k → (S.take D).2.2.val D j = S.val D j) ∧ InvR (S.take D).2.2 D rows := by
  have htz := top_zero hi.ok.now
  have h1 := hi.ok.now.n1
  unfold Pl.take at h ⊢
  split
  · rename_i h0
    have hne : S.now.free ≠ [] := fun e => h0 (htz.2 e)
    obtain ⟨hk, e⟩ := top_mem hne
    have hm : S.now.top ∈ S.now.free := by rw [e]; exact List.getElem_mem hk
    have hb := hi.ok.now.fb _ hm
    have hdl : S.now.free = S.now.free.dropLast ++ [S.now.top] := by
      have h1 := List.dropLast_concat_getLast hne
      have h2 : S.now.free.getLast hne = S.now.top := by unfold Sta.top; rw [List.getLast?_eq_some_getLast hne]; rfl
      rw [h2] at h1
      exact h1.symm
    have hmem : ∀ x, x ∈ S.now.free.dropLast ↔ x ∈ S.now.free ∧ x ≠ S.now.top := by
      intro x
      have hnd' := hi.ok.now.nd
      rw [hdl] at hnd'
      obtain ⟨_, _, n3⟩ := List.nodup_append.1 hnd'
      constructor
      · intro hx
        refine ⟨List.dropLast_subset _ hx, fun e => n3 x hx x (by simp [e]) rfl⟩
      · rintro ⟨h1, h2⟩
        rw [hdl] at h1
        rcases List.mem_append.1 h1 with h1 | h1
        · exact h1
        · exact absurd (by simpa using h1) h2
    refine ⟨S.now.top, rfl, by omega, ?_, fun j => ?_, fun j hj => ?_, hi.takeFree hne⟩
    · rw [Bool.eq_false_iff]
      intro ht
      exact ((taken_iff _ _).1 ht).2.2 hm
    · have ex : (S.tookFree D).now.taken (j : Nat) = true ↔ 0 < j ∧ j < S.now.next ∧ j ∉ S.now.free.dropLast := taken_iff _ j
      rw [Bool.eq_iff_iff, Bool.or_eq_true, ex, taken_iff, hmem, decide_eq_true_iff]
      constructor
      · rintro ⟨a, b, c⟩
        by_cases hj : j = S.now.top
        · exact .inr hj
        · exact .inl ⟨a, b, fun h => c ⟨h, hj⟩⟩
      · rintro (⟨a, b, c⟩ | rfl)
        · exact ⟨a, b, fun h => c h.1⟩
        · exact ⟨by omega, by omega, fun h => h.2 rfl⟩
    · have e : (S.tookFree D).val D j = if j = S.now.top then widen D.rm [] else S.val D j := val_put S D _ _ j
      show (S.tookFree D).val D j = _
      rw [e, if_neg hj]
  · rename_i h0
    have h0 : S.now.top = 0 := Decidable.of_not_not h0
    rw [if_neg (by simp [h0])] at h
    split
    · rename_i h2
      rw [if_pos h2] at h
      exact absurd h (by show ¬ ((6 : Int) = 0); decide)
    · rename_i h2
      refine ⟨S.now.next, rfl, by omega, ?_, fun j => ?_, fun j hj => ?_, hi.takeNew (by omega)⟩
      · rw [Bool.eq_false_iff]
        intro ht
        have := ((taken_iff _ _).1 ht).2.1
        omega
      · have ex : (S.tookNew D).now.taken (j : Nat) = true ↔ 0 < j ∧ j < S.now.next + 1 ∧ j ∉ S.now.free := taken_iff _ j
        rw [Bool.eq_iff_iff, Bool.or_eq_true, ex, taken_iff, decide_eq_true_iff]
        have hf := htz.1 h0
        rw [hf]
        simp
        omega
      · have e : (S.tookNew D).val D j = if j = S.now.next then widen D.rm [] else S.val D j := val_put S D _ _ j
        show (S.tookNew D).val D j = _
        rw [e, if_neg hj]
/-- Behind a node that has a page of its own. -/
theorem fresh_node (hi : InvR S D rows) (h : (S.freshP D (nodeL lv es)).2.1 = 0) (he : ∀ e ∈ es, e.Ok) (hlv : lv < 256) (hle : 3 + 40 * es.length ≤ D.rm) :
    ∃ k : Nat, (S.freshP D (nodeL lv es)).1 = k ∧ 0 < k ∧ S.now.taken k = false ∧ (∀ j : Nat, (S.freshP D (nodeL lv es)).2.2.now.taken j = (S.now.taken j || decide (j = k))) ∧ NodeP (S.freshP D (nodeL lv es)).2.2 D k lv es ∧ ∀ j, j ≠ k → (S.freshP D (nodeL lv es)).2.2.val D j = S.val D j := by
  unfold Pl.freshP at h ⊢
  split
  · rename_i h0
    obtain ⟨k, e, h1, h2, h3, h4, h5⟩ := take_new hi h0
    obtain ⟨w1, w2, w3, w4⟩ := write_node h5 (page := k) (lv := lv) (es := es) (by rw [h3]; simp) he hlv hle
    rw [e]
    refine ⟨k, rfl, h1, h2, fun j => ?_, w2, fun j hj => ?_⟩
    · show ((S.take D).2.2.write D k (nodeL lv es)).2.now.taken (j : Nat) = _
      rw [w3]
      exact h3 j
    · exact (w4 j hj).trans (h4 j hj)
  · rename_i h0
    rw [if_neg h0] at h
    exact absurd h h0
end
section
variable {P : Program} {ops : Array Oper} {rest : List Oper} {o : Oper} {a : Act} {Q : Exit → Act → World → Prop} {w : World}
theorem wpln_boxv {ops : Array Oper} (H : Hid (Qn w0 v L R M S D K)) (t : TypeId) (x : Operand) (ho : o.op = .box t x) (hgd : Want ops o a) {u : Value} (hx : a.eval x = u) {cs : Array Value} (hc : u.cells = cs)
    (k : ∀ b w', Hid (Qn w0 w' (⟨b, cs, t⟩ :: L) R M S D K) → wpList Tryz.prog ops Q rest (a.put o.dst (.pointer (some ⟨b, 0, none⟩))) w') : WL Tryz.prog ops Q (o :: rest) a v := by
  subst hc
  exact wpl_run hgd (exec_boxv ho hx) (k _ _ (Lib.hid (H.out.push u.cells t)))
/-- What stands in an own row is read. -/
theorem run_load_row {t : TypeId} {n g o c base : Nat} {r : Rx} (hA : (isAgg t).run P w = .ok true w) (hz : (Go.sizeOf t).run P w = .ok n w) (h : w.ownsRow base r.t r.s r.v r.n r.l) (hv : r.v = .slice (some ⟨g, 0, none⟩) r.n c) (hn : o + n ≤ r.n * r.s) :
    (Instr.loadAt t (.pointer (some ⟨g, o, none⟩))).run P w = .ok (.agg ((r.l.drop o).take n).toArray) w := by
  rw [hv] at h
  have hlen : r.l.length = r.n * r.s := h.1
  have hl : ((r.l.drop o).take n).length = n := by rw [List.length_take, List.length_drop]; omega
  have hc := run_loadCells_list (P := P) w ⟨g, o, none⟩ ((r.l.drop o).take n) (fun j v hv => by
    have e : (⟨g, o, none⟩ : Addr).add j = ⟨g, o + j, none⟩ := by unfold Addr.add; split <;> simp_all
    rw [e]
    rw [List.getElem?_take] at hv
    split at hv
    · rw [List.getElem?_drop] at hv
      rw [World.ownsRow.cellAt h (o + j) (by omega)]
      exact hv
    · cases hv)
  rw [hl] at hc
  unfold loadCells at hc
  simp [Instr.loadAt, Instr.sureAddr, loadVar, hA, hz, go_sem, hc]
theorem run_load_row1 {t : TypeId} {g o c base : Nat} {r : Rx} {u : Value} (hA : (isAgg t).run P w = .ok false w) (h : w.ownsRow base r.t r.s r.v r.n r.l) (hv : r.v = .slice (some ⟨g, 0, none⟩) r.n c) (hu : r.l[o]? = some u) :
    (Instr.loadAt t (.pointer (some ⟨g, o, none⟩))).run P w = .ok u w := by
  rw [hv] at h
  have hlen : r.l.length = r.n * r.s := h.1
  have ho : o < r.l.length := by
    rcases Nat.lt_or_ge o r.l.length with h1 | h1
    · exact h1
    · rw [List.getElem?_eq_none h1] at hu; cases hu
  have hc := World.ownsRow.cellAt h o (by omega)
  rw [hu] at hc
  simp [Instr.loadAt, Instr.sureAddr, loadVar, hA, go_sem, hc]
/-- A struct of an own row is read. -/
theorem wpl_rlda (H : Hid (Bxs w0 w L R)) (j : Nat) {r : Rx} (hj : R[j]? = some r) (t : TypeId) (x : Operand) (ho : o.op = .load t x) (hgd : Want ops o a) {g off c : Nat} (hx : a.eval x = .pointer (some ⟨g, off, none⟩)) (hv : r.v = .slice (some ⟨g, 0, none⟩) r.n c)
    {n : Nat} (hA : ∀ w, (isAgg t).run P w = .ok true w) (hz : ∀ w, (Go.sizeOf t).run P w = .ok n w) (hn : off + n ≤ r.n * r.s) {cs : Array Value} (hcs : ((r.l.drop off).take n).toArray = cs) (k : wpList P ops Q rest (a.put o.dst (.agg cs)) w) : WL P ops Q (o :: rest) a w := by
  subst hcs
  exact wpl_run hgd (exec_load t x ho hx (run_load_row (hA w) (hz w) (H.out.row_ hj) hv hn)) k
theorem wpl_rld (H : Hid (Bxs w0 w L R)) (j : Nat) {r : Rx} (hj : R[j]? = some r) (t : TypeId) (x : Operand) (ho : o.op = .load t x) (hgd : Want ops o a) {g off c : Nat} (hx : a.eval x = .pointer (some ⟨g, off, none⟩)) (hv : r.v = .slice (some ⟨g, 0, none⟩) r.n c)
    (hA : ∀ w, (isAgg t).run P w = .ok false w) {u : Value} (hu : r.l[off]? = some u) (k : wpList P ops Q rest (a.put o.dst u) w) : WL P ops Q (o :: rest) a w :=
  wpl_run hgd (exec_load t x ho hx (run_load_row1 (hA w) (H.out.row_ hj) hv hu)) k
end
theorem Make_nil (w : World) : Calls Tryz.prog 18 #[.pointer none] w fun e w' => e = .returned (.tuple #[.pointer none, .int .i64 1]) ∧ w' = w := by
  go_enter Tryz.func18, Tryz.ntmps18
  go_wp2
  go_ret2
  exact ⟨rfl, rfl⟩
theorem TOpen_nil (n : Int) (w : World) : Calls Tryz.prog 19 #[.pointer none, .int .i64 n] w fun e w' => e = .returned (.tuple #[.pointer none, .int .i64 1]) ∧ w' = w := by
  go_enter Tryz.func19, Tryz.ntmps19
  go_wp2
  go_ret2
  exact ⟨rfl, rfl⟩
theorem Height_nil (w : World) : Calls Tryz.prog 20 #[.pointer none] w fun e w' => e = .returned (.tuple #[.int .i64 0, .int .i64 1]) ∧ w' = w := by
  go_enter Tryz.func20, Tryz.ntmps20
  go_wp2
  go_ret2
  exact ⟨rfl, rfl⟩
theorem Root_nil (w : World) : Calls Tryz.prog 25 #[.pointer none] w fun e w' => e = .returned (.int .i64 0) ∧ w' = w := by
  go_enter Tryz.func25, Tryz.ntmps25
  go_wp2
  go_ret
  exact ⟨rfl, rfl⟩
theorem TFree_nil (w : World) : Calls Tryz.prog 24 #[.pointer none] w fun e w' => e = .returned (.int .i64 1) ∧ w' = w := by
  go_enter Tryz.func24, Tryz.ntmps24
  go_wp2
  go_ret
  exact ⟨rfl, rfl⟩
theorem row_nobytes {w : World} {b : Nat} {e : TypeId} {s n : Nat} {u : Value} {xs : List Value} (h : w.ownsRow b e s u n xs) (h5 : e ≠ 5) : NoBytes w u.ownBlock.toList := by
  intro j hj cs fz e2
  rw [Option.mem_toList] at hj
  rcases h.2 with ⟨rfl, _⟩ | ⟨g, c, cur, rfl, _, hg, _⟩
  · cases hj
  · cases hj
    rw [hg] at e2
    injection e2 with e2
    injection e2 with _ e3
    exact h5 e3
theorem Qn.rowput (h : Qn w0 v L R M S D K) {i : Nat} {r : Rx} (hi : R[i]? = some r) {u : Value} {n' : Nat} {l' : List Value} (hr : v'.ownsRow w0.heap.size r.t r.s u n' l') (hg : v.grownBy v' r.v.ownBlock)
    (ho : u.ownBlock = r.v.ownBlock ∨ u.ownBlock = some v.heap.size) (h5 : r.t ≠ 5) : Qn w0 v' L (R.set i ⟨r.t, r.s, u, n', l'⟩) M S D K := by
  have hm := List.mem_of_getElem? hi
  have hT : Turn r.v.ownBlock.toList v v' := (Turn.refl _ v).grown hg (fun k e => .inl (by rw [Option.mem_toList]; exact e))
  refine ⟨h.bx.rowgrew hi hr hg ho, h.at_.turn hT (row_nobytes (h.bx.row_ hi) h5) (fun j hj hx => ?_), h.lo, h.nb, fun q hq g hg2 hm2 => ?_, h.ks.turn hT (h.ks.notrow (h.bx.row_ hi)) fun x hx => (h.ks.at_ x hx).2.2.2⟩
  · rw [Option.mem_toList] at hx
    exact h.nr r hm j hx hj
  · rcases mem_set hq with rfl | ⟨j, _, hq⟩
    · rcases ho with ho | ho
      · rw [ho] at hg2
        exact h.nr r hm g hg2 hm2
      · rw [ho] at hg2
        cases hg2
        have := h.at_.lt _ hm2
        omega
    · exact h.nr q (List.mem_of_getElem? hq) g hg2 hm2
theorem run_appQ {t e : TypeId} {s : Nat} (E : Elem t e s) (ty : TypeId) (h : Qn w0 v L R M S D K) (j : Nat) {u : Value} {n : Nat} {l : List Value} (hj : R[j]? = some ⟨e, s, u, n, l⟩) {g m cap bs : Nat} {news : List Value} (hsrc : v.ownsRow bs e s (.slice (some ⟨g, 0, none⟩) m cap) m news) (h1 : ∀ u ∈ news, u.oneCell' = true) (hb : n + m ≤ 2000000) (h5 : e ≠ 5) :
    ∃ A c v', (Builtin.append_ #[t, t] ty #[u, .slice (some ⟨g, 0, none⟩) m cap]).run Tryz.prog v = .ok (.slice A (n + m) c) v' ∧ Qn w0 v' L (R.set j ⟨e, s, .slice A (n + m) c, n + m, l ++ news⟩) M S D K := by
  obtain ⟨i, z, hi, hz, hs, hby, hc⟩ := E.i
  have hr := h.bx.row_ hj
  dsimp only at hr
  obtain ⟨v2, w2, hrun, h2, h3, _, h6⟩ := run_append_own_at (P := Tryz.prog) v w0.heap.size t ty e i z s i.bytes E.u hi hz hs rfl hc E.pos u n l hr ⟨g, 0, none⟩ m cap news hsrc.1
    (fun k u hu => World.ownsRow.cells hsrc (g := g) rfl k u hu) h1 (by simp only [maxLen]; omega) (by have := Nat.mul_le_mul hb hby; omega) h.low.size
  obtain ⟨A', c', rfl, _⟩ := slice_shape h2
  exact ⟨A', c', w2, hrun, h.rowput hj h2 h3 h6 h5⟩
theorem el147 : Elem 73 147 3 := by
  obtain ⟨i, hi, hz, hs, hb⟩ := info_parts (show (Tryz.prog.info? 147).map (fun i => (i.zero, i.size, i.bytes)) = some (some (.agg #[.int .i64 0, .pointer none, .int .i64 0]), 3, 24) by kernel_rfl)
  exact ⟨Tryz.underlying73, ⟨i, _, hi, hz, hs, by omega, rfl⟩, by decide⟩
theorem el35 : Elem 39 35 5 := by
  obtain ⟨i, hi, hz, hs, hb⟩ := info_parts (show (Tryz.prog.info? 35).map (fun i => (i.zero, i.size, i.bytes)) = some (some (.agg #[.int .i64 0, .int .i64 0, .int .i64 0, .int .i64 0, .int .i64 0]), 5, 40) by kernel_rfl)
  exact ⟨Tryz.underlying39, ⟨i, _, hi, hz, hs, by omega, rfl⟩, by decide⟩
theorem run_lit147 (c0 c1 c2 : Value) (w : World) : (Instr.buildSlice 73 1 #[(0, .agg #[c0, c1, c2])]).run Tryz.prog w = .ok (.slice (some ⟨w.heap.size, 0, none⟩) 1 1) (w.alloc (.cells #[c0, c1, c2] 147)) := by
  simp [Instr.buildSlice, run_underlying Tryz.underlying73, Tryz.sizeOf147, Tryz.zeroValue147, go_sem, Instr.fill, Value.cells]
theorem run_lit35 (c0 c1 c2 c3 c4 : Value) (w : World) : (Instr.buildSlice 39 1 #[(0, .agg #[c0, c1, c2, c3, c4])]).run Tryz.prog w = .ok (.slice (some ⟨w.heap.size, 0, none⟩) 1 1) (w.alloc (.cells #[c0, c1, c2, c3, c4] 35)) := by
  simp [Instr.buildSlice, run_underlying Tryz.underlying39, Tryz.sizeOf35, Tryz.zeroValue35, go_sem, Instr.fill, Value.cells]
section
variable {ops : Array Oper} {rest : List Oper} {o : Oper} {a : Act} {Q : Exit → Act → World → Prop}
theorem wpln_lit (H : Hid (Qn w0 v L R M S D K)) (t e : TypeId) (y : Operand) (ho : o.op = .buildSlice t 1 #[(0, y)]) (hgd : Want ops o a) {cs : Array Value} (hy : a.eval y = .agg cs) (hrun : ∀ w : World, (Instr.buildSlice t 1 #[(0, .agg cs)]).run Tryz.prog w = .ok (.slice (some ⟨w.heap.size, 0, none⟩) 1 1) (w.alloc (.cells cs e))) {s : Nat} (hs : cs.size = s)
    (k : ∀ b w', Hid (Qn w0 w' L (⟨e, s, .slice (some ⟨b, 0, none⟩) 1 1, 1, cs.toList⟩ :: R) M S D K) → wpList Tryz.prog ops Q rest (a.put o.dst (.slice (some ⟨b, 0, none⟩) 1 1)) w') : WL Tryz.prog ops Q (o :: rest) a v := by
  subst hs
  refine wpl_run hgd (exec_lit ho (ps := #[(0, .agg cs)]) (by simp [hy]) (hrun v)) (k _ _ (Lib.hid (H.out.own ((Below.refl _ v).alloc (Nat.le_refl _) _) ?_)))
  exact World.ownsRow_lit v cs 1 (Nat.le_refl _) (by simp [maxLen]) (by simp)
theorem wpln_app {t e : TypeId} {s : Nat} (E : Elem t e s) (H : Hid (Qn w0 v L R M S D K)) (j : Nat) {u : Value} {n : Nat} {l : List Value} (hj : R[j]? = some ⟨e, s, u, n, l⟩) (x y : Operand)
    (ho : o.op = .call { callee := .builtin .append, args := #[x, y], argTypes := #[t, t] }) (hgd : Want ops o a) (hs : a.eval x = u) {g m cap bs : Nat} {news : List Value} (hx : a.eval y = .slice (some ⟨g, 0, none⟩) m cap) (hsrc : v.ownsRow bs e s (.slice (some ⟨g, 0, none⟩) m cap) m news) (h1 : ∀ u ∈ news, u.oneCell' = true) (hb : n + m ≤ 2000000) (h5 : decide (e ≠ 5) = true)
    {N : Nat} (hN : n + m = N) {l' : List Value} (hl : l ++ news = l')
    (k : ∀ A c w', Hid (Qn w0 w' L (R.set j ⟨e, s, .slice A N c, N, l'⟩) M S D K) → wpList Tryz.prog ops Q rest (a.put o.dst (.slice A N c)) w') : WL Tryz.prog ops Q (o :: rest) a v := by
  subst hN hl
  obtain ⟨A, c, w', hr, hk⟩ := run_appQ E o.type H.out j hj hsrc h1 hb (of_decide_eq_true h5)
  exact wpl_step hgd fun K hK => Lib.wp_append_run v x y t t ho u _ hs hx _ w' hr (hK _ _ (k A c w' (Lib.hid hk)))
end
theorem Drop_nil {x : Array Value} (w : World) : Calls Tryz.prog 23 #[.pointer none, .agg x] w fun e w' => e = .returned (.int .i64 1) ∧ Below w.heap.size w w' := by
  have H := Lib.hid (Bxs.start w)
  go_enter Tryz.func23, Tryz.ntmps23
  go_wp2_with (rw [wpl_id]; first
    | (refine wpl_box H 35 _ rfl (by first | exact .inl rfl | exact .inr ⟨_, _, _, _, rfl, rfl, rfl, rfl⟩) rfl (fun b w' H2 => ?_); clear H; have H := H2; clear H2))
  go_ret
  exact ⟨rfl, H.out.low⟩
theorem Put_nil {x : Array Value} (w : World) : Calls Tryz.prog 9 #[.pointer none, .agg x] w fun e w' => e = .returned (.int .i64 1) ∧ Below w.heap.size w w' := by
  have H := Lib.hid (Bxs.start w)
  go_enter Tryz.func9, Tryz.ntmps9
  go_wp2_with (rw [wpl_id]; first
    | (refine wpl_box H 35 _ rfl (by first | exact .inl rfl | exact .inr ⟨_, _, _, _, rfl, rfl, rfl, rfl⟩) rfl (fun b w' H2 => ?_); clear H; have H := H2; clear H2))
  go_ret
  exact ⟨rfl, H.out.low⟩
theorem Window_nil {x : Array Value} (w : World) : Calls Tryz.prog 11 #[.pointer none, .agg x] w fun e w' => e = .returned (.tuple #[.slice none 0 0, .int .i64 1]) ∧ Below w.heap.size w w' := by
  have H := Lib.hid (Bxs.start w)
  go_enter Tryz.func11, Tryz.ntmps11
  go_wp2_with (rw [wpl_id]; first
    | (refine wpl_boxv H 27 _ rfl (by first | exact .inl rfl | exact .inr ⟨_, _, _, _, rfl, rfl, rfl, rfl⟩) rfl rfl (fun b w' H2 => ?_); clear H; have H := H2; clear H2)
    | (refine wpl_box H 33 _ rfl (by first | exact .inl rfl | exact .inr ⟨_, _, _, _, rfl, rfl, rfl, rfl⟩) rfl (fun b3 w' H2 => ?_); clear H; have H := H2; clear H2)
    | (refine wpl_ld H 0 rfl _ _ rfl (by first | exact .inl rfl | exact .inr ⟨_, _, _, _, rfl, rfl, rfl, rfl⟩) (by exact rfl) Tryz.isAgg27 rfl ?_)
    | (refine wpl_ld H 1 rfl _ _ rfl (by first | exact .inl rfl | exact .inr ⟨_, _, _, _, rfl, rfl, rfl, rfl⟩) (by exact rfl) Tryz.isAgg27 rfl ?_))
  go_ret2
  exact ⟨rfl, H.out.low⟩
theorem Near_nil {x : Array Value} (n : Int) (w : World) : Calls Tryz.prog 13 #[.pointer none, .agg x, .int .i64 n] w fun e w' => e = .returned (.tuple #[.slice none 0 0, .int .i64 1]) ∧ Below w.heap.size w w' := by
  have H := Lib.hid (Bxs.start w)
  go_enter Tryz.func13, Tryz.ntmps13
  go_wp2_with (rw [wpl_id]; first
    | (refine wpl_box H 24 _ rfl (by first | exact .inl rfl | exact .inr ⟨_, _, _, _, rfl, rfl, rfl, rfl⟩) rfl (fun b w' H2 => ?_); clear H; have H := H2; clear H2)
    | (refine wpl_boxv H 3 _ rfl (by first | exact .inl rfl | exact .inr ⟨_, _, _, _, rfl, rfl, rfl, rfl⟩) rfl rfl (fun b3 w' H2 => ?_); clear H; have H := H2; clear H2)
    | (refine wpl_ld H 0 rfl _ _ rfl (by first | exact .inl rfl | exact .inr ⟨_, _, _, _, rfl, rfl, rfl, rfl⟩) (by exact rfl) Tryz.isAgg3 rfl ?_))
  go_ret2
  exact ⟨rfl, H.out.low⟩
theorem Open_no (h : Lp w0 v M S D) (n : Int) (ht : S.now.taken n = false) : Calls Tryz.prog 19 #[.pointer (some ⟨M.p, 0, none⟩), .int .i64 n] v fun e v' => e = .returned (.tuple #[.pointer none, .int .i64 7]) ∧ v' = v := by
  have HR := Lib.hid (Read_no_lp h n ht)
  clear h ht
  go_enter Tryz.func19, Tryz.ntmps19
  go_wp2_with fail
  refine HR.out.mono ?_
  rintro e w1 ⟨rfl, rfl⟩
  go_wp2
  go_ret2
  exact ⟨rfl, rfl⟩
theorem Qn.nilrow (h : Qn w0 v L R M S D K) (e : TypeId) (s : Nat) : Qn w0 v L (⟨e, s, .slice none 0 0, 0, []⟩ :: R) M S D K := h.own (Below.refl _ _) (World.ownsRow_nil _ _ _ _)
theorem Make_ok (h : Qn w0 v L R M S D K) (hi : ∃ rows, InvR S D rows) (h0 : (S.freshP D (nodeL 0 [])).2.1 = 0) :
    Calls Tryz.prog 18 #[.pointer (some ⟨M.p, 0, none⟩)] v fun e v' => ∃ tp M', e = .returned (.tuple #[.pointer (some ⟨tp, 0, none⟩), .int .i64 0]) ∧ Hand M M' ∧
      Qn w0 v' (⟨tp, #[.pointer (some ⟨M.p, 0, none⟩), .int .i64 (S.freshP D (nodeL 0 [])).1], 79⟩ :: L) R M' (S.freshP D (nodeL 0 [])).2.2 D K ∧ ∃ rows, InvR (S.freshP D (nodeL 0 [])).2.2 D rows := by
  have HQ := Lib.hid h
  have HI := Lib.hid hi
  clear h hi
  obtain ⟨fp, hfp⟩ : ∃ fp, fp = S.freshP D (nodeL 0 []) := ⟨_, rfl⟩
  have HFP := Lib.hid hfp
  rw [← hfp] at h0 ⊢
  obtain ⟨pg, er, S2⟩ := fp
  dsimp only at h0 ⊢
  subst h0
  clear hfp
  go_enter Tryz.func18, Tryz.ntmps18
  go_wp2_with (rw [wpl_id]; first
    | (refine wpln_box HQ 79 _ rfl (by first | exact .inl rfl | exact .inr ⟨_, _, _, _, rfl, rfl, rfl, rfl⟩) rfl (fun tp w' H2 => ?_); clear HQ; have HQ := H2; clear H2)
    | (refine wpln_box HQ 93 _ rfl (by first | exact .inl rfl | exact .inr ⟨_, _, _, _, rfl, rfl, rfl, rfl⟩) rfl (fun pn w' H2 => ?_); clear HQ; have HQ := H2; clear H2)
    | (refine wpl_lda (Lib.hid HQ.out.bx) 0 rfl _ _ rfl (by first | exact .inl rfl | exact .inr ⟨_, _, _, _, rfl, rfl, rfl, rfl⟩) (by exact rfl) Tryz.isAgg77 Tryz.sizeOf77 (by kernel_rfl) (cs := #[.pointer (some ⟨M.p, 0, none⟩)]) rfl ?_))
  have hfr := fresh_q (HQ.out.nilrow 84 5) HI.out (p := pn) (lv := 0) (A := none) (c := 0) (es := []) (i := 0) (j := 0) rfl rfl (by omega) (by simp)
  rw [← HFP.out] at hfr
  refine hfr.mono ?_
  rintro e w1 ⟨M2, rfl, hh, hq, hin⟩
  clear hfr
  have HIN := Lib.hid hin
  have HH := Lib.hid hh
  have HQ2 := Lib.hid hq
  clear hin hh hq HI HFP
  clear HQ
  have HQ := HQ2
  clear HQ2
  go_wp2_with (rw [wpl_id]; first
    | (refine wpln_st HQ 1 rfl rfl _ _ _ rfl (by first | exact .inl rfl | exact .inr ⟨_, _, _, _, rfl, rfl, rfl, rfl⟩) (by exact rfl) (by (conv => lhs; whnf) <;> exact rfl) Tryz.sizeOf3 rfl (by kernel_rfl) rfl rfl (fun w' H2 => ?_); simp only [List.set_cons_succ, List.set_cons_zero, List.setIfInBounds_toArray] at H2; clear HQ; have HQ := H2; clear H2))
  go_ret2
  exact ⟨tp, M2, rfl, HH.out, HQ.out.sub (List.Sublist.cons _ (List.Sublist.refl _)) (List.Sublist.cons _ (List.Sublist.refl _)), HIN.out⟩
end
end Go.Proofs.YtfmdmfiljplkoaaGreat
