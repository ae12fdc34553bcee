/- Ranges over functions beside a pool; a way of one page is kept: fit. Printed by mk_s10.py. -/
import Derived.Test.YtfmdmfiljplkoaaGreatS9
namespace Go.Proofs.YtfmdmfiljplkoaaGreat
open Go.RowKit Go.Maps Go.Shelf
set_option maxRecDepth 8000
set_option linter.unusedSimpArgs false
attribute [local go_sem] Oper.semAt_some
variable {ι : Type} [Bar ι]
section
variable {w0 v v' : World} {L L' : List Bx} {R R' : List Rx} {M M' : Mem} {S S' : Pl} {D D' : Dsk} {K : Ks}
theorem res_cell0 {P : Program} {w : World} {fn : Func} {t : Tmp} {ty : TypeId} {T : Array Value} {b : Nat} {u : Value} {t0 : TypeId} (hf : fn.results = #[.cell t ty]) (hT : T[t]?.getD undef = .pointer (some ⟨b, 0, none⟩)) (h : Blk w b #[u] t0) (hA : (isAgg ty).run P w = .ok false w) :
    (results fn T).run P w = .ok u w := by
  have hl := run_load_one (o := 0) hA h (v := u) rfl
  simp [Instr.loadAt, Instr.sureAddr, loadVar, go_sem, hA] at hl
  simp [results, hf, go_sem, hT, hA, hl]
theorem Blk.three {w : World} {b : Nat} {t : TypeId} {x y z : Value} (h : Blk w b #[x, y, z] t) : w.cell? ⟨b, 0, none⟩ = some x ∧ w.cell? ⟨b, 1, none⟩ = some y ∧ w.cell? ⟨b, 2, none⟩ = some z ∧ w.frozen? ⟨b, 0, none⟩ = false ∧ w.frozen? ⟨b, 1, none⟩ = false ∧ w.frozen? ⟨b, 2, none⟩ = false :=
  ⟨h.cell 0, h.cell 1, h.cell 2, h.free 0, h.free 1, h.free 2⟩
theorem Blk.five {w : World} {b : Nat} {t : TypeId} {x y z u s : Value} (h : Blk w b #[x, y, z, u, s] t) : w.cell? ⟨b, 0, none⟩ = some x ∧ w.cell? ⟨b, 1, none⟩ = some y ∧ w.cell? ⟨b, 2, none⟩ = some z ∧ w.cell? ⟨b, 3, none⟩ = some u ∧ w.cell? ⟨b, 4, none⟩ = some s :=
  ⟨h.cell 0, h.cell 1, h.cell 2, h.cell 3, h.cell 4⟩
theorem KsAt.sub {T : List Nat} {K' : Ks} (h : KsAt w0 v T K) (k : K'.Sublist K) : KsAt w0 v T K' := ⟨fun x hx => h.at_ x (k.subset hx), h.ne.sublist k⟩
theorem Qn.subk {K' : Ks} (h : Qn w0 v L R M S D K) (hL : L'.Sublist L) (hR : R'.Sublist R) (k : K'.Sublist K) : Qn w0 v L' R' M S D K' :=
  ⟨h.bx.sub hL hR, h.at_, h.lo, fun e he => h.nb e (hL.subset he), fun r hr => h.nr r (hR.subset hr), h.ks.sub k⟩
theorem Qn.kat (h : Qn w0 v L R M S D K) {i l : Nat} {o : Obj} (hi : K[i]? = some (l, o)) : v.heap[l]? = some o := (h.ks.at_ _ (List.mem_of_getElem? hi)).1
/-- A range over a function begins. -/
theorem Qn.entered (h : Qn w0 v L R M S D K) (k : Below v.heap.size v v') {o : Loop} (hD : v'.heap[v.heap.size]? = some (.deferred (some []))) (hL : v'.heap[v.heap.size + 1]? = some (.loop o)) :
    Qn w0 v' L R M S D ((v.heap.size + 1, .loop o) :: (v.heap.size, .deferred (some [])) :: K) := by
  have hg := h.grew k
  have hlt : ∀ x ∈ K, x.1 < v.heap.size := fun x hx => lt_of_block (h.ks.at_ x hx).1
  have hs := h.low.size
  refine ⟨hg.bx, hg.at_, hg.lo, hg.nb, hg.nr, ⟨fun x hx => ?_, ?_⟩⟩
  · rcases List.mem_cons.1 hx with rfl | hx
    · exact ⟨hL, (by intro _ _ _ e; cases e), (by show _ ≤ v.heap.size + 1; omega), fun hm => by have h1 : v.heap.size + 1 < v.heap.size := h.at_.lt _ hm; omega⟩
    · rcases List.mem_cons.1 hx with rfl | hx
      · exact ⟨hD, (by intro _ _ _ e; cases e), hs, fun hm => by have h1 : v.heap.size < v.heap.size := h.at_.lt _ hm; omega⟩
      · exact hg.ks.at_ x hx
  · refine List.pairwise_cons.2 ⟨fun x hx => ?_, List.pairwise_cons.2 ⟨fun x hx => ?_, h.ks.ne⟩⟩
    · rcases List.mem_cons.1 hx with rfl | hx
      · show v.heap.size + 1 ≠ v.heap.size; omega
      · have := hlt x hx; show v.heap.size + 1 ≠ x.1; omega
    · have := hlt x hx; show v.heap.size ≠ x.1; omega
/-- An object turned. -/
theorem Qn.turned (h : Qn w0 v L R M S D K) {i l : Nat} {o p : Obj} (hi : K[i]? = some (l, o)) (hp : ∀ cs ty fz, p ≠ .cells cs ty fz) (k : Turned l p v v') : Qn w0 v' L R M S D (K.set i (l, p)) := by
  have hm := List.mem_of_getElem? hi
  obtain ⟨h1, h2, h3, h4⟩ := h.ks.at_ _ hm
  have hn : NoBytes v [l] := by
    intro j hj cs fz e
    simp at hj
    subst hj
    rw [h1] at e
    injection e with e
    exact h2 _ _ _ e
  refine ⟨h.bx.turned h1 h2 h3 k, h.at_.turn k.turn hn (fun j hj hx => by simp at hx; subst hx; exact h4 hj), h.lo, h.nb, h.nr, ⟨fun x hx => ?_, pair_set (fun _ _ h => Ne.symm h) h.ks.ne (fun j y hj hy => ?_)⟩⟩
  · rcases mem_set hx with rfl | ⟨j, hj, hx⟩
    · exact ⟨k.at_, hp, h3, h4⟩
    · have hne : x.1 ≠ l := pair_at (fun _ _ h => Ne.symm h) h.ks.ne hx hi hj
      obtain ⟨g1, g2, g3, g4⟩ := h.ks.at_ x (List.mem_of_getElem? hx)
      exact ⟨(k.same x.1 hne).trans g1, g2, g3, g4⟩
  · exact (pair_at (Rel := fun x y : Nat × Obj => x.1 ≠ y.1) (fun _ _ h => Ne.symm h) h.ks.ne hi hy (Ne.symm hj) : l ≠ y.1)
section
variable {ops : Array Oper} {rest : List Oper} {q : Oper} {a : Act} {Q : Exit → Act → World → Prop} {m : Nat} {F : Fence}
class Wid (F : Fence) : Prop where
  h : F = Fence.wide ∨ ∃ l, F = Fence.wide.inRound l
instance : Wid Fence.wide := ⟨.inl rfl⟩
instance (l : Nat) : Wid (Fence.wide.inRound l) := ⟨.inr ⟨l, rfl⟩⟩
theorem upon_wide {P : Program} {n : Nat} {o : Oper} {a : Act} {K : Act → World → Prop} : ∀ {r : Result Next}, o.upon P a K Q r → o.uponIn Fence.wide n P a K Q r
  | .ok (.value _) _, h => h
  | .ok .skip _, h => h
  | .ok (.defer _) _, h => h
  | .ok (.enter f args) w', h => ⟨fun h => by simp [Fence.wide] at h, callsIn_wide.2 h⟩
  | .ok (.row row args) w', h => ⟨fun h => by simp [Fence.wide] at h, fun c cs _ => let ⟨v, w', r, s⟩ := h c cs; ⟨v, w', r, stepsIn_wide.2 s⟩⟩
  | .ok (.round ..) _, h => h.elim
  | .halt (.panic _) _, h => h
theorem operW [Wid F] {K : Act → World → Prop} (hd : ∀ c, q.op ≠ .defer c) (h : q.wp Tryz.prog a v K Q) : q.wpIn F m Tryz.prog a v K Q := by
  rcases (Wid.h : F = Fence.wide ∨ _) with rfl | ⟨l, rfl⟩
  · refine ⟨fun _ _ => trivial, ?_⟩
    rw [Oper.semAt_eq _ _ _ hd]
    exact upon_wide h
  · exact operIn_of' hd h
theorem wplw_run [Wid F] {u : Value} (hgd : Want ops q a) (hd : ∀ c, q.op ≠ .defer c) (hr : (execOp a.eval q).run Tryz.prog v = .ok (.value u) v') (k : wpListIn F m Tryz.prog ops Q rest (a.put q.dst u) v') : WLI F m Tryz.prog ops Q (q :: rest) a v := by
  unfold WLI wpListIn
  rw [if_pos hgd.out]
  refine operW hd ?_
  unfold Oper.wp
  rw [hr]
  exact k
theorem wplw_skip [Wid F] (hgd : Want ops q a) (hd : ∀ c, q.op ≠ .defer c) (hdst : q.dst = none) (hr : (execOp a.eval q).run Tryz.prog v = .ok .skip v') (k : wpListIn F m Tryz.prog ops Q rest a v') : WLI F m Tryz.prog ops Q (q :: rest) a v := by
  unfold WLI wpListIn
  rw [if_pos hgd.out]
  refine operW hd ?_
  unfold Oper.wp
  rw [hr]
  show wpListIn _ _ _ _ _ _ (a.put q.dst undef) v'
  rw [hdst]
  exact k
theorem wpqi_new [Wid F] (H : Hid (Qn w0 v L R M S D K)) (t : TypeId) (ho : q.op = .alloc t) (hgd : Want ops q a) {z : Value} (hz : ∀ w, (zeroValue t).run Tryz.prog w = .ok z w) {cs : Array Value} (hc : z.cells = cs)
    (k : ∀ b w', Hid (Qn w0 w' (⟨b, cs, t⟩ :: L) R M S D K) → wpListIn F m Tryz.prog ops Q rest (a.put q.dst (.pointer (some ⟨b, 0, none⟩))) w') : WLI F m Tryz.prog ops Q (q :: rest) a v := by
  subst hc
  exact wplw_run hgd (by rw [ho]; intro c e; cases e) (exec_alloc ho (hz v)) (k _ _ (Lib.hid (H.out.push z.cells t)))
theorem wpqi_st [Wid F] (H : Hid (Qn w0 v L R M S D K)) (i : Nat) {e : Bx} (hi : L[i]? = some e) (hdst : q.dst = none) (t : TypeId) (x y : Operand) (ho : q.op = .store t x y) (hgd : Want ops q a) {off : Nat} (hx : a.eval x = .pointer (some ⟨e.b, off, none⟩)) {u : Value} (hy : a.eval y = u)
    (hz : ∀ w, (Go.sizeOf t).run Tryz.prog w = .ok 1 w) (h1 : u.oneCell' = true) (hn : decide (off < e.c.size) = true) (ht5 : decide (e.t ≠ 5) = true) {cs : Array Value} (hv : e.c.setIfInBounds off u = cs)
    (k : ∀ w', Hid (Qn w0 w' (L.set i { e with c := cs }) R M S D K) → wpListIn F m Tryz.prog ops Q rest a w') : WLI F m Tryz.prog ops Q (q :: rest) a v := by
  subst hv
  have hb := H.out.bx.at_ hi
  exact wplw_skip hgd (by rw [ho]; intro c e; cases e) hdst (exec_store t x y ho hx hy (run_store_one (hz v) hb (of_decide_eq_true hn) h1)) (k _ (Lib.hid (H.out.setb hi (hb.set off u) ((Turn.refl [e.b] v).set (a := ⟨e.b, off, none⟩) (.inl (by simp)) u) (of_decide_eq_true ht5))))
theorem wpqi_sta [Wid F] (H : Hid (Qn w0 v L R M S D K)) (i : Nat) {e : Bx} (hi : L[i]? = some e) (hdst : q.dst = none) (t : TypeId) (x y : Operand) (ho : q.op = .store t x y) (hgd : Want ops q a) {off : Nat} (hx : a.eval x = .pointer (some ⟨e.b, off, none⟩)) {u : Array Value} (hy : a.eval y = .agg u)
    {n : Nat} (hz : ∀ w, (Go.sizeOf t).run Tryz.prog w = .ok n w) (hs : u.size = n) (h1 : u.toList.all (·.oneCell') = true) (hn : decide (off + n ≤ e.c.size) = true) (ht5 : decide (e.t ≠ 5) = true) {cs : Array Value} (hv : splice e.c off u = cs)
    (k : ∀ w', Hid (Qn w0 w' (L.set i { e with c := cs }) R M S D K) → wpListIn F m Tryz.prog ops Q rest a w') : WLI F m Tryz.prog ops Q (q :: rest) a v := by
  subst hv
  have hb := H.out.bx.at_ hi
  have ht := setRow_turn v e.b (splice e.c off u) hb
  exact wplw_skip hgd (by rw [ho]; intro c e; cases e) hdst (exec_store t x y ho hx hy (run_store_agg (hz v) hb hs (of_decide_eq_true hn) (fun x hx => List.all_eq_true.1 h1 x hx))) (k _ (Lib.hid (H.out.setb hi ht.1 ht.2 (of_decide_eq_true ht5))))
theorem wpqi_ld [Wid F] (H : Hid (Qn w0 v L R M S D K)) (i : Nat) {e : Bx} (hi : L[i]? = some e) (t : TypeId) (x : Operand) (ho : q.op = .load t x) (hgd : Want ops q a) {off : Nat} (hx : a.eval x = .pointer (some ⟨e.b, off, none⟩))
    (hA : ∀ w, (isAgg t).run Tryz.prog w = .ok false w) {u : Value} (hv : e.c.toList[off]? = some u) (k : wpListIn F m Tryz.prog ops Q rest (a.put q.dst u) v) : WLI F m Tryz.prog ops Q (q :: rest) a v :=
  wplw_run hgd (by rw [ho]; intro c e; cases e) (exec_load t x ho hx (run_load_one (hA v) (H.out.bx.at_ hi) (by rw [← Array.getElem?_toList]; exact hv))) k
theorem wpqi_lda [Wid F] (H : Hid (Qn w0 v L R M S D K)) (i : Nat) {e : Bx} (hi : L[i]? = some e) (t : TypeId) (x : Operand) (ho : q.op = .load t x) (hgd : Want ops q a) {off : Nat} (hx : a.eval x = .pointer (some ⟨e.b, off, none⟩))
    {n : Nat} (hA : ∀ w, (isAgg t).run Tryz.prog w = .ok true w) (hz : ∀ w, (Go.sizeOf t).run Tryz.prog w = .ok n w) (hn : decide (off + n ≤ e.c.size) = true) {cs : Array Value} (hv : ((e.c.toList.drop off).take n).toArray = cs) (k : wpListIn F m Tryz.prog ops Q rest (a.put q.dst (.agg cs)) v) : WLI F m Tryz.prog ops Q (q :: rest) a v := by
  subst hv
  exact wplw_run hgd (by rw [ho]; intro c e; cases e) (exec_load t x ho hx (run_load_agg (hA v) (hz v) (H.out.bx.at_ hi) (of_decide_eq_true hn))) k
theorem wpqi_rlda [Wid F] (H : Hid (Qn w0 v L R M S D K)) (j : Nat) {e : Rx} (hj : R[j]? = some e) (t : TypeId) (x : Operand) (ho : q.op = .load t x) (hgd : Want ops q a) {g off c : Nat} (hx : a.eval x = .pointer (some ⟨g, off, none⟩)) (hv : e.v = .slice (some ⟨g, 0, none⟩) e.n c)
    {n : Nat} (hA : ∀ w, (isAgg t).run Tryz.prog w = .ok true w) (hz : ∀ w, (Go.sizeOf t).run Tryz.prog w = .ok n w) (hn : off + n ≤ e.n * e.s) {cs : Array Value} (hcs : ((e.l.drop off).take n).toArray = cs) (k : wpListIn F m Tryz.prog ops Q rest (a.put q.dst (.agg cs)) v) : WLI F m Tryz.prog ops Q (q :: rest) a v := by
  subst hcs
  exact wplw_run hgd (by rw [ho]; intro c e; cases e) (exec_load t x ho hx (run_load_row (hA v) (hz v) (H.out.bx.row_ hj) hv hn)) k
theorem wpqi_lit [Wid F] (H : Hid (Qn w0 v L R M S D K)) (t e : TypeId) (y : Operand) (ho : q.op = .buildSlice t 1 #[(0, y)]) (hgd : Want ops q a) {cs : Array Value} (hy : a.eval y = .agg cs) (hrun : ∀ w : World, (Instr.buildSlice t 1 #[(0, .agg cs)]).run Tryz.prog w = .ok (.slice (some ⟨w.heap.size, 0, none⟩) 1 1) (w.alloc (.cells cs e))) {s : Nat} (hs : cs.size = s)
    (k : ∀ b w', Hid (Qn w0 w' L (⟨e, s, .slice (some ⟨b, 0, none⟩) 1 1, 1, cs.toList⟩ :: R) M S D K) → wpListIn F m Tryz.prog ops Q rest (a.put q.dst (.slice (some ⟨b, 0, none⟩) 1 1)) w') : WLI F m Tryz.prog ops Q (q :: rest) a v := by
  subst hs
  refine wplw_run hgd (by rw [ho]; intro c e; cases e) (exec_lit ho (ps := #[(0, .agg cs)]) (by simp [hy]) (hrun v)) (k _ _ (Lib.hid (H.out.own ((Below.refl _ v).alloc (Nat.le_refl _) _) ?_)))
  exact World.ownsRow_lit v cs 1 (Nat.le_refl _) (by simp [maxLen]) (by simp)
theorem wpqi_app [Wid F] {t e : TypeId} {s : Nat} (E : Elem t e s) (H : Hid (Qn w0 v L R M S D K)) (j : Nat) {u : Value} {n : Nat} {l : List Value} (hj : R[j]? = some ⟨e, s, u, n, l⟩) (x y : Operand)
    (ho : q.op = .call { callee := .builtin .append, args := #[x, y], argTypes := #[t, t] }) (hgd : Want ops q a) (hs : a.eval x = u) {g m' cap bs : Nat} {news : List Value} (hx : a.eval y = .slice (some ⟨g, 0, none⟩) m' cap) (hsrc : v.ownsRow bs e s (.slice (some ⟨g, 0, none⟩) m' cap) m' news) (h1 : ∀ u ∈ news, u.oneCell' = true) (hb : n + m' ≤ 2000000) (h5 : decide (e ≠ 5) = true)
    {N : Nat} (hN : n + m' = N) {l' : List Value} (hl : l ++ news = l')
    (k : ∀ A c w', Hid (Qn w0 w' L (R.set j ⟨e, s, .slice A N c, N, l'⟩) M S D K) → wpListIn F m Tryz.prog ops Q rest (a.put q.dst (.slice A N c)) w') : WLI F m Tryz.prog ops Q (q :: rest) a v := by
  subst hN hl
  obtain ⟨A, c, w', hr, hk⟩ := run_appQ E q.type H.out j hj hsrc h1 hb (of_decide_eq_true h5)
  exact wplw_run hgd (by rw [ho]; intro c e; cases e) (exec_append x y t t ho hs hx hr) (k A c w' (Lib.hid hk))
end
theorem Backward_q (h : Qn w0 v L R M S D K) (A : Option Addr) (n c : Nat) : Calls Tryz.prog 143 #[.slice A n c] v fun e v' => ∃ b, e = .returned (.func (.func 189) #[] #[.pointer (some ⟨b, 0, none⟩)]) ∧ Qn w0 v' (⟨b, #[.slice A n c], 73⟩ :: L) R M S D K := by
  have HQ := Lib.hid h
  clear h
  go_enter Tryz.func143, Tryz.ntmps143
  go_wp2_with (rw [wpl_id]; first
    | (refine wpln_boxv HQ 73 _ rfl (by first | exact .inl rfl | exact .inr ⟨_, _, _, _, rfl, rfl, rfl, rfl⟩) rfl rfl (fun b w' H2 => ?_); clear HQ; have HQ := H2; clear H2))
  go_ret
  exact ⟨_, rfl, HQ.out⟩
set_option maxHeartbeats 4000000 in
theorem fit_one (h : Qn w0 v L R M S D K) (hi : ∃ rows, InvR S D rows) {tp root i pn lv j k g : Nat} (ht : L[i]? = some ⟨tp, #[.pointer (some ⟨M.p, 0, none⟩), .int .i64 (root : Nat)], 79⟩) {A : Option Addr} {c : Nat} {es : List En} (hn : L[j]? = some ⟨pn, #[.int .i64 (lv : Nat), .slice A es.length c], 93⟩) (hr : R[k]? = some ⟨84, 5, .slice A es.length c, es.length, cellsE lv es⟩)
    {page wg wc : Nat} (hw : R[g]? = some ⟨147, 3, .slice (some ⟨wg, 0, none⟩) 1 wc, 1, [.int .i64 (page : Nat), .pointer (some ⟨pn, 0, none⟩), .int .i64 0]⟩) (h0 : (S.write D page (nodeL lv es)).1 = 0) (hlv : lv ≤ 1000) (hle : es.length ≤ 20000) :
    Calls Tryz.prog 87 #[.pointer (some ⟨tp, 0, none⟩), .slice (some ⟨wg, 0, none⟩) 1 wc] v fun e v' => e = .returned (.int .i64 0) ∧ Qn w0 v' L R M (S.write D page (nodeL lv es)).2 D K ∧ ∃ rows, InvR (S.write D page (nodeL lv es)).2 D rows := by
  have HQ := Lib.hid h
  have HI := Lib.hid hi
  have HT := Lib.hid ht
  have HN := Lib.hid hn
  have HR := Lib.hid hr
  have HW := Lib.hid hw
  have HB := Lib.hid (And.intro hlv hle)
  have hkp := fun (u : World) (K' : Ks) (L' : List Bx) (b b' : Nat) (hu : Qn w0 u L' R M S D K') (hb : L'[b]? = some ⟨pn, #[.int .i64 (lv : Nat), .slice A es.length c], 93⟩) => keep_q (v := u) (K := K') hu hi hb hr hlv hle page
  rw [h0] at hkp
  have HK := Lib.hid hkp
  clear h hi ht hn hr hw hlv hle hkp h0
  obtain ⟨S2, hS2⟩ : ∃ S2, S2 = (S.write D page (nodeL lv es)).2 := ⟨_, rfl⟩
  rw [← hS2] at HK ⊢
  clear hS2
  refine (callsIn_wide (n := 5)).1 ?_
  refine callsIn_of_wp_marks Tryz.func87 rfl trivial ?_
  simp only [Tryz.ntmps87, List.size_toArray, List.length_cons, List.length_nil, Nat.reduceAdd, Nat.reduceSub, Array.replicate_succ, Array.replicate_zero, List.push_toArray, List.append_toArray, List.nil_append, List.cons_append]
  refine wpIn_wide.2 ?_
  go_wp2_with (rw [wpl_id]; first
    | (refine wpln_boxv HQ 27 _ rfl (by first | exact .inl rfl | exact .inr ⟨_, _, _, _, rfl, rfl, rfl, rfl⟩) rfl rfl (fun b2 w' H2 => ?_); clear HQ; have HQ := H2; clear H2)
    | (refine wpln_boxv HQ 73 _ rfl (by first | exact .inl rfl | exact .inr ⟨_, _, _, _, rfl, rfl, rfl, rfl⟩) rfl rfl (fun b3 w' H2 => ?_); clear HQ; have HQ := H2; clear H2)
    | (refine wpln_new HQ 30 rfl (by first | exact .inl rfl | exact .inr ⟨_, _, _, _, rfl, rfl, rfl, rfl⟩) Tryz.zeroValue30 rfl (fun b4 w' H2 => ?_); simp only [Value.cells] at H2; clear HQ; have HQ := H2; clear H2)
    | (refine wpl_ld (Lib.hid HQ.out.bx) 1 rfl _ _ rfl (by first | exact .inl rfl | exact .inr ⟨_, _, _, _, rfl, rfl, rfl, rfl⟩) (by exact rfl) Tryz.isAgg73 rfl ?_))
  refine (Backward_q HQ.out _ _ _).mono ?_
  rintro e w2 ⟨b1, rfl, hq⟩
  have HQ2 := Lib.hid hq
  clear hq
  clear HQ
  have HQ := HQ2
  clear HQ2
  go_wp2_with fail
  refine (wpIn_wide (n := 5)).1 ?_
  refine wpIn_range rfl (by decide) (gf := 189) (lb := #[.pointer (some ⟨b1, 0, none⟩)]) rfl trivial (enters_of Tryz.func189 (by kernel_rfl) rfl) ?_
  intro fn hfn W1 hb1 hz1 hD hL
  generalize hrec : recOf fn _ _ _ _ _ = rec at hL ⊢
  have HREC := Lib.hid hrec
  clear hrec
  have HQ2 := Lib.hid (HQ.out.entered hb1 hD hL)
  clear hD hL hb1 hz1
  clear HQ
  have HQ := HQ2
  clear HQ2
  generalize w2.heap.size = d at *
  refine callsIn_of_wp Tryz.func189 rfl trivial ?_
  simp only [Tryz.ntmps189, List.size_toArray, List.length_cons, List.length_nil, Nat.reduceAdd, Nat.reduceSub, Array.replicate_succ, Array.replicate_zero, List.push_toArray, List.append_toArray, List.nil_append, List.cons_append]
  gi_wp2_with (rw [wpli_id]; first
    | (refine wpqi_ld HQ 0 rfl _ _ rfl (by first | exact .inl rfl | exact .inr ⟨_, _, _, _, rfl, rfl, rfl, rfl⟩) (by exact rfl) Tryz.isAgg73 rfl ?_))
  gi_loopw [3] (fun iv wr => (iv = .int .i64 0 ∧ Hid (Qn w0 wr (⟨b1, #[.slice (some ⟨wg, 0, none⟩) 1 wc], 73⟩ :: ⟨b4, #[.int .i64 0], 30⟩ :: ⟨b3, #[.slice (some ⟨wg, 0, none⟩) 1 wc], 73⟩ :: ⟨b2, #[.pointer (some ⟨tp, 0, none⟩)], 27⟩ :: L) R M S D ((d + 1, .loop (rec .ready none)) :: (d, .deferred (some [])) :: K) ∧ ∃ rows, InvR S D rows)) ∨ iv = .int .i64 (-1) ∧ Hid (Qn w0 wr (⟨b1, #[.slice (some ⟨wg, 0, none⟩) 1 wc], 73⟩ :: ⟨b4, #[.int .i64 0], 30⟩ :: ⟨b3, #[.slice (some ⟨wg, 0, none⟩) 1 wc], 73⟩ :: ⟨b2, #[.pointer (some ⟨tp, 0, none⟩)], 27⟩ :: L) R M S2 D ((d + 1, .loop (rec .ready none)) :: (d, .deferred (some [])) :: K) ∧ ∃ rows, InvR S2 D rows)) (fun iv _ => (intOf iv + 1).toNat)
  case atStart => exact .inl ⟨rfl, Lib.hid ⟨HQ.out, HI.out⟩⟩
  case round =>
    clear HQ HI
    rcases hrel with ⟨rfl, B⟩ | ⟨rfl, B⟩
    · have HQ := Lib.hid B.out.1
      have HI := Lib.hid B.out.2
      clear B
      gi_wp2_with (rw [wpli_id]; first
        | (refine wpqi_ld HQ 0 rfl _ _ rfl (by first | exact .inl rfl | exact .inr ⟨_, _, _, _, rfl, rfl, rfl, rfl⟩) (by exact rfl) Tryz.isAgg73 rfl ?_)
        | (refine wpqi_rlda HQ g HW.out 147 _ rfl (by first | exact .inl rfl | exact .inr ⟨_, _, _, _, rfl, rfl, rfl, rfl⟩) (off := 0) (by exact rfl) rfl Tryz.isAgg147 Tryz.sizeOf147 (by simp) (cs := #[.int .i64 (page : Nat), .pointer (some ⟨pn, 0, none⟩), .int .i64 0]) rfl ?_))
      refine upon_yield (by intro h; cases h) ?_
      have dL := HQ.out.kat (i := 0) rfl
      rw [← HREC.out] at dL
      refine yield_of trivial dL rfl ?_
      clear dL
      gi_wp2_with (rw [wpli_id]; first
        | (refine wpqi_new HQ 147 rfl (by first | exact .inl rfl | exact .inr ⟨_, _, _, _, rfl, rfl, rfl, rfl⟩) Tryz.zeroValue147 rfl (fun b6 w' H2 => ?_); simp only [Value.cells] at H2; clear HQ; have HQ := H2; clear H2)
        | (refine wpqi_sta HQ 0 rfl rfl _ _ _ rfl (by first | exact .inl rfl | exact .inr ⟨_, _, _, _, rfl, rfl, rfl, rfl⟩) (by exact rfl) (by exact rfl) Tryz.sizeOf147 (by kernel_rfl) (by kernel_rfl) (by kernel_rfl) rfl (splice_whole (n := 3) (by kernel_rfl) (by kernel_rfl)) (fun w' H2 => ?_); simp only [List.set_cons_succ, List.set_cons_zero] at H2; clear HQ; have HQ := H2; clear H2))
      refine ⟨by rw [HREC.out]; exact HQ.out.kat (i := 0) rfl, ?_⟩
      intro W3 hT3
      have HQ2 := Lib.hid (HQ.out.turned (i := 0) rfl (p := .loop (rec .busy none)) (by intro _ _ _ e; cases e) (by rw [HREC.out] at hT3; exact hT3))
      clear hT3
      clear HQ
      have HQ := HQ2
      clear HQ2
      gi_wp2_with (rw [wpli_id]; first
        | (refine wpqi_ld HQ 3 rfl _ _ rfl (by first | exact .inl rfl | exact .inr ⟨_, _, _, _, rfl, rfl, rfl, rfl⟩) (by exact rfl) Tryz.isAgg73 rfl ?_))
      refine wpIn_region_H (S := fun v => Blk v b2 #[.pointer (some ⟨tp, 0, none⟩)] 27 ∧ Blk v tp #[.pointer (some ⟨M.p, 0, none⟩), .int .i64 (root : Nat)] 79 ∧ Blk v b6 #[.int .i64 (page : Nat), .pointer (some ⟨pn, 0, none⟩), .int .i64 0] 147) (by kernel_rfl) (by kernel_rfl) (by rintro ⟨_, _, h⟩; exact h) (fun u hu => ?_)
      have hS0 : (fun v => Blk v b2 #[.pointer (some ⟨tp, 0, none⟩)] 27 ∧ Blk v tp #[.pointer (some ⟨M.p, 0, none⟩), .int .i64 (root : Nat)] 79 ∧ Blk v b6 #[.int .i64 (page : Nat), .pointer (some ⟨pn, 0, none⟩), .int .i64 0] 147) u := by subst hu; exact ⟨(HQ.out.bx.at_ (i := 4) rfl).drew, (HQ.out.bx.at_ (i := i + 5) HT.out).drew, (HQ.out.bx.at_ (i := 0) rfl).drew⟩
      have HQ0 := Lib.hid (show Qn w0 u (⟨b6, #[.int .i64 (page : Nat), .pointer (some ⟨pn, 0, none⟩), .int .i64 0], 147⟩ :: ⟨b1, #[.slice (some ⟨wg, 0, none⟩) 1 wc], 73⟩ :: ⟨b4, #[.int .i64 0], 30⟩ :: ⟨b3, #[.slice (some ⟨wg, 0, none⟩) 1 wc], 73⟩ :: ⟨b2, #[.pointer (some ⟨tp, 0, none⟩)], 27⟩ :: L) R M S D ((d + 1, .loop (rec .busy none)) :: (d, .deferred (some [])) :: K) from by subst hu; exact HQ.out.grew ⟨rfl, rfl, rfl, Nat.le_refl _, fun _ _ => rfl⟩)
      clear hu HQ
      refine wpH_take (i := 0) (v := ?_) rfl rfl (by kernel_rfl) (by kernel_rfl) (by kernel_rfl) (fun _ _ _ h => h) (Or.inl ⟨by rfl, ?_⟩) hS0 ?_
      rotate_left
      · (intro w_ hw_; obtain ⟨q1, q2, q3⟩ := hw_; have q1 := q1.one; have q2 := q2.two; have q3 := q3.three; go_simp; try with_reducible rfl)
      simp only [List.setIfInBounds_toArray, List.set_cons_zero, List.set_cons_succ]
      refine wpH_take (i := 1) (v := ?_) rfl rfl (by kernel_rfl) (by kernel_rfl) (by kernel_rfl) (fun _ _ _ h => h) (Or.inl ⟨by rfl, ?_⟩) hS0 ?_
      rotate_left
      · (intro w_ hw_; obtain ⟨q1, q2, q3⟩ := hw_; have q1 := q1.one; have q2 := q2.two; have q3 := q3.three; go_simp; try with_reducible rfl)
      simp only [List.setIfInBounds_toArray, List.set_cons_zero, List.set_cons_succ]
      refine wpH_take (i := 2) (v := ?_) rfl rfl (by kernel_rfl) (by kernel_rfl) (by kernel_rfl) (fun _ _ _ h => h) (Or.inl ⟨by rfl, ?_⟩) hS0 ?_
      rotate_left
      · (intro w_ hw_; go_simp; try with_reducible rfl)
      simp only [List.setIfInBounds_toArray, List.set_cons_zero, List.set_cons_succ]
      refine wpH_take (i := 3) (v := ?_) rfl rfl (by kernel_rfl) (by kernel_rfl) (by kernel_rfl) (fun _ _ _ h => h) (Or.inl ⟨by rfl, ?_⟩) hS0 ?_
      rotate_left
      · (intro w_ hw_; obtain ⟨q1, q2, q3⟩ := hw_; have q1 := q1.one; have q2 := q2.two; have q3 := q3.three; go_simp; try with_reducible rfl)
      simp only [List.setIfInBounds_toArray, List.set_cons_zero, List.set_cons_succ]
      refine wpH_take (i := 4) (v := ?_) rfl rfl (by kernel_rfl) (by kernel_rfl) (by kernel_rfl) (fun _ _ _ h => h) (Or.inl ⟨by rfl, ?_⟩) hS0 ?_
      rotate_left
      · (intro w_ hw_; go_simp; try with_reducible rfl)
      simp only [List.setIfInBounds_toArray, List.set_cons_zero, List.set_cons_succ]
      refine wpH_take (i := 5) (v := ?_) rfl rfl (by kernel_rfl) (by kernel_rfl) (by kernel_rfl) (fun _ _ _ h => h) (Or.inl ⟨by rfl, ?_⟩) hS0 ?_
      rotate_left
      · (intro w_ hw_; obtain ⟨q1, q2, q3⟩ := hw_; have q1 := q1.one; have q2 := q2.two; have q3 := q3.three; go_simp; try with_reducible rfl)
      simp only [List.setIfInBounds_toArray, List.set_cons_zero, List.set_cons_succ]
      refine wpH_take (i := 6) (v := ?_) rfl rfl (by kernel_rfl) (by kernel_rfl) (by kernel_rfl) (fun _ _ _ h => h) (Or.inl ⟨by rfl, ?_⟩) hS0 ?_
      rotate_left
      · (intro w_ hw_; go_simp; try with_reducible rfl)
      simp only [List.setIfInBounds_toArray, List.set_cons_zero, List.set_cons_succ]
      refine wpH_take (i := 7) (v := ?_) rfl rfl (by kernel_rfl) (by kernel_rfl) (by kernel_rfl) (fun _ _ _ h => h) (Or.inl ⟨by rfl, ?_⟩) hS0 ?_
      rotate_left
      · (intro w_ hw_; obtain ⟨q1, q2, q3⟩ := hw_; have q1 := q1.one; have q2 := q2.two; have q3 := q3.three; go_simp; try with_reducible rfl)
      simp only [List.setIfInBounds_toArray, List.set_cons_zero, List.set_cons_succ]
      have hkp := HK.out _ _ _ (j + 5) 0 HQ0.out HN.out
      clear HQ0
      refine wpH_callv (i := 8) (by kernel_rfl) rfl rfl (by rfl) (int_tup hkp) (by go_simp) ?_
      rintro _ v2 ⟨rfl, hq, hin⟩
      have hS1 : (fun v => Blk v b2 #[.pointer (some ⟨tp, 0, none⟩)] 27 ∧ Blk v tp #[.pointer (some ⟨M.p, 0, none⟩), .int .i64 (root : Nat)] 79 ∧ Blk v b6 #[.int .i64 (page : Nat), .pointer (some ⟨pn, 0, none⟩), .int .i64 0] 147) v2 := ⟨hq.bx.at_ (i := 4) rfl, hq.bx.at_ (i := i + 5) HT.out, hq.bx.at_ (i := 0) rfl⟩
      clear hS0
      refine ⟨hS1, ?_⟩
      simp only [List.setIfInBounds_toArray, List.set_cons_zero, List.set_cons_succ]
      have HQ := Lib.hid hq
      clear hkp hq HI
      have HI := Lib.hid hin
      clear hin
      refine wpH_take (i := 9) (v := ?_) rfl rfl (by kernel_rfl) (by kernel_rfl) (by kernel_rfl) (fun _ _ _ h => h) (Or.inl ⟨by rfl, ?_⟩) hS1 ?_
      rotate_left
      · (intro w_ hw_; go_simp; try with_reducible rfl)
      simp only [List.setIfInBounds_toArray, List.set_cons_zero, List.set_cons_succ]
      clear hS1
      refine wpAnyH_done (by kernel_rfl) ?_ _
      gi_wp2
      refine ⟨(HQ.out.kat (i := 0) rfl).trans (congrArg (fun r => some (Obj.loop (r .busy none))) HREC.out.symm), ?_⟩
      intro W5 hT5
      have HQ2 := Lib.hid ((HQ.out.turned (i := 0) rfl (p := .loop (rec .ready none)) (by intro _ _ _ e; cases e) (Eq.mp (congrArg (fun r => Turned (d + 1) (Obj.loop (r .ready none)) v2 W5) HREC.out) hT5)).sub (List.Sublist.cons _ (List.Sublist.refl _)) (List.Sublist.refl _))
      clear hT5
      clear HQ
      have HQ := HQ2
      clear HQ2
      gi_wp2
      go_roundw
      case rel => exact .inr ⟨rfl, Lib.hid ⟨HQ.out, HI.out⟩⟩
      case measure => simp [intOf, wrap64]
    · have HQ := Lib.hid B.out.1
      have HI := Lib.hid B.out.2
      clear B
      gi_wp2
      go_end0
      refine ⟨⟨_, rfl⟩, Or.inl ⟨HQ.out.kat (i := 0) rfl, ?_⟩⟩
      intro W6 hT6
      have HQ2 := Lib.hid (HQ.out.turned (i := 0) rfl (p := .loop (rec .exhausted none)) (by intro _ _ _ e; cases e) (by exact hT6))
      clear hT6
      clear HQ
      have HQ := HQ2
      clear HQ2
      go_wp2_with (rw [wpl_id]; first
        | (refine wpln_st HQ 1 rfl rfl _ _ _ rfl (by first | exact .inl rfl | exact .inr ⟨_, _, _, _, rfl, rfl, rfl, rfl⟩) (by exact rfl) (by (conv => lhs; whnf) <;> exact rfl) Tryz.sizeOf30 rfl (by kernel_rfl) rfl rfl (fun w' H2 => ?_); simp only [List.set_cons_succ, List.set_cons_zero, List.setIfInBounds_toArray] at H2; clear HQ; have HQ := H2; clear H2))
      have kd := HQ.out.kat (i := 1) rfl
      have hp := Turned.put (.deferred none) kd
      have hq := HQ.out.turned (i := 1) rfl (p := .deferred none) (by intro _ _ _ e; cases e) hp
      refine ⟨by simp, .inl ⟨_, _, rfl, run_takeDeferred kd, ?_⟩⟩
      refine ⟨_, res_cell0 rfl rfl (hq.bx.at_ (i := 1) rfl) (Tryz.isAgg30 _), rfl, ?_, HI.out⟩
      exact hq.subk (List.Sublist.cons _ (List.Sublist.cons _ (List.Sublist.cons _ (List.Sublist.cons _ (List.Sublist.refl _))))) (List.Sublist.refl _) (List.Sublist.cons _ (List.Sublist.cons _ (List.Sublist.refl _)))
end
end Go.Proofs.YtfmdmfiljplkoaaGreat
