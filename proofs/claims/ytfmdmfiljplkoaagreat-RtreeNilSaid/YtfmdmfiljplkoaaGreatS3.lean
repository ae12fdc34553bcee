/- Boxes and rows of the call's own beside a pool: what calls and stores leave of them. -/
import Derived.Test.YtfmdmfiljplkoaaGreatS2
namespace Go.Proofs.YtfmdmfiljplkoaaGreat
open Go.RowKit Go.Maps
set_option maxRecDepth 8000
variable {ι : Type} [Bar ι]
theorem Bxs.base {w0 w : World} (h : Below w0.heap.size w0 w) : Bxs w0 w [] [] := ⟨h, by simp, by simp, List.Pairwise.nil, List.Pairwise.nil, by simp⟩
/-- Boxes, rows, a pool, and other objects (loops, deferred calls) that stand. -/
abbrev Ks := List (Nat × Obj)
structure KsAt (w0 v : World) (T : List Nat) (K : Ks) : Prop where
  at_ : ∀ x ∈ K, v.heap[x.1]? = some x.2 ∧ (∀ cs ty fz, x.2 ≠ .cells cs ty fz) ∧ w0.heap.size ≤ x.1 ∧ x.1 ∉ T
  ne : K.Pairwise fun x y => x.1 ≠ y.1
theorem KsAt.nil (w0 v : World) (T : List Nat) : KsAt w0 v T [] := ⟨by simp, List.Pairwise.nil⟩
theorem KsAt.turn {w0 v v' : World} {T T' U : List Nat} {K : Ks} (h : KsAt w0 v T K) (k : Turn U v v') (hU : ∀ x ∈ K, x.1 ∉ U) (hT : ∀ x ∈ K, x.1 ∉ T') : KsAt w0 v' T' K :=
  ⟨fun x hx => ⟨(k.block _ (lt_of_block (h.at_ x hx).1) (hU x hx)).trans (h.at_ x hx).1, (h.at_ x hx).2.1, (h.at_ x hx).2.2.1, hT x hx⟩, h.ne⟩
theorem KsAt.grew {w0 v v' : World} {T : List Nat} {K : Ks} (h : KsAt w0 v T K) (k : Below v.heap.size v v') : KsAt w0 v' T K := h.turn (Turn.of_below k []) (by simp) fun x hx => (h.at_ x hx).2.2.2
theorem KsAt.apart {w0 v : World} {T : List Nat} {K : Ks} (h : KsAt w0 v T K) {b : Nat} {c : Array Value} {t : TypeId} (hb : Blk v b c t) : ∀ x ∈ K, x.1 ∉ [b] := fun x hx e => by
  simp at e
  subst e
  have h1 := (h.at_ x hx).1
  unfold Blk at hb
  rw [h1] at hb
  injection hb with hb
  exact (h.at_ x hx).2.1 _ _ _ hb
theorem KsAt.notrow {w0 v : World} {T : List Nat} {K : Ks} (h : KsAt w0 v T K) {B s n : Nat} {t : TypeId} {u : Value} {xs : List Value} (hr : v.ownsRow B t s u n xs) : ∀ x ∈ K, x.1 ∉ u.ownBlock.toList := fun x hx e => by
  rw [Option.mem_toList] at e
  obtain ⟨cs, e2⟩ := row_kind hr e
  rw [(h.at_ x hx).1] at e2
  injection e2 with e2
  exact (h.at_ x hx).2.1 _ _ _ e2
structure Qn (w0 v : World) (L : List Bx) (R : List Rx) (M : Mem) (S : Pl) (D : Dsk) (K : Ks := []) : Prop where
  bx : Bxs w0 v L R
  at_ : PoolAt v M S D
  lo : ∀ j ∈ M.own, w0.heap.size ≤ j
  nb : ∀ e ∈ L, e.b ∉ M.own
  nr : ∀ r ∈ R, ∀ g, r.v.ownBlock = some g → g ∉ M.own
  ks : KsAt w0 v M.own K
section
variable {w0 v v' : World} {L L' : List Bx} {R R' : List Rx} {M M' : Mem} {S S' : Pl} {D D' : Dsk} {K : Ks}
theorem Qn.low (h : Qn w0 v L R M S D K) : Below w0.heap.size w0 v := h.bx.low
theorem Qn.lp (h : Qn w0 v L R M S D K) (hi : ∃ rows, InvR S D rows) : Lp w0 v M S D := ⟨h.at_, h.bx.low, h.lo, hi⟩
theorem Qn.base (h : Lp w0 v M S D) : Qn w0 v [] [] M S D := ⟨Bxs.base h.low, h.pool, h.lo, by simp, by simp, KsAt.nil _ _ _⟩
theorem Qn.grew (h : Qn w0 v L R M S D K) (k : Below v.heap.size v v') : Qn w0 v' L R M S D K := ⟨h.bx.grew k, h.at_.grew k, h.lo, h.nb, h.nr, h.ks.grew k⟩
/-- The pool turned. -/
theorem Qn.step (h : Qn w0 v L R M S D K) (hl : Lp w0 v' M' S' D') (k : Step v v' M.own M'.own) : Qn w0 v' L R M' S' D' K :=
  ⟨h.bx.of_turn k.turn (fun j hj => ⟨h.lo j hj, fun e he e2 => h.nb e he (by rw [e2]; exact hj), fun r hr e2 => h.nr r hr j e2 hj⟩), hl.pool, hl.lo,
    fun e he hm => by
      rcases k.new _ hm with h1 | h1
      · exact h.nb e he h1
      · have := (h.bx.blk e he).1.lt; omega,
    fun r hr g hg hm => by
      rcases k.new _ hm with h1 | h1
      · exact h.nr r hr g hg h1
      · have := (h.bx.row_lt hr hg).2; omega,
    h.ks.turn k.turn (fun x hx => (h.ks.at_ x hx).2.2.2) (fun x hx hm => by
      rcases k.new _ hm with h1 | h1
      · exact (h.ks.at_ x hx).2.2.2 h1
      · have := lt_of_block (h.ks.at_ x hx).1; omega)⟩
theorem Qn.sub (h : Qn w0 v L R M S D K) (hL : L'.Sublist L) (hR : R'.Sublist R) : Qn w0 v L' R' M S D K := ⟨h.bx.sub hL hR, h.at_, h.lo, fun e he => h.nb e (hL.subset he), fun r hr => h.nr r (hR.subset hr), h.ks⟩
theorem Qn.push (h : Qn w0 v L R M S D K) (c : Array Value) (t : TypeId) : Qn w0 (v.alloc (.cells c t)) (⟨v.heap.size, c, t⟩ :: L) R M S D K := by
  have hb : Below v.heap.size v (v.alloc (.cells c t)) := (Below.refl _ v).alloc (Nat.le_refl _) _
  refine ⟨h.bx.push c t, h.at_.grew hb, h.lo, fun e he => ?_, h.nr, h.ks.grew hb⟩
  rcases List.mem_cons.1 he with rfl | he
  · intro hm
    have := h.at_.lt _ hm
    dsimp only at this
    omega
  · exact h.nb e he
/-- A row that a call gave. -/
theorem Qn.own (h : Qn w0 v L R M S D K) (k : Below v.heap.size v v') {t : TypeId} {s n : Nat} {u : Value} {l : List Value} (hr : v'.ownsRow v.heap.size t s u n l) : Qn w0 v' L (⟨t, s, u, n, l⟩ :: R) M S D K := by
  refine ⟨h.bx.own k hr, h.at_.grew k, h.lo, h.nb, fun r hr2 g hg hm => ?_, h.ks.grew k⟩
  rcases List.mem_cons.1 hr2 with rfl | hr2
  · have h1 := (World.ownsRow.lt hr g hg).1
    have h2 := h.at_.lt g hm
    omega
  · exact h.nr r hr2 g hg hm
theorem Qn.setb (h : Qn w0 v L R M S D K) {i : Nat} {e : Bx} (hi : L[i]? = some e) {c : Array Value} (hb : Blk v' e.b c e.t) (k : Turn [e.b] v v') (h5 : e.t ≠ 5) : Qn w0 v' (L.set i { e with c := c }) R M S D K := by
  have hm := List.mem_of_getElem? hi
  have hn := h.nb e hm
  have hbl := h.bx.at_ hi
  have hnb : NoBytes v [e.b] := by
    intro j hj cs fz e2
    simp at hj; subst hj
    unfold Blk at hbl
    rw [hbl] at e2
    injection e2 with e2
    injection e2 with _ e3
    exact h5 e3
  refine ⟨h.bx.put hi hb k, h.at_.turn k hnb (fun j hj hx => by simp at hx; subst hx; exact hn hj), h.lo, fun x hx => ?_, h.nr, h.ks.turn k (h.ks.apart hbl) fun x hx => (h.ks.at_ x hx).2.2.2⟩
  rcases mem_set hx with rfl | ⟨j, _, hx⟩
  · exact hn
  · exact h.nb x (List.mem_of_getElem? hx)
section
variable {ops : Array Oper} {rest : List Oper} {o : Oper} {a : Act} {Q : Exit → Act → World → Prop}
theorem wpln_box (H : Hid (Qn w0 v L R M S D K)) (t : TypeId) (x : Operand) (ho : o.op = .box t x) (hgd : Want ops o a) {cs : Array Value} (hx : a.eval x = .agg cs)
    (k : ∀ b w', Hid (Qn w0 w' (⟨b, cs, t⟩ :: L) R M S D K) → wpList Tryz.prog ops Q rest (a.put o.dst (.pointer (some ⟨b, 0, none⟩))) w') : WL Tryz.prog ops Q (o :: rest) a v :=
  wpl_run hgd (exec_box ho hx) (k _ _ (Lib.hid (H.out.push cs t)))
theorem wpln_st (H : Hid (Qn w0 v L R M S D K)) (i : Nat) {e : Bx} (hi : L[i]? = some e) (hd : o.dst = none) (t : TypeId) (x y : Operand) (ho : o.op = .store t x y) (hgd : Want ops o a) {off : Nat} (hx : a.eval x = .pointer (some ⟨e.b, off, none⟩)) {u : Value} (hy : a.eval y = u)
    (hz : ∀ w, (Go.sizeOf t).run Tryz.prog w = .ok 1 w) (h1 : u.oneCell' = true) (hn : decide (off < e.c.size) = true) (ht5 : decide (e.t ≠ 5) = true) {cs : Array Value} (hv : e.c.setIfInBounds off u = cs)
    (k : ∀ w', Hid (Qn w0 w' (L.set i { e with c := cs }) R M S D K) → wpList Tryz.prog ops Q rest a w') : WL Tryz.prog ops Q (o :: rest) a v := by
  subst hv
  have hb := H.out.bx.at_ hi
  refine wpl_skip hgd hd (exec_store t x y ho hx hy (run_store_one (hz v) hb (of_decide_eq_true hn) h1)) (k _ (Lib.hid (H.out.setb hi (hb.set off u) ?_ (of_decide_eq_true ht5))))
  exact (Turn.refl [e.b] v).set (a := ⟨e.b, off, none⟩) (.inl (by simp)) u
end
/-- A node of the call's own: a box, a row of entries. -/
theorem cells_at (lv : Nat) : ∀ (es : List En) (k : Nat) (hk : k < es.length) (i : Nat), i < 5 → (cellsE lv es)[5 * k + i]? = (cellsA lv es[k])[i]?
  | e :: es, 0, _, i, hi => by
    unfold cellsE
    rw [List.flatMap_cons, Nat.mul_zero, Nat.zero_add, List.getElem?_append_left (by simp [cellsA]; omega)]
    simp
  | e :: es, k + 1, hk, i, hi => by
    have h := cells_at lv es k (by simpa using hk) i hi
    unfold cellsE at h ⊢
    rw [List.flatMap_cons, List.getElem?_append_right (by simp [cellsA]; omega)]
    rw [show 5 * (k + 1) + i - (cellsA lv e).toList.length = 5 * k + i by simp [cellsA]; omega, h]
    simp
theorem Bxs.node (h : Bxs w0 v L R) {p lv : Nat} {A : Option Addr} {c : Nat} {es : List En} {i j : Nat} (hi : L[i]? = some ⟨p, #[.int .i64 (lv : Nat), .slice A es.length c], 93⟩) (hj : R[j]? = some ⟨84, 5, .slice A es.length c, es.length, cellsE lv es⟩) : NodeIn v p lv A c es := by
  refine ⟨h.at_ hi, fun hne => ?_⟩
  have hr := h.row_ hj
  dsimp only at hr
  have h0 : 0 < es.length := by
    cases es with
    | nil => exact absurd rfl hne
    | cons _ _ => simp
  obtain ⟨g, c2, e2⟩ := row_shape hr h0
  injection e2 with e3 _ e4
  subst e3 e4
  have hlt := (World.ownsRow.lt hr g rfl).2
  refine ⟨⟨g, 0, none⟩, rfl, hlt, fun k hk => ?_⟩
  have hc : ∀ i, i < 5 → v.cell? ⟨g, 5 * k + i, none⟩ = (cellsA lv es[k])[i]? := fun i hi => by
    rw [World.ownsRow.cellAt hr (5 * k + i) (by omega)]
    exact cells_at lv es k hk i hi
  have hq : (⟨g, 0, none⟩ : Addr).add (k * 5) = ⟨g, 5 * k, none⟩ := by
    unfold Addr.add
    split
    · rename_i h0
      have : k = 0 := by omega
      subst this
      rfl
    · simp; omega
  rw [hq]
  exact ⟨hc 0 (by omega), hc 1 (by omega), hc 2 (by omega), hc 3 (by omega), hc 4 (by omega)⟩
end
end Go.Proofs.YtfmdmfiljplkoaaGreat
