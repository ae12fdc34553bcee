/- A pool, the document's pool and boxes beside one another: what acts leave of them. -/
import Derived.Test.YtklppnknllbfnaaGreatRh
import Derived.Test.YtklppnknllbfnaaGreatC6
namespace Go.Proofs.YtklppnknllbfnaaGreat
open Go.RowKit Go.Maps
set_option maxRecDepth 8000
variable {ι : Type} [Bar ι]
theorem RpAt.blt {w : World} {m : Rm} {R : Rp} (h : RpAt w m R) : ∀ g ∈ m.blocks, g < w.heap.size := fun g hg => by
  rcases mem_blocks.1 hg with e | e | e | e | e
  · exact (World.ownsRow.lt h.nl g e).2
  · exact (World.ownsRow.lt h.nf g e).2
  · exact (World.ownsRow.lt h.wl g e).2
  · exact (World.ownsRow.lt h.wf g e).2
  · exact (World.ownsRow.lt h.cv g e).2
structure Qw (w0 v : World) (L : List Bx) (M : Mem) (S : Pl) (D : Dsk) (m : Rm) (R : Rp) : Prop where
  bx : Bxs w0 v L []
  lp : Lp w0 v M S D
  rp : RpAt v m R
  rd : RpD m M.own
  nb : ∀ e ∈ L, e.b ∉ M.own
section
variable {w0 v v' : World} {L L' : List Bx} {M M' : Mem} {S S' : Pl} {D D' : Dsk} {m m' : Rm} {R R' : Rp}
theorem Qw.grew (h : Qw w0 v L M S D m R) (k : Below v.heap.size v v') : Qw w0 v' L M S D m R := ⟨h.bx.grew k, h.lp.grew k, h.rp.low k, h.rd, h.nb⟩
theorem Qw.step (h : Qw w0 v L M S D m R) (hl : Lp w0 v' M' S' D') (k : Step v v' M.own M'.own) : Qw w0 v' L M' S' D' m R :=
  ⟨h.bx.of_turn k.turn (fun j hj => ⟨h.lp.lo j hj, fun e he e2 => h.nb e he (by rw [e2]; exact hj), by simp⟩), hl, h.rp.turn k.turn h.rd,
    fun g hg hm => by
      rcases k.new g hm with h1 | h1
      · exact h.rd g hg h1
      · have := h.rp.blt g hg; omega,
    fun e he hm => by
      rcases k.new _ hm with h1 | h1
      · exact h.nb e he h1
      · have := (h.bx.blk e he).1.lt; omega⟩
theorem Qw.ref (h : Qw w0 v L M S D m R) (hr : RpAt v' m' R') (hf : Fresh v.heap.size m m') (k : Below v.heap.size v v') : Qw w0 v' L M S D m' R' :=
  ⟨h.bx.grew k, h.lp.grew k, hr, fun g hg hm => by
    rcases hf g hg with h1 | h1
    · exact h.rd g h1 hm
    · have := h.lp.pool.lt g hm; omega, h.nb⟩
theorem Qw.sub (h : Qw w0 v L M S D m R) (hL : L'.Sublist L) : Qw w0 v L' M S D m R := ⟨h.bx.sub hL (List.Sublist.refl _), h.lp, h.rp, h.rd, fun e he => h.nb e (hL.subset he)⟩
theorem Qw.push (h : Qw w0 v L M S D m R) (c : Array Value) (t : TypeId) : Qw w0 (v.alloc (.cells c t)) (⟨v.heap.size, c, t⟩ :: L) M S D m R := by
  have hb : Below v.heap.size v (v.alloc (.cells c t)) := (Below.refl _ v).alloc (Nat.le_refl _) _
  refine ⟨h.bx.push c t, h.lp.grew hb, h.rp.low hb, h.rd, fun e he => ?_⟩
  rcases List.mem_cons.1 he with rfl | he
  · intro hm
    have := h.lp.pool.lt _ hm
    dsimp only at this
    omega
  · exact h.nb e he
theorem Qw.setb (h : Qw w0 v L M S D m R) {i : Nat} {e : Bx} (hi : L[i]? = some e) {c : Array Value} (hb : Blk v' e.b c e.t) (k : Turn [e.b] v v') (h3 : e.t ≠ 3) (h5 : e.t ≠ 5) (h9 : e.t ≠ 9) : Qw w0 v' (L.set i { e with c := c }) M S D m R := by
  have hm := List.mem_of_getElem? hi
  have hn := h.nb e hm
  have hbl := h.bx.at_ hi
  have hnb : NoBytes v [e.b] := by
    intro j hj cs fz e2
    simp at hj; subst hj
    unfold Blk at hbl
    rw [hbl] at e2
    injection e2 with e2
    injection e2 with _ e3
    exact h5 e3
  have hT : ∀ j ∈ M.own, j ∉ [e.b] := by
    intro j hj hx
    simp at hx; subst hx
    exact hn hj
  have hr := h.rp
  refine ⟨h.bx.put hi hb k, ⟨h.lp.pool.turn k hnb hT, h.lp.low.trans (k.below h.lp.low.size (by intro j hj; simp at hj; subst hj; exact (h.bx.blk e hm).2)), h.lp.lo, h.lp.inv⟩,
    ⟨hr.bn, hr.bw, hr.sn, row_put hr.nl hbl k (fun x => h9 x.symm), row_put hr.nf hbl k (fun x => h3 x.symm), row_put hr.wl hbl k (fun x => h9 x.symm), row_put hr.wf hbl k (fun x => h3 x.symm), row_put hr.cv hbl k (fun x => h3 x.symm)⟩, h.rd, fun x hx => ?_⟩
  rcases mem_set hx with rfl | ⟨j, _, hx⟩
  · exact hn
  · exact h.nb x (List.mem_of_getElem? hx)
section
variable {ops : Array Oper} {rest : List Oper} {o : Oper} {a : Act} {Q : Exit → Act → World → Prop}
theorem wplq_new (H : Hid (Qw w0 v L M S D m R)) (t : TypeId) (ho : o.op = .alloc t) (hgd : Want ops o a) {z : Value} (hz : ∀ w, (zeroValue t).run Tryz.prog w = .ok z w) {cs : Array Value} (hc : z.cells = cs)
    (k : ∀ b w', Hid (Qw w0 w' (⟨b, cs, t⟩ :: L) M S D m R) → wpList Tryz.prog ops Q rest (a.put o.dst (.pointer (some ⟨b, 0, none⟩))) w') : WL Tryz.prog ops Q (o :: rest) a v := by
  subst hc
  exact wpl_run hgd (exec_alloc ho (hz v)) (k _ _ (Lib.hid (H.out.push z.cells t)))
theorem wplq_sta (H : Hid (Qw w0 v L M S D m R)) (i : Nat) {e : Bx} (hi : L[i]? = some e) (hd : o.dst = none) (t : TypeId) (x y : Operand) (ho : o.op = .store t x y) (hgd : Want ops o a) {off : Nat} (hx : a.eval x = .pointer (some ⟨e.b, off, none⟩)) {u : Array Value} (hy : a.eval y = .agg u)
    {n : Nat} (hz : ∀ w, (Go.sizeOf t).run Tryz.prog w = .ok n w) (hs : u.size = n) (h1 : u.toList.all (·.oneCell') = true) (hn : decide (off + n ≤ e.c.size) = true) (ht3 : decide (e.t ≠ 3 ∧ e.t ≠ 5 ∧ e.t ≠ 9) = true) {cs : Array Value} (hv : splice e.c off u = cs)
    (k : ∀ w', Hid (Qw w0 w' (L.set i { e with c := cs }) M S D m R) → wpList Tryz.prog ops Q rest a w') : WL Tryz.prog ops Q (o :: rest) a v := by
  subst hv
  have hb := H.out.bx.at_ hi
  have ht := setRow_turn v e.b (splice e.c off u) hb
  have h3 := of_decide_eq_true ht3
  exact wpl_skip hgd hd (exec_store t x y ho hx hy (run_store_agg (hz v) hb hs (of_decide_eq_true hn) (fun x hx => List.all_eq_true.1 h1 x hx))) (k _ (Lib.hid (H.out.setb hi ht.1 ht.2 h3.1 h3.2.1 h3.2.2)))
end
/-- A play's state. -/
structure Pw (w0 v : World) (B9 b s : Nat) (E : Nat) (M : Mem) (S : Pl) (D : Dsk) (m : Rm) (R : Rp) : Prop where
  q : Qw w0 v [⟨B9, pc m R, 48⟩] M S D m R
  calm : Calm D
  like : Like S D R
  ep : S.epoch ≤ E
  sec : D.sectors = s
  size : D.size = 512
  hb : M.b = b
theorem Like.keys {rows : List (List (Int × List Nat))} (h : Like S D R) (hi : InvR S D rows) : (S.pend.keys D.sectors).Perm R.ch := by
  refine (List.perm_ext_iff_of_nodup (List.nodup_range.filter _) h.chn).2 fun k => ?_
  show k ∈ S.pend.keys D.sectors ↔ _
  rw [h.ch, mem_keys]
  constructor
  · rintro ⟨_, l, hl⟩
    refine ⟨fun e => ?_, l, hl⟩
    rw [e, hi.pz] at hl
    cases hl
  · rintro ⟨_, l, hl⟩
    have := (hi.ok.pend k l hl).1
    unfold Pl.pages at this
    exact ⟨by omega, l, hl⟩
theorem Like.small {rows : List (List (Int × List Nat))} (h : Like S D R) (hi : InvR S D rows) (hs : D.sectors ≤ 900) : (R.now.loads.length ≤ 1000 ∧ R.now.free.length ≤ 1000 ∧ R.ch.length ≤ 1000) ∧ R.room ≤ 5000 ∧ ∀ k ∈ R.now.free, k < R.now.loads.length := by
  have h1 := hi.ok.now.n2
  have h2 := hi.ok.now.len
  have h3 := hi.ok.now.n1
  have h4 := (h.keys hi).length_eq
  have h5 : (S.pend.keys D.sectors).length ≤ D.sectors := keys_lenle
  have h6 := rm_le D
  unfold Pl.pages at h1
  refine ⟨⟨by rw [h.now.len]; omega, by rw [h.now.free]; omega, by omega⟩, by rw [h.room]; omega, fun k hk => ?_⟩
  rw [h.now.free] at hk
  rw [h.now.len]
  exact (hi.ok.now.fb k hk).2
end
end Go.Proofs.YtklppnknllbfnaaGreat
