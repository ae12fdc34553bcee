/- Boxes, a pool or a disk, and references beside one another: what calls and stores leave of them. Behind the acts: what a crash leaves, what the references have of it; a disk opened in the storm. A drawn region that calls, boxes what the call gives: both orders at once. Boxes beside references: more of them. -/
import Derived.Test.YtklppnknllbfnaaGreatQJ
namespace Go.Proofs.YtklppnknllbfnaaGreat
open Go.RowKit Go.Maps
set_option maxRecDepth 8000
variable {ι : Type} [Bar ι]
/-- A fact of the world that lies in the blocks T. -/
structure Keep (T : List Nat) (K : World → Prop) : Prop where
 grow : ∀ v v', K v → Below v.heap.size v v' → K v'
 turn : ∀ v v' b, K v → Turn [b] v v' → NoBytes v [b] → b ∉ T → K v'
structure Qx (w0 v : World) (L : List Bx) (T : List Nat) (K : World → Prop) (Rs : List (Rm × Rp)) : Prop where
 bx : Bxs w0 v L []
 kp : Keep T K
 at_ : K v
 tl : ∀ j ∈ T, j < v.heap.size ∧ w0.heap.size ≤ j
 rp : ∀ p ∈ Rs, RpAt v p.1 p.2
 rd : ∀ p ∈ Rs, RpD p.1 T
 nb : ∀ e ∈ L, e.b ∉ T
section
variable {w0 v v' : World} {L L' : List Bx} {T T' : List Nat} {K K' : World → Prop} {Rs : List (Rm × Rp)} {m m' : Rm} {R R' : Rp}
theorem Keep.none : Keep [] (fun _ => True) := ⟨fun _ _ _ _ => trivial, fun _ _ _ _ _ _ _ => trivial⟩
theorem Qx.low (h : Qx w0 v L T K Rs) : Below w0.heap.size w0 v := h.bx.low
theorem Qx.grew (h : Qx w0 v L T K Rs) (k : Below v.heap.size v v') : Qx w0 v' L T K Rs :=
 ⟨h.bx.grew k, h.kp, h.kp.grow _ _ h.at_ k, fun j hj => ⟨Nat.lt_of_lt_of_le (h.tl j hj).1 k.size, (h.tl j hj).2⟩, fun p hp => (h.rp p hp).low k, h.rd, h.nb⟩
/-- The pool or disk turned. -/
theorem Qx.step (h : Qx w0 v L T K Rs) (hk : Keep T' K') (h' : K' v') (k : Step v v' T T') : Qx w0 v' L T' K' Rs :=
 ⟨h.bx.of_turn k.turn (fun j hj => ⟨(h.tl j hj).2, fun e he e2 => h.nb e he (by rw [e2]; exact hj), by simp⟩), hk, h',
  fun j hj => ⟨k.old j hj, by
   rcases k.new j hj with h1 | h1
   ·exact (h.tl j h1).2
   ·exact Nat.le_trans h.bx.low.size h1⟩,
  fun p hp => (h.rp p hp).turn k.turn (h.rd p hp),
  fun p hp g hg hm => by
   rcases k.new g hm with h1 | h1
   ·exact h.rd p hp g hg h1
   ·have := (h.rp p hp).blt g hg; omega,
  fun e he hm => by
   rcases k.new _ hm with h1 | h1
   ·exact h.nb e he h1
   ·have := (h.bx.blk e he).1.lt; omega⟩
/-- A new reference, made of an old one. -/
theorem Qx.ref (h : Qx w0 v L T K Rs) (hm : (m, R) ∈ Rs) (hr : RpAt v' m' R') (hf : Fresh v.heap.size m m') (k : Below v.heap.size v v') : Qx w0 v' L T K ((m', R') :: Rs) := by
 have hg := h.grew k
 refine ⟨hg.bx, hg.kp, hg.at_, hg.tl, fun p hp => ?_, fun p hp => ?_, hg.nb⟩
 ·rcases List.mem_cons.1 hp with rfl | hp
  ·exact hr
  ·exact hg.rp p hp
 ·rcases List.mem_cons.1 hp with rfl | hp
  ·intro g hgm hT
   rcases hf g hgm with h1 | h1
   ·exact h.rd _ hm g h1 hT
   ·have := (h.tl g hT).1; omega
  ·exact h.rd p hp
theorem Qx.refs (h : Qx w0 v L T K Rs) {Rs' : List (Rm × Rp)} (hs : ∀ p ∈ Rs', p ∈ Rs) : Qx w0 v L T K Rs' := ⟨h.bx, h.kp, h.at_, h.tl, fun p hp => h.rp p (hs p hp), fun p hp => h.rd p (hs p hp), h.nb⟩
theorem Qx.sub (h : Qx w0 v L T K Rs) (hL : L'.Sublist L) : Qx w0 v L' T K Rs := ⟨h.bx.sub hL (List.Sublist.refl _), h.kp, h.at_, h.tl, h.rp, h.rd, fun e he => h.nb e (hL.subset he)⟩
theorem Qx.push (h : Qx w0 v L T K Rs) (c : Array Value) (t : TypeId) : Qx w0 (v.alloc (.cells c t)) (⟨v.heap.size, c, t⟩ :: L) T K Rs := by
 have hb : Below v.heap.size v (v.alloc (.cells c t)) := (Below.refl _ v).alloc (Nat.le_refl _) _
 have hg := h.grew hb
 refine ⟨h.bx.push c t, hg.kp, hg.at_, hg.tl, hg.rp, hg.rd, fun e he => ?_⟩
 rcases List.mem_cons.1 he with rfl | he
 ·intro hm
  have := (h.tl _ hm).1
  dsimp only at this
  omega
 ·exact h.nb e he
theorem Qx.setb (h : Qx w0 v L T K Rs) {i : Nat} {e : Bx} (hi : L[i]? = some e) {c : Array Value} (hb : Blk v' e.b c e.t) (k : Turn [e.b] v v') (h3 : e.t ≠ 3) (h5 : e.t ≠ 5) (h9 : e.t ≠ 9) : Qx w0 v' (L.set i { e with c := c }) T K Rs := by
 have hm := List.mem_of_getElem? hi
 have hn := h.nb e hm
 have hbl := h.bx.at_ hi
 have hnb : NoBytes v [e.b] := by
  intro j hj cs fz e2
  simp at hj; subst hj
  unfold Blk at hbl
  rw [hbl] at e2
  injection e2 with e2
  injection e2 with _ e3
  exact h5 e3
 refine ⟨h.bx.put hi hb k, h.kp, h.kp.turn _ _ _ h.at_ k hnb hn, fun j hj => ⟨Nat.lt_of_lt_of_le (h.tl j hj).1 k.size, (h.tl j hj).2⟩, fun p hp => ?_, h.rd, fun x hx => ?_⟩
 ·have hr := h.rp p hp
  exact ⟨hr.bn, hr.bw, hr.sn, row_put hr.nl hbl k (fun x => h9 x.symm), row_put hr.nf hbl k (fun x => h3 x.symm), row_put hr.wl hbl k (fun x => h9 x.symm), row_put hr.wf hbl k (fun x => h3 x.symm), row_put hr.cv hbl k (fun x => h3 x.symm)⟩
 ·rcases mem_set hx with rfl | ⟨j, _, hx⟩
  ·exact hn
  ·exact h.nb x (List.mem_of_getElem? hx)
theorem Keep.pool (M : Mem) (S : Pl) (D : Dsk) : Keep M.own (fun v => PoolAt v M S D) :=
 ⟨fun _ _ h k => h.grew k, fun _ _ b h k hn hb => h.turn k hn (fun j hj hx => by simp at hx; subst hx; exact hb hj)⟩
theorem Keep.disk (b m : Nat) (vl : Value) (D : Dsk) : Keep (own b m vl) (fun v => DiskAt v b m vl D) :=
 ⟨fun _ _ h k => h.grew k, fun _ _ c h k hn hb => h.turn k hn (fun j hj hx => by simp at hx; subst hx; exact hb hj)⟩
/-- A pool of the call's own beside boxes and references. -/
abbrev Qp (w0 v : World) (L : List Bx) (M : Mem) (S : Pl) (D : Dsk) (Rs : List (Rm × Rp)) : Prop := Qx w0 v L M.own (fun v => PoolAt v M S D) Rs
/-- A disk of the call's own beside boxes and references. -/
abbrev Qd (w0 v : World) (L : List Bx) (b m : Nat) (vl : Value) (D : Dsk) (Rs : List (Rm × Rp)) : Prop := Qx w0 v L (own b m vl) (fun v => DiskAt v b m vl D) Rs
section
variable {M M' : Mem} {S S' : Pl} {D D' : Dsk} {b m : Nat} {vl vl' : Value}
theorem Qx.lp (h : Qp w0 v L M S D Rs) (hi : ∃ rows, InvR S D rows) : Lp w0 v M S D := ⟨h.at_, h.low, fun j hj => (h.tl j hj).2, hi⟩
theorem Qx.dk (h : Qd w0 v L b m vl D Rs) : Dk w0 v b m vl D := ⟨h.at_, h.low, fun j hj => (h.tl j hj).2⟩
theorem Qx.toL (h : Qx w0 v L T K Rs) (hl : Lo w0 v' M' S' D') (k : Step v v' T M'.own) : Qp w0 v' L M' S' D' Rs := h.step (Keep.pool _ _ _) hl.pool k
theorem Qx.toD (h : Qx w0 v L T K Rs) (hd : Dk w0 v' b m vl' D') (k : Step v v' T (own b m vl')) : Qd w0 v' L b m vl' D' Rs := h.step (Keep.disk _ _ _ _) hd.disk k
/-- The pool is let go; its disk stays. -/
theorem Qx.disk (h : Qp w0 v L M S D Rs) : Qd w0 v L M.b M.m M.vl D Rs :=
 ⟨h.bx, Keep.disk _ _ _ _, h.at_.disk, fun j hj => h.tl j (PoolAt.own_disk j hj), h.rp, fun p hp g hg hm => h.rd p hp g hg (PoolAt.own_disk g hm), fun e he hm => h.nb e he (PoolAt.own_disk _ hm)⟩
end
section
variable {ops : Array Oper} {rest : List Oper} {o : Oper} {a : Act} {Q : Exit → Act → World → Prop}
theorem wplx_new (H : Hid (Qx w0 v L T K Rs)) (t : TypeId) (ho : o.op = .alloc t) (hgd : Want ops o a) {z : Value} (hz : ∀ w, (zeroValue t).run Tryz.prog w = .ok z w) {cs : Array Value} (hc : z.cells = cs)
  (k : ∀ b w', Hid (Qx w0 w' (⟨b, cs, t⟩ :: L) T K Rs) → wpList Tryz.prog ops Q rest (a.put o.dst (.pointer (some ⟨b, 0, none⟩))) w') : WL Tryz.prog ops Q (o :: rest) a v := by
 subst hc
 exact wpl_run hgd (exec_alloc ho (hz v)) (k _ _ (Lib.hid (H.out.push z.cells t)))
theorem wplx_sta (H : Hid (Qx w0 v L T K Rs)) (i : Nat) {e : Bx} (hi : L[i]? = some e) (hd : o.dst = none) (t : TypeId) (x y : Operand) (ho : o.op = .store t x y) (hgd : Want ops o a) {off : Nat} (hx : a.eval x = .pointer (some ⟨e.b, off, none⟩)) {u : Array Value} (hy : a.eval y = .agg u)
  {n : Nat} (hz : ∀ w, (Go.sizeOf t).run Tryz.prog w = .ok n w) (hs : u.size = n) (h1 : u.toList.all (·.oneCell') = true) (hn : decide (off + n ≤ e.c.size) = true) (ht3 : decide (e.t ≠ 3 ∧ e.t ≠ 5 ∧ e.t ≠ 9) = true) {cs : Array Value} (hv : splice e.c off u = cs)
  (k : ∀ w', Hid (Qx w0 w' (L.set i { e with c := cs }) T K Rs) → wpList Tryz.prog ops Q rest a w') : WL Tryz.prog ops Q (o :: rest) a v := by
 subst hv
 have hb := H.out.bx.at_ hi
 have ht := setRow_turn v e.b (splice e.c off u) hb
 have h3 := of_decide_eq_true ht3
 exact wpl_skip hgd hd (exec_store t x y ho hx hy (run_store_agg (hz v) hb hs (of_decide_eq_true hn) (fun x hx => List.all_eq_true.1 h1 x hx))) (k _ (Lib.hid (H.out.setb hi ht.1 ht.2 h3.1 h3.2.1 h3.2.2)))
end
end
end Go.Proofs.YtklppnknllbfnaaGreat
namespace Go.Proofs.YtklppnknllbfnaaGreat
open Go.RowKit Go.Maps
set_option maxRecDepth 8000
variable {ι : Type} [Bar ι]
section
variable {w0 v v' : World} {b m : Nat} {vl vl' : Value} {M M' : Mem} {S S' : Pl} {D D' : Dsk} {E : Nat} {rows : List (List (Int × List Nat))} {s : Sta} {V : Nat → List Nat} {R Rm : Rp} {x : ActP} {er : Int}
theorem Holds.arm (h : Holds D E rows s V) {n : Int} (hn : n ≤ 9223372036854775807) : Holds (D.arm n) E rows s V :=
 h.turn ⟨h.rest.ok.arm hn, h.rest.up, h.rest.lose⟩ rfl rfl rfl h.oth (fun _ _ => .inl rfl) (fun _ _ _ => rfl)
theorem Strong.arm (h : Strong D E) (n : Int) : Strong (D.arm n) E := h
theorem Rest.crash (h : Rest D) (fs : List Int) : D.crash fs = { D with armed := 0 } := by
 unfold Dsk.crash
 have hl := h.lose
 have hu := h.up
 cases D
 simp only at hl hu
 subst hl
 subst hu
 rfl
theorem Holds.calm (h : Holds D E rows s V) (fs : List Int) : (D.crash fs).armed = 0 ∧ Holds (D.crash fs) E rows s V := by
 rw [h.rest.crash]
 have o := h.rest.ok
 exact ⟨rfl, h.turn ⟨⟨o.s1, o.s2, o.z1, o.z2, o.len, o.byt, o.lose, Int.le_refl 0, (by show (0 : Int) ≤ 9223372036854775807; decide)⟩, h.rest.up, h.rest.lose⟩ rfl rfl rfl h.oth (fun _ _ => .inl rfl) (fun _ _ _ => rfl)⟩
/-- Open, when a crash may come: be it that the pool is there or that the disk went down. -/
theorem Open_two (h : Dk w0 v b m vl D) (hh : Holds D E rows s V) (hst : Strong D E) (hE : E ≤ 800000000000) : Calls Tryz.prog 18 #[.pointer (some ⟨b, 0, none⟩)] v fun e v' =>
  ∃ p er vl' D', e = .returned (.tuple #[p, .int .i64 er]) ∧ (er = 0 ∨ er = 4) ∧ Dk w0 v' b m vl' D' ∧ Step v v' (own b m vl) (own b m vl') ∧ D'.sectors = D.sectors ∧ D'.size = D.size ∧ D'.loose.length ≤ 1048576 ∧
   ∀ fs, (D'.crash fs).armed = 0 ∧ ∃ E' rows', E' ≤ E + 1 ∧ Holds (D'.crash fs) E' rows' s V := by
 refine (Open_arm h hh hE).mono ?_
 rintro e v' (⟨M', S', D', rfl, rfl, rfl, hl, hd, h1, h2, hs⟩ | ⟨vl', D', rfl, hd, hw, hc, hs⟩)
 ·exact ⟨_, 0, M'.vl, D', rfl, .inl rfl, hl.dk, ⟨hs.turn, hs.nb, fun k hk => hs.new k (PoolAt.own_disk k hk), fun k hk => hs.old k (PoolAt.own_disk k hk)⟩, h1, h2, by rw [hd.rest.lose]; simp, fun fs => ⟨(hd.calm fs).1, E + 1, [], Nat.le_refl _, (hd.calm fs).2⟩⟩
 ·exact ⟨_, 4, vl', D', rfl, .inr rfl, hd, hs, hw.sec, hw.siz, hw.few, hc hst⟩
theorem Keeps.same (h : Keeps D s V R) (hs : D'.sectors = D.sectors) (hz : D'.size = D.size) : Keeps D' s V R := by
 have e1 : D'.slots = D.slots := by unfold Dsk.slots; rw [hs]
 have e2 : D'.pg = D.pg := by unfold Dsk.pg; rw [hs, e1]
 exact ⟨h.was, by rw [e2]; exact h.pages, by rw [e1]; exact h.slot, by rw [rm_same hz]; exact h.room⟩
theorem Like.keeps (h : Like S D R) (hi : InvR S D rows) : Keeps D S.was (S.valC D) R := by
 have e1 : S.slots = D.slots := hi.ok.slots
 have e2 : S.pages D = D.pg := by
  have h1 := hi.ok.first
  rw [← pg_pages D]
  unfold Pl.pages
  rw [h1, e1]
  rfl
 exact ⟨h.was, by rw [← e2]; exact h.pages, by rw [← e1]; exact h.slot, h.room⟩
/-- What a crash may leave, and what the two references have of it. -/
def Fin (D : Dsk) (R Rm : Rp) : Prop := ∀ fs, ∃ s V, Cr (D.crash fs) 900 s V ∧ (Keeps (D.crash fs) s V R ∨ Keeps (D.crash fs) s V Rm)
theorem crash_same (D : Dsk) (fs : List Int) : (D.crash fs).sectors = D.sectors ∧ (D.crash fs).size = D.size := ⟨rfl, rfl⟩
theorem Fin.live (h : Like S D R) (hi : InvR S D rows) (hE : S.epoch ≤ 900) (Rm : Rp) : Fin D R Rm := fun fs =>
 ⟨_, _, (hi.crash (by omega) fs).mono hE, .inl ((h.keeps hi).same (crash_same D fs).1 (crash_same D fs).2)⟩
theorem Fin.fate (h : Like S D R) (hi : InvR S D rows) (hE : S.epoch ≤ 800) (hd : Downs D D' 4) (hf : ∀ fs, Fate (D'.crash fs) (S.epoch + 1) S D x) (hm : kindOf x.k = 5 → Rm = R.foll x) : Fin D' R Rm := fun fs => by
 have k1 := h.keeps hi
 have s1 : (D'.crash fs).sectors = D.sectors := (crash_same D' fs).1.trans hd.sec
 have z1 : (D'.crash fs).size = D.size := (crash_same D' fs).2.trans hd.siz
 rcases hf fs with hc | ⟨h5, hn, V, hv, hc⟩
 ·exact ⟨_, _, hc.mono (by omega), .inl (k1.same s1 z1)⟩
 ·refine ⟨_, _, hc.mono (by omega), .inr ?_⟩
  rw [hm h5]
  have hf : R.foll x = R.commit.2 := by unfold Rp.foll; rw [if_neg (by omega), if_neg (by omega), if_neg (by omega), if_pos h5]
  have hcm : R.commit.2 = { R with was := R.now, moved := false, ch := [] } := by
   unfold Rp.commit
   rw [if_neg (by rw [h.nPend hi, h.slot]; omega)]
  have hb := hi.ok.now.n2
  rw [hf, hcm]
  have k2 := k1.same s1 z1
  exact ⟨h.now.other rfl (fun k h0 hk => hv k h0 (by omega)), k2.pages, k2.slot, k2.room⟩
end
end Go.Proofs.YtklppnknllbfnaaGreat
namespace Go.Proofs.YtklppnknllbfnaaGreat
open Go.RowKit Go.Maps
set_option maxRecDepth 8000
variable {ι : Type} [Bar ι]
theorem RpAt.ones {w : World} {m : Rm} {R : Rp} (h : RpAt w m R) : (pc m R).toList.all (·.oneCell') = true := by
 obtain ⟨A1, c1, A2, c2, A3, c3, A4, c4, A5, c5, rfl⟩ := h.shape
 rfl
section
variable {w0 v v' : World} {L : List Bx} {T : List Nat} {K : World → Prop} {Rs : List (Rm × Rp)} {m : Rm} {R R' : Rp}
theorem Qx.stands (w0 : World) (L : List Bx) (T : List Nat) (K : World → Prop) (Rs : List (Rm × Rp)) : Stands fun v => Qx w0 v L T K Rs := fun _ _ k h => h.grew k
theorem Qx.setrow (h : Qx w0 v L T K Rs) {i : Nat} {e : Bx} (hi : L[i]? = some e) (cs : Array Value) (ht : e.t ≠ 3 ∧ e.t ≠ 5 ∧ e.t ≠ 9) : Qx w0 (v.setRow e.b (splice e.c 0 cs)) (L.set i { e with c := splice e.c 0 cs }) T K Rs := by
 have hs := setRow_turn v e.b (splice e.c 0 cs) (h.bx.at_ hi)
 exact h.setb hi hs.1 hs.2 ht.1 ht.2.1 ht.2.2
theorem Qx.one (h : RpAt v m R) : Qx v v [] [] (fun _ => True) [(m, R)] :=
 ⟨Bxs.start v, Keep.none, trivial, by simp, fun p hp => by simp at hp; subst hp; exact h, fun p _ g _ hg => by simp at hg, by simp⟩
section
variable {ops : Array Oper} {rest : List Oper} {o : Oper} {a : Act} {Q : Exit → Act → World → Prop}
theorem wplx_box (H : Hid (Qx w0 v L T K Rs)) (t : TypeId) (x : Operand) (ho : o.op = .box t x) (hgd : Want ops o a) {cs : Array Value} (hx : a.eval x = .agg cs)
  (k : ∀ b w', Hid (Qx w0 w' (⟨b, cs, t⟩ :: L) T K Rs) → wpList Tryz.prog ops Q rest (a.put o.dst (.pointer (some ⟨b, 0, none⟩))) w') : WL Tryz.prog ops Q (o :: rest) a v :=
 wpl_run hgd (exec_box ho hx) (k _ _ (Lib.hid (H.out.push cs t)))
end
section
variable {ops : Array Oper} {Q : Exit → Act → World → Prop} {md : Region.Mode}
/-- A call that makes a reference, and a box for it, in either order. -/
theorem wpX_callbox {S : World → Prop} {c al st dc da : Nat} {oc oal ost : Oper} {listed : Array Bool} {Tm : Array Value} {Df : List Deferred} {f : FuncId} {args : Array Value} {fuel : Nat}
  (hst : Stands S) (hu : ∀ v, S v → Qx w0 v L T K Rs) (hm : (m, R) ∈ Rs)
  (r0 : Region.ready md ops listed = [c, al]) (r1 : Region.ready md ops (listed.setIfInBounds c true) = [al]) (r2 : Region.ready md ops (listed.setIfInBounds al true) = [c])
  (r3 : Region.ready md ops ((listed.setIfInBounds c true).setIfInBounds al true) = [st]) (r4 : Region.ready md ops (((listed.setIfInBounds c true).setIfInBounds al true).setIfInBounds st true) = [])
  (hcut : cutB md ops st = true) (hne : c ≠ al) (hdne : dc ≠ da) (hsz : dc < Tm.size ∧ da < Tm.size)
  (hc : ops[c]? = some oc) (ha : ops[al]? = some oal) (hs : ops[st]? = some ost) (dcE : oc.dst = some dc) (daE : oal.dst = some da) (dsE : ost.dst = none)
  (gc : oc.guard = none) (ga : oal.guard = none) (gs : ost.guard = none) (oa : oal.op = .alloc 48) (os : ost.op = .store 48 (.tmp da) (.tmp dc))
  (hrun : ∀ w, (execOp (Act.eval { tmps := Tm, defers := Df }) oc).run Tryz.prog w = .ok (.enter f args) w)
  (hrun2 : ∀ x w, (execOp (Act.eval { tmps := Tm.setIfInBounds da x, defers := Df }) oc).run Tryz.prog w = .ok (.enter f args) w)
  (hcall : ∀ v, Qx w0 v L T K Rs → Calls Tryz.prog f args v fun e w' => ∃ u, e = .returned u ∧ ∃ m', u = .agg (pc m' R') ∧ RpAt w' m' R' ∧ Fresh v.heap.size m m' ∧ Below v.heap.size v w')
  (k : ∀ b m' w', Qx w0 w' (⟨b, pc m' R', 48⟩ :: L) T K ((m', R') :: Rs) → Q .normal { tmps := (Tm.setIfInBounds dc (.agg (pc m' R'))).setIfInBounds da (.pointer (some ⟨b, 0, none⟩)), defers := Df } w') :
  wpX Tryz.prog md ops Q S (fuel + 1 + 1 + 1) listed { tmps := Tm, defers := Df } := by
 have want : ∀ (o : Oper) (t : Array Value), o.guard = none → Region.wanted o (yielded ops t) = true := fun o t h => by unfold Region.wanted; rw [h]
 have fin : ∀ (b : Nat) (m' : Rm) (S1 : World → Prop) (cs : Array Value), (cs = z48) → (∀ v, S1 v → Qx w0 v (⟨b, cs, 48⟩ :: L) T K ((m', R') :: Rs)) →
   wpX Tryz.prog md ops Q S1 (fuel + 1) ((listed.setIfInBounds c true).setIfInBounds al true) { tmps := (Tm.setIfInBounds dc (.agg (pc m' R'))).setIfInBounds da (.pointer (some ⟨b, 0, none⟩)), defers := Df } := by
  rintro b m' S1 cs rfl h1
  refine wpX_one r3 (fun w hS => ?_)
  have hq := h1 w hS
  refine wpX_store (S' := fun v => Qx w0 v (⟨b, pc m' R', 48⟩ :: L) T K ((m', R') :: Rs)) (w' := w.setRow b (splice z48 0 (pc m' R'))) hs dsE (want _ _ gs) ?_ (Qx.stands _ _ _ _ _) (.inl hcut) ?_ (wpX_done r4 (fun w' h => k b m' w' h) _)
  ·refine exec_store 48 (.tmp da) (.tmp dc) os (vx := .pointer (some ⟨b, 0, none⟩)) ?_ (vy := .agg (pc m' R')) ?_ (run_store_agg (Tryz.sizeOf48 _) (hq.bx.at_ (i := 0) rfl) rfl (by decide) (fun x hx => List.all_eq_true.1 (?_ : (pc m' R').toList.all (·.oneCell') = true) x hx))
   ·simp [Act.eval, hsz.2]
   ·simp [Act.eval, hsz.1, hdne.symm]
   ·exact (show RpAt w m' R' from hq.rp _ List.mem_cons_self).ones
  ·have h2 := hq.setrow (i := 0) (e := ⟨b, z48, 48⟩) rfl (pc m' R') ⟨(by decide : (48 : Nat) ≠ 3), (by decide : (48 : Nat) ≠ 5), (by decide : (48 : Nat) ≠ 9)⟩
   rw [splice_whole (n := 25) (by rfl) (by rfl)] at h2
   exact h2
 refine wpX_two r0 (fun w hS => ?_) (fun w hS => ?_)
 ·refine wpX_call hc dcE (want _ _ gc) (hcall w (hu w hS)) (hrun w) ?_
  rintro _ w' ⟨m', rfl, hr, hf, hb⟩
  refine ⟨fun v => S v ∧ Qx w0 v L T K ((m', R') :: Rs), hst.and (Qx.stands _ _ _ _ _), .inr (fun _ h => h.1), ⟨hst _ _ hb hS, (hu w hS).ref hm hr hf hb⟩, ?_⟩
  refine wpX_one r1 (fun w2 hS2 => ?_)
  refine wpX_run (S' := fun v => (S v ∧ Qx w0 v L T K ((m', R') :: Rs)) ∧ Qx w0 v (⟨w2.heap.size, z48, 48⟩ :: L) T K ((m', R') :: Rs)) ha daE (want _ _ ga) (exec_alloc oa (Tryz.zeroValue48 _)) ((hst.and (Qx.stands _ _ _ _ _)).and (Qx.stands _ _ _ _ _)) (.inr fun _ h => h.1) ?_ (fin _ m' _ z48 rfl (fun v h => h.2))
  have hb2 := (Below.refl w2.heap.size w2).alloc (Nat.le_refl _) (.cells z48 48)
  exact ⟨⟨hst _ _ hb2 hS2.1, hS2.2.grew hb2⟩, hS2.2.push z48 48⟩
 ·refine wpX_run (S' := fun v => S v ∧ Qx w0 v (⟨w.heap.size, z48, 48⟩ :: L) T K Rs) ha daE (want _ _ ga) (exec_alloc oa (Tryz.zeroValue48 _)) (hst.and (Qx.stands _ _ _ _ _)) (.inr fun _ h => h.1) ?_ ?_
  ·have hb2 := (Below.refl w.heap.size w).alloc (Nat.le_refl _) (.cells z48 48)
   exact ⟨hst _ _ hb2 hS, (hu w hS).push z48 48⟩
  ·refine wpX_one r2 (fun w2 hS2 => ?_)
   refine wpX_call hc dcE (want _ _ gc) (hcall w2 (hu w2 hS2.1)) (hrun2 _ w2) ?_
   rintro _ w' ⟨m', rfl, hr, hf, hb⟩
   refine ⟨fun v => (S v ∧ Qx w0 v (⟨w.heap.size, z48, 48⟩ :: L) T K Rs) ∧ Qx w0 v (⟨w.heap.size, z48, 48⟩ :: L) T K ((m', R') :: Rs), (hst.and (Qx.stands _ _ _ _ _)).and (Qx.stands _ _ _ _ _), .inr (fun _ h => h.1), ⟨⟨hst _ _ hb hS2.1, hS2.2.grew hb⟩, hS2.2.ref hm hr hf hb⟩, ?_⟩
   have h3 := fin w.heap.size m' (fun v => (S v ∧ Qx w0 v (⟨w.heap.size, z48, 48⟩ :: L) T K Rs) ∧ Qx w0 v (⟨w.heap.size, z48, 48⟩ :: L) T K ((m', R') :: Rs)) z48 rfl (fun v h => h.2)
   rw [Array.setIfInBounds_comm _ _ hne, Array.setIfInBounds_comm _ _ hdne] at h3
   exact h3
end
end
end Go.Proofs.YtklppnknllbfnaaGreat
