/- Walks: alike. Printed by mk_rh.py. -/
import Derived.Test.YtklppnknllbfnaaGreatRg
namespace Go.Proofs.YtklppnknllbfnaaGreat
open Go.RowKit Go.Maps
set_option maxRecDepth 8000
set_option linter.unusedSimpArgs false
variable {ι : Type} [Bar ι]
def RpD (m : Rm) (T : List Nat) : Prop := ∀ g ∈ m.blocks, g ∉ T
def Rs.root (s : Rs) (k : Int) : Int := if 0 ≤ k ∧ k < 8 then s.roots.get k.toNat else 0
section
variable {w0 v v' v2 : World} {M : Mem} {S : Pl} {D : Dsk} {m : Rm} {R : Rp} {T : List Nat} {rows : List (List (Int × List Nat))}
theorem RpAt.turn (h : RpAt v m R) (k : Turn T v v') (hd : RpD m T) : RpAt v' m R :=
 ⟨h.bn, h.bw, h.sn, row_turn h.nl k fun g hg => hd g (mem_blocks.2 (.inl hg)), row_turn h.nf k fun g hg => hd g (mem_blocks.2 (.inr (.inl hg))), row_turn h.wl k fun g hg => hd g (mem_blocks.2 (.inr (.inr (.inl hg)))), row_turn h.wf k fun g hg => hd g (mem_blocks.2 (.inr (.inr (.inr (.inl hg))))), row_turn h.cv k fun g hg => hd g (mem_blocks.2 (.inr (.inr (.inr (.inr hg)))))⟩
theorem st_trans (h : Step v v' T T) (k : Step v' v2 T T) : Step v v2 T T := ⟨h.turn.trans k.turn (fun _ hj _ => hj), h.nb, fun _ hj => .inl hj, k.old⟩
theorem Bxs.base (h : Below w0.heap.size w0 v) : Bxs w0 v [] [] := ⟨h, by simp, by simp, List.Pairwise.nil, List.Pairwise.nil, by simp⟩
theorem stands_lp (w0 : World) (M : Mem) (S : Pl) (D : Dsk) : Stands fun v => Lp w0 v M S D := fun _ _ k h => h.grew k
theorem stands_rp (m : Rm) (R : Rp) : Stands fun v => RpAt v m R := fun _ _ k h => h.low k
theorem exec_neI {ev : Operand → Value} {o : Oper} {t : TypeId} (x y : Operand) (ho : o.op = .binOp .neq 3 x y t) {a b : Int} {w : World} (hx : ev x = .int .i64 a) (hy : ev y = .int .i64 b) {z : Bool} (hz : decide (a ≠ b) = z) :
  (execOp ev o).run Tryz.prog w = .ok (.value (.bool z)) w := by
 unfold execOp
 simp only [ho, hx, hy]
 go_simp
 rw [← hz]
 by_cases h : a = b
 ·subst h; simp
 ·simp [h]
/-- What stands while alike reads. -/
structure Aw (w0 u0 wr : World) (b1 : Nat) (M : Mem) (Z : Pl) (D : Dsk) (m : Rm) (R : Rp) : Prop where
 bx : Bxs w0 wr [⟨b1, pc m R, 48⟩] []
 lp : Lp w0 wr M Z D
 rp : RpAt wr m R
 st : Step u0 wr M.own M.own
theorem Aw.grew {w0 u0 wr w' : World} {b1 : Nat} {M : Mem} {Z : Pl} {D : Dsk} {m : Rm} {R : Rp} (h : Aw w0 u0 wr b1 M Z D m R) (k : Below wr.heap.size wr w') : Aw w0 u0 w' b1 M Z D m R :=
 ⟨h.bx.grew k, h.lp.grew k, h.rp.low k, st_trans h.st (step_below h.lp.pool.nobytes h.lp.pool.lt k)⟩
theorem Aw.read {w0 u0 wr w' : World} {b1 : Nat} {M : Mem} {Z Z' : Pl} {D : Dsk} {m : Rm} {R : Rp} (h : Aw w0 u0 wr b1 M Z D m R) (hl : Lp w0 w' M Z' D) (k : Step wr w' M.own M.own) (hb : b1 ∉ M.own) (hd : RpD m M.own) : Aw w0 u0 w' b1 M Z' D m R :=
 ⟨h.bx.of_turn k.turn (fun j hj => ⟨hl.lo j hj, by intro e he; simp at he; subst he; intro e2; have e3 : b1 = j := e2; rw [e3] at hb; exact hb hj, by simp⟩), hl, h.rp.turn k.turn hd, st_trans h.st k⟩
theorem stands_aw (w0 u0 : World) (b1 : Nat) (M : Mem) (Z : Pl) (D : Dsk) (m : Rm) (R : Rp) : Stands fun v => Aw w0 u0 v b1 M Z D m R := fun _ _ k h => h.grew k
theorem RpAt.nlAt {w : World} {m : Rm} {R : Rp} (h : RpAt w m R) {A : Option Addr} {c : Nat} (e : m.nl = .slice A R.now.loads.length c) : w.ownsRow 0 9 1 (.slice A R.now.loads.length c) R.now.loads.length (strs R.now.loads) := by rw [← e]; exact h.nl
theorem run_load_row {P : Program} {w : World} {t bs e n c g k : Nat} {xs : List Value} {v : Value} (hA : (isAgg t).run P w = .ok false w) (hr : w.ownsRow bs e 1 (.slice (some ⟨g, 0, none⟩) n c) n xs) (hv : xs[k]? = some v) : (Instr.loadAt t (.pointer (some ⟨g, k, none⟩))).run P w = .ok v w := by
 obtain ⟨cs, hb⟩ := row_kind hr rfl
 have hk : k < n := by have := (List.getElem?_eq_some_iff.1 hv).1; have := hr.1; omega
 have hc := World.ownsRow.cellAt hr k (by omega)
 rw [hv] at hc
 have hb : Blk w g cs e := hb
 rw [hb.cell] at hc
 exact run_load_one hA hb hc
/-- What a pool that is like the document's has. -/
structure Tells (S : Pl) (D : Dsk) (R : Rp) : Prop where
 cnt : (S.now.next : Int) - 1 - S.now.free.length = (R.now.count : Nat)
 pages : S.pages D = R.pages
 room : D.rm = R.room
 root : ∀ k, S.now.root k = R.now.root k
 has : ∀ page, R.now.has page = S.now.taken page
 val : ∀ k : Nat, S.now.taken k = true → R.now.loads[k]? = some (S.val D k)
theorem Like.tells (h : Like S D R) (hi : InvR S D rows) : Tells S D R := by
 refine ⟨(h.now.count_ (fun k _ => hi.val_ne k) hi.ok.now).symm, h.pages.symm, h.room.symm, fun k => by unfold Sta.root Rs.root; rw [h.now.roots], h.has hi, fun k hk => ?_⟩
 obtain ⟨_, h2, _⟩ := (taken_iff _ _).1 hk
 rw [h.now.load k h2, if_pos hk]
end
section
variable {P : Program} {ops : Array Oper} {rest : List Oper} {o : Oper} {a : Act} {Q : Exit → Act → World → Prop} {w0 w : World} {L : List Bx} {R : List Rx}
/-- A struct is boxed; where, is said. -/
theorem wpl_boxT (H : Hid (Bxs w0 w L R)) (t : TypeId) (x : Operand) (ho : o.op = .box t x) (hgd : Want ops o a) {cs : Array Value} (hx : a.eval x = .agg cs)
  (k : ∀ b w', Hid (Bxs w0 w' (⟨b, cs, t⟩ :: L) R) → Hid (b = w.heap.size) → Below w.heap.size w w' → wpList P ops Q rest (a.put o.dst (.pointer (some ⟨b, 0, none⟩))) w') : WL P ops Q (o :: rest) a w :=
 wpl_run hgd (exec_box ho hx) (k _ _ (Lib.hid (H.out.push cs t)) (Lib.hid rfl) ((Below.refl _ w).alloc (Nat.le_refl _) _))
end
set_option maxHeartbeats 8000000 in
theorem alike_any {w0 u0 : World} {M : Mem} {Z : Pl} {D : Dsk} {m : Rm} {R : Rp} (h : Lp w0 u0 M Z D) (hr : RpAt u0 m R) (hd : RpD m M.own) :
  Calls Tryz.prog 34 #[.pointer (some ⟨M.p, 0, none⟩), .agg (pc m R)] u0 fun e v' => ∃ B f, e = .returned (.bool B) ∧ (Like Z D R → B = true) ∧ Lp w0 v' M { Z with seen := f } D ∧ Step u0 v' M.own M.own := by
 obtain ⟨rows, hi⟩ := h.inv
 have HTL := Lib.hid (fun hl : Like Z D R => hl.tells hi)
 have HI := Lib.hid hi
 have H := Lib.hid (Bxs.base h.low)
 have HLP := Lib.hid h
 have HRP := Lib.hid hr
 have HD := Lib.hid hd
 obtain ⟨P, hP⟩ : ∃ P, P = M.p := ⟨_, rfl⟩
 obtain ⟨tk, htk⟩ : ∃ tk : Int, tk = (Z.now.next : Int) - 1 - Z.now.free.length := ⟨_, rfl⟩
 obtain ⟨cn, hcn⟩ : ∃ cn, cn = R.now.count := ⟨_, rfl⟩
 obtain ⟨pg1, hpg1⟩ : ∃ pg1, pg1 = Z.pages D := ⟨_, rfl⟩
 obtain ⟨pg2, hpg2⟩ : ∃ pg2, pg2 = R.pages := ⟨_, rfl⟩
 obtain ⟨rm1, hrm1⟩ : ∃ rm1, rm1 = D.rm := ⟨_, rfl⟩
 obtain ⟨rm2, hrm2⟩ : ∃ rm2, rm2 = R.room := ⟨_, rfl⟩
 have HC1 := Lib.hid (show ∀ w_, Lp w0 w_ M Z D → Calls Tryz.prog 15 #[.pointer (some ⟨P, 0, none⟩)] w_ fun e w' => e = .returned (.int .i64 tk) ∧ Below w_.heap.size w_ w' by rw [hP, htk]; exact fun _ q => Taken_lp q)
 have HC2 := Lib.hid (show ∀ w_, RpAt w_ m R → Calls Tryz.prog 71 #[.agg (pc m R)] w_ fun e w' => e = .returned (.int .i64 (cn : Nat)) ∧ Below w_.heap.size w_ w' by rw [hcn]; exact fun _ q => Count_ref q.nl q.bn q.sn.1)
 have HC3 := Lib.hid (show ∀ w_, Lp w0 w_ M Z D → Calls Tryz.prog 11 #[.pointer (some ⟨P, 0, none⟩)] w_ fun e w' => e = .returned (.int .i64 (pg1 : Nat)) ∧ Below w_.heap.size w_ w' by rw [hP, hpg1]; exact fun _ q => Pages_lp q)
 have HC4 := Lib.hid (show ∀ w_, Lp w0 w_ M Z D → Calls Tryz.prog 14 #[.pointer (some ⟨P, 0, none⟩)] w_ fun e w' => e = .returned (.int .i64 (rm1 : Nat)) ∧ Below w_.heap.size w_ w' by
  rw [hP, hrm1]
  exact fun w_ q => (Room_lp q).mono fun _ _ ⟨h1, h2⟩ => ⟨h1, by rw [h2]; exact Below.refl _ _⟩)
 have HV1 := Lib.hid (show (pc m R)[22]? = some (.int .i64 (pg2 : Nat)) by rw [hpg2]; rfl)
 have HV2 := Lib.hid (show (pc m R)[24]? = some (.int .i64 (rm2 : Nat)) by rw [hrm2]; rfl)
 have HQ := Lib.hid (show Like Z D R → tk = (cn : Nat) ∧ pg1 = pg2 ∧ rm1 = rm2 by
  intro hl
  have ht := HTL.out hl
  exact ⟨by rw [htk, hcn]; exact ht.cnt, by rw [hpg1, hpg2]; exact ht.pages, by rw [hrm1, hrm2]; exact ht.room⟩)
 have hone := hr.shape
 have hcnb : (cn : Int) ≤ 1048576 := by
  have h1 : R.now.count ≤ R.now.loads.length := List.countP_le_length
  have h2 := hr.sn.1
  omega
 have ecn : IntKind.i64.wrap (cn : Int) = (cn : Int) := by rw [IntKind.wrap_i64]; omega
 clear hcn hpg1 hpg2 hrm1 hrm2 htk hi
 rw [← hP]
 have HP := Lib.hid hP
 clear hP hr hd h
 by_cases c1 : tk = (cn : Nat)
 rotate_left
 ·clear hone
  go_enter Tryz.func34, Tryz.ntmps34
  go_wp2_with (rw [wpl_id]; first
   | (refine wpl_boxT H _ _ rfl (wnt rfl) rfl (fun b1 w' H2 hb1 hgrow => ?_); clear H; have H := H2; clear H2))
  have HNB := Lib.hid (show b1 ∉ M.own from fun hm => by have := HLP.out.pool.lt _ hm; have := hb1.out; omega)
  have HB1 := Lib.hid (show Bxs w0 w' [⟨b1, pc m R, 48⟩] [] ∧ Lp w0 w' M Z D ∧ RpAt w' m R ∧ Below u0.heap.size u0 w' from by
   have hb := hgrow
   exact ⟨H.out, HLP.out.grew hb, HRP.out.low hb, hb⟩)
  clear H hgrow
  obtain ⟨Sr10, Sr10u, Sr10m, Sr10t⟩ := lay (fun v : World => Bxs w0 v [⟨b1, pc m R, 48⟩] [] ∧ Lp w0 v M Z D ∧ RpAt v m R ∧ Below u0.heap.size u0 v) ((Bxs.stands _ _ _).and ((stands_lp _ _ _ _).and ((stands_rp _ _).and (stands_below _))))
  refine wp_region_X (S := Sr10) (by kernel_rfl) (Sr10m.out _ ⟨HB1.out.1.drew, HB1.out.2.1.drew, HB1.out.2.2.1.low ⟨rfl, rfl, rfl, Nat.le_refl _, fun _ _ => rfl⟩, grow HB1.out.2.2.2 ⟨rfl, rfl, rfl, Nat.le_refl _, fun _ _ => rfl⟩⟩) ?_
  refine wpX_t 0 ?_ Sr10t.out rfl rfl (by kernel_rfl) (fun _ _ _ h => h) rfl ?_ ?_
  rotate_left
  ·(intro w_ hS; go_simp; try with_reducible rfl)
  simp only [sL]
  refine wpX_take (i := 1) Sr10t.out rfl rfl (by kernel_rfl) (by kernel_rfl) (by kernel_rfl) (by kernel_rfl) (fun _ _ _ h => h) (SteadyX.call (by rfl) (fun w_ hS => by obtain ⟨q0, q1, q2, q3⟩ := Sr10u.out _ hS; exact HC1.out w_ q1) (fun w_ hS => by (go_simp))) ?_
  simp only [sL]
  refine wpX_take (i := 2) (v := .agg (pc m R)) Sr10t.out rfl rfl (by kernel_rfl) (by kernel_rfl) (by kernel_rfl) (by kernel_rfl) (fun _ _ _ h => h) (SteadyX.value (by rfl) (fun w_ hS => by obtain ⟨q0, q1, q2, q3⟩ := Sr10u.out _ hS; exact exec_load 48 (.tmp 3) rfl (vx := .pointer (some ⟨b1, 0, none⟩)) rfl (run_load_whole (Tryz.isAgg48 _) (Tryz.sizeOf48 _) (q0.at_ (i := 0) rfl) rfl))) ?_
  simp only [sL]
  refine wpX_take (i := 3) Sr10t.out rfl rfl (by kernel_rfl) (by kernel_rfl) (by kernel_rfl) (by kernel_rfl) (fun _ _ _ h => h) (SteadyX.call (by rfl) (fun w_ hS => by obtain ⟨q0, q1, q2, q3⟩ := Sr10u.out _ hS; exact HC2.out w_ q2) (fun w_ hS => by (go_simp))) ?_
  simp only [sL]
  refine wpX_t 4 ?_ Sr10t.out rfl rfl (by kernel_rfl) (fun _ _ _ h => h) rfl ?_ ?_
  rotate_left
  ·(intro w_ hS; go_simp; try with_reducible rfl)
  simp only [sL]
  refine wpX_take (i := 5) (v := .bool true) Sr10t.out rfl rfl (by kernel_rfl) (by kernel_rfl) (by kernel_rfl) (by kernel_rfl) (fun _ _ _ h => h) (SteadyX.value (by rfl) (fun w_ hS => by obtain ⟨q0, q1, q2, q3⟩ := Sr10u.out _ hS; exact exec_neI (.tmp 11) (.tmp 14) rfl rfl rfl (by simp [c1]))) ?_
  simp only [sL]
  refine wpX_t 6 ?_ Sr10t.out rfl rfl (by kernel_rfl) (fun _ _ _ h => h) rfl ?_ ?_
  rotate_left
  ·(intro w_ hS; go_simp; try with_reducible rfl)
  simp only [sL]
  refine wpX_o 7 Sr10t.out rfl rfl (by kernel_rfl) (fun _ _ _ h => h) rfl ?_
  simp only [sL]
  refine wpX_o 8 Sr10t.out rfl rfl (by kernel_rfl) (fun _ _ _ h => h) rfl ?_
  simp only [sL]
  refine wpX_o 9 Sr10t.out rfl rfl (by kernel_rfl) (fun _ _ _ h => h) rfl ?_
  simp only [sL]
  refine wpX_o 10 Sr10t.out rfl rfl (by kernel_rfl) (fun _ _ _ h => h) rfl ?_
  simp only [sL]
  refine wpX_o 11 Sr10t.out rfl rfl (by kernel_rfl) (fun _ _ _ h => h) rfl ?_
  simp only [sL]
  refine wpX_t 12 ?_ Sr10t.out rfl rfl (by kernel_rfl) (fun _ _ _ h => h) rfl ?_ ?_
  rotate_left
  ·(intro w_ hS; go_simp; try with_reducible rfl)
  simp only [sL]
  refine wpX_t 13 ?_ Sr10t.out rfl rfl (by kernel_rfl) (fun _ _ _ h => h) rfl ?_ ?_
  rotate_left
  ·(intro w_ hS; go_simp; try with_reducible rfl)
  simp only [sL]
  refine wpX_o 14 Sr10t.out rfl rfl (by kernel_rfl) (fun _ _ _ h => h) rfl ?_
  simp only [sL]
  refine wpX_o 15 Sr10t.out rfl rfl (by kernel_rfl) (fun _ _ _ h => h) rfl ?_
  simp only [sL]
  refine wpX_o 16 Sr10t.out rfl rfl (by kernel_rfl) (fun _ _ _ h => h) rfl ?_
  simp only [sL]
  refine wpX_o 17 Sr10t.out rfl rfl (by kernel_rfl) (fun _ _ _ h => h) rfl ?_
  simp only [sL]
  refine wpX_o 18 Sr10t.out rfl rfl (by kernel_rfl) (fun _ _ _ h => h) rfl ?_
  simp only [sL]
  refine wpX_t 19 ?_ Sr10t.out rfl rfl (by kernel_rfl) (fun _ _ _ h => h) rfl ?_ ?_
  rotate_left
  ·(intro w_ hS; go_simp; try with_reducible rfl)
  simp only [sL]
  refine wpX_done (by kernel_rfl) (fun W hS => ?_) _
  obtain ⟨q0, q1, q2, q3⟩ := Sr10u.out _ hS
  clear hS Sr10u Sr10m Sr10t
  clear Sr10
  go_wp2
  go_ret
  exact ⟨false, Z.seen, rfl, fun hl => absurd (HQ.out hl).1 c1, q1, step_below HLP.out.pool.nobytes HLP.out.pool.lt q3⟩
 by_cases c2 : pg1 = pg2
 rotate_left
 ·clear hone
  have c2' : ¬ (pg1 : Int) = pg2 := by omega
  subst c1
  go_enter Tryz.func34, Tryz.ntmps34
  go_wp2_with (rw [wpl_id]; first
   | (refine wpl_boxT H _ _ rfl (wnt rfl) rfl (fun b1 w' H2 hb1 hgrow => ?_); clear H; have H := H2; clear H2))
  have HNB := Lib.hid (show b1 ∉ M.own from fun hm => by have := HLP.out.pool.lt _ hm; have := hb1.out; omega)
  have HB1 := Lib.hid (show Bxs w0 w' [⟨b1, pc m R, 48⟩] [] ∧ Lp w0 w' M Z D ∧ RpAt w' m R ∧ Below u0.heap.size u0 w' from by
   have hb := hgrow
   exact ⟨H.out, HLP.out.grew hb, HRP.out.low hb, hb⟩)
  clear H hgrow
  obtain ⟨Sr20, Sr20u, Sr20m, Sr20t⟩ := lay (fun v : World => Bxs w0 v [⟨b1, pc m R, 48⟩] [] ∧ Lp w0 v M Z D ∧ RpAt v m R ∧ Below u0.heap.size u0 v) ((Bxs.stands _ _ _).and ((stands_lp _ _ _ _).and ((stands_rp _ _).and (stands_below _))))
  refine wp_region_X (S := Sr20) (by kernel_rfl) (Sr20m.out _ ⟨HB1.out.1.drew, HB1.out.2.1.drew, HB1.out.2.2.1.low ⟨rfl, rfl, rfl, Nat.le_refl _, fun _ _ => rfl⟩, grow HB1.out.2.2.2 ⟨rfl, rfl, rfl, Nat.le_refl _, fun _ _ => rfl⟩⟩) ?_
  refine wpX_t 0 ?_ Sr20t.out rfl rfl (by kernel_rfl) (fun _ _ _ h => h) rfl ?_ ?_
  rotate_left
  ·(intro w_ hS; go_simp; try with_reducible rfl)
  simp only [sL]
  refine wpX_take (i := 1) Sr20t.out rfl rfl (by kernel_rfl) (by kernel_rfl) (by kernel_rfl) (by kernel_rfl) (fun _ _ _ h => h) (SteadyX.call (by rfl) (fun w_ hS => by obtain ⟨q0, q1, q2, q3⟩ := Sr20u.out _ hS; exact HC1.out w_ q1) (fun w_ hS => by (go_simp))) ?_
  simp only [sL]
  refine wpX_take (i := 2) (v := .agg (pc m R)) Sr20t.out rfl rfl (by kernel_rfl) (by kernel_rfl) (by kernel_rfl) (by kernel_rfl) (fun _ _ _ h => h) (SteadyX.value (by rfl) (fun w_ hS => by obtain ⟨q0, q1, q2, q3⟩ := Sr20u.out _ hS; exact exec_load 48 (.tmp 3) rfl (vx := .pointer (some ⟨b1, 0, none⟩)) rfl (run_load_whole (Tryz.isAgg48 _) (Tryz.sizeOf48 _) (q0.at_ (i := 0) rfl) rfl))) ?_
  simp only [sL]
  refine wpX_take (i := 3) Sr20t.out rfl rfl (by kernel_rfl) (by kernel_rfl) (by kernel_rfl) (by kernel_rfl) (fun _ _ _ h => h) (SteadyX.call (by rfl) (fun w_ hS => by obtain ⟨q0, q1, q2, q3⟩ := Sr20u.out _ hS; exact HC2.out w_ q2) (fun w_ hS => by (go_simp))) ?_
  simp only [sL]
  refine wpX_t 4 ?_ Sr20t.out rfl rfl (by kernel_rfl) (fun _ _ _ h => h) rfl ?_ ?_
  rotate_left
  ·(intro w_ hS; go_simp; try with_reducible rfl)
  simp only [sL]
  refine wpX_take (i := 5) (v := .bool false) Sr20t.out rfl rfl (by kernel_rfl) (by kernel_rfl) (by kernel_rfl) (by kernel_rfl) (fun _ _ _ h => h) (SteadyX.value (by rfl) (fun w_ hS => by obtain ⟨q0, q1, q2, q3⟩ := Sr20u.out _ hS; exact exec_neI (.tmp 11) (.tmp 14) rfl rfl rfl (by simp))) ?_
  simp only [sL]
  refine wpX_t 6 ?_ Sr20t.out rfl rfl (by kernel_rfl) (fun _ _ _ h => h) rfl ?_ ?_
  rotate_left
  ·(intro w_ hS; go_simp; try with_reducible rfl)
  simp only [sL]
  refine wpX_t 7 ?_ Sr20t.out rfl rfl (by kernel_rfl) (fun _ _ _ h => h) rfl ?_ ?_
  rotate_left
  ·(intro w_ hS; go_simp; try with_reducible rfl)
  simp only [sL]
  refine wpX_take (i := 8) Sr20t.out rfl rfl (by kernel_rfl) (by kernel_rfl) (by kernel_rfl) (by kernel_rfl) (fun _ _ _ h => h) (SteadyX.call (by rfl) (fun w_ hS => by obtain ⟨q0, q1, q2, q3⟩ := Sr20u.out _ hS; exact HC3.out w_ q1) (fun w_ hS => by (go_simp))) ?_
  simp only [sL]
  refine wpX_t 9 ?_ Sr20t.out rfl rfl (by kernel_rfl) (fun _ _ _ h => h) rfl ?_ ?_
  rotate_left
  ·(intro w_ hS; go_simp; try with_reducible rfl)
  simp only [sL]
  refine wpX_take (i := 10) (v := .int .i64 (pg2 : Nat)) Sr20t.out rfl rfl (by kernel_rfl) (by kernel_rfl) (by kernel_rfl) (by kernel_rfl) (fun _ _ _ h => h) (SteadyX.value (by rfl) (fun w_ hS => by obtain ⟨q0, q1, q2, q3⟩ := Sr20u.out _ hS; exact exec_load 3 (.tmp 19) rfl (vx := .pointer (some ⟨b1, 22, none⟩)) rfl (run_load_one (Tryz.isAgg3 _) (cs := pc m R) (q0.at_ (i := 0) rfl) HV1.out))) ?_
  simp only [sL]
  refine wpX_take (i := 11) (v := .bool true) Sr20t.out rfl rfl (by kernel_rfl) (by kernel_rfl) (by kernel_rfl) (by kernel_rfl) (fun _ _ _ h => h) (SteadyX.value (by rfl) (fun w_ hS => by obtain ⟨q0, q1, q2, q3⟩ := Sr20u.out _ hS; exact exec_neI (.tmp 18) (.tmp 20) rfl rfl rfl (decide_eq_true c2'))) ?_
  simp only [sL]
  refine wpX_t 12 ?_ Sr20t.out rfl rfl (by kernel_rfl) (fun _ _ _ h => h) rfl ?_ ?_
  rotate_left
  ·(intro w_ hS; go_simp; try with_reducible rfl)
  simp only [sL]
  refine wpX_t 13 ?_ Sr20t.out rfl rfl (by kernel_rfl) (fun _ _ _ h => h) rfl ?_ ?_
  rotate_left
  ·(intro w_ hS; go_simp; try with_reducible rfl)
  simp only [sL]
  refine wpX_o 14 Sr20t.out rfl rfl (by kernel_rfl) (fun _ _ _ h => h) rfl ?_
  simp only [sL]
  refine wpX_o 15 Sr20t.out rfl rfl (by kernel_rfl) (fun _ _ _ h => h) rfl ?_
  simp only [sL]
  refine wpX_o 16 Sr20t.out rfl rfl (by kernel_rfl) (fun _ _ _ h => h) rfl ?_
  simp only [sL]
  refine wpX_o 17 Sr20t.out rfl rfl (by kernel_rfl) (fun _ _ _ h => h) rfl ?_
  simp only [sL]
  refine wpX_o 18 Sr20t.out rfl rfl (by kernel_rfl) (fun _ _ _ h => h) rfl ?_
  simp only [sL]
  refine wpX_t 19 ?_ Sr20t.out rfl rfl (by kernel_rfl) (fun _ _ _ h => h) rfl ?_ ?_
  rotate_left
  ·(intro w_ hS; go_simp; try with_reducible rfl)
  simp only [sL]
  refine wpX_done (by kernel_rfl) (fun W hS => ?_) _
  obtain ⟨q0, q1, q2, q3⟩ := Sr20u.out _ hS
  clear hS Sr20u Sr20m Sr20t
  clear Sr20
  go_wp2
  go_ret
  exact ⟨false, Z.seen, rfl, fun hl => absurd (HQ.out hl).2.1 c2, q1, step_below HLP.out.pool.nobytes HLP.out.pool.lt q3⟩
 by_cases c3 : rm1 = rm2
 rotate_left
 ·clear hone
  have c3' : ¬ (rm1 : Int) = rm2 := by omega
  subst c1
  subst c2
  go_enter Tryz.func34, Tryz.ntmps34
  go_wp2_with (rw [wpl_id]; first
   | (refine wpl_boxT H _ _ rfl (wnt rfl) rfl (fun b1 w' H2 hb1 hgrow => ?_); clear H; have H := H2; clear H2))
  have HNB := Lib.hid (show b1 ∉ M.own from fun hm => by have := HLP.out.pool.lt _ hm; have := hb1.out; omega)
  have HB1 := Lib.hid (show Bxs w0 w' [⟨b1, pc m R, 48⟩] [] ∧ Lp w0 w' M Z D ∧ RpAt w' m R ∧ Below u0.heap.size u0 w' from by
   have hb := hgrow
   exact ⟨H.out, HLP.out.grew hb, HRP.out.low hb, hb⟩)
  clear H hgrow
  obtain ⟨Sr30, Sr30u, Sr30m, Sr30t⟩ := lay (fun v : World => Bxs w0 v [⟨b1, pc m R, 48⟩] [] ∧ Lp w0 v M Z D ∧ RpAt v m R ∧ Below u0.heap.size u0 v) ((Bxs.stands _ _ _).and ((stands_lp _ _ _ _).and ((stands_rp _ _).and (stands_below _))))
  refine wp_region_X (S := Sr30) (by kernel_rfl) (Sr30m.out _ ⟨HB1.out.1.drew, HB1.out.2.1.drew, HB1.out.2.2.1.low ⟨rfl, rfl, rfl, Nat.le_refl _, fun _ _ => rfl⟩, grow HB1.out.2.2.2 ⟨rfl, rfl, rfl, Nat.le_refl _, fun _ _ => rfl⟩⟩) ?_
  refine wpX_t 0 ?_ Sr30t.out rfl rfl (by kernel_rfl) (fun _ _ _ h => h) rfl ?_ ?_
  rotate_left
  ·(intro w_ hS; go_simp; try with_reducible rfl)
  simp only [sL]
  refine wpX_take (i := 1) Sr30t.out rfl rfl (by kernel_rfl) (by kernel_rfl) (by kernel_rfl) (by kernel_rfl) (fun _ _ _ h => h) (SteadyX.call (by rfl) (fun w_ hS => by obtain ⟨q0, q1, q2, q3⟩ := Sr30u.out _ hS; exact HC1.out w_ q1) (fun w_ hS => by (go_simp))) ?_
  simp only [sL]
  refine wpX_take (i := 2) (v := .agg (pc m R)) Sr30t.out rfl rfl (by kernel_rfl) (by kernel_rfl) (by kernel_rfl) (by kernel_rfl) (fun _ _ _ h => h) (SteadyX.value (by rfl) (fun w_ hS => by obtain ⟨q0, q1, q2, q3⟩ := Sr30u.out _ hS; exact exec_load 48 (.tmp 3) rfl (vx := .pointer (some ⟨b1, 0, none⟩)) rfl (run_load_whole (Tryz.isAgg48 _) (Tryz.sizeOf48 _) (q0.at_ (i := 0) rfl) rfl))) ?_
  simp only [sL]
  refine wpX_take (i := 3) Sr30t.out rfl rfl (by kernel_rfl) (by kernel_rfl) (by kernel_rfl) (by kernel_rfl) (fun _ _ _ h => h) (SteadyX.call (by rfl) (fun w_ hS => by obtain ⟨q0, q1, q2, q3⟩ := Sr30u.out _ hS; exact HC2.out w_ q2) (fun w_ hS => by (go_simp))) ?_
  simp only [sL]
  refine wpX_t 4 ?_ Sr30t.out rfl rfl (by kernel_rfl) (fun _ _ _ h => h) rfl ?_ ?_
  rotate_left
  ·(intro w_ hS; go_simp; try with_reducible rfl)
  simp only [sL]
  refine wpX_take (i := 5) (v := .bool false) Sr30t.out rfl rfl (by kernel_rfl) (by kernel_rfl) (by kernel_rfl) (by kernel_rfl) (fun _ _ _ h => h) (SteadyX.value (by rfl) (fun w_ hS => by obtain ⟨q0, q1, q2, q3⟩ := Sr30u.out _ hS; exact exec_neI (.tmp 11) (.tmp 14) rfl rfl rfl (by simp))) ?_
  simp only [sL]
  refine wpX_t 6 ?_ Sr30t.out rfl rfl (by kernel_rfl) (fun _ _ _ h => h) rfl ?_ ?_
  rotate_left
  ·(intro w_ hS; go_simp; try with_reducible rfl)
  simp only [sL]
  refine wpX_t 7 ?_ Sr30t.out rfl rfl (by kernel_rfl) (fun _ _ _ h => h) rfl ?_ ?_
  rotate_left
  ·(intro w_ hS; go_simp; try with_reducible rfl)
  simp only [sL]
  refine wpX_take (i := 8) Sr30t.out rfl rfl (by kernel_rfl) (by kernel_rfl) (by kernel_rfl) (by kernel_rfl) (fun _ _ _ h => h) (SteadyX.call (by rfl) (fun w_ hS => by obtain ⟨q0, q1, q2, q3⟩ := Sr30u.out _ hS; exact HC3.out w_ q1) (fun w_ hS => by (go_simp))) ?_
  simp only [sL]
  refine wpX_t 9 ?_ Sr30t.out rfl rfl (by kernel_rfl) (fun _ _ _ h => h) rfl ?_ ?_
  rotate_left
  ·(intro w_ hS; go_simp; try with_reducible rfl)
  simp only [sL]
  refine wpX_take (i := 10) (v := .int .i64 (pg1 : Nat)) Sr30t.out rfl rfl (by kernel_rfl) (by kernel_rfl) (by kernel_rfl) (by kernel_rfl) (fun _ _ _ h => h) (SteadyX.value (by rfl) (fun w_ hS => by obtain ⟨q0, q1, q2, q3⟩ := Sr30u.out _ hS; exact exec_load 3 (.tmp 19) rfl (vx := .pointer (some ⟨b1, 22, none⟩)) rfl (run_load_one (Tryz.isAgg3 _) (cs := pc m R) (q0.at_ (i := 0) rfl) HV1.out))) ?_
  simp only [sL]
  refine wpX_take (i := 11) (v := .bool false) Sr30t.out rfl rfl (by kernel_rfl) (by kernel_rfl) (by kernel_rfl) (by kernel_rfl) (fun _ _ _ h => h) (SteadyX.value (by rfl) (fun w_ hS => by obtain ⟨q0, q1, q2, q3⟩ := Sr30u.out _ hS; exact exec_neI (.tmp 18) (.tmp 20) rfl rfl rfl (by simp))) ?_
  simp only [sL]
  refine wpX_t 12 ?_ Sr30t.out rfl rfl (by kernel_rfl) (fun _ _ _ h => h) rfl ?_ ?_
  rotate_left
  ·(intro w_ hS; go_simp; try with_reducible rfl)
  simp only [sL]
  refine wpX_t 13 ?_ Sr30t.out rfl rfl (by kernel_rfl) (fun _ _ _ h => h) rfl ?_ ?_
  rotate_left
  ·(intro w_ hS; go_simp; try with_reducible rfl)
  simp only [sL]
  refine wpX_t 14 ?_ Sr30t.out rfl rfl (by kernel_rfl) (fun _ _ _ h => h) rfl ?_ ?_
  rotate_left
  ·(intro w_ hS; go_simp; try with_reducible rfl)
  simp only [sL]
  refine wpX_take (i := 15) Sr30t.out rfl rfl (by kernel_rfl) (by kernel_rfl) (by kernel_rfl) (by kernel_rfl) (fun _ _ _ h => h) (SteadyX.call (by rfl) (fun w_ hS => by obtain ⟨q0, q1, q2, q3⟩ := Sr30u.out _ hS; exact HC4.out w_ q1) (fun w_ hS => by (go_simp))) ?_
  simp only [sL]
  refine wpX_t 16 ?_ Sr30t.out rfl rfl (by kernel_rfl) (fun _ _ _ h => h) rfl ?_ ?_
  rotate_left
  ·(intro w_ hS; go_simp; try with_reducible rfl)
  simp only [sL]
  refine wpX_take (i := 17) (v := .int .i64 (rm2 : Nat)) Sr30t.out rfl rfl (by kernel_rfl) (by kernel_rfl) (by kernel_rfl) (by kernel_rfl) (fun _ _ _ h => h) (SteadyX.value (by rfl) (fun w_ hS => by obtain ⟨q0, q1, q2, q3⟩ := Sr30u.out _ hS; exact exec_load 3 (.tmp 26) rfl (vx := .pointer (some ⟨b1, 24, none⟩)) rfl (run_load_one (Tryz.isAgg3 _) (cs := pc m R) (q0.at_ (i := 0) rfl) HV2.out))) ?_
  simp only [sL]
  refine wpX_take (i := 18) (v := .bool true) Sr30t.out rfl rfl (by kernel_rfl) (by kernel_rfl) (by kernel_rfl) (by kernel_rfl) (fun _ _ _ h => h) (SteadyX.value (by rfl) (fun w_ hS => by obtain ⟨q0, q1, q2, q3⟩ := Sr30u.out _ hS; exact exec_neI (.tmp 25) (.tmp 27) rfl rfl rfl (decide_eq_true c3'))) ?_
  simp only [sL]
  refine wpX_t 19 ?_ Sr30t.out rfl rfl (by kernel_rfl) (fun _ _ _ h => h) rfl ?_ ?_
  rotate_left
  ·(intro w_ hS; go_simp; try with_reducible rfl)
  simp only [sL]
  refine wpX_done (by kernel_rfl) (fun W hS => ?_) _
  obtain ⟨q0, q1, q2, q3⟩ := Sr30u.out _ hS
  clear hS Sr30u Sr30m Sr30t
  clear Sr30
  go_wp2
  go_ret
  exact ⟨false, Z.seen, rfl, fun hl => absurd (HQ.out hl).2.2 c3, q1, step_below HLP.out.pool.nobytes HLP.out.pool.lt q3⟩
 subst c1
 subst c2
 subst c3
 obtain ⟨A, c, hnl, _⟩ := row_shape0 HRP.out.nl
 have HNL := Lib.hid hnl
 have HNLC := Lib.hid (show (pc m R).toList[0]? = some (.slice A R.now.loads.length c) by rw [← hnl]; rfl)
 have HNLD := Lib.hid (show (pc m R)[0]? = some (.slice A R.now.loads.length c) by rw [← hnl]; rfl)
 have hlb : (R.now.loads.length : Int) ≤ 1048576 := by have := HRP.out.sn.1; omega
 clear hnl hone
 go_enter Tryz.func34, Tryz.ntmps34
 go_wp2_with (rw [wpl_id]; first
  | (refine wpl_boxT H _ _ rfl (wnt rfl) rfl (fun b1 w' H2 hb1 hgrow => ?_); clear H; have H := H2; clear H2))
 have HNB := Lib.hid (show b1 ∉ M.own from fun hm => by have := HLP.out.pool.lt _ hm; have := hb1.out; omega)
 have HB1 := Lib.hid (show Bxs w0 w' [⟨b1, pc m R, 48⟩] [] ∧ Lp w0 w' M Z D ∧ RpAt w' m R ∧ Below u0.heap.size u0 w' from by
  have hb := hgrow
  exact ⟨H.out, HLP.out.grew hb, HRP.out.low hb, hb⟩)
 clear H hgrow
 obtain ⟨Sr00, Sr00u, Sr00m, Sr00t⟩ := lay (fun v : World => Bxs w0 v [⟨b1, pc m R, 48⟩] [] ∧ Lp w0 v M Z D ∧ RpAt v m R ∧ Below u0.heap.size u0 v) ((Bxs.stands _ _ _).and ((stands_lp _ _ _ _).and ((stands_rp _ _).and (stands_below _))))
 refine wp_region_X (S := Sr00) (by kernel_rfl) (Sr00m.out _ ⟨HB1.out.1.drew, HB1.out.2.1.drew, HB1.out.2.2.1.low ⟨rfl, rfl, rfl, Nat.le_refl _, fun _ _ => rfl⟩, grow HB1.out.2.2.2 ⟨rfl, rfl, rfl, Nat.le_refl _, fun _ _ => rfl⟩⟩) ?_
 refine wpX_t 0 ?_ Sr00t.out rfl rfl (by kernel_rfl) (fun _ _ _ h => h) rfl ?_ ?_
 rotate_left
 ·(intro w_ hS; go_simp; try with_reducible rfl)
 simp only [sL]
 refine wpX_take (i := 1) Sr00t.out rfl rfl (by kernel_rfl) (by kernel_rfl) (by kernel_rfl) (by kernel_rfl) (fun _ _ _ h => h) (SteadyX.call (by rfl) (fun w_ hS => by obtain ⟨q0, q1, q2, q3⟩ := Sr00u.out _ hS; exact HC1.out w_ q1) (fun w_ hS => by (go_simp))) ?_
 simp only [sL]
 refine wpX_take (i := 2) (v := .agg (pc m R)) Sr00t.out rfl rfl (by kernel_rfl) (by kernel_rfl) (by kernel_rfl) (by kernel_rfl) (fun _ _ _ h => h) (SteadyX.value (by rfl) (fun w_ hS => by obtain ⟨q0, q1, q2, q3⟩ := Sr00u.out _ hS; exact exec_load 48 (.tmp 3) rfl (vx := .pointer (some ⟨b1, 0, none⟩)) rfl (run_load_whole (Tryz.isAgg48 _) (Tryz.sizeOf48 _) (q0.at_ (i := 0) rfl) rfl))) ?_
 simp only [sL]
 refine wpX_take (i := 3) Sr00t.out rfl rfl (by kernel_rfl) (by kernel_rfl) (by kernel_rfl) (by kernel_rfl) (fun _ _ _ h => h) (SteadyX.call (by rfl) (fun w_ hS => by obtain ⟨q0, q1, q2, q3⟩ := Sr00u.out _ hS; exact HC2.out w_ q2) (fun w_ hS => by (go_simp))) ?_
 simp only [sL]
 refine wpX_t 4 ?_ Sr00t.out rfl rfl (by kernel_rfl) (fun _ _ _ h => h) rfl ?_ ?_
 rotate_left
 ·(intro w_ hS; go_simp; try with_reducible rfl)
 simp only [sL]
 refine wpX_take (i := 5) (v := .bool false) Sr00t.out rfl rfl (by kernel_rfl) (by kernel_rfl) (by kernel_rfl) (by kernel_rfl) (fun _ _ _ h => h) (SteadyX.value (by rfl) (fun w_ hS => by obtain ⟨q0, q1, q2, q3⟩ := Sr00u.out _ hS; exact exec_neI (.tmp 11) (.tmp 14) rfl rfl rfl (by simp))) ?_
 simp only [sL]
 refine wpX_t 6 ?_ Sr00t.out rfl rfl (by kernel_rfl) (fun _ _ _ h => h) rfl ?_ ?_
 rotate_left
 ·(intro w_ hS; go_simp; try with_reducible rfl)
 simp only [sL]
 refine wpX_t 7 ?_ Sr00t.out rfl rfl (by kernel_rfl) (fun _ _ _ h => h) rfl ?_ ?_
 rotate_left
 ·(intro w_ hS; go_simp; try with_reducible rfl)
 simp only [sL]
 refine wpX_take (i := 8) Sr00t.out rfl rfl (by kernel_rfl) (by kernel_rfl) (by kernel_rfl) (by kernel_rfl) (fun _ _ _ h => h) (SteadyX.call (by rfl) (fun w_ hS => by obtain ⟨q0, q1, q2, q3⟩ := Sr00u.out _ hS; exact HC3.out w_ q1) (fun w_ hS => by (go_simp))) ?_
 simp only [sL]
 refine wpX_t 9 ?_ Sr00t.out rfl rfl (by kernel_rfl) (fun _ _ _ h => h) rfl ?_ ?_
 rotate_left
 ·(intro w_ hS; go_simp; try with_reducible rfl)
 simp only [sL]
 refine wpX_take (i := 10) (v := .int .i64 (pg1 : Nat)) Sr00t.out rfl rfl (by kernel_rfl) (by kernel_rfl) (by kernel_rfl) (by kernel_rfl) (fun _ _ _ h => h) (SteadyX.value (by rfl) (fun w_ hS => by obtain ⟨q0, q1, q2, q3⟩ := Sr00u.out _ hS; exact exec_load 3 (.tmp 19) rfl (vx := .pointer (some ⟨b1, 22, none⟩)) rfl (run_load_one (Tryz.isAgg3 _) (cs := pc m R) (q0.at_ (i := 0) rfl) HV1.out))) ?_
 simp only [sL]
 refine wpX_take (i := 11) (v := .bool false) Sr00t.out rfl rfl (by kernel_rfl) (by kernel_rfl) (by kernel_rfl) (by kernel_rfl) (fun _ _ _ h => h) (SteadyX.value (by rfl) (fun w_ hS => by obtain ⟨q0, q1, q2, q3⟩ := Sr00u.out _ hS; exact exec_neI (.tmp 18) (.tmp 20) rfl rfl rfl (by simp))) ?_
 simp only [sL]
 refine wpX_t 12 ?_ Sr00t.out rfl rfl (by kernel_rfl) (fun _ _ _ h => h) rfl ?_ ?_
 rotate_left
 ·(intro w_ hS; go_simp; try with_reducible rfl)
 simp only [sL]
 refine wpX_t 13 ?_ Sr00t.out rfl rfl (by kernel_rfl) (fun _ _ _ h => h) rfl ?_ ?_
 rotate_left
 ·(intro w_ hS; go_simp; try with_reducible rfl)
 simp only [sL]
 refine wpX_t 14 ?_ Sr00t.out rfl rfl (by kernel_rfl) (fun _ _ _ h => h) rfl ?_ ?_
 rotate_left
 ·(intro w_ hS; go_simp; try with_reducible rfl)
 simp only [sL]
 refine wpX_take (i := 15) Sr00t.out rfl rfl (by kernel_rfl) (by kernel_rfl) (by kernel_rfl) (by kernel_rfl) (fun _ _ _ h => h) (SteadyX.call (by rfl) (fun w_ hS => by obtain ⟨q0, q1, q2, q3⟩ := Sr00u.out _ hS; exact HC4.out w_ q1) (fun w_ hS => by (go_simp))) ?_
 simp only [sL]
 refine wpX_t 16 ?_ Sr00t.out rfl rfl (by kernel_rfl) (fun _ _ _ h => h) rfl ?_ ?_
 rotate_left
 ·(intro w_ hS; go_simp; try with_reducible rfl)
 simp only [sL]
 refine wpX_take (i := 17) (v := .int .i64 (rm1 : Nat)) Sr00t.out rfl rfl (by kernel_rfl) (by kernel_rfl) (by kernel_rfl) (by kernel_rfl) (fun _ _ _ h => h) (SteadyX.value (by rfl) (fun w_ hS => by obtain ⟨q0, q1, q2, q3⟩ := Sr00u.out _ hS; exact exec_load 3 (.tmp 26) rfl (vx := .pointer (some ⟨b1, 24, none⟩)) rfl (run_load_one (Tryz.isAgg3 _) (cs := pc m R) (q0.at_ (i := 0) rfl) HV2.out))) ?_
 simp only [sL]
 refine wpX_take (i := 18) (v := .bool false) Sr00t.out rfl rfl (by kernel_rfl) (by kernel_rfl) (by kernel_rfl) (by kernel_rfl) (fun _ _ _ h => h) (SteadyX.value (by rfl) (fun w_ hS => by obtain ⟨q0, q1, q2, q3⟩ := Sr00u.out _ hS; exact exec_neI (.tmp 25) (.tmp 27) rfl rfl rfl (by simp))) ?_
 simp only [sL]
 refine wpX_t 19 ?_ Sr00t.out rfl rfl (by kernel_rfl) (fun _ _ _ h => h) rfl ?_ ?_
 rotate_left
 ·(intro w_ hS; go_simp; try with_reducible rfl)
 simp only [sL]
 refine wpX_done (by kernel_rfl) (fun W hS => ?_) _
 obtain ⟨q0, q1, q2, q3⟩ := Sr00u.out _ hS
 clear hS Sr00u Sr00m Sr00t
 clear Sr00
 have HK := Lib.hid (show Bxs w0 W [⟨b1, pc m R, 48⟩] [] ∧ Lp w0 W M Z D ∧ RpAt W m R ∧ Below u0.heap.size u0 W from ⟨q0, q1, q2, q3⟩)
 clear q0 q1 q2 q3
 go_wp2
 go_loopw [5] (fun iv wr => ∃ j : Int, -1 ≤ j ∧ j ≤ 9 ∧ iv = .int .i64 j ∧ Hid (Bxs w0 wr [⟨b1, pc m R, 48⟩] [] ∧ Lp w0 wr M Z D ∧ RpAt wr m R ∧ Below u0.heap.size u0 wr)) (fun iv _ => (9 - intOf iv).toNat)
 case atStart => exact ⟨-1, by omega, by omega, rfl, HK⟩
 case round =>
  clear HK
  obtain ⟨j, hj1, hj2, rfl, HK⟩ := hrel
  have H := Lib.hid HK.out.1
  by_cases h9 : j = 9
  ·subst h9
   clear hj1 hj2
   go_wp2
   have HK2 := Lib.hid (show Aw w0 u0 wr b1 M { Z with seen := Z.seen } D m R from ⟨HK.out.1, HK.out.2.1, HK.out.2.2.1, step_below HLP.out.pool.nobytes HLP.out.pool.lt HK.out.2.2.2⟩)
   clear HK H
   go_loopw [7] (fun iv wr => ∃ (j : Int) (f : Pgs), -1 ≤ j ∧ j ≤ R.now.loads.length + 1 ∧ iv = .int .i64 j ∧ Hid (Aw w0 u0 wr b1 M { Z with seen := f } D m R)) (fun iv _ => (R.now.loads.length + 1 - intOf iv).toNat)
   case atStart => exact ⟨-1, Z.seen, by omega, by omega, rfl, HK2⟩
   case round =>
    clear HK2
    obtain ⟨j, f, hj1, hj2, rfl, HK⟩ := hrel
    have H := Lib.hid HK.out.bx
    by_cases hjl : j ≤ R.now.loads.length
    rotate_left
    ·have hjl2 : (R.now.loads.length : Int) < j := by omega
     clear hj1 hj2 hjl
     go_wp2_with (rw [wpl_id]; first
      | (refine wpl_ld H 0 rfl _ _ rfl (wnt rfl) (by exact rfl) (notAgg _ (by decide)) HNLC.out ?_))
     go_ret
     exact ⟨true, f, rfl, fun _ => rfl, HK.out.lp, HK.out.st⟩
    have HJ := Lib.hid (And.intro hj1 hjl)
    have HAS := Lib.hid (fun hl : Like Z D R => (HTL.out hl).has j)
    have ej : IntKind.i64.wrap (j + 1) = j + 1 := by rw [IntKind.wrap_i64]; omega
    clear hj1 hj2
    cases hp : Z.now.taken j with
    | false =>
     have HRD := Lib.hid (show Calls Tryz.prog 13 #[.pointer (some ⟨P, 0, none⟩), .int .i64 j] wr fun e v' => e = .returned (.tuple #[.slice none 0 0, .int .i64 7]) ∧ v' = wr by rw [HP.out]; exact Read_no_lp HK.out.lp j hp)
     go_wp2_with (rw [wpl_id]; first
      | (refine wpl_ld H 0 rfl _ _ rfl (wnt rfl) (by exact rfl) (notAgg _ (by decide)) HNLC.out ?_))
     refine HRD.out.mono ?_
     rintro e w5 ⟨rfl, h5⟩
     rw [h5]
     clear h5 HRD hjl
     have HK5 := HK
     cases hh : R.now.has j with
     | false =>
      go_wp2_with (rw [wpl_id]; first
       | (refine wpl_lda H 0 rfl _ _ rfl (wnt rfl) (by exact rfl) Tryz.isAgg48 Tryz.sizeOf48 (by kernel_rfl) (whole_take (by kernel_rfl)) ?_))
      have HT := Taken_ref j HK5.out.rp.nl HK5.out.rp.bn
      rw [hh] at HT
      refine HT.mono ?_
      rintro e w6 ⟨rfl, hb⟩
      have HK6 := Lib.hid (HK5.out.grew hb)
      clear HT hb hh hp HK5 HK H
      go_wp2
      go_roundw
      case rel => exact ⟨j + 1, f, by have := HJ.out; omega, by have := HJ.out; omega, rfl, HK6⟩
      case measure => have := HJ.out; simp [intOf]; omega
     | true =>
      go_wp2_with (rw [wpl_id]; first
       | (refine wpl_lda H 0 rfl _ _ rfl (wnt rfl) (by exact rfl) Tryz.isAgg48 Tryz.sizeOf48 (by kernel_rfl) (whole_take (by kernel_rfl)) ?_))
      have HT := Taken_ref j HK5.out.rp.nl HK5.out.rp.bn
      rw [hh] at HT
      refine HT.mono ?_
      rintro e w6 ⟨rfl, hb⟩
      have HK6 := Lib.hid (HK5.out.grew hb)
      clear HT hb HK5 HK H
      go_wp2_with fail
      obtain ⟨Sp0, Sp0u, Sp0m, Sp0t⟩ := lay (fun v : World => Aw w0 u0 v b1 M { Z with seen := f } D m R) (stands_aw _ _ _ _ _ _ _ _)
      refine wp_region_X (S := Sp0) (by kernel_rfl) (Sp0m.out _ (HK6.out.grew ⟨rfl, rfl, rfl, Nat.le_refl _, fun _ _ => rfl⟩)) ?_
      refine wpX_t 0 ?_ Sp0t.out rfl rfl (by kernel_rfl) (fun _ _ _ h => h) rfl ?_ ?_
      rotate_left
      ·(intro w_ hS; go_simp; try with_reducible rfl)
      simp only [sL]
      refine wpX_t 1 ?_ Sp0t.out rfl rfl (by kernel_rfl) (fun _ _ _ h => h) rfl ?_ ?_
      rotate_left
      ·(intro w_ hS; go_simp; try with_reducible rfl)
      simp only [sL]
      refine wpX_t 2 ?_ Sp0t.out rfl rfl (by kernel_rfl) (fun _ _ _ h => h) rfl ?_ ?_
      rotate_left
      ·(intro w_ hS; go_simp; try with_reducible rfl)
      simp only [sL]
      refine wpX_o 3 Sp0t.out rfl rfl (by kernel_rfl) (fun _ _ _ h => h) rfl ?_
      simp only [sL]
      refine wpX_o 4 Sp0t.out rfl rfl (by kernel_rfl) (fun _ _ _ h => h) rfl ?_
      simp only [sL]
      refine wpX_o 5 Sp0t.out rfl rfl (by kernel_rfl) (fun _ _ _ h => h) rfl ?_
      simp only [sL]
      refine wpX_o 6 Sp0t.out rfl rfl (by kernel_rfl) (fun _ _ _ h => h) rfl ?_
      simp only [sL]
      refine wpX_o 7 Sp0t.out rfl rfl (by kernel_rfl) (fun _ _ _ h => h) rfl ?_
      simp only [sL]
      refine wpX_o 8 Sp0t.out rfl rfl (by kernel_rfl) (fun _ _ _ h => h) rfl ?_
      simp only [sL]
      refine wpX_o 9 Sp0t.out rfl rfl (by kernel_rfl) (fun _ _ _ h => h) rfl ?_
      simp only [sL]
      refine wpX_o 10 Sp0t.out rfl rfl (by kernel_rfl) (fun _ _ _ h => h) rfl ?_
      simp only [sL]
      refine wpX_o 11 Sp0t.out rfl rfl (by kernel_rfl) (fun _ _ _ h => h) rfl ?_
      simp only [sL]
      refine wpX_t 12 ?_ Sp0t.out rfl rfl (by kernel_rfl) (fun _ _ _ h => h) rfl ?_ ?_
      rotate_left
      ·(intro w_ hS; go_simp; try with_reducible rfl)
      simp only [sL]
      refine wpX_done (by kernel_rfl) (fun W2 hS => ?_) _
      have q0 := Sp0u.out _ hS
      clear hS Sp0u Sp0m Sp0t
      clear Sp0
      go_wp2
      go_ret
      exact ⟨false, f, rfl, fun hl => absurd (HAS.out hl) (by rw [hh, hp]; simp), q0.lp, q0.st⟩
    | true =>
     obtain ⟨k, hjk, hk1, hk2, hk3⟩ := taken_int hp
     subst hjk
     have HRD := Lib.hid (show Calls Tryz.prog 13 #[.pointer (some ⟨P, 0, none⟩), .int .i64 (k : Nat)] wr fun e v' => ∃ u S', e = .returned (.tuple #[u, .int .i64 0]) ∧ Byt v' u (Z.val D k) ∧ SameBut { Z with seen := f } S' ∧ Lp w0 v' M S' D ∧ Step wr v' M.own M.own by rw [HP.out]; exact Read_lp HK.out.lp k hp)
     have HVL := Lib.hid (fun hl : Like Z D R => (HTL.out hl).val k hp)
     clear hk1 hk2 hk3
     go_wp2_with (rw [wpl_id]; first
      | (refine wpl_ld H 0 rfl _ _ rfl (wnt rfl) (by exact rfl) (notAgg _ (by decide)) HNLC.out ?_))
     refine HRD.out.mono ?_
     rintro e w5 ⟨u, S', rfl, hby, ⟨f', rfl⟩, hk5, hs5⟩
     have HK5 : Hid (Aw w0 u0 w5 b1 M { Z with seen := f' } D m R) := Lib.hid (HK.out.read hk5 hs5 HNB.out HD.out)
     have HBY := Lib.hid hby
     clear hk5 hs5 hby HRD H hjl
     have H := Lib.hid HK5.out.bx
     obtain ⟨lz, hlz⟩ : ∃ lz, lz = Z.val D k := ⟨_, rfl⟩
     rw [← hlz] at HBY HVL
     clear hlz
     cases hh : R.now.has (k : Nat) with
     | false =>
      go_wp2_with (rw [wpl_id]; first
       | (refine wpl_lda H 0 rfl _ _ rfl (wnt rfl) (by exact rfl) Tryz.isAgg48 Tryz.sizeOf48 (by kernel_rfl) (whole_take (by kernel_rfl)) ?_))
      have HT := Taken_ref (k : Nat) HK5.out.rp.nl HK5.out.rp.bn
      rw [hh] at HT
      refine HT.mono ?_
      rintro e w6 ⟨rfl, hb⟩
      have HK6 := Lib.hid (HK5.out.grew hb)
      clear HT hb HK5 HK H
      go_wp2
      go_ret
      exact ⟨false, f', rfl, fun hl => absurd (HAS.out hl) (by rw [hh, hp]; simp), HK6.out.lp, HK6.out.st⟩
     | true =>
      go_wp2_with (rw [wpl_id]; first
       | (refine wpl_lda H 0 rfl _ _ rfl (wnt rfl) (by exact rfl) Tryz.isAgg48 Tryz.sizeOf48 (by kernel_rfl) (whole_take (by kernel_rfl)) ?_))
      have HT := Taken_ref (k : Nat) HK5.out.rp.nl HK5.out.rp.bn
      rw [hh] at HT
      refine HT.mono ?_
      rintro e w6 ⟨rfl, hb⟩
      have HK6 := Lib.hid (HK5.out.grew hb)
      have HB6 := Lib.hid (HBY.out.grew hb)
      obtain ⟨k', ek, hkl⟩ := has_at hh
      obtain rfl : k = k' := by omega
      obtain ⟨l, hle⟩ : ∃ l, l = R.now.loads[k] := ⟨_, rfl⟩
      have HG := Lib.hid (show (strs R.now.loads)[k]? = some (.string (str l)) by rw [strs_get hkl, hle])
      have HLB := Lib.hid (show (∀ b ∈ l, b < 256) ∧ ∀ b ∈ lz, b < 256 from ⟨by rw [hle]; exact HK6.out.rp.bn _ (List.getElem_mem hkl), HBY.out.1⟩)
      have HLE := Lib.hid (show R.now.loads[k]? = some l by rw [List.getElem?_eq_getElem hkl, hle])
      have hkl' : (k : Int) < R.now.loads.length := by omega
      have hkb : (k : Int) ≤ R.now.loads.length := by omega
      have HRW := HK6.out.rp.nlAt HNL.out
      obtain ⟨g, c', e⟩ := row_shape HRW (by omega)
      injection e with e1 e0 e2
      clear e0
      subst e1 e2
      clear HRW HT hb HK5 HK H hle ek
      go_wp2_with fail
      by_cases hz : lz = l
      ·skip
       obtain ⟨Se0, Se0u, Se0m, Se0t⟩ := lay (fun v : World => Aw w0 u0 v b1 M { Z with seen := f' } D m R ∧ Byt v u lz) ((stands_aw _ _ _ _ _ _ _ _).and (stands_byt _ _))
       refine wp_region_X (S := Se0) (by kernel_rfl) (Se0m.out _ ⟨HK6.out.grew ⟨rfl, rfl, rfl, Nat.le_refl _, fun _ _ => rfl⟩, HB6.out.grew ⟨rfl, rfl, rfl, Nat.le_refl _, fun _ _ => rfl⟩⟩) ?_
       refine wpX_t 0 ?_ Se0t.out rfl rfl (by kernel_rfl) (fun _ _ _ h => h) rfl ?_ ?_
       rotate_left
       ·(intro w_ hS; go_simp; try with_reducible rfl)
       simp only [sL]
       refine wpX_t 1 ?_ Se0t.out rfl rfl (by kernel_rfl) (fun _ _ _ h => h) rfl ?_ ?_
       rotate_left
       ·(intro w_ hS; go_simp; try with_reducible rfl)
       simp only [sL]
       refine wpX_t 2 ?_ Se0t.out rfl rfl (by kernel_rfl) (fun _ _ _ h => h) rfl ?_ ?_
       rotate_left
       ·(intro w_ hS; go_simp; try with_reducible rfl)
       simp only [sL]
       refine wpX_t 3 ?_ Se0t.out rfl rfl (by kernel_rfl) (fun _ _ _ h => h) rfl ?_ ?_
       rotate_left
       ·(intro w_ hS; go_simp; try with_reducible rfl)
       simp only [sL]
       refine wpX_take (i := 4) (v := .string (str lz)) Se0t.out rfl rfl (by kernel_rfl) (by kernel_rfl) (by kernel_rfl) (by kernel_rfl) (fun _ _ _ h => h) (SteadyX.value (by rfl) (fun w_ hS => by obtain ⟨q0, q1⟩ := Se0u.out _ hS; exact exec_convert 31 9 (.tmp 78) rfl (vx := u) rfl q1.strw)) ?_
       simp only [sL]
       refine wpX_t 5 ?_ Se0t.out rfl rfl (by kernel_rfl) (fun _ _ _ h => h) rfl ?_ ?_
       rotate_left
       ·(intro w_ hS; go_simp; try with_reducible rfl)
       simp only [sL]
       refine wpX_t 6 ?_ Se0t.out rfl rfl (by kernel_rfl) (fun _ _ _ h => h) rfl ?_ ?_
       rotate_left
       ·(intro w_ hS; go_simp; try with_reducible rfl)
       simp only [sL]
       refine wpX_take (i := 7) (v := .slice (some ⟨g, 0, none⟩) R.now.loads.length c) Se0t.out rfl rfl (by kernel_rfl) (by kernel_rfl) (by kernel_rfl) (by kernel_rfl) (fun _ _ _ h => h) (SteadyX.value (by rfl) (fun w_ hS => by obtain ⟨q0, q1⟩ := Se0u.out _ hS; exact exec_load 42 (.tmp 81) rfl (vx := .pointer (some ⟨b1, 0, none⟩)) rfl (run_load_one (Tryz.isAgg42 _) (cs := pc m R) (q0.bx.at_ (i := 0) rfl) HNLD.out))) ?_
       simp only [sL]
       refine wpX_t 8 ?_ Se0t.out rfl rfl (by kernel_rfl) (fun _ _ _ h => h) rfl ?_ ?_
       rotate_left
       ·(intro w_ hS; go_simp; try with_reducible rfl)
       simp only [sL]
       refine wpX_t 9 ?_ Se0t.out rfl rfl (by kernel_rfl) (fun _ _ _ h => h) rfl ?_ ?_
       rotate_left
       ·(intro w_ hS; go_simp; try with_reducible rfl)
       simp only [sL]
       refine wpX_take (i := 10) (v := .string (str l)) Se0t.out rfl rfl (by kernel_rfl) (by kernel_rfl) (by kernel_rfl) (by kernel_rfl) (fun _ _ _ h => h) (SteadyX.value (by rfl) (fun w_ hS => by obtain ⟨q0, q1⟩ := Se0u.out _ hS; exact exec_load 9 (.tmp 84) rfl (vx := .pointer (some ⟨g, k, none⟩)) rfl (run_load_row (Tryz.isAgg9 _) (q0.rp.nlAt HNL.out) HG.out))) ?_
       simp only [sL]
       refine wpX_take (i := 11) (v := .bool false) Se0t.out rfl rfl (by kernel_rfl) (by kernel_rfl) (by kernel_rfl) (by kernel_rfl) (fun _ _ _ h => h) (SteadyX.value (by rfl) (fun w_ hS => by obtain ⟨q0, q1⟩ := Se0u.out _ hS; exact (exec_strNe (.tmp 79) (.tmp 85) rfl rfl rfl HLB.out.2 HLB.out.1).trans (by rw [decide_eq_false (by simp [hz])]))) ?_
       simp only [sL]
       refine wpX_t 12 ?_ Se0t.out rfl rfl (by kernel_rfl) (fun _ _ _ h => h) rfl ?_ ?_
       rotate_left
       ·(intro w_ hS; go_simp; try with_reducible rfl)
       simp only [sL]
       refine wpX_done (by kernel_rfl) (fun W2 hS => ?_) _
       obtain ⟨q0, q1⟩ := Se0u.out _ hS
       clear hS Se0u Se0m Se0t
       clear Se0
       have HK7 := Lib.hid q0
       clear q0 q1 hz
       go_wp2
       go_roundw
       case rel => exact ⟨(k : Int) + 1, f', by omega, by omega, by go_num, HK7⟩
       case measure => simp [intOf]; omega
      ·skip
       obtain ⟨Sn0, Sn0u, Sn0m, Sn0t⟩ := lay (fun v : World => Aw w0 u0 v b1 M { Z with seen := f' } D m R ∧ Byt v u lz) ((stands_aw _ _ _ _ _ _ _ _).and (stands_byt _ _))
       refine wp_region_X (S := Sn0) (by kernel_rfl) (Sn0m.out _ ⟨HK6.out.grew ⟨rfl, rfl, rfl, Nat.le_refl _, fun _ _ => rfl⟩, HB6.out.grew ⟨rfl, rfl, rfl, Nat.le_refl _, fun _ _ => rfl⟩⟩) ?_
       refine wpX_t 0 ?_ Sn0t.out rfl rfl (by kernel_rfl) (fun _ _ _ h => h) rfl ?_ ?_
       rotate_left
       ·(intro w_ hS; go_simp; try with_reducible rfl)
       simp only [sL]
       refine wpX_t 1 ?_ Sn0t.out rfl rfl (by kernel_rfl) (fun _ _ _ h => h) rfl ?_ ?_
       rotate_left
       ·(intro w_ hS; go_simp; try with_reducible rfl)
       simp only [sL]
       refine wpX_t 2 ?_ Sn0t.out rfl rfl (by kernel_rfl) (fun _ _ _ h => h) rfl ?_ ?_
       rotate_left
       ·(intro w_ hS; go_simp; try with_reducible rfl)
       simp only [sL]
       refine wpX_t 3 ?_ Sn0t.out rfl rfl (by kernel_rfl) (fun _ _ _ h => h) rfl ?_ ?_
       rotate_left
       ·(intro w_ hS; go_simp; try with_reducible rfl)
       simp only [sL]
       refine wpX_take (i := 4) (v := .string (str lz)) Sn0t.out rfl rfl (by kernel_rfl) (by kernel_rfl) (by kernel_rfl) (by kernel_rfl) (fun _ _ _ h => h) (SteadyX.value (by rfl) (fun w_ hS => by obtain ⟨q0, q1⟩ := Sn0u.out _ hS; exact exec_convert 31 9 (.tmp 78) rfl (vx := u) rfl q1.strw)) ?_
       simp only [sL]
       refine wpX_t 5 ?_ Sn0t.out rfl rfl (by kernel_rfl) (fun _ _ _ h => h) rfl ?_ ?_
       rotate_left
       ·(intro w_ hS; go_simp; try with_reducible rfl)
       simp only [sL]
       refine wpX_t 6 ?_ Sn0t.out rfl rfl (by kernel_rfl) (fun _ _ _ h => h) rfl ?_ ?_
       rotate_left
       ·(intro w_ hS; go_simp; try with_reducible rfl)
       simp only [sL]
       refine wpX_take (i := 7) (v := .slice (some ⟨g, 0, none⟩) R.now.loads.length c) Sn0t.out rfl rfl (by kernel_rfl) (by kernel_rfl) (by kernel_rfl) (by kernel_rfl) (fun _ _ _ h => h) (SteadyX.value (by rfl) (fun w_ hS => by obtain ⟨q0, q1⟩ := Sn0u.out _ hS; exact exec_load 42 (.tmp 81) rfl (vx := .pointer (some ⟨b1, 0, none⟩)) rfl (run_load_one (Tryz.isAgg42 _) (cs := pc m R) (q0.bx.at_ (i := 0) rfl) HNLD.out))) ?_
       simp only [sL]
       refine wpX_t 8 ?_ Sn0t.out rfl rfl (by kernel_rfl) (fun _ _ _ h => h) rfl ?_ ?_
       rotate_left
       ·(intro w_ hS; go_simp; try with_reducible rfl)
       simp only [sL]
       refine wpX_t 9 ?_ Sn0t.out rfl rfl (by kernel_rfl) (fun _ _ _ h => h) rfl ?_ ?_
       rotate_left
       ·(intro w_ hS; go_simp; try with_reducible rfl)
       simp only [sL]
       refine wpX_take (i := 10) (v := .string (str l)) Sn0t.out rfl rfl (by kernel_rfl) (by kernel_rfl) (by kernel_rfl) (by kernel_rfl) (fun _ _ _ h => h) (SteadyX.value (by rfl) (fun w_ hS => by obtain ⟨q0, q1⟩ := Sn0u.out _ hS; exact exec_load 9 (.tmp 84) rfl (vx := .pointer (some ⟨g, k, none⟩)) rfl (run_load_row (Tryz.isAgg9 _) (q0.rp.nlAt HNL.out) HG.out))) ?_
       simp only [sL]
       refine wpX_take (i := 11) (v := .bool true) Sn0t.out rfl rfl (by kernel_rfl) (by kernel_rfl) (by kernel_rfl) (by kernel_rfl) (fun _ _ _ h => h) (SteadyX.value (by rfl) (fun w_ hS => by obtain ⟨q0, q1⟩ := Sn0u.out _ hS; exact (exec_strNe (.tmp 79) (.tmp 85) rfl rfl rfl HLB.out.2 HLB.out.1).trans (by rw [decide_eq_true hz]))) ?_
       simp only [sL]
       refine wpX_t 12 ?_ Sn0t.out rfl rfl (by kernel_rfl) (fun _ _ _ h => h) rfl ?_ ?_
       rotate_left
       ·(intro w_ hS; go_simp; try with_reducible rfl)
       simp only [sL]
       refine wpX_done (by kernel_rfl) (fun W2 hS => ?_) _
       obtain ⟨q0, q1⟩ := Sn0u.out _ hS
       clear hS Sn0u Sn0m Sn0t
       clear Sn0
       go_wp2
       go_ret
       exact ⟨false, f', rfl, fun hl => absurd (HVL.out hl) (by rw [HLE.out]; intro e; exact hz (Option.some.inj e).symm), q0.lp, q0.st⟩
  ·obtain ⟨x, hx⟩ : ∃ x, x = Z.now.root j := ⟨_, rfl⟩
   obtain ⟨y, hy⟩ : ∃ y, y = R.now.root j := ⟨_, rfl⟩
   have HRT := Lib.hid (show Calls Tryz.prog 19 #[.pointer (some ⟨P, 0, none⟩), .int .i64 j] wr fun e v' => e = .returned (.int .i64 x) ∧ v' = wr by rw [hx, HP.out]; exact Root_lp HK.out.2.1 j)
   have HXY := Lib.hid (show Like Z D R → x = y from fun hl => by rw [hx, hy]; exact (HTL.out hl).root j)
   have hjs : j = -1 ∨ j = 0 ∨ j = 1 ∨ j = 2 ∨ j = 3 ∨ j = 4 ∨ j = 5 ∨ j = 6 ∨ j = 7 ∨ j = 8 := by omega
   clear hx h9 hj1 hj2
   rcases hjs with rfl | rfl | rfl | rfl | rfl | rfl | rfl | rfl | rfl | rfl
   ·have hy' : y = 0 := by rw [hy]; rfl
    clear hy
    by_cases hxy : x = y
    ·subst hxy
     subst hy'
     skip
     go_wp2_with (rw [wpl_id]; first
      | fail)
     refine HRT.out.mono ?_
     rintro e w5 ⟨rfl, h5⟩
     rw [h5]
     clear h5
     go_wp2
     go_roundw
     case rel => exact ⟨0, by omega, by omega, by go_num, HK⟩
     case measure => simp [intOf]
    ·subst hy'
     skip
     go_wp2_with (rw [wpl_id]; first
      | fail)
     refine HRT.out.mono ?_
     rintro e w5 ⟨rfl, h5⟩
     rw [h5]
     clear h5
     go_wp2
     go_ret
     exact ⟨false, Z.seen, rfl, fun hl => absurd (HXY.out hl) hxy, HK.out.2.1, step_below HLP.out.pool.nobytes HLP.out.pool.lt HK.out.2.2.2⟩
   ·have hy' : y = R.now.roots.r0 := by rw [hy]; rfl
    clear hy
    by_cases hxy : x = y
    ·subst hxy
     have HYC := Lib.hid (show (pc m R).toList[2]? = some (.int .i64 x) by rw [hy']; rfl)
     clear hy'
     go_wp2_with (rw [wpl_id]; first
      | (refine wpl_ld H 0 rfl _ _ rfl (wnt rfl) (by exact rfl) (notAgg _ (by decide)) HYC.out ?_))
     refine HRT.out.mono ?_
     rintro e w5 ⟨rfl, h5⟩
     rw [h5]
     clear h5
     go_wp2
     go_roundw
     case rel => exact ⟨1, by omega, by omega, by go_num, HK⟩
     case measure => simp [intOf]
    ·have HYC := Lib.hid (show (pc m R).toList[2]? = some (.int .i64 y) by rw [hy']; rfl)
     clear hy'
     go_wp2_with (rw [wpl_id]; first
      | (refine wpl_ld H 0 rfl _ _ rfl (wnt rfl) (by exact rfl) (notAgg _ (by decide)) HYC.out ?_))
     refine HRT.out.mono ?_
     rintro e w5 ⟨rfl, h5⟩
     rw [h5]
     clear h5
     go_wp2
     go_ret
     exact ⟨false, Z.seen, rfl, fun hl => absurd (HXY.out hl) hxy, HK.out.2.1, step_below HLP.out.pool.nobytes HLP.out.pool.lt HK.out.2.2.2⟩
   ·have hy' : y = R.now.roots.r1 := by rw [hy]; rfl
    clear hy
    by_cases hxy : x = y
    ·subst hxy
     have HYC := Lib.hid (show (pc m R).toList[3]? = some (.int .i64 x) by rw [hy']; rfl)
     clear hy'
     go_wp2_with (rw [wpl_id]; first
      | (refine wpl_ld H 0 rfl _ _ rfl (wnt rfl) (by exact rfl) (notAgg _ (by decide)) HYC.out ?_))
     refine HRT.out.mono ?_
     rintro e w5 ⟨rfl, h5⟩
     rw [h5]
     clear h5
     go_wp2
     go_roundw
     case rel => exact ⟨2, by omega, by omega, by go_num, HK⟩
     case measure => simp [intOf]
    ·have HYC := Lib.hid (show (pc m R).toList[3]? = some (.int .i64 y) by rw [hy']; rfl)
     clear hy'
     go_wp2_with (rw [wpl_id]; first
      | (refine wpl_ld H 0 rfl _ _ rfl (wnt rfl) (by exact rfl) (notAgg _ (by decide)) HYC.out ?_))
     refine HRT.out.mono ?_
     rintro e w5 ⟨rfl, h5⟩
     rw [h5]
     clear h5
     go_wp2
     go_ret
     exact ⟨false, Z.seen, rfl, fun hl => absurd (HXY.out hl) hxy, HK.out.2.1, step_below HLP.out.pool.nobytes HLP.out.pool.lt HK.out.2.2.2⟩
   ·have hy' : y = R.now.roots.r2 := by rw [hy]; rfl
    clear hy
    by_cases hxy : x = y
    ·subst hxy
     have HYC := Lib.hid (show (pc m R).toList[4]? = some (.int .i64 x) by rw [hy']; rfl)
     clear hy'
     go_wp2_with (rw [wpl_id]; first
      | (refine wpl_ld H 0 rfl _ _ rfl (wnt rfl) (by exact rfl) (notAgg _ (by decide)) HYC.out ?_))
     refine HRT.out.mono ?_
     rintro e w5 ⟨rfl, h5⟩
     rw [h5]
     clear h5
     go_wp2
     go_roundw
     case rel => exact ⟨3, by omega, by omega, by go_num, HK⟩
     case measure => simp [intOf]
    ·have HYC := Lib.hid (show (pc m R).toList[4]? = some (.int .i64 y) by rw [hy']; rfl)
     clear hy'
     go_wp2_with (rw [wpl_id]; first
      | (refine wpl_ld H 0 rfl _ _ rfl (wnt rfl) (by exact rfl) (notAgg _ (by decide)) HYC.out ?_))
     refine HRT.out.mono ?_
     rintro e w5 ⟨rfl, h5⟩
     rw [h5]
     clear h5
     go_wp2
     go_ret
     exact ⟨false, Z.seen, rfl, fun hl => absurd (HXY.out hl) hxy, HK.out.2.1, step_below HLP.out.pool.nobytes HLP.out.pool.lt HK.out.2.2.2⟩
   ·have hy' : y = R.now.roots.r3 := by rw [hy]; rfl
    clear hy
    by_cases hxy : x = y
    ·subst hxy
     have HYC := Lib.hid (show (pc m R).toList[5]? = some (.int .i64 x) by rw [hy']; rfl)
     clear hy'
     go_wp2_with (rw [wpl_id]; first
      | (refine wpl_ld H 0 rfl _ _ rfl (wnt rfl) (by exact rfl) (notAgg _ (by decide)) HYC.out ?_))
     refine HRT.out.mono ?_
     rintro e w5 ⟨rfl, h5⟩
     rw [h5]
     clear h5
     go_wp2
     go_roundw
     case rel => exact ⟨4, by omega, by omega, by go_num, HK⟩
     case measure => simp [intOf]
    ·have HYC := Lib.hid (show (pc m R).toList[5]? = some (.int .i64 y) by rw [hy']; rfl)
     clear hy'
     go_wp2_with (rw [wpl_id]; first
      | (refine wpl_ld H 0 rfl _ _ rfl (wnt rfl) (by exact rfl) (notAgg _ (by decide)) HYC.out ?_))
     refine HRT.out.mono ?_
     rintro e w5 ⟨rfl, h5⟩
     rw [h5]
     clear h5
     go_wp2
     go_ret
     exact ⟨false, Z.seen, rfl, fun hl => absurd (HXY.out hl) hxy, HK.out.2.1, step_below HLP.out.pool.nobytes HLP.out.pool.lt HK.out.2.2.2⟩
   ·have hy' : y = R.now.roots.r4 := by rw [hy]; rfl
    clear hy
    by_cases hxy : x = y
    ·subst hxy
     have HYC := Lib.hid (show (pc m R).toList[6]? = some (.int .i64 x) by rw [hy']; rfl)
     clear hy'
     go_wp2_with (rw [wpl_id]; first
      | (refine wpl_ld H 0 rfl _ _ rfl (wnt rfl) (by exact rfl) (notAgg _ (by decide)) HYC.out ?_))
     refine HRT.out.mono ?_
     rintro e w5 ⟨rfl, h5⟩
     rw [h5]
     clear h5
     go_wp2
     go_roundw
     case rel => exact ⟨5, by omega, by omega, by go_num, HK⟩
     case measure => simp [intOf]
    ·have HYC := Lib.hid (show (pc m R).toList[6]? = some (.int .i64 y) by rw [hy']; rfl)
     clear hy'
     go_wp2_with (rw [wpl_id]; first
      | (refine wpl_ld H 0 rfl _ _ rfl (wnt rfl) (by exact rfl) (notAgg _ (by decide)) HYC.out ?_))
     refine HRT.out.mono ?_
     rintro e w5 ⟨rfl, h5⟩
     rw [h5]
     clear h5
     go_wp2
     go_ret
     exact ⟨false, Z.seen, rfl, fun hl => absurd (HXY.out hl) hxy, HK.out.2.1, step_below HLP.out.pool.nobytes HLP.out.pool.lt HK.out.2.2.2⟩
   ·have hy' : y = R.now.roots.r5 := by rw [hy]; rfl
    clear hy
    by_cases hxy : x = y
    ·subst hxy
     have HYC := Lib.hid (show (pc m R).toList[7]? = some (.int .i64 x) by rw [hy']; rfl)
     clear hy'
     go_wp2_with (rw [wpl_id]; first
      | (refine wpl_ld H 0 rfl _ _ rfl (wnt rfl) (by exact rfl) (notAgg _ (by decide)) HYC.out ?_))
     refine HRT.out.mono ?_
     rintro e w5 ⟨rfl, h5⟩
     rw [h5]
     clear h5
     go_wp2
     go_roundw
     case rel => exact ⟨6, by omega, by omega, by go_num, HK⟩
     case measure => simp [intOf]
    ·have HYC := Lib.hid (show (pc m R).toList[7]? = some (.int .i64 y) by rw [hy']; rfl)
     clear hy'
     go_wp2_with (rw [wpl_id]; first
      | (refine wpl_ld H 0 rfl _ _ rfl (wnt rfl) (by exact rfl) (notAgg _ (by decide)) HYC.out ?_))
     refine HRT.out.mono ?_
     rintro e w5 ⟨rfl, h5⟩
     rw [h5]
     clear h5
     go_wp2
     go_ret
     exact ⟨false, Z.seen, rfl, fun hl => absurd (HXY.out hl) hxy, HK.out.2.1, step_below HLP.out.pool.nobytes HLP.out.pool.lt HK.out.2.2.2⟩
   ·have hy' : y = R.now.roots.r6 := by rw [hy]; rfl
    clear hy
    by_cases hxy : x = y
    ·subst hxy
     have HYC := Lib.hid (show (pc m R).toList[8]? = some (.int .i64 x) by rw [hy']; rfl)
     clear hy'
     go_wp2_with (rw [wpl_id]; first
      | (refine wpl_ld H 0 rfl _ _ rfl (wnt rfl) (by exact rfl) (notAgg _ (by decide)) HYC.out ?_))
     refine HRT.out.mono ?_
     rintro e w5 ⟨rfl, h5⟩
     rw [h5]
     clear h5
     go_wp2
     go_roundw
     case rel => exact ⟨7, by omega, by omega, by go_num, HK⟩
     case measure => simp [intOf]
    ·have HYC := Lib.hid (show (pc m R).toList[8]? = some (.int .i64 y) by rw [hy']; rfl)
     clear hy'
     go_wp2_with (rw [wpl_id]; first
      | (refine wpl_ld H 0 rfl _ _ rfl (wnt rfl) (by exact rfl) (notAgg _ (by decide)) HYC.out ?_))
     refine HRT.out.mono ?_
     rintro e w5 ⟨rfl, h5⟩
     rw [h5]
     clear h5
     go_wp2
     go_ret
     exact ⟨false, Z.seen, rfl, fun hl => absurd (HXY.out hl) hxy, HK.out.2.1, step_below HLP.out.pool.nobytes HLP.out.pool.lt HK.out.2.2.2⟩
   ·have hy' : y = R.now.roots.r7 := by rw [hy]; rfl
    clear hy
    by_cases hxy : x = y
    ·subst hxy
     have HYC := Lib.hid (show (pc m R).toList[9]? = some (.int .i64 x) by rw [hy']; rfl)
     clear hy'
     go_wp2_with (rw [wpl_id]; first
      | (refine wpl_ld H 0 rfl _ _ rfl (wnt rfl) (by exact rfl) (notAgg _ (by decide)) HYC.out ?_))
     refine HRT.out.mono ?_
     rintro e w5 ⟨rfl, h5⟩
     rw [h5]
     clear h5
     go_wp2
     go_roundw
     case rel => exact ⟨8, by omega, by omega, by go_num, HK⟩
     case measure => simp [intOf]
    ·have HYC := Lib.hid (show (pc m R).toList[9]? = some (.int .i64 y) by rw [hy']; rfl)
     clear hy'
     go_wp2_with (rw [wpl_id]; first
      | (refine wpl_ld H 0 rfl _ _ rfl (wnt rfl) (by exact rfl) (notAgg _ (by decide)) HYC.out ?_))
     refine HRT.out.mono ?_
     rintro e w5 ⟨rfl, h5⟩
     rw [h5]
     clear h5
     go_wp2
     go_ret
     exact ⟨false, Z.seen, rfl, fun hl => absurd (HXY.out hl) hxy, HK.out.2.1, step_below HLP.out.pool.nobytes HLP.out.pool.lt HK.out.2.2.2⟩
   ·have hy' : y = 0 := by rw [hy]; rfl
    clear hy
    by_cases hxy : x = y
    ·subst hxy
     subst hy'
     skip
     go_wp2_with (rw [wpl_id]; first
      | fail)
     refine HRT.out.mono ?_
     rintro e w5 ⟨rfl, h5⟩
     rw [h5]
     clear h5
     go_wp2
     go_roundw
     case rel => exact ⟨9, by omega, by omega, by go_num, HK⟩
     case measure => simp [intOf]
    ·subst hy'
     skip
     go_wp2_with (rw [wpl_id]; first
      | fail)
     refine HRT.out.mono ?_
     rintro e w5 ⟨rfl, h5⟩
     rw [h5]
     clear h5
     go_wp2
     go_ret
     exact ⟨false, Z.seen, rfl, fun hl => absurd (HXY.out hl) hxy, HK.out.2.1, step_below HLP.out.pool.nobytes HLP.out.pool.lt HK.out.2.2.2⟩
end Go.Proofs.YtklppnknllbfnaaGreat
