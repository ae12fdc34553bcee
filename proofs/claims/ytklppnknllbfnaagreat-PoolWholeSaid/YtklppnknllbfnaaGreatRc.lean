/- Walks: the document's pool: Back, Commit, SetRoot, New. Printed by mk_rc.py. -/
import Derived.Test.YtklppnknllbfnaaGreatRb
namespace Go.Proofs.YtklppnknllbfnaaGreat
open Go.RowKit Go.Maps
set_option maxRecDepth 8000
set_option linter.unusedSimpArgs false
theorem nil_rowI (w : World) : RowI w (.slice none 0 0) [] := World.ownsRow_nil _ _ _ _
theorem row_put {w w' : World} {b : Nat} {c : Array Value} {T bs e s n : Nat} {v : Value} {xs : List Value} (h : w.ownsRow bs e s v n xs) (hb : Blk w b c T) (k : Turn [b] w w') (hne : e ≠ T) : w'.ownsRow bs e s v n xs :=
 row_turn h k fun g hg hm => by
  simp only [List.mem_singleton] at hm
  subst hm
  obtain ⟨c1, e1⟩ := row_kind h hg
  unfold Blk at hb
  rw [hb] at e1
  cases e1
  exact hne rfl
theorem RpAt.put {w w' : World} {m : Rm} {R : Rp} {b : Nat} {c : Array Value} (h : RpAt w m R) (hb : Blk w b c 48) (k : Turn [b] w w') : RpAt w' m R :=
 ⟨h.bn, h.bw, h.sn, row_put h.nl hb k (by decide), row_put h.nf hb k (by decide), row_put h.wl hb k (by decide), row_put h.wf hb k (by decide), row_put h.cv hb k (by decide)⟩
section
variable {P : Program} {ops : Array Oper} {rest : List Oper} {o : Oper} {a : Act} {Q : Exit → Act → World → Prop} {w0 w : World} {L : List Bx} {R : List Rx}
/-- A struct is written into a box; what turned is said. -/
theorem wpl_staT (H : Hid (Bxs w0 w L R)) (i : Nat) {e : Bx} (hi : L[i]? = some e) (hd : o.dst = none) (t : TypeId) (x y : Operand) (ho : o.op = .store t x y) (hgd : Want ops o a) {off : Nat} (hx : a.eval x = .pointer (some ⟨e.b, off, none⟩)) {v : Array Value} (hy : a.eval y = .agg v)
  {n : Nat} (hz : ∀ w, (Go.sizeOf t).run P w = .ok n w) (hs : v.size = n) (h1 : v.toList.all (·.oneCell') = true) (hn : decide (off + n ≤ e.c.size) = true) {cs : Array Value} (hv : splice e.c off v = cs)
  (k : ∀ w', Hid (Bxs w0 w' (L.set i { e with c := cs }) R) → Hid (Turn [e.b] w w') → wpList P ops Q rest a w') : WL P ops Q (o :: rest) a w := by
 subst hv
 have hb := H.out.at_ hi
 have ht := setRow_turn w e.b (splice e.c off v) hb
 exact wpl_skip hgd hd (exec_store t x y ho hx hy (run_store_agg (hz w) hb hs (of_decide_eq_true hn) (fun x hx => List.all_eq_true.1 h1 x hx))) (k _ (Lib.hid (H.out.put hi ht.1 ht.2)) (Lib.hid ht.2))
end
theorem Back_ref {w : World} {m : Rm} {R : Rp} (h : RpAt w m R) :
  Calls Tryz.prog 29 #[.agg (pc m R)] w fun e w' => ∃ m', e = .returned (.agg (pc m' R.back)) ∧ RpAt w' m' R.back ∧ Fresh w.heap.size m m' ∧ Below w.heap.size w w' := by
 have H := Lib.hid (Bxs.start w)
 have HW := Lib.hid h
 obtain ⟨A1, c1, A2, c2, A3, c3, A4, c4, A5, c5, rfl⟩ := h.shape
 have HC := Lib.hid (fun w' (k : Below w.heap.size w w') => copied_ref R.was.roots (HW.out.wl.low k) (HW.out.wf.low k) HW.out.sn.2.2.1 HW.out.sn.2.2.2.1)
 clear h
 go_enter Tryz.func29, Tryz.ntmps29
 go_wp2_with (rw [wpl_id]; first
  | (refine wpl_box H _ _ rfl (wnt rfl) rfl (fun b1 w' H2 => ?_); clear H; have H := H2; clear H2)
  | (refine wpl_new H _ rfl (wnt rfl) Tryz.zeroValue48 (cs := z48) rfl (fun b2 w' H2 => ?_); clear H; have H := H2; clear H2)
  | (refine wpl_lda H 1 rfl _ _ rfl (wnt rfl) (by exact rfl) Tryz.isAgg46 Tryz.sizeOf46 (by kernel_rfl) (cs := sc (.slice A3 R.was.loads.length c3) (.slice A4 R.was.free.length c4) R.was.roots) rfl ?_))
 refine (HC.out _ H.out.low).mono ?_
 rintro e w1 ⟨lv, fv, rfl, hr1, hr2, hb⟩
 obtain ⟨B1, d1, rfl⟩ := slice_shape hr1
 obtain ⟨B2, d2, rfl⟩ := slice_shape hr2
 have H2 := Lib.hid (H.out.own2 hb hr1 hr2 (by decide)); clear H hr1 hr2 hb; have H := H2; clear H2
 go_wp2_with (rw [wpl_id]; first
  | (refine wpl_sta H 1 rfl rfl _ _ _ rfl (wnt rfl) (by exact rfl) (by exact rfl) Tryz.sizeOf46 (by kernel_rfl) (by kernel_rfl) (by kernel_rfl) rfl (fun w' H2 => ?_); simp only [List.set_cons_succ, List.set_cons_zero] at H2; clear H; have H := H2; clear H2)
  | (refine wpl_st H 1 rfl rfl _ _ _ rfl (wnt rfl) (by exact rfl) (by (conv => lhs; whnf) <;> exact rfl) (oneSize _ (by decide)) rfl (by kernel_rfl) rfl (fun w' H2 => ?_); simp only [List.set_cons_succ, List.set_cons_zero] at H2; clear H; have H := H2; clear H2)
  | (refine wpl_lda H 1 rfl _ _ rfl (wnt rfl) (by exact rfl) Tryz.isAgg48 Tryz.sizeOf48 (by kernel_rfl) (whole_take (by kernel_rfl)) ?_)
  | (refine wpl_sta H 0 rfl rfl _ _ _ rfl (wnt rfl) (by exact rfl) (by exact rfl) Tryz.sizeOf48 (by kernel_rfl) (by kernel_rfl) (by kernel_rfl) (splice_whole (n := 25) (by kernel_rfl) (by kernel_rfl)) (fun w' H2 => ?_); simp only [List.set_cons_succ, List.set_cons_zero] at H2; clear H; have H := H2; clear H2))
 exact bodyPost_ret (res_cell rfl rfl (H.out.at_ (i := 0) rfl) (Tryz.isAgg48 _) (Tryz.sizeOf48 _) rfl) rfl ⟨⟨.slice B1 R.was.loads.length d1, .slice B2 R.was.free.length d2, .slice A3 R.was.loads.length c3, .slice A4 R.was.free.length c4, .slice none 0 0⟩, rfl, ⟨HW.out.bw, HW.out.bw, ⟨HW.out.sn.2.2.1, HW.out.sn.2.2.2.1, HW.out.sn.2.2.1, HW.out.sn.2.2.2.1, Nat.zero_le _⟩, row_base0 (H.out.row_ (i := 0) rfl), row_base0 (H.out.row_ (i := 1) rfl), HW.out.wl.low H.out.low, HW.out.wf.low H.out.low, nil_rowI _⟩, Fresh.mk5 (FreshV.row (H.out.row_ (i := 0) rfl)) (FreshV.row (H.out.row_ (i := 1) rfl)) FreshV.wl FreshV.wf FreshV.none_, H.out.low⟩
set_option maxHeartbeats 800000 in
theorem Commit_ref {w : World} {m : Rm} {R : Rp} (h : RpAt w m R) :
  Calls Tryz.prog 27 #[.agg (pc m R)] w fun e w' => ∃ m', e = .returned (.tuple #[.agg (pc m' R.commit.2), .int .i64 R.commit.1]) ∧ RpAt w' m' R.commit.2 ∧ Fresh w.heap.size m m' ∧ Below w.heap.size w w' := by
 have H := Lib.hid (Bxs.start w)
 have HW := Lib.hid h
 obtain ⟨A1, c1, A2, c2, A3, c3, A4, c4, A5, c5, rfl⟩ := h.shape
 have HC := Lib.hid (fun w' (k : Below w.heap.size w w') => copied_ref R.now.roots (HW.out.nl.low k) (HW.out.nf.low k) HW.out.sn.1 HW.out.sn.2.1)
 have HB := Lib.hid (fun w' (k : Below w.heap.size w w') => Back_ref (h.low k))
 have hchb : (R.ch.length : Int) ≤ 1048576 := by have := h.sn.2.2.2.2; omega
 clear h
 cases hm : R.moved with
 | true =>
  have HMV := Lib.hid (show (pc ⟨.slice A1 R.now.loads.length c1, .slice A2 R.now.free.length c2, .slice A3 R.was.loads.length c3, .slice A4 R.was.free.length c4, .slice A5 R.ch.length c5⟩ R).toList[20]? = some (.bool true) by rw [← hm]; rfl)
  have hsl' : (R.slot : Int) < R.ch.length + 1 ∨ ¬ (R.slot : Int) < R.ch.length + 1 := by omega
  have hnc : R.nCh = R.ch.length + 1 := by unfold Rp.nCh; rw [hm]; rfl
  unfold Rp.commit
  rw [hnc]
  have HM := Lib.hid hm
  clear hm hnc
  by_cases hc : R.slot < R.ch.length + 1
  ·rw [if_pos hc]
   have hc1 : (R.slot : Int) < (R.ch.length : Int) + 1 := by omega
   clear hc hsl'
   go_enter Tryz.func27, Tryz.ntmps27
   go_wp2_with (rw [wpl_id]; first
    | (refine wpl_box H _ _ rfl (wnt rfl) rfl (fun b1 w' H2 => ?_); clear H; have H := H2; clear H2)
    | (refine wpl_new H _ rfl (wnt rfl) Tryz.zeroValue48 (cs := z48) rfl (fun b2 w' H2 => ?_); clear H; have H := H2; clear H2)
    | (refine wpl_ld H 1 rfl _ _ rfl (wnt rfl) (by exact rfl) (notAgg _ (by decide)) HMV.out ?_)
    | (refine wpl_ld H 1 rfl _ _ rfl (wnt rfl) (by exact rfl) (notAgg _ (by decide)) (by exact rfl) ?_)
    | (refine wpl_lda H 1 rfl _ _ rfl (wnt rfl) (by exact rfl) Tryz.isAgg48 Tryz.sizeOf48 (by kernel_rfl) (whole_take (by kernel_rfl)) ?_))
   refine (HB.out _ H.out.low).mono ?_
   rintro e w1 ⟨m', rfl, hr, hfr, hb⟩
   have HFR := Lib.hid (hfr.mono H.out.low.size)
   clear hfr
   have HR2 := Lib.hid hr
   obtain ⟨B1, d1, B2, d2, B3, d3, B4, d4, B5, d5, rfl⟩ := hr.shape
   have H2 := Lib.hid (H.out.grew hb); clear H hr hb; have H := H2; clear H2
   have HB2 := Lib.hid (H.out.at_ (i := 0) rfl)
   go_wp2_with (rw [wpl_id]; first
    | (refine wpl_staT H 0 rfl rfl _ _ _ rfl (wnt rfl) (by exact rfl) (by exact rfl) Tryz.sizeOf48 (by kernel_rfl) (by kernel_rfl) (by kernel_rfl) (splice_whole (n := 25) (by kernel_rfl) (by kernel_rfl)) (fun w' H2 HT2 => ?_); simp only [List.set_cons_succ, List.set_cons_zero] at H2; clear H; have H := H2; clear H2))
   exact bodyPost_ret (res_cell1 rfl rfl (H.out.at_ (i := 0) rfl) (Tryz.isAgg48 _) (Tryz.sizeOf48 _) rfl) rfl ⟨_, rfl, HR2.out.put HB2.out HT2.out, HFR.out, H.out.low⟩
  ·rw [if_neg hc]
   have hc1 : ¬ (R.slot : Int) < (R.ch.length : Int) + 1 := by omega
   clear hc hsl'
   go_enter Tryz.func27, Tryz.ntmps27
   go_wp2_with (rw [wpl_id]; first
    | (refine wpl_box H _ _ rfl (wnt rfl) rfl (fun b1 w' H2 => ?_); clear H; have H := H2; clear H2)
    | (refine wpl_new H _ rfl (wnt rfl) Tryz.zeroValue48 (cs := z48) rfl (fun b2 w' H2 => ?_); clear H; have H := H2; clear H2)
    | (refine wpl_ld H 1 rfl _ _ rfl (wnt rfl) (by exact rfl) (notAgg _ (by decide)) HMV.out ?_)
    | (refine wpl_lda H 1 rfl _ _ rfl (wnt rfl) (by exact rfl) Tryz.isAgg46 Tryz.sizeOf46 (by kernel_rfl) (cs := sc (.slice A1 R.now.loads.length c1) (.slice A2 R.now.free.length c2) R.now.roots) rfl ?_)
    | (refine wpl_ld H 1 rfl _ _ rfl (wnt rfl) (by exact rfl) (notAgg _ (by decide)) (by exact rfl) ?_))
   refine (HC.out _ H.out.low).mono ?_
   rintro e w1 ⟨lv, fv, rfl, hr1, hr2, hb⟩
   obtain ⟨B1, d1, rfl⟩ := slice_shape hr1
   obtain ⟨B2, d2, rfl⟩ := slice_shape hr2
   have H2 := Lib.hid (H.out.own2 hb hr1 hr2 (by decide)); clear H hr1 hr2 hb; have H := H2; clear H2
   go_wp2_with (rw [wpl_id]; first
    | (refine wpl_sta H 1 rfl rfl _ _ _ rfl (wnt rfl) (by exact rfl) (by exact rfl) Tryz.sizeOf46 (by kernel_rfl) (by kernel_rfl) (by kernel_rfl) rfl (fun w' H2 => ?_); simp only [List.set_cons_succ, List.set_cons_zero] at H2; clear H; have H := H2; clear H2)
    | (refine wpl_st H 1 rfl rfl _ _ _ rfl (wnt rfl) (by exact rfl) (by (conv => lhs; whnf) <;> exact rfl) (oneSize _ (by decide)) rfl (by kernel_rfl) rfl (fun w' H2 => ?_); simp only [List.set_cons_succ, List.set_cons_zero] at H2; clear H; have H := H2; clear H2)
    | (refine wpl_lda H 1 rfl _ _ rfl (wnt rfl) (by exact rfl) Tryz.isAgg48 Tryz.sizeOf48 (by kernel_rfl) (whole_take (by kernel_rfl)) ?_)
    | (refine wpl_sta H 0 rfl rfl _ _ _ rfl (wnt rfl) (by exact rfl) (by exact rfl) Tryz.sizeOf48 (by kernel_rfl) (by kernel_rfl) (by kernel_rfl) (splice_whole (n := 25) (by kernel_rfl) (by kernel_rfl)) (fun w' H2 => ?_); simp only [List.set_cons_succ, List.set_cons_zero] at H2; clear H; have H := H2; clear H2))
   exact bodyPost_ret (res_cell1 rfl rfl (H.out.at_ (i := 0) rfl) (Tryz.isAgg48 _) (Tryz.sizeOf48 _) rfl) rfl ⟨⟨.slice A1 R.now.loads.length c1, .slice A2 R.now.free.length c2, .slice B1 R.now.loads.length d1, .slice B2 R.now.free.length d2, .slice none 0 0⟩, rfl, ⟨HW.out.bn, HW.out.bn, ⟨HW.out.sn.1, HW.out.sn.2.1, HW.out.sn.1, HW.out.sn.2.1, Nat.zero_le _⟩, HW.out.nl.low H.out.low, HW.out.nf.low H.out.low, row_base0 (H.out.row_ (i := 0) rfl), row_base0 (H.out.row_ (i := 1) rfl), nil_rowI _⟩, Fresh.mk5 FreshV.nl FreshV.nf (FreshV.row (H.out.row_ (i := 0) rfl)) (FreshV.row (H.out.row_ (i := 1) rfl)) FreshV.none_, H.out.low⟩
 | false =>
  have HMV := Lib.hid (show (pc ⟨.slice A1 R.now.loads.length c1, .slice A2 R.now.free.length c2, .slice A3 R.was.loads.length c3, .slice A4 R.was.free.length c4, .slice A5 R.ch.length c5⟩ R).toList[20]? = some (.bool false) by rw [← hm]; rfl)
  have hsl' : (R.slot : Int) < R.ch.length + 0 ∨ ¬ (R.slot : Int) < R.ch.length + 0 := by omega
  have hnc : R.nCh = R.ch.length + 0 := by unfold Rp.nCh; rw [hm]; rfl
  unfold Rp.commit
  rw [hnc]
  have HM := Lib.hid hm
  clear hm hnc
  by_cases hc : R.slot < R.ch.length + 0
  ·rw [if_pos hc]
   have hc1 : (R.slot : Int) < (R.ch.length : Int) := by omega
   clear hc hsl'
   go_enter Tryz.func27, Tryz.ntmps27
   go_wp2_with (rw [wpl_id]; first
    | (refine wpl_box H _ _ rfl (wnt rfl) rfl (fun b1 w' H2 => ?_); clear H; have H := H2; clear H2)
    | (refine wpl_new H _ rfl (wnt rfl) Tryz.zeroValue48 (cs := z48) rfl (fun b2 w' H2 => ?_); clear H; have H := H2; clear H2)
    | (refine wpl_ld H 1 rfl _ _ rfl (wnt rfl) (by exact rfl) (notAgg _ (by decide)) HMV.out ?_)
    | (refine wpl_ld H 1 rfl _ _ rfl (wnt rfl) (by exact rfl) (notAgg _ (by decide)) (by exact rfl) ?_)
    | (refine wpl_lda H 1 rfl _ _ rfl (wnt rfl) (by exact rfl) Tryz.isAgg48 Tryz.sizeOf48 (by kernel_rfl) (whole_take (by kernel_rfl)) ?_))
   refine (HB.out _ H.out.low).mono ?_
   rintro e w1 ⟨m', rfl, hr, hfr, hb⟩
   have HFR := Lib.hid (hfr.mono H.out.low.size)
   clear hfr
   have HR2 := Lib.hid hr
   obtain ⟨B1, d1, B2, d2, B3, d3, B4, d4, B5, d5, rfl⟩ := hr.shape
   have H2 := Lib.hid (H.out.grew hb); clear H hr hb; have H := H2; clear H2
   have HB2 := Lib.hid (H.out.at_ (i := 0) rfl)
   go_wp2_with (rw [wpl_id]; first
    | (refine wpl_staT H 0 rfl rfl _ _ _ rfl (wnt rfl) (by exact rfl) (by exact rfl) Tryz.sizeOf48 (by kernel_rfl) (by kernel_rfl) (by kernel_rfl) (splice_whole (n := 25) (by kernel_rfl) (by kernel_rfl)) (fun w' H2 HT2 => ?_); simp only [List.set_cons_succ, List.set_cons_zero] at H2; clear H; have H := H2; clear H2))
   exact bodyPost_ret (res_cell1 rfl rfl (H.out.at_ (i := 0) rfl) (Tryz.isAgg48 _) (Tryz.sizeOf48 _) rfl) rfl ⟨_, rfl, HR2.out.put HB2.out HT2.out, HFR.out, H.out.low⟩
  ·rw [if_neg hc]
   have hc1 : ¬ (R.slot : Int) < (R.ch.length : Int) := by omega
   clear hc hsl'
   go_enter Tryz.func27, Tryz.ntmps27
   go_wp2_with (rw [wpl_id]; first
    | (refine wpl_box H _ _ rfl (wnt rfl) rfl (fun b1 w' H2 => ?_); clear H; have H := H2; clear H2)
    | (refine wpl_new H _ rfl (wnt rfl) Tryz.zeroValue48 (cs := z48) rfl (fun b2 w' H2 => ?_); clear H; have H := H2; clear H2)
    | (refine wpl_ld H 1 rfl _ _ rfl (wnt rfl) (by exact rfl) (notAgg _ (by decide)) HMV.out ?_)
    | (refine wpl_lda H 1 rfl _ _ rfl (wnt rfl) (by exact rfl) Tryz.isAgg46 Tryz.sizeOf46 (by kernel_rfl) (cs := sc (.slice A1 R.now.loads.length c1) (.slice A2 R.now.free.length c2) R.now.roots) rfl ?_)
    | (refine wpl_ld H 1 rfl _ _ rfl (wnt rfl) (by exact rfl) (notAgg _ (by decide)) (by exact rfl) ?_))
   refine (HC.out _ H.out.low).mono ?_
   rintro e w1 ⟨lv, fv, rfl, hr1, hr2, hb⟩
   obtain ⟨B1, d1, rfl⟩ := slice_shape hr1
   obtain ⟨B2, d2, rfl⟩ := slice_shape hr2
   have H2 := Lib.hid (H.out.own2 hb hr1 hr2 (by decide)); clear H hr1 hr2 hb; have H := H2; clear H2
   go_wp2_with (rw [wpl_id]; first
    | (refine wpl_sta H 1 rfl rfl _ _ _ rfl (wnt rfl) (by exact rfl) (by exact rfl) Tryz.sizeOf46 (by kernel_rfl) (by kernel_rfl) (by kernel_rfl) rfl (fun w' H2 => ?_); simp only [List.set_cons_succ, List.set_cons_zero] at H2; clear H; have H := H2; clear H2)
    | (refine wpl_st H 1 rfl rfl _ _ _ rfl (wnt rfl) (by exact rfl) (by (conv => lhs; whnf) <;> exact rfl) (oneSize _ (by decide)) rfl (by kernel_rfl) rfl (fun w' H2 => ?_); simp only [List.set_cons_succ, List.set_cons_zero] at H2; clear H; have H := H2; clear H2)
    | (refine wpl_lda H 1 rfl _ _ rfl (wnt rfl) (by exact rfl) Tryz.isAgg48 Tryz.sizeOf48 (by kernel_rfl) (whole_take (by kernel_rfl)) ?_)
    | (refine wpl_sta H 0 rfl rfl _ _ _ rfl (wnt rfl) (by exact rfl) (by exact rfl) Tryz.sizeOf48 (by kernel_rfl) (by kernel_rfl) (by kernel_rfl) (splice_whole (n := 25) (by kernel_rfl) (by kernel_rfl)) (fun w' H2 => ?_); simp only [List.set_cons_succ, List.set_cons_zero] at H2; clear H; have H := H2; clear H2))
   exact bodyPost_ret (res_cell1 rfl rfl (H.out.at_ (i := 0) rfl) (Tryz.isAgg48 _) (Tryz.sizeOf48 _) rfl) rfl ⟨⟨.slice A1 R.now.loads.length c1, .slice A2 R.now.free.length c2, .slice B1 R.now.loads.length d1, .slice B2 R.now.free.length d2, .slice none 0 0⟩, rfl, ⟨HW.out.bn, HW.out.bn, ⟨HW.out.sn.1, HW.out.sn.2.1, HW.out.sn.1, HW.out.sn.2.1, Nat.zero_le _⟩, HW.out.nl.low H.out.low, HW.out.nf.low H.out.low, row_base0 (H.out.row_ (i := 0) rfl), row_base0 (H.out.row_ (i := 1) rfl), nil_rowI _⟩, Fresh.mk5 FreshV.nl FreshV.nf (FreshV.row (H.out.row_ (i := 0) rfl)) (FreshV.row (H.out.row_ (i := 1) rfl)) FreshV.none_, H.out.low⟩
end Go.Proofs.YtklppnknllbfnaaGreat
