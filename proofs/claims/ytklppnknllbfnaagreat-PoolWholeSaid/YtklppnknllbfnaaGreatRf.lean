/- Walks: the document's pool: Write. Printed by mk_rf.py. -/
import Derived.Test.YtklppnknllbfnaaGreatRe
namespace Go.Proofs.YtklppnknllbfnaaGreat
open Go.RowKit Go.Maps
set_option maxRecDepth 8000
set_option linter.unusedSimpArgs false
section
variable {P : Program} {w0 w : World} {L : List Bx} {R : List Rx}
theorem run_load_whole {t n b : Nat} {cs : Array Value} {T : TypeId} (hA : (isAgg t).run P w = .ok true w) (hz : (Go.sizeOf t).run P w = .ok n w) (h : Blk w b cs T) (hn : cs.size = n) :
  (Instr.loadAt t (.pointer (some ⟨b, 0, none⟩))).run P w = .ok (.agg cs) w := by
 have hl := run_load_agg hA hz h (by omega : 0 + n ≤ cs.size)
 rw [whole_take hn] at hl
 exact hl
theorem Bxs.rowstore (h : Bxs w0 w L R) {j : Nat} {r : Rx} (hj : R[j]? = some r) {g c k : Nat} (hv : r.v = .slice (some ⟨g, 0, none⟩) r.n c) {t : TypeId} {v : Value} (hz : (Go.sizeOf t).run P w = .ok 1 w) (h1 : v.oneCell' = true) (hk : k < r.n * r.s) :
  (Instr.storeAt t (.pointer (some ⟨g, k, none⟩)) v).run P w = .ok () (w.setCell ⟨g, k, none⟩ v) := by
 have hr := h.row_ hj
 rw [hv] at hr
 obtain ⟨cs, hb⟩ := row_kind hr rfl
 have hb : Blk w g cs r.t := hb
 have hc := World.ownsRow.cellAt hr k hk
 have hlt : k < r.l.length := by have := hr.1; omega
 rw [List.getElem?_eq_getElem hlt, hb.cell] at hc
 exact run_store_one hz hb (Array.getElem?_eq_some_iff.1 hc).1 h1
end
set_option maxHeartbeats 4000000 in
theorem Write_ref {w : World} {m : Rm} {R : Rp} (page : Int) (l : List Nat) (h : RpAt w m R) (hs : R.now.loads.length ≤ 1000 ∧ R.now.free.length ≤ 1000 ∧ R.ch.length ≤ 1000) (hr : R.room ≤ 5000) (hll : l.length ≤ 5000) (hlb : ∀ b ∈ l, b < 256) :
  Calls Tryz.prog 33 #[.agg (pc m R), .int .i64 page, .string (str l)] w fun e w' => ∃ m', e = .returned (.tuple #[.agg (pc m' (R.write page l).2), .int .i64 (R.write page l).1]) ∧ RpAt w' m' (R.write page l).2 ∧ Fresh w.heap.size m m' ∧ Below w.heap.size w w' := by
 have H := Lib.hid (Bxs.start w)
 have HW := Lib.hid h
 obtain ⟨A1, c1, A2, c2, A3, c3, A4, c4, A5, c5, rfl⟩ := h.shape
 have HT := Lib.hid (fun w' (k : Below w.heap.size w w') => Taken_ref page (HW.out.low k).nl HW.out.bn)
 have HC := Lib.hid (fun w' (k : Below w.heap.size w w') => copied_ref R.now.roots (HW.out.nl.low k) (HW.out.nf.low k) HW.out.sn.1 HW.out.sn.2.1)
 have HS := Lib.hid hs
 have HR5 := Lib.hid (And.intro hr hll)
 have HLB := Lib.hid hlb
 have hss := str_size l
 clear h hs hlb
 unfold Rp.write
 cases hh : R.now.has page with
 | false =>
  rw [if_pos rfl]
  rw [hh] at HT
  clear hh HC
  go_enter Tryz.func33, Tryz.ntmps33
  go_wp2_with (rw [wpl_id]; first
   | (refine wpl_box H _ _ rfl (wnt rfl) rfl (fun b1 w' H2 => ?_); clear H; have H := H2; clear H2)
   | (refine wpl_new H _ rfl (wnt rfl) Tryz.zeroValue48 (cs := z48) rfl (fun b2 w' H2 => ?_); clear H; have H := H2; clear H2)
   | (refine wpl_lda H 1 rfl _ _ rfl (wnt rfl) (by exact rfl) Tryz.isAgg48 Tryz.sizeOf48 (by kernel_rfl) (whole_take (by kernel_rfl)) ?_))
  refine (HT.out _ H.out.low).mono ?_
  rintro e w1 ⟨rfl, hb⟩
  have H2 := Lib.hid (H.out.grew hb); clear H hb; have H := H2; clear H2
  go_wp2_with (rw [wpl_id]; first
   | (refine wpl_lda H 1 rfl _ _ rfl (wnt rfl) (by exact rfl) Tryz.isAgg48 Tryz.sizeOf48 (by kernel_rfl) (whole_take (by kernel_rfl)) ?_)
   | (refine wpl_sta H 0 rfl rfl _ _ _ rfl (wnt rfl) (by exact rfl) (by exact rfl) Tryz.sizeOf48 (by kernel_rfl) (by kernel_rfl) (by kernel_rfl) (splice_whole (n := 25) (by kernel_rfl) (by kernel_rfl)) (fun w' H2 => ?_); simp only [List.set_cons_succ, List.set_cons_zero] at H2; clear H; have H := H2; clear H2))
  exact bodyPost_ret (res_cell1 rfl rfl (H.out.at_ (i := 0) rfl) (Tryz.isAgg48 _) (Tryz.sizeOf48 _) rfl) rfl ⟨_, rfl, HW.out.low H.out.low, Fresh.refl, H.out.low⟩
 | true =>
  rw [if_neg (by simp)]
  rw [hh] at HT
  obtain ⟨k, rfl, hk⟩ := has_at hh
  rw [Int.toNat_natCast]
  have hk' : (k : Int) < R.now.loads.length := by omega
  have HK := Lib.hid hk
  clear hh hk
  by_cases hbig : R.room < l.length
  ·rw [if_pos hbig]
   have hbig' : (R.room : Int) < l.length := by omega
   clear HC hbig
   go_enter Tryz.func33, Tryz.ntmps33
   go_wp2_with (rw [wpl_id]; first
    | (refine wpl_box H _ _ rfl (wnt rfl) rfl (fun b1 w' H2 => ?_); clear H; have H := H2; clear H2)
    | (refine wpl_new H _ rfl (wnt rfl) Tryz.zeroValue48 (cs := z48) rfl (fun b2 w' H2 => ?_); clear H; have H := H2; clear H2)
    | (refine wpl_lda H 1 rfl _ _ rfl (wnt rfl) (by exact rfl) Tryz.isAgg48 Tryz.sizeOf48 (by kernel_rfl) (whole_take (by kernel_rfl)) ?_))
   refine (HT.out _ H.out.low).mono ?_
   rintro e w1 ⟨rfl, hb⟩
   have H2 := Lib.hid (H.out.grew hb); clear H hb; have H := H2; clear H2
   go_wp2_with (rw [wpl_id]; first
    | (refine wpl_ld H 1 rfl _ _ rfl (wnt rfl) (by exact rfl) (notAgg _ (by decide)) (by exact rfl) ?_)
    | (refine wpl_lda H 1 rfl _ _ rfl (wnt rfl) (by exact rfl) Tryz.isAgg48 Tryz.sizeOf48 (by kernel_rfl) (whole_take (by kernel_rfl)) ?_)
    | (refine wpl_sta H 0 rfl rfl _ _ _ rfl (wnt rfl) (by exact rfl) (by exact rfl) Tryz.sizeOf48 (by kernel_rfl) (by kernel_rfl) (by kernel_rfl) (splice_whole (n := 25) (by kernel_rfl) (by kernel_rfl)) (fun w' H2 => ?_); simp only [List.set_cons_succ, List.set_cons_zero] at H2; clear H; have H := H2; clear H2))
   exact bodyPost_ret (res_cell1 rfl rfl (H.out.at_ (i := 0) rfl) (Tryz.isAgg48 _) (Tryz.sizeOf48 _) rfl) rfl ⟨_, rfl, HW.out.low H.out.low, Fresh.refl, H.out.low⟩
  rw [if_neg hbig]
  have hbig' : ¬ (R.room : Int) < l.length := by omega
  have HBG := Lib.hid hbig
  clear hbig
  go_enter Tryz.func33, Tryz.ntmps33
  go_wp2_with (rw [wpl_id]; first
   | (refine wpl_box H _ _ rfl (wnt rfl) rfl (fun b1 w' H2 => ?_); clear H; have H := H2; clear H2)
   | (refine wpl_new H _ rfl (wnt rfl) Tryz.zeroValue48 (cs := z48) rfl (fun b2 w' H2 => ?_); clear H; have H := H2; clear H2)
   | (refine wpl_lda H 1 rfl _ _ rfl (wnt rfl) (by exact rfl) Tryz.isAgg48 Tryz.sizeOf48 (by kernel_rfl) (whole_take (by kernel_rfl)) ?_))
  refine (HT.out _ H.out.low).mono ?_
  rintro e w1 ⟨rfl, hb⟩
  have H2 := Lib.hid (H.out.grew hb); clear H hb; have H := H2; clear H2
  go_wp2_with (rw [wpl_id]; first
   | (refine wpl_ld H 1 rfl _ _ rfl (wnt rfl) (by exact rfl) (notAgg _ (by decide)) (by exact rfl) ?_)
   | (refine wpl_lda H 1 rfl _ _ rfl (wnt rfl) (by exact rfl) Tryz.isAgg46 Tryz.sizeOf46 (by kernel_rfl) (cs := sc (.slice A1 R.now.loads.length c1) (.slice A2 R.now.free.length c2) R.now.roots) rfl ?_))
  refine (HC.out _ H.out.low).mono ?_
  rintro e w2 ⟨lv, fv, rfl, hr1, hr2, hb⟩
  obtain ⟨g, d1, rfl⟩ := row_shape hr1 (by have := HK.out; omega)
  obtain ⟨B2, d2, rfl⟩ := slice_shape hr2
  have H2 := Lib.hid (H.out.own2 hb hr1 hr2 (by decide)); clear H hr1 hr2 hb; have H := H2; clear H2
  go_wp2_with (rw [wpl_id]; first
   | (refine wpl_sta H 1 rfl rfl _ _ _ rfl (wnt rfl) (by exact rfl) (by exact rfl) Tryz.sizeOf46 (by kernel_rfl) (by kernel_rfl) (by kernel_rfl) (cs := pc ⟨.slice (some ⟨g, 0, none⟩) R.now.loads.length d1, .slice B2 R.now.free.length d2, .slice A3 R.was.loads.length c3, .slice A4 R.was.free.length c4, .slice A5 R.ch.length c5⟩ R) rfl (fun w' H2 => ?_); simp only [List.set_cons_succ, List.set_cons_zero] at H2; clear H; have H := H2; clear H2))
  have HWD := Lib.hid (show ∀ w_, Calls Tryz.prog 60 #[.agg (pc ⟨.slice (some ⟨g, 0, none⟩) R.now.loads.length d1, .slice B2 R.now.free.length d2, .slice A3 R.was.loads.length c3, .slice A4 R.was.free.length c4, .slice A5 R.ch.length c5⟩ R), .string (str l)] w_ fun e w' => e = .returned (.string (str (widen R.room l))) ∧ Below w_.heap.size w_ w' from fun w_ => wide_ref (by have := HBG.out; omega) HR5.out.1)
  obtain ⟨Sa0, Sa0u, Sa0m, Sa0t⟩ := lay (fun v : World => Bxs w v [⟨b2, z48, 48⟩, ⟨b1, pc ⟨.slice (some ⟨g, 0, none⟩) R.now.loads.length d1, .slice B2 R.now.free.length d2, .slice A3 R.was.loads.length c3, .slice A4 R.was.free.length c4, .slice A5 R.ch.length c5⟩ R, 48⟩] [⟨9, 1, .slice (some ⟨g, 0, none⟩) R.now.loads.length d1, R.now.loads.length, strs R.now.loads⟩, ⟨3, 1, .slice B2 R.now.free.length d2, R.now.free.length, nums R.now.free⟩]) (Bxs.stands _ _ _)
  refine wp_region_X (S := Sa0) (by kernel_rfl) (Sa0m.out _ (H.out.drew)) ?_
  refine wpX_t 0 ?_ Sa0t.out rfl rfl (by kernel_rfl) (fun _ _ _ h => h) rfl ?_ ?_
  rotate_left
  ·(intro w_ hS; go_simp; try with_reducible rfl)
  simp only [sL]
  refine wpX_t 1 ?_ Sa0t.out rfl rfl (by kernel_rfl) (fun _ _ _ h => h) rfl ?_ ?_
  rotate_left
  ·(intro w_ hS; go_simp; try with_reducible rfl)
  simp only [sL]
  refine wpX_take (i := 2) (v := .slice (some ⟨g, 0, none⟩) R.now.loads.length d1) Sa0t.out rfl rfl (by kernel_rfl) (by kernel_rfl) (by kernel_rfl) (by kernel_rfl) (fun _ _ _ h => h) (SteadyX.value (by rfl) (fun w_ hS => by have q0 := Sa0u.out _ hS; exact exec_load 42 (.tmp 24) rfl (vx := .pointer (some ⟨b1, 0, none⟩)) rfl (run_load_one (Tryz.isAgg42 _) (cs := pc ⟨.slice (some ⟨g, 0, none⟩) R.now.loads.length d1, .slice B2 R.now.free.length d2, .slice A3 R.was.loads.length c3, .slice A4 R.was.free.length c4, .slice A5 R.ch.length c5⟩ R) (q0.at_ (i := 1) rfl) rfl))) ?_
  simp only [sL]
  refine wpX_t 3 ?_ Sa0t.out rfl rfl (by kernel_rfl) (fun _ _ _ h => h) rfl ?_ ?_
  rotate_left
  ·(intro w_ hS; go_simp; try with_reducible rfl)
  simp only [sL]
  refine wpX_take (i := 4) (v := .agg (pc ⟨.slice (some ⟨g, 0, none⟩) R.now.loads.length d1, .slice B2 R.now.free.length d2, .slice A3 R.was.loads.length c3, .slice A4 R.was.free.length c4, .slice A5 R.ch.length c5⟩ R)) Sa0t.out rfl rfl (by kernel_rfl) (by kernel_rfl) (by kernel_rfl) (by kernel_rfl) (fun _ _ _ h => h) (SteadyX.value (by rfl) (fun w_ hS => by have q0 := Sa0u.out _ hS; exact exec_load 48 (.tmp 3) rfl (vx := .pointer (some ⟨b1, 0, none⟩)) rfl (run_load_whole (Tryz.isAgg48 _) (Tryz.sizeOf48 _) (q0.at_ (i := 1) rfl) rfl))) ?_
  simp only [sL]
  refine wpX_t 5 ?_ Sa0t.out rfl rfl (by kernel_rfl) (fun _ _ _ h => h) rfl ?_ ?_
  rotate_left
  ·(intro w_ hS; go_simp; try with_reducible rfl)
  simp only [sL]
  refine wpX_take (i := 6) Sa0t.out rfl rfl (by kernel_rfl) (by kernel_rfl) (by kernel_rfl) (by kernel_rfl) (fun _ _ _ h => h) (SteadyX.call (by rfl) (fun w_ hS => HWD.out w_) (fun w_ hS => by (go_simp))) ?_
  simp only [sL]
  refine wpX_t 7 ?_ Sa0t.out rfl rfl (by kernel_rfl) (fun _ _ _ h => h) rfl ?_ ?_
  rotate_left
  ·(intro w_ hS; go_simp; try with_reducible rfl)
  simp only [sL]
  refine wpX_one (i := 8) (by kernel_rfl) (fun w_ hS => ?_)
  have q0 := Sa0u.out _ hS
  obtain ⟨Sa1, Sa1u, Sa1m, Sa1t⟩ := lay (fun v : World => Bxs w v [⟨b2, z48, 48⟩, ⟨b1, pc ⟨.slice (some ⟨g, 0, none⟩) R.now.loads.length d1, .slice B2 R.now.free.length d2, .slice A3 R.was.loads.length c3, .slice A4 R.was.free.length c4, .slice A5 R.ch.length c5⟩ R, 48⟩] [⟨9, 1, .slice (some ⟨g, 0, none⟩) R.now.loads.length d1, R.now.loads.length, (strs R.now.loads).set k (.string (str (widen R.room l)))⟩, ⟨3, 1, .slice B2 R.now.free.length d2, R.now.free.length, nums R.now.free⟩]) (Bxs.stands _ _ _)
  have st_ : Sa1 (w_.setCell ⟨g, k, none⟩ (.string (str (widen R.room l)))) := Sa1m.out _ (q0.rowset (i := 0) rfl rfl k (.string (str (widen R.room l))))
  refine wpX_store (i := 8) (w' := (w_.setCell ⟨g, k, none⟩ (.string (str (widen R.room l))))) Sa1 rfl rfl (by rfl) (by exact exec_store 9 (.tmp 30) (.tmp 29) rfl (vx := .pointer (some ⟨g, k, none⟩)) (by go_simp) (vy := .string (str (widen R.room l))) rfl (q0.rowstore (j := 0) rfl rfl (Tryz.sizeOf9 _) rfl (by rw [Nat.mul_one]; exact HK.out))) Sa1t.out (.inl (by kernel_rfl)) st_ ?_
  clear hS st_  q0
  clear w_
  refine wpX_done (by kernel_rfl) (fun W hS => ?_) _
  have q0 := Sa1u.out _ hS
  clear hS Sa0u Sa0m Sa0t Sa1u Sa1m Sa1t
  clear Sa0 Sa1
  have H := Lib.hid q0
  clear q0
  go_wp2_with (rw [wpl_id]; first
   | (refine wpl_lda H 1 rfl _ _ rfl (wnt rfl) (by exact rfl) Tryz.isAgg48 Tryz.sizeOf48 (by kernel_rfl) (whole_take (by kernel_rfl)) ?_))
  have hn1 : RowS W (.slice (some ⟨g, 0, none⟩) R.now.loads.length d1) (R.now.loads.set k (widen R.room l)) := by
   have hr := row_base0 (H.out.row_ (i := 0) rfl)
   dsimp only at hr
   rw [strs_set] at hr
   unfold RowS
   rw [List.length_set]
   exact hr
  have hn2 : RowI W (.slice B2 R.now.free.length d2) R.now.free := row_base0 (H.out.row_ (i := 1) rfl)
  have HR1 := Lib.hid (show RpAt W ⟨.slice (some ⟨g, 0, none⟩) R.now.loads.length d1, .slice B2 R.now.free.length d2, .slice A3 R.was.loads.length c3, .slice A4 R.was.free.length c4, .slice A5 R.ch.length c5⟩ (R.laid k (widen R.room l)) from ⟨setLt HW.out.bn (widen_lt HLB.out), HW.out.bw, ⟨by show (R.now.loads.set k _).length ≤ _; rw [List.length_set]; exact HW.out.sn.1, HW.out.sn.2⟩, hn1, hn2, HW.out.wl.low H.out.low, HW.out.wf.low H.out.low, HW.out.cv.low H.out.low⟩)
  clear hn1 hn2
  refine (changed_ref (m := ⟨.slice (some ⟨g, 0, none⟩) R.now.loads.length d1, .slice B2 R.now.free.length d2, .slice A3 R.was.loads.length c3, .slice A4 R.was.free.length c4, .slice A5 R.ch.length c5⟩) (R := (R.laid k (widen R.room l))) k HR1.out).mono ?_
  rintro e w3 ⟨cv', rfl, hcv, hfv, hb⟩
  have HFR := Lib.hid (Fresh.with_cv (m := ⟨.slice A1 R.now.loads.length c1, .slice A2 R.now.free.length c2, .slice A3 R.was.loads.length c3, .slice A4 R.was.free.length c4, .slice A5 R.ch.length c5⟩) (m' := ⟨.slice (some ⟨g, 0, none⟩) R.now.loads.length d1, .slice B2 R.now.free.length d2, .slice A3 R.was.loads.length c3, .slice A4 R.was.free.length c4, .slice A5 R.ch.length c5⟩) (Fresh.mk5 (FreshV.row (H.out.row_ (i := 0) rfl)) (FreshV.row (H.out.row_ (i := 1) rfl)) FreshV.wl FreshV.wf FreshV.cv) H.out.low.size hfv)
  clear hfv
  obtain ⟨B3, d3, rfl⟩ := slice_shape hcv
  have hR := HR1.out.low hb
  have HR2 := Lib.hid (show RpAt w3 { (⟨.slice (some ⟨g, 0, none⟩) R.now.loads.length d1, .slice B2 R.now.free.length d2, .slice A3 R.was.loads.length c3, .slice A4 R.was.free.length c4, .slice A5 R.ch.length c5⟩ : Rm) with cv := .slice B3 (Rp.mark (R.laid k (widen R.room l)) k).ch.length d3 } (Rp.mark (R.laid k (widen R.room l)) k) from ⟨hR.bn, hR.bw, ⟨hR.sn.1, hR.sn.2.1, hR.sn.2.2.1, hR.sn.2.2.2.1, by have h9 : (Rp.mark (R.laid k (widen R.room l)) k).ch.length ≤ R.ch.length + 1 := mark_len (R.laid k (widen R.room l)) k; have := HS.out; omega⟩, hR.nl, hR.nf, hR.wl, hR.wf, hcv⟩)
  have H2 := Lib.hid (H.out.grew hb); clear H hb hcv hR HR1; have H := H2; clear H2
  have HB2 := Lib.hid (H.out.at_ (i := 0) rfl)
  go_wp2_with (rw [wpl_id]; first
   | (refine wpl_staT H 0 rfl rfl _ _ _ rfl (wnt rfl) (by exact rfl) (by exact rfl) Tryz.sizeOf48 (by kernel_rfl) (by kernel_rfl) (by kernel_rfl) (splice_whole (n := 25) (by kernel_rfl) (by kernel_rfl)) (fun w' H2 HT2 => ?_); simp only [List.set_cons_succ, List.set_cons_zero] at H2; clear H; have H := H2; clear H2))
  exact bodyPost_ret (res_cell1 rfl rfl (H.out.at_ (i := 0) rfl) (Tryz.isAgg48 _) (Tryz.sizeOf48 _) rfl) rfl ⟨_, rfl, HR2.out.put HB2.out HT2.out, HFR.out, H.out.low⟩
end Go.Proofs.YtklppnknllbfnaaGreat
