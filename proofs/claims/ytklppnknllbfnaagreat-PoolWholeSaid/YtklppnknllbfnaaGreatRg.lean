/- Walks: the document's pool: Take. Printed by mk_rg.py. -/
import Derived.Test.YtklppnknllbfnaaGreatRf
namespace Go.Proofs.YtklppnknllbfnaaGreat
open Go.RowKit Go.Maps
set_option maxRecDepth 8000
set_option linter.unusedSimpArgs false
theorem row_shapeC {w : World} {bs e n : Nat} {v : Value} {xs : List Value} (h : w.ownsRow bs e 1 v n xs) (h0 : 0 < n) : ∃ g c, v = .slice (some ⟨g, 0, none⟩) n c ∧ n ≤ c := by
 rcases h.2 with ⟨_, e2⟩ | ⟨g, c, cur, e, _, _, h5, _⟩
 ·omega
 ·exact ⟨g, c, e, h5⟩
theorem appLt {ls : List (List Nat)} {l : List Nat} (h : ∀ x ∈ ls, ∀ b ∈ x, b < 256) (hl : ∀ b ∈ l, b < 256) : ∀ x ∈ ls ++ [l], ∀ b ∈ x, b < 256 := by
 intro x hx
 rcases List.mem_append.1 hx with h1 | h1
 ·exact h x h1
 ·simp at h1; subst h1; exact hl
theorem row_cut {w : World} {bs e g c N n : Nat} {xs : List Value} (h : w.ownsRow bs e 1 (.slice (some ⟨g, 0, none⟩) N c) N xs) (hn : n ≤ N) : w.ownsRow bs e 1 (.slice (some ⟨g, 0, none⟩) n c) n (xs.take n) := by
 refine ⟨by rw [List.length_take, h.1]; omega, ?_⟩
 rcases h.2 with ⟨e1, _⟩ | ⟨g', cap, cur, e1, h1, h2, h3, h4, h5, h6⟩
 ·cases e1
 ·simp only [Value.slice.injEq, Option.some.injEq, Addr.mk.injEq, and_true, true_and] at e1
  obtain ⟨rfl, rfl⟩ := e1
  refine .inr ⟨g, c, cur, rfl, h1, h2, by omega, h4, h5, ?_⟩
  rw [← h6, List.take_take, Nat.mul_one, Nat.mul_one, Nat.min_eq_left hn]
set_option maxHeartbeats 4000000 in
theorem Take_ref {w : World} {m : Rm} {R : Rp} (h : RpAt w m R) (hs : R.now.loads.length ≤ 1000 ∧ R.now.free.length ≤ 1000 ∧ R.ch.length ≤ 1000) (hr : R.room ≤ 5000) (hfb : ∀ k ∈ R.now.free, k < R.now.loads.length) :
  Calls Tryz.prog 21 #[.agg (pc m R)] w fun e w' => ∃ m', e = .returned (.tuple #[.agg (pc m' R.take.2.2), .int .i64 R.take.1, .int .i64 R.take.2.1]) ∧ RpAt w' m' R.take.2.2 ∧ Fresh w.heap.size m m' ∧ Below w.heap.size w w' := by
 have H := Lib.hid (Bxs.start w)
 have HW := Lib.hid h
 obtain ⟨A1, c1, A2, c2, A3, c3, A4, c4, A5, c5, rfl⟩ := h.shape
 have HC := Lib.hid (fun w' (k : Below w.heap.size w w') => copied_ref R.now.roots (HW.out.nl.low k) (HW.out.nf.low k) HW.out.sn.1 HW.out.sn.2.1)
 have HS := Lib.hid hs
 have HR5 := Lib.hid hr
 have HFB := Lib.hid hfb
 have hfl : (R.now.free.length : Int) ≤ 1000 := by omega
 have hll : (R.now.loads.length : Int) ≤ 1000 := by omega
 clear h hs hfb
 unfold Rp.take
 by_cases hf : R.now.free = []
 ·rw [if_neg (by simp [hf])]
  have hf0 : R.now.free.length = 0 := by rw [hf]; rfl
  have hz : ¬ (0 : Int) < R.now.free.length := by omega
  by_cases hp : R.pages ≤ R.now.loads.length
  ·rw [if_pos hp]
   have hp' : (R.pages : Int) ≤ R.now.loads.length := by omega
   clear hp hf hf0
   go_enter Tryz.func21, Tryz.ntmps21
   go_wp2_with (rw [wpl_id]; first
    | (refine wpl_box H _ _ rfl (wnt rfl) rfl (fun b1 w' H2 => ?_); clear H; have H := H2; clear H2)
    | (refine wpl_new H _ rfl (wnt rfl) Tryz.zeroValue48 (cs := z48) rfl (fun b2 w' H2 => ?_); clear H; have H := H2; clear H2)
    | (refine wpl_lda H 1 rfl _ _ rfl (wnt rfl) (by exact rfl) Tryz.isAgg46 Tryz.sizeOf46 (by kernel_rfl) (cs := sc (.slice A1 R.now.loads.length c1) (.slice A2 R.now.free.length c2) R.now.roots) rfl ?_))
   refine (HC.out _ H.out.low).mono ?_
   rintro e w2 ⟨lv, fv, rfl, hr1, hr2, hb⟩
   obtain ⟨B1, d1, rfl⟩ := slice_shape hr1
   obtain ⟨B2, d2, rfl⟩ := slice_shape hr2
   have H2 := Lib.hid (H.out.own2 hb hr1 hr2 (by decide)); clear H hr1 hr2 hb; have H := H2; clear H2
   go_wp2_with (rw [wpl_id]; first
    | (refine wpl_new H _ rfl (wnt rfl) Tryz.zeroValue46 (cs := z46) rfl (fun b3 w' H2 => ?_); clear H; have H := H2; clear H2)
    | (refine wpl_sta H 0 rfl rfl _ _ _ rfl (wnt rfl) (by exact rfl) (by exact rfl) Tryz.sizeOf46 (by kernel_rfl) (by kernel_rfl) (by kernel_rfl) (splice_whole (n := 10) (by kernel_rfl) (by kernel_rfl)) (fun w' H2 => ?_); simp only [List.set_cons_succ, List.set_cons_zero] at H2; clear H; have H := H2; clear H2)
    | (refine wpl_ld H 0 rfl _ _ rfl (wnt rfl) (by exact rfl) (notAgg _ (by decide)) (by exact rfl) ?_)
    | (refine wpl_ld H 2 rfl _ _ rfl (wnt rfl) (by exact rfl) (notAgg _ (by decide)) (by exact rfl) ?_)
    | (refine wpl_lda H 2 rfl _ _ rfl (wnt rfl) (by exact rfl) Tryz.isAgg48 Tryz.sizeOf48 (by kernel_rfl) (whole_take (by kernel_rfl)) ?_)
    | (refine wpl_sta H 1 rfl rfl _ _ _ rfl (wnt rfl) (by exact rfl) (by exact rfl) Tryz.sizeOf48 (by kernel_rfl) (by kernel_rfl) (by kernel_rfl) (splice_whole (n := 25) (by kernel_rfl) (by kernel_rfl)) (fun w' H2 => ?_); simp only [List.set_cons_succ, List.set_cons_zero] at H2; clear H; have H := H2; clear H2))
   exact bodyPost_ret (res_cell2 rfl rfl (H.out.at_ (i := 1) rfl) (Tryz.isAgg48 _) (Tryz.sizeOf48 _) rfl) rfl ⟨_, rfl, HW.out.low H.out.low, Fresh.refl, H.out.low⟩
  ·rw [if_neg hp]
   have hp' : ¬ (R.pages : Int) ≤ R.now.loads.length := by omega
   obtain ⟨k, hk⟩ : ∃ k, k = R.now.loads.length := ⟨_, rfl⟩
   have HK := Lib.hid hk
   clear hp hf hf0 hk
   go_enter Tryz.func21, Tryz.ntmps21
   go_wp2_with (rw [wpl_id]; first
    | (refine wpl_box H _ _ rfl (wnt rfl) rfl (fun b1 w' H2 => ?_); clear H; have H := H2; clear H2)
    | (refine wpl_new H _ rfl (wnt rfl) Tryz.zeroValue48 (cs := z48) rfl (fun b2 w' H2 => ?_); clear H; have H := H2; clear H2)
    | (refine wpl_lda H 1 rfl _ _ rfl (wnt rfl) (by exact rfl) Tryz.isAgg46 Tryz.sizeOf46 (by kernel_rfl) (cs := sc (.slice A1 R.now.loads.length c1) (.slice A2 R.now.free.length c2) R.now.roots) rfl ?_))
   refine (HC.out _ H.out.low).mono ?_
   rintro e w2 ⟨lv, fv, rfl, hr1, hr2, hb⟩
   obtain ⟨B1, d1, rfl⟩ := slice_shape hr1
   obtain ⟨B2, d2, rfl⟩ := slice_shape hr2
   have H2 := Lib.hid (H.out.own2 hb hr1 hr2 (by decide)); clear H hr1 hr2 hb; have H := H2; clear H2
   go_wp2_with (rw [wpl_id]; first
    | (refine wpl_new H _ rfl (wnt rfl) Tryz.zeroValue46 (cs := z46) rfl (fun b3 w' H2 => ?_); clear H; have H := H2; clear H2)
    | (refine wpl_sta H 0 rfl rfl _ _ _ rfl (wnt rfl) (by exact rfl) (by exact rfl) Tryz.sizeOf46 (by kernel_rfl) (by kernel_rfl) (by kernel_rfl) (splice_whole (n := 10) (by kernel_rfl) (by kernel_rfl)) (fun w' H2 => ?_); simp only [List.set_cons_succ, List.set_cons_zero] at H2; clear H; have H := H2; clear H2)
    | (refine wpl_ld H 0 rfl _ _ rfl (wnt rfl) (by exact rfl) (notAgg _ (by decide)) (by exact rfl) ?_)
    | (refine wpl_ld H 2 rfl _ _ rfl (wnt rfl) (by exact rfl) (notAgg _ (by decide)) (by exact rfl) ?_)
    | (refine wpl_lit1 el9 H _ rfl (wnt rfl) (by (conv => lhs; whnf) <;> exact rfl) (.inl ⟨_, rfl⟩) (fun b w' H2 => ?_); clear H; have H := H2; clear H2)
    | (refine wpl_app el9 H 1 rfl _ _ rfl (wnt rfl) rfl rfl (H.out.row_ (i := 0) rfl) (by simp [Value.oneCell']) (by have := HS.out; dsimp only; omega) (rfl) rfl (fun A c w' H2 => ?_); simp only [List.set_cons_succ, List.set_cons_zero] at H2; clear H; have H := H2; clear H2)
    | (refine wpl_st H 0 rfl rfl _ _ _ rfl (wnt rfl) (by exact rfl) (by (conv => lhs; whnf) <;> exact rfl) (oneSize _ (by decide)) rfl (by kernel_rfl) (cs := sc (.slice A (R.now.loads.length + 1) c) (.slice B2 R.now.free.length d2) R.now.roots) rfl (fun w' H2 => ?_); simp only [List.set_cons_succ, List.set_cons_zero] at H2; clear H; have H := H2; clear H2))
   obtain ⟨g, c', e⟩ := row_shape (H.out.row_ (i := 1) rfl) (Nat.succ_pos _)
   injection e with e1 e0 e2
   clear e0
   subst e1 e2
   have hkk : (R.now.loads.length : Int) < R.now.loads.length + 1 := by omega
   have HWD := Lib.hid (show ∀ w_, Calls Tryz.prog 60 #[.agg (pc ⟨.slice A1 R.now.loads.length c1, .slice A2 R.now.free.length c2, .slice A3 R.was.loads.length c3, .slice A4 R.was.free.length c4, .slice A5 R.ch.length c5⟩ R), .string ⟨#[]⟩] w_ fun e w' => e = .returned (.string (str (widen R.room []))) ∧ Below w_.heap.size w_ w' from fun w_ => wide_ref (l := []) (by simp) HR5.out)
   obtain ⟨Sb0, Sb0u, Sb0m, Sb0t⟩ := lay (fun v : World => Bxs w v [⟨b3, sc (.slice (some ⟨g, 0, none⟩) (R.now.loads.length + 1) c) (.slice B2 R.now.free.length d2) R.now.roots, 46⟩, ⟨b2, z48, 48⟩, ⟨b1, pc ⟨.slice A1 R.now.loads.length c1, .slice A2 R.now.free.length c2, .slice A3 R.was.loads.length c3, .slice A4 R.was.free.length c4, .slice A5 R.ch.length c5⟩ R, 48⟩] [⟨9, 1, .slice (some ⟨b, 0, none⟩) 1 1, 1, [.string ⟨#[]⟩]⟩, ⟨9, 1, .slice (some ⟨g, 0, none⟩) (R.now.loads.length + 1) c, R.now.loads.length + 1, strs R.now.loads ++ [Value.string ⟨#[]⟩]⟩, ⟨3, 1, .slice B2 R.now.free.length d2, R.now.free.length, nums R.now.free⟩]) (Bxs.stands _ _ _)
   refine wp_region_X (S := Sb0) (by kernel_rfl) (Sb0m.out _ (H.out.drew)) ?_
   refine wpX_t 0 ?_ Sb0t.out rfl rfl (by kernel_rfl) (fun _ _ _ h => h) rfl ?_ ?_
   rotate_left
   ·(intro w_ hS; go_simp; try with_reducible rfl)
   simp only [sL]
   refine wpX_take (i := 1) (v := (.slice (some ⟨g, 0, none⟩) (R.now.loads.length + 1) c)) Sb0t.out rfl rfl (by kernel_rfl) (by kernel_rfl) (by kernel_rfl) (by kernel_rfl) (fun _ _ _ h => h) (SteadyX.value (by rfl) (fun w_ hS => by have q0 := Sb0u.out _ hS; exact exec_load 42 (.tmp 41) rfl (vx := .pointer (some ⟨b3, 0, none⟩)) rfl (run_load_one (Tryz.isAgg42 _) (q0.at_ (i := 0) rfl) rfl))) ?_
   simp only [sL]
   refine wpX_t 2 ?_ Sb0t.out rfl rfl (by kernel_rfl) (fun _ _ _ h => h) rfl ?_ ?_
   rotate_left
   ·(intro w_ hS; go_simp; try with_reducible rfl)
   simp only [sL]
   refine wpX_take (i := 3) (v := .agg (pc ⟨.slice A1 R.now.loads.length c1, .slice A2 R.now.free.length c2, .slice A3 R.was.loads.length c3, .slice A4 R.was.free.length c4, .slice A5 R.ch.length c5⟩ R)) Sb0t.out rfl rfl (by kernel_rfl) (by kernel_rfl) (by kernel_rfl) (by kernel_rfl) (fun _ _ _ h => h) (SteadyX.value (by rfl) (fun w_ hS => by have q0 := Sb0u.out _ hS; exact exec_load 48 (.tmp 1) rfl (vx := .pointer (some ⟨b1, 0, none⟩)) rfl (run_load_whole (Tryz.isAgg48 _) (Tryz.sizeOf48 _) (q0.at_ (i := 2) rfl) rfl))) ?_
   simp only [sL]
   refine wpX_take (i := 4) Sb0t.out rfl rfl (by kernel_rfl) (by kernel_rfl) (by kernel_rfl) (by kernel_rfl) (fun _ _ _ h => h) (SteadyX.call (by rfl) (fun w_ hS => HWD.out w_) (fun w_ hS => by (go_simp))) ?_
   simp only [sL]
   refine wpX_t 5 ?_ Sb0t.out rfl rfl (by kernel_rfl) (fun _ _ _ h => h) rfl ?_ ?_
   rotate_left
   ·(intro w_ hS; go_simp; try with_reducible rfl)
   simp only [sL]
   refine wpX_one (i := 6) (by kernel_rfl) (fun w_ hS => ?_)
   have q0 := Sb0u.out _ hS
   obtain ⟨Sb1, Sb1u, Sb1m, Sb1t⟩ := lay (fun v : World => Bxs w v [⟨b3, sc (.slice (some ⟨g, 0, none⟩) (R.now.loads.length + 1) c) (.slice B2 R.now.free.length d2) R.now.roots, 46⟩, ⟨b2, z48, 48⟩, ⟨b1, pc ⟨.slice A1 R.now.loads.length c1, .slice A2 R.now.free.length c2, .slice A3 R.was.loads.length c3, .slice A4 R.was.free.length c4, .slice A5 R.ch.length c5⟩ R, 48⟩] [⟨9, 1, .slice (some ⟨b, 0, none⟩) 1 1, 1, [.string ⟨#[]⟩]⟩, ⟨9, 1, .slice (some ⟨g, 0, none⟩) (R.now.loads.length + 1) c, R.now.loads.length + 1, (strs R.now.loads ++ [Value.string ⟨#[]⟩]).set R.now.loads.length (.string (str (widen R.room [])))⟩, ⟨3, 1, .slice B2 R.now.free.length d2, R.now.free.length, nums R.now.free⟩]) (Bxs.stands _ _ _)
   have st_ : Sb1 (w_.setCell ⟨g, R.now.loads.length, none⟩ (.string (str (widen R.room [])))) := Sb1m.out _ (q0.rowset (i := 1) rfl rfl (R.now.loads.length) (.string (str (widen R.room []))))
   refine wpX_store (i := 6) (w' := (w_.setCell ⟨g, R.now.loads.length, none⟩ (.string (str (widen R.room []))))) Sb1 rfl rfl (by rfl) (by exact exec_store 9 (.tmp 46) (.tmp 45) rfl (vx := .pointer (some ⟨g, R.now.loads.length, none⟩)) (by go_simp) (vy := .string (str (widen R.room []))) rfl (q0.rowstore (j := 1) rfl rfl (Tryz.sizeOf9 _) rfl (by rw [Nat.mul_one]; exact Nat.lt_succ_self _))) Sb1t.out (.inl (by kernel_rfl)) st_ ?_
   clear hS st_  q0
   clear w_
   refine wpX_done (by kernel_rfl) (fun W hS => ?_) _
   have q0 := Sb1u.out _ hS
   clear hS Sb0u Sb0m Sb0t Sb1u Sb1m Sb1t
   clear Sb0 Sb1
   have H := Lib.hid q0
   clear q0
   go_wp2_with (rw [wpl_id]; first
    | (refine wpl_lda H 0 rfl _ _ rfl (wnt rfl) (by exact rfl) Tryz.isAgg46 Tryz.sizeOf46 (by kernel_rfl) (whole_take (by kernel_rfl)) ?_)
    | (refine wpl_sta H 2 rfl rfl _ _ _ rfl (wnt rfl) (by exact rfl) (by exact rfl) Tryz.sizeOf46 (by kernel_rfl) (by kernel_rfl) (by kernel_rfl) rfl (fun w' H2 => ?_); simp only [List.set_cons_succ, List.set_cons_zero] at H2; clear H; have H := H2; clear H2)
    | (refine wpl_st H 2 rfl rfl _ _ _ rfl (wnt rfl) (by exact rfl) (by (conv => lhs; whnf) <;> exact rfl) (oneSize _ (by decide)) rfl (by kernel_rfl) rfl (fun w' H2 => ?_); simp only [List.set_cons_succ, List.set_cons_zero] at H2; clear H; have H := H2; clear H2)
    | (refine wpl_lda H 2 rfl _ _ rfl (wnt rfl) (by exact rfl) Tryz.isAgg48 Tryz.sizeOf48 (by kernel_rfl) (whole_take (by kernel_rfl)) ?_))
   have hn1 : RowS w' (.slice (some ⟨g, 0, none⟩) (R.now.loads.length + 1) c) (R.now.loads ++ [widen R.room []]) := by
    have hr := row_base0 (H.out.row_ (i := 1) rfl)
    dsimp only at hr
    have e9 : (strs R.now.loads ++ [Value.string ⟨#[]⟩]).set R.now.loads.length (.string (str (widen R.room []))) = strs (R.now.loads ++ [widen R.room []]) := by
     have hlen : (strs R.now.loads).length = R.now.loads.length := by unfold strs; simp
     rw [← hlen, List.set_append_right _ _ (Nat.le_refl _), Nat.sub_self]
     unfold strs
     simp
    rw [e9] at hr
    unfold RowS
    rw [List.length_append]
    exact hr
   have hn2 : RowI w' (.slice B2 R.now.free.length d2) R.now.free := row_base0 (H.out.row_ (i := 2) rfl)
   have HR1 := Lib.hid (show RpAt w' ⟨.slice (some ⟨g, 0, none⟩) (R.now.loads.length + 1) c, .slice B2 R.now.free.length d2, .slice A3 R.was.loads.length c3, .slice A4 R.was.free.length c4, .slice A5 R.ch.length c5⟩ ({ R with now := { R.now with loads := R.now.loads ++ [widen R.room []] }, moved := true } : Rp) from ⟨appLt HW.out.bn (widen_lt (by simp)), HW.out.bw, ⟨by show (R.now.loads ++ [_]).length ≤ _; rw [List.length_append]; have := HS.out; simp; omega, HW.out.sn.2⟩, hn1, hn2, HW.out.wl.low H.out.low, HW.out.wf.low H.out.low, HW.out.cv.low H.out.low⟩)
   clear hn1 hn2
   refine (changed_ref (m := ⟨.slice (some ⟨g, 0, none⟩) (R.now.loads.length + 1) c, .slice B2 R.now.free.length d2, .slice A3 R.was.loads.length c3, .slice A4 R.was.free.length c4, .slice A5 R.ch.length c5⟩) (R := ({ R with now := { R.now with loads := R.now.loads ++ [widen R.room []] }, moved := true } : Rp)) R.now.loads.length HR1.out).mono ?_
   rintro e w3 ⟨cv', rfl, hcv, hfv, hb⟩
   have HFR := Lib.hid (Fresh.with_cv (m := ⟨.slice A1 R.now.loads.length c1, .slice A2 R.now.free.length c2, .slice A3 R.was.loads.length c3, .slice A4 R.was.free.length c4, .slice A5 R.ch.length c5⟩) (m' := ⟨.slice (some ⟨g, 0, none⟩) (R.now.loads.length + 1) c, .slice B2 R.now.free.length d2, .slice A3 R.was.loads.length c3, .slice A4 R.was.free.length c4, .slice A5 R.ch.length c5⟩) (Fresh.mk5 (FreshV.row (H.out.row_ (i := 1) rfl)) (FreshV.row (H.out.row_ (i := 2) rfl)) FreshV.wl FreshV.wf FreshV.cv) H.out.low.size hfv)
   clear hfv
   obtain ⟨B3, d3, rfl⟩ := slice_shape hcv
   have hR := HR1.out.low hb
   have HR2 := Lib.hid (show RpAt w3 { (⟨.slice (some ⟨g, 0, none⟩) (R.now.loads.length + 1) c, .slice B2 R.now.free.length d2, .slice A3 R.was.loads.length c3, .slice A4 R.was.free.length c4, .slice A5 R.ch.length c5⟩ : Rm) with cv := .slice B3 (Rp.mark ({ R with now := { R.now with loads := R.now.loads ++ [widen R.room []] }, moved := true } : Rp) R.now.loads.length).ch.length d3 } (Rp.mark ({ R with now := { R.now with loads := R.now.loads ++ [widen R.room []] }, moved := true } : Rp) R.now.loads.length) from ⟨hR.bn, hR.bw, ⟨hR.sn.1, hR.sn.2.1, hR.sn.2.2.1, hR.sn.2.2.2.1, by have h9 : (Rp.mark ({ R with now := { R.now with loads := R.now.loads ++ [widen R.room []] }, moved := true } : Rp) R.now.loads.length).ch.length ≤ R.ch.length + 1 := mark_len ({ R with now := { R.now with loads := R.now.loads ++ [widen R.room []] }, moved := true } : Rp) R.now.loads.length; have := HS.out; omega⟩, hR.nl, hR.nf, hR.wl, hR.wf, hcv⟩)
   have H2 := Lib.hid (H.out.grew hb); clear H hb hcv hR HR1; have H := H2; clear H2
   have HB2 := Lib.hid (H.out.at_ (i := 1) rfl)
   go_wp2_with (rw [wpl_id]; first
    | (refine wpl_staT H 1 rfl rfl _ _ _ rfl (wnt rfl) (by exact rfl) (by exact rfl) Tryz.sizeOf48 (by kernel_rfl) (by kernel_rfl) (by kernel_rfl) (splice_whole (n := 25) (by kernel_rfl) (by kernel_rfl)) (fun w' H2 HT2 => ?_); simp only [List.set_cons_succ, List.set_cons_zero] at H2; clear H; have H := H2; clear H2))
   exact bodyPost_ret (res_cell2 rfl rfl (H.out.at_ (i := 1) rfl) (Tryz.isAgg48 _) (Tryz.sizeOf48 _) rfl) rfl ⟨_, rfl, HR2.out.put HB2.out HT2.out, HFR.out, H.out.low⟩
 ·rw [if_pos hf]
  obtain ⟨n, hn⟩ : ∃ n, R.now.free.length = n + 1 := ⟨R.now.free.length - 1, by have := List.length_pos_iff.2 hf; omega⟩
  obtain ⟨k, hk⟩ : ∃ k, k = R.now.top := ⟨_, rfl⟩
  have hkf : R.now.free[n]? = some k := by
   rw [hk]
   unfold Rs.top
   rw [List.getLast?_eq_getElem?, hn, Nat.add_sub_cancel, List.getElem?_eq_getElem (by omega)]
   rfl
  have hkb : k < R.now.loads.length := HFB.out k (List.mem_of_getElem? hkf)
  have HG := Lib.hid (show (nums R.now.free)[n]? = some (.int .i64 (k : Nat)) by
   obtain ⟨hx, e⟩ := List.getElem?_eq_some_iff.1 hkf
   rw [nums_get hx, e])
  have HK := Lib.hid hkb
  have HDL := Lib.hid (show R.now.free.dropLast.length = n ∧ (nums R.now.free).take n = nums R.now.free.dropLast by
   refine ⟨by rw [List.length_dropLast, hn]; rfl, ?_⟩
   unfold nums
   rw [← List.map_take, List.dropLast_eq_take, hn, Nat.add_sub_cancel])
  have HN := Lib.hid hn
  have hkb' : (k : Int) < R.now.loads.length := by omega
  have hn' : (R.now.free.length : Int) = n + 1 := by omega
  have hpos : (0 : Int) < R.now.free.length := by omega
  rw [← hk]
  clear hf hn hkf hkb
  unfold Rp.tookFree
  rw [← hk]
  have HKT := Lib.hid hk
  clear hk
  go_enter Tryz.func21, Tryz.ntmps21
  go_wp2_with (rw [wpl_id]; first
   | (refine wpl_box H _ _ rfl (wnt rfl) rfl (fun b1 w' H2 => ?_); clear H; have H := H2; clear H2)
   | (refine wpl_new H _ rfl (wnt rfl) Tryz.zeroValue48 (cs := z48) rfl (fun b2 w' H2 => ?_); clear H; have H := H2; clear H2)
   | (refine wpl_lda H 1 rfl _ _ rfl (wnt rfl) (by exact rfl) Tryz.isAgg46 Tryz.sizeOf46 (by kernel_rfl) (cs := sc (.slice A1 R.now.loads.length c1) (.slice A2 R.now.free.length c2) R.now.roots) rfl ?_))
  refine (HC.out _ H.out.low).mono ?_
  rintro e w2 ⟨lv, fv, rfl, hr1, hr2, hb⟩
  obtain ⟨g, d1, rfl⟩ := row_shape hr1 (by have := HK.out; omega)
  obtain ⟨g2, d2, rfl, hcap⟩ := row_shapeC hr2 (by have := HN.out; omega)
  have hcapN : n ≤ d2 := by have := HN.out; omega
  have hcapI : (n : Int) ≤ d2 := by omega
  clear hcap
  have H2 := Lib.hid (H.out.own2 hb hr1 hr2 (by decide)); clear H hr1 hr2 hb; have H := H2; clear H2
  go_wp2_with (rw [wpl_id]; first
   | (refine wpl_new H _ rfl (wnt rfl) Tryz.zeroValue46 (cs := z46) rfl (fun b3 w' H2 => ?_); clear H; have H := H2; clear H2)
   | (refine wpl_sta H 0 rfl rfl _ _ _ rfl (wnt rfl) (by exact rfl) (by exact rfl) Tryz.sizeOf46 (by kernel_rfl) (by kernel_rfl) (by kernel_rfl) (splice_whole (n := 10) (by kernel_rfl) (by kernel_rfl)) (fun w' H2 => ?_); simp only [List.set_cons_succ, List.set_cons_zero] at H2; clear H; have H := H2; clear H2)
   | (refine wpl_ld H 0 rfl _ _ rfl (wnt rfl) (by exact rfl) (notAgg _ (by decide)) (by exact rfl) ?_)
   | (refine wpl_ldr (H.out.row_ (i := 1) rfl) _ _ rfl (wnt rfl) (by exact rfl) (notAgg _ (by decide)) HG.out ?_)
   | (refine wpl_st H 0 rfl rfl _ _ _ rfl (wnt rfl) (by exact rfl) (by (conv => lhs; whnf) <;> exact rfl) (oneSize _ (by decide)) rfl (by kernel_rfl) (cs := sc (.slice (some ⟨g, 0, none⟩) R.now.loads.length d1) (.slice (some ⟨g2, 0, none⟩) n d2) R.now.roots) rfl (fun w' H2 => ?_); simp only [List.set_cons_succ, List.set_cons_zero] at H2; clear H; have H := H2; clear H2))
  have HWD := Lib.hid (show ∀ w_, Calls Tryz.prog 60 #[.agg (pc ⟨.slice A1 R.now.loads.length c1, .slice A2 R.now.free.length c2, .slice A3 R.was.loads.length c3, .slice A4 R.was.free.length c4, .slice A5 R.ch.length c5⟩ R), .string ⟨#[]⟩] w_ fun e w' => e = .returned (.string (str (widen R.room []))) ∧ Below w_.heap.size w_ w' from fun w_ => wide_ref (l := []) (by simp) HR5.out)
  obtain ⟨Sc0, Sc0u, Sc0m, Sc0t⟩ := lay (fun v : World => Bxs w v [⟨b3, sc (.slice (some ⟨g, 0, none⟩) R.now.loads.length d1) (.slice (some ⟨g2, 0, none⟩) n d2) R.now.roots, 46⟩, ⟨b2, z48, 48⟩, ⟨b1, pc ⟨.slice A1 R.now.loads.length c1, .slice A2 R.now.free.length c2, .slice A3 R.was.loads.length c3, .slice A4 R.was.free.length c4, .slice A5 R.ch.length c5⟩ R, 48⟩] [⟨9, 1, .slice (some ⟨g, 0, none⟩) R.now.loads.length d1, R.now.loads.length, strs R.now.loads⟩, ⟨3, 1, .slice (some ⟨g2, 0, none⟩) R.now.free.length d2, R.now.free.length, nums R.now.free⟩]) (Bxs.stands _ _ _)
  refine wp_region_X (S := Sc0) (by kernel_rfl) (Sc0m.out _ (H.out.drew)) ?_
  refine wpX_t 0 ?_ Sc0t.out rfl rfl (by kernel_rfl) (fun _ _ _ h => h) rfl ?_ ?_
  rotate_left
  ·(intro w_ hS; go_simp; try with_reducible rfl)
  simp only [sL]
  refine wpX_take (i := 1) (v := (.slice (some ⟨g, 0, none⟩) R.now.loads.length d1)) Sc0t.out rfl rfl (by kernel_rfl) (by kernel_rfl) (by kernel_rfl) (by kernel_rfl) (fun _ _ _ h => h) (SteadyX.value (by rfl) (fun w_ hS => by have q0 := Sc0u.out _ hS; exact exec_load 42 (.tmp 41) rfl (vx := .pointer (some ⟨b3, 0, none⟩)) rfl (run_load_one (Tryz.isAgg42 _) (q0.at_ (i := 0) rfl) rfl))) ?_
  simp only [sL]
  refine wpX_t 2 ?_ Sc0t.out rfl rfl (by kernel_rfl) (fun _ _ _ h => h) rfl ?_ ?_
  rotate_left
  ·(intro w_ hS; go_simp; try with_reducible rfl)
  simp only [sL]
  refine wpX_take (i := 3) (v := .agg (pc ⟨.slice A1 R.now.loads.length c1, .slice A2 R.now.free.length c2, .slice A3 R.was.loads.length c3, .slice A4 R.was.free.length c4, .slice A5 R.ch.length c5⟩ R)) Sc0t.out rfl rfl (by kernel_rfl) (by kernel_rfl) (by kernel_rfl) (by kernel_rfl) (fun _ _ _ h => h) (SteadyX.value (by rfl) (fun w_ hS => by have q0 := Sc0u.out _ hS; exact exec_load 48 (.tmp 1) rfl (vx := .pointer (some ⟨b1, 0, none⟩)) rfl (run_load_whole (Tryz.isAgg48 _) (Tryz.sizeOf48 _) (q0.at_ (i := 2) rfl) rfl))) ?_
  simp only [sL]
  refine wpX_take (i := 4) Sc0t.out rfl rfl (by kernel_rfl) (by kernel_rfl) (by kernel_rfl) (by kernel_rfl) (fun _ _ _ h => h) (SteadyX.call (by rfl) (fun w_ hS => HWD.out w_) (fun w_ hS => by (go_simp))) ?_
  simp only [sL]
  refine wpX_t 5 ?_ Sc0t.out rfl rfl (by kernel_rfl) (fun _ _ _ h => h) rfl ?_ ?_
  rotate_left
  ·(intro w_ hS; go_simp; try with_reducible rfl)
  simp only [sL]
  refine wpX_one (i := 6) (by kernel_rfl) (fun w_ hS => ?_)
  have q0 := Sc0u.out _ hS
  obtain ⟨Sc1, Sc1u, Sc1m, Sc1t⟩ := lay (fun v : World => Bxs w v [⟨b3, sc (.slice (some ⟨g, 0, none⟩) R.now.loads.length d1) (.slice (some ⟨g2, 0, none⟩) n d2) R.now.roots, 46⟩, ⟨b2, z48, 48⟩, ⟨b1, pc ⟨.slice A1 R.now.loads.length c1, .slice A2 R.now.free.length c2, .slice A3 R.was.loads.length c3, .slice A4 R.was.free.length c4, .slice A5 R.ch.length c5⟩ R, 48⟩] [⟨9, 1, .slice (some ⟨g, 0, none⟩) R.now.loads.length d1, R.now.loads.length, (strs R.now.loads).set k (.string (str (widen R.room [])))⟩, ⟨3, 1, .slice (some ⟨g2, 0, none⟩) R.now.free.length d2, R.now.free.length, nums R.now.free⟩]) (Bxs.stands _ _ _)
  have st_ : Sc1 (w_.setCell ⟨g, k, none⟩ (.string (str (widen R.room [])))) := Sc1m.out _ (q0.rowset (i := 0) rfl rfl (k) (.string (str (widen R.room []))))
  refine wpX_store (i := 6) (w' := (w_.setCell ⟨g, k, none⟩ (.string (str (widen R.room []))))) Sc1 rfl rfl (by rfl) (by exact exec_store 9 (.tmp 46) (.tmp 45) rfl (vx := .pointer (some ⟨g, k, none⟩)) (by go_simp) (vy := .string (str (widen R.room []))) rfl (q0.rowstore (j := 0) rfl rfl (Tryz.sizeOf9 _) rfl (by rw [Nat.mul_one]; exact HK.out))) Sc1t.out (.inl (by kernel_rfl)) st_ ?_
  clear hS st_  q0
  clear w_
  refine wpX_done (by kernel_rfl) (fun W hS => ?_) _
  have q0 := Sc1u.out _ hS
  clear hS Sc0u Sc0m Sc0t Sc1u Sc1m Sc1t
  clear Sc0 Sc1
  have H := Lib.hid q0
  clear q0
  go_wp2_with (rw [wpl_id]; first
   | (refine wpl_lda H 0 rfl _ _ rfl (wnt rfl) (by exact rfl) Tryz.isAgg46 Tryz.sizeOf46 (by kernel_rfl) (whole_take (by kernel_rfl)) ?_)
   | (refine wpl_sta H 2 rfl rfl _ _ _ rfl (wnt rfl) (by exact rfl) (by exact rfl) Tryz.sizeOf46 (by kernel_rfl) (by kernel_rfl) (by kernel_rfl) rfl (fun w' H2 => ?_); simp only [List.set_cons_succ, List.set_cons_zero] at H2; clear H; have H := H2; clear H2)
   | (refine wpl_st H 2 rfl rfl _ _ _ rfl (wnt rfl) (by exact rfl) (by (conv => lhs; whnf) <;> exact rfl) (oneSize _ (by decide)) rfl (by kernel_rfl) rfl (fun w' H2 => ?_); simp only [List.set_cons_succ, List.set_cons_zero] at H2; clear H; have H := H2; clear H2)
   | (refine wpl_lda H 2 rfl _ _ rfl (wnt rfl) (by exact rfl) Tryz.isAgg48 Tryz.sizeOf48 (by kernel_rfl) (whole_take (by kernel_rfl)) ?_))
  have hn1 : RowS w' (.slice (some ⟨g, 0, none⟩) R.now.loads.length d1) (R.now.loads.set k (widen R.room [])) := by
   have hr := row_base0 (H.out.row_ (i := 0) rfl)
   dsimp only at hr
   rw [strs_set] at hr
   unfold RowS
   rw [List.length_set]
   exact hr
  have hn2 : RowI w' (.slice (some ⟨g2, 0, none⟩) n d2) R.now.free.dropLast := by
   have hr := row_base0 (H.out.row_ (i := 1) rfl)
   dsimp only at hr
   have hr := row_cut hr (n := n) (by have := HN.out; omega)
   rw [HDL.out.2] at hr
   unfold RowI
   rw [HDL.out.1]
   exact hr
  have HR1 := Lib.hid (show RpAt w' ⟨.slice (some ⟨g, 0, none⟩) R.now.loads.length d1, .slice (some ⟨g2, 0, none⟩) n d2, .slice A3 R.was.loads.length c3, .slice A4 R.was.free.length c4, .slice A5 R.ch.length c5⟩ ({ R with now := { R.now with loads := R.now.loads.set k (widen R.room []), free := R.now.free.dropLast }, moved := true } : Rp) from ⟨setLt HW.out.bn (widen_lt (by simp)), HW.out.bw, ⟨by show (R.now.loads.set k _).length ≤ _; rw [List.length_set]; exact HW.out.sn.1, by show R.now.free.dropLast.length ≤ _; rw [HDL.out.1]; have := HN.out; have := HS.out; omega, HW.out.sn.2.2⟩, hn1, hn2, HW.out.wl.low H.out.low, HW.out.wf.low H.out.low, HW.out.cv.low H.out.low⟩)
  clear hn1 hn2
  refine (changed_ref (m := ⟨.slice (some ⟨g, 0, none⟩) R.now.loads.length d1, .slice (some ⟨g2, 0, none⟩) n d2, .slice A3 R.was.loads.length c3, .slice A4 R.was.free.length c4, .slice A5 R.ch.length c5⟩) (R := ({ R with now := { R.now with loads := R.now.loads.set k (widen R.room []), free := R.now.free.dropLast }, moved := true } : Rp)) k HR1.out).mono ?_
  rintro e w3 ⟨cv', rfl, hcv, hfv, hb⟩
  have HFR := Lib.hid (Fresh.with_cv (m := ⟨.slice A1 R.now.loads.length c1, .slice A2 R.now.free.length c2, .slice A3 R.was.loads.length c3, .slice A4 R.was.free.length c4, .slice A5 R.ch.length c5⟩) (m' := ⟨.slice (some ⟨g, 0, none⟩) R.now.loads.length d1, .slice (some ⟨g2, 0, none⟩) n d2, .slice A3 R.was.loads.length c3, .slice A4 R.was.free.length c4, .slice A5 R.ch.length c5⟩) (Fresh.mk5 (FreshV.row (H.out.row_ (i := 0) rfl)) (FreshV.row (row_cut (H.out.row_ (i := 1) rfl) (n := n) (by have := HN.out; omega))) FreshV.wl FreshV.wf FreshV.cv) H.out.low.size hfv)
  clear hfv
  obtain ⟨B3, d3, rfl⟩ := slice_shape hcv
  have hR := HR1.out.low hb
  have HR2 := Lib.hid (show RpAt w3 { (⟨.slice (some ⟨g, 0, none⟩) R.now.loads.length d1, .slice (some ⟨g2, 0, none⟩) n d2, .slice A3 R.was.loads.length c3, .slice A4 R.was.free.length c4, .slice A5 R.ch.length c5⟩ : Rm) with cv := .slice B3 (Rp.mark ({ R with now := { R.now with loads := R.now.loads.set k (widen R.room []), free := R.now.free.dropLast }, moved := true } : Rp) k).ch.length d3 } (Rp.mark ({ R with now := { R.now with loads := R.now.loads.set k (widen R.room []), free := R.now.free.dropLast }, moved := true } : Rp) k) from ⟨hR.bn, hR.bw, ⟨hR.sn.1, hR.sn.2.1, hR.sn.2.2.1, hR.sn.2.2.2.1, by have h9 : (Rp.mark ({ R with now := { R.now with loads := R.now.loads.set k (widen R.room []), free := R.now.free.dropLast }, moved := true } : Rp) k).ch.length ≤ R.ch.length + 1 := mark_len ({ R with now := { R.now with loads := R.now.loads.set k (widen R.room []), free := R.now.free.dropLast }, moved := true } : Rp) k; have := HS.out; omega⟩, hR.nl, hR.nf, hR.wl, hR.wf, hcv⟩)
  have H2 := Lib.hid (H.out.grew hb); clear H hb hcv hR HR1; have H := H2; clear H2
  have HB2 := Lib.hid (H.out.at_ (i := 1) rfl)
  go_wp2_with (rw [wpl_id]; first
   | (refine wpl_staT H 1 rfl rfl _ _ _ rfl (wnt rfl) (by exact rfl) (by exact rfl) Tryz.sizeOf48 (by kernel_rfl) (by kernel_rfl) (by kernel_rfl) (splice_whole (n := 25) (by kernel_rfl) (by kernel_rfl)) (fun w' H2 HT2 => ?_); simp only [List.set_cons_succ, List.set_cons_zero] at H2; clear H; have H := H2; clear H2))
  exact bodyPost_ret (res_cell2 rfl rfl (H.out.at_ (i := 1) rfl) (Tryz.isAgg48 _) (Tryz.sizeOf48 _) rfl) rfl ⟨_, rfl, HR2.out.put HB2.out HT2.out, HFR.out, H.out.low⟩
end Go.Proofs.YtklppnknllbfnaaGreat
