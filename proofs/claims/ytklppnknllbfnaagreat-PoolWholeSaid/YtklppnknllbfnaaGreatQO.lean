/- Walks: what the document's pool is behind an act (followed). Printed by mk_qo.py. -/
import Derived.Test.YtklppnknllbfnaaGreatQL
namespace Go.Proofs.YtklppnknllbfnaaGreat
open Go.RowKit Go.Maps
set_option maxRecDepth 8000
set_option linter.unusedSimpArgs false
theorem stands_rd2 (A : Option Addr) (l : List Nat) : Stands fun v => Rd v v.heap.size A l := fun _ _ k h => h.below k k.size
abbrev L38 (b3 bx b1 : Nat) (x : ActP) (m : Rm) (R : Rp) : List Bx := [⟨b3, z48, 48⟩, ⟨bx, #[.int .i64 x.k, .int .i64 x.pg, .int .i64 x.ln, .int .u8 (x.B : Nat)], 39⟩, ⟨b1, pc m R, 48⟩]
set_option maxHeartbeats 16000000 in
theorem foll_any {w : World} {m : Rm} {R : Rp} (x : ActP) (hB : x.B < 256) (h : RpAt w m R) (hs : R.now.loads.length ≤ 1000 ∧ R.now.free.length ≤ 1000 ∧ R.ch.length ≤ 1000) (hr : R.room ≤ 5000) (hfb : ∀ k ∈ R.now.free, k < R.now.loads.length) :
  Calls Tryz.prog 38 #[.agg (pc m R), .agg #[.int .i64 x.k, .int .i64 x.pg, .int .i64 x.ln, .int .u8 (x.B : Nat)]] w fun e w' => ∃ m', e = .returned (.agg (pc m' (R.foll x))) ∧ RpAt w' m' (R.foll x) ∧ Fresh w.heap.size m m' ∧ Below w.heap.size w w' := by
 have HQ := Lib.hid (Qx.one h)
 have HXB := Lib.hid hB
 have HSM := Lib.hid (And.intro hs (And.intro hr hfb))
 have e1 : IntKind.i64.wrap (x.k.tmod 9) = x.k.tmod 9 := by
  have t1 := Int.lt_tmod_of_pos x.k (show (0 : Int) < 9 by omega)
  have t2 := Int.tmod_lt_of_pos x.k (show (0 : Int) < 9 by omega)
  rw [IntKind.wrap_i64]; omega
 have e2 : IntKind.i64.wrap (x.k.tmod 9 + 9) = x.k.tmod 9 + 9 := by
  have t1 := Int.lt_tmod_of_pos x.k (show (0 : Int) < 9 by omega)
  have t2 := Int.tmod_lt_of_pos x.k (show (0 : Int) < 9 by omega)
  rw [IntKind.wrap_i64]; omega
 have e4 : (x.k.tmod 9 + 9).tmod 9 = (kindOf x.k : Int) := rem_mod x.k 9 (by omega)
 have hkd : kindOf x.k ≤ 8 := by unfold kindOf; omega
 obtain ⟨kd, hkE⟩ : ∃ kd, kd = kindOf x.k := ⟨_, rfl⟩
 rw [← hkE] at hkd e4
 have hkc : kd = 0 ∨ (kd = 1 ∨ kd = 2) ∨ kd = 3 ∨ kd = 4 ∨ kd = 5 ∨ kd = 6 ∨ kd = 7 ∨ kd = 8 := by omega
 clear hkd h hB hs hr hfb
 rcases hkc with rfl | h12 | rfl | rfl | rfl | rfl | rfl | rfl
 ·have hF : R.foll x = R.take.2.2 := by unfold Rp.foll; rw [if_pos (by omega)]
  rw [hF]
  have e5 : (x.k.tmod 9 + 9).tmod 9 = 0 := by rw [e4]; rfl
  clear e4 hF hkE
  go_enter Tryz.func38, Tryz.ntmps38
  go_wp2_with (rw [wpl_id]; first
   | (refine wplx_box HQ 48 _ rfl (wnt rfl) rfl (fun b1 w' H2 => ?_); clear HQ; have HQ := H2; clear H2)
   | (refine wplx_box HQ 39 _ rfl (wnt rfl) rfl (fun bx w' H2 => ?_); clear HQ; have HQ := H2; clear H2)
   | (refine wplx_new HQ _ rfl (wnt rfl) Tryz.zeroValue48 (cs := z48) rfl (fun b3 w' H2 => ?_); clear HQ; have HQ := H2; clear H2)
   | (refine wpl_ld (Lib.hid HQ.out.bx) 1 rfl _ _ rfl (wnt rfl) (by exact rfl) (notAgg _ (by decide)) rfl ?_)
   | (refine wpl_lda (Lib.hid HQ.out.bx) 2 rfl _ _ rfl (wnt rfl) (by exact rfl) Tryz.isAgg48 Tryz.sizeOf48 (by kernel_rfl) (whole_take (by kernel_rfl)) ?_))
  refine (Take_ref (m := m) (R := R) (HQ.out.rp _ List.mem_cons_self) HSM.out.1 HSM.out.2.1 HSM.out.2.2).mono ?_
  rintro e w6 ⟨m2, rfl, hr2, hf2, hb2⟩
  have HF := Lib.hid (hf2.mono HQ.out.low.size)
  have HQ2 := Lib.hid (HQ.out.ref List.mem_cons_self hr2 hf2 hb2)
  clear HQ hr2 hf2 hb2
  have HQ := HQ2
  clear HQ2
  go_wp2_with (rw [wpl_id]; first
   | (refine wplx_new HQ _ rfl (wnt rfl) Tryz.zeroValue48 (cs := z48) rfl (fun b16 w' H2 => ?_); clear HQ; have HQ := H2; clear H2)
   | (refine wplx_sta HQ 0 rfl rfl _ _ _ rfl (wnt rfl) (by exact rfl) (by exact rfl) Tryz.sizeOf48 (by kernel_rfl) (HQ.out.rp _ List.mem_cons_self).ones (by kernel_rfl) (by kernel_rfl) (splice_whole (n := 25) (by kernel_rfl) (by kernel_rfl)) (fun w' H2 => ?_); simp only [List.set_cons_succ, List.set_cons_zero] at H2; clear HQ; have HQ := H2; clear H2)
   | (refine wpl_lda (Lib.hid HQ.out.bx) 0 rfl _ _ rfl (wnt rfl) (by exact rfl) Tryz.isAgg48 Tryz.sizeOf48 (by kernel_rfl) (whole_take (by kernel_rfl)) ?_)
   | (refine wplx_sta HQ 1 rfl rfl _ _ _ rfl (wnt rfl) (by exact rfl) (by exact rfl) Tryz.sizeOf48 (by kernel_rfl) (HQ.out.rp _ List.mem_cons_self).ones (by kernel_rfl) (by kernel_rfl) (splice_whole (n := 25) (by kernel_rfl) (by kernel_rfl)) (fun w' H2 => ?_); simp only [List.set_cons_succ, List.set_cons_zero] at H2; clear HQ; have HQ := H2; clear H2))
  exact bodyPost_ret (res_cell rfl rfl (HQ.out.bx.at_ (i := 1) rfl) (Tryz.isAgg48 _) (Tryz.sizeOf48 _) rfl) rfl ⟨_, rfl, HQ.out.rp _ List.mem_cons_self, HF.out, HQ.out.low⟩
 ·have hF : R.foll x = (R.write x.pg (List.replicate (lenOf x.ln) x.B)).2 := by unfold Rp.foll; rw [if_neg (by omega)]; rw [if_neg (by omega)]; rw [if_neg (by omega)]; rw [if_neg (by omega)]; rw [if_neg (by omega)]; rw [if_neg (by omega)]
  rw [hF]
  obtain ⟨W2, hW2⟩ : ∃ W2, W2 = (R.write x.pg (List.replicate (lenOf x.ln) x.B)).2 := ⟨_, rfl⟩
  rw [← hW2]
  have HWR := Lib.hid (show ∀ w_, RpAt w_ m R → Calls Tryz.prog 33 #[.agg (pc m R), .int .i64 x.pg, .string (str (List.replicate (lenOf x.ln) x.B))] w_ fun e w' => ∃ u, e = .returned u ∧ ∃ m2 er, u = .tuple #[.agg (pc m2 W2), .int .i64 er] ∧ RpAt w' m2 W2 ∧ Fresh w_.heap.size m m2 ∧ Below w_.heap.size w_ w' from by
   intro w_ hq
   have hc := Write_ref x.pg (List.replicate (lenOf x.ln) x.B) hq HSM.out.1 HSM.out.2.1 (by simp; exact lenOf_le x.ln) (by intro b hb; rw [List.eq_of_mem_replicate hb]; exact HXB.out)
   rw [← hW2] at hc
   refine hc.mono ?_
   rintro e w' ⟨m', rfl, hr, hf, hb⟩
   exact ⟨_, rfl, m', _, rfl, hr, hf, hb⟩)
  clear hW2
  have e50 : ¬ (x.k.tmod 9 + 9).tmod 9 = 0 := by rw [e4]; omega
  have e53 : ¬ (x.k.tmod 9 + 9).tmod 9 = 3 := by rw [e4]; omega
  have e54 : ¬ (x.k.tmod 9 + 9).tmod 9 = 4 := by rw [e4]; omega
  have e55 : ¬ (x.k.tmod 9 + 9).tmod 9 = 5 := by rw [e4]; omega
  have e56 : ¬ (x.k.tmod 9 + 9).tmod 9 = 6 := by rw [e4]; omega
  have e57 : ¬ (x.k.tmod 9 + 9).tmod 9 = 7 := by rw [e4]; omega
  have e58 : ¬ (x.k.tmod 9 + 9).tmod 9 = 8 := by rw [e4]; omega
  clear e4 hF hkE h12
  go_enter Tryz.func38, Tryz.ntmps38
  go_wp2_with (rw [wpl_id]; first
   | (refine wplx_box HQ 48 _ rfl (wnt rfl) rfl (fun b1 w' H2 => ?_); clear HQ; have HQ := H2; clear H2)
   | (refine wplx_box HQ 39 _ rfl (wnt rfl) rfl (fun bx w' H2 => ?_); clear HQ; have HQ := H2; clear H2)
   | (refine wplx_new HQ _ rfl (wnt rfl) Tryz.zeroValue48 (cs := z48) rfl (fun b3 w' H2 => ?_); clear HQ; have HQ := H2; clear H2)
   | (refine wpl_ld (Lib.hid HQ.out.bx) 1 rfl _ _ rfl (wnt rfl) (by exact rfl) (notAgg _ (by decide)) rfl ?_))
  obtain ⟨Sw0, Sw0u, Sw0m, Sw0t⟩ := lay (fun v : World => Qx w v (L38 b3 bx b1 x m R) [] (fun _ => True) [(m, R)]) (Qx.stands _ _ _ _ _)
  refine wp_region_X (S := Sw0) (by kernel_rfl) (Sw0m.out _ (HQ.out.grew ⟨rfl, rfl, rfl, Nat.le_refl _, fun _ _ => rfl⟩)) ?_
  clear HQ
  refine wpX_take (i := 0) (v := .agg (pc m R)) Sw0t.out rfl rfl (by kernel_rfl) (by kernel_rfl) (by kernel_rfl) (by kernel_rfl) (fun _ _ _ h => h) (SteadyX.value (by rfl) (fun w_ hS => by have q0 := Sw0u.out _ hS; exact exec_load 48 (.tmp 2) rfl (vx := .pointer (some ⟨b1, 0, none⟩)) rfl (run_load_whole (Tryz.isAgg48 _) (Tryz.sizeOf48 _) (q0.bx.at_ (i := 2) rfl) rfl))) ?_
  simp only [sL]
  refine wpX_t 1 ?_ Sw0t.out rfl rfl (by kernel_rfl) (fun _ _ _ h => h) rfl ?_ ?_
  rotate_left
  ·(intro w_ hS; go_simp; try with_reducible rfl)
  simp only [sL]
  refine wpX_take (i := 2) (v := .int .i64 x.pg) Sw0t.out rfl rfl (by kernel_rfl) (by kernel_rfl) (by kernel_rfl) (by kernel_rfl) (fun _ _ _ h => h) (SteadyX.value (by rfl) (fun w_ hS => by have q0 := Sw0u.out _ hS; exact exec_load 3 (.tmp 70) rfl (vx := .pointer (some ⟨bx, 1, none⟩)) rfl (run_load_one (Tryz.isAgg3 _) (cs := #[.int .i64 x.k, .int .i64 x.pg, .int .i64 x.ln, .int .u8 (x.B : Nat)]) (q0.bx.at_ (i := 1) rfl) rfl))) ?_
  simp only [sL]
  refine wpX_take (i := 3) (v := .agg #[.int .i64 x.k, .int .i64 x.pg, .int .i64 x.ln, .int .u8 (x.B : Nat)]) Sw0t.out rfl rfl (by kernel_rfl) (by kernel_rfl) (by kernel_rfl) (by kernel_rfl) (fun _ _ _ h => h) (SteadyX.value (by rfl) (fun w_ hS => by have q0 := Sw0u.out _ hS; exact exec_load 39 (.tmp 3) rfl (vx := .pointer (some ⟨bx, 0, none⟩)) rfl (run_load_whole (Tryz.isAgg39 _) (Tryz.sizeOf39 _) (q0.bx.at_ (i := 1) rfl) rfl))) ?_
  simp only [sL]
  refine wpX_two (i := 4) (j := 10) (by kernel_rfl) (fun w_ hS => ?_) (fun w_ hS => ?_)
  ·have q0 := Sw0u.out _ hS
   refine wpX_call rfl rfl (by rfl) (load_tup (actload_any x.k x.pg x.ln x.B w_ HXB.out)) (by go_simp) ?_
   rintro _ w1_ ⟨A, c, rfl, hrd, hb1⟩
   obtain ⟨Sw1, Sw1u, Sw1m, Sw1t⟩ := lay (fun v : World => Qx w v (L38 b3 bx b1 x m R) [] (fun _ => True) [(m, R)] ∧ Rd v v.heap.size A (List.replicate (lenOf x.ln) x.B)) ((Qx.stands _ _ _ _ _).and (stands_rd2 _ _))
   refine ⟨Sw1, Sw1t.out, .inr (fun v h => Sw0m.out _ (by obtain ⟨q0, q1⟩ := Sw1u.out _ h; exact q0)), Sw1m.out _ ⟨(Qx.stands _ _ _ _ _) _ _ hb1 q0, hrd⟩, ?_⟩
   clear hS q0
   clear hrd hb1
   clear w1_ w_
   simp only [sL]
   refine wpX_take (i := 5) (v := .string (str (List.replicate (lenOf x.ln) x.B))) Sw1t.out rfl rfl (by kernel_rfl) (by kernel_rfl) (by kernel_rfl) (by kernel_rfl) (fun _ _ _ h => h) (SteadyX.value (by rfl) (fun w_ hS => by obtain ⟨q0, q1⟩ := Sw1u.out _ hS; exact exec_convert 31 9 (.tmp 73) rfl (vx := .slice A (lenOf x.ln) c) rfl (by have h := run_str c q1; rw [List.length_replicate] at h; exact h))) ?_
   simp only [sL]
   refine wpX_two (i := 6) (j := 10) (by kernel_rfl) (fun w_ hS => ?_) (fun w_ hS => ?_)
   ·obtain ⟨q0, q1⟩ := Sw1u.out _ hS
    refine wpX_call rfl rfl (by rfl) (HWR.out w_ (q0.rp _ List.mem_cons_self)) (by go_simp) ?_
    rintro _ w1_ ⟨m2, er, rfl, hr2, hf2, hb2⟩
    obtain ⟨Sw2, Sw2u, Sw2m, Sw2t⟩ := lay (fun v : World => Qx w v (L38 b3 bx b1 x m R) [] (fun _ => True) [(m, R)] ∧ Rd v v.heap.size A (List.replicate (lenOf x.ln) x.B) ∧ Qx w v (L38 b3 bx b1 x m R) [] (fun _ => True) [(m2, W2), (m, R)] ∧ Fresh w.heap.size m m2) ((Qx.stands _ _ _ _ _).and ((stands_rd2 _ _).and ((Qx.stands _ _ _ _ _).and (stands_const _))))
    refine ⟨Sw2, Sw2t.out, .inr (fun v h => Sw1m.out _ (by obtain ⟨q0, q1, q2, q3⟩ := Sw2u.out _ h; exact ⟨q0, q1⟩)), Sw2m.out _ ⟨(Qx.stands _ _ _ _ _) _ _ hb2 q0, (stands_rd2 _ _) _ _ hb2 q1, q0.ref List.mem_cons_self hr2 hf2 hb2, hf2.mono q0.low.size⟩, ?_⟩
    clear hS q0 q1
    clear hr2 hf2 hb2
    clear w1_ w_
    simp only [sL]
    refine wpX_t 7 ?_ Sw2t.out rfl rfl (by kernel_rfl) (fun _ _ _ h => h) rfl ?_ ?_
    rotate_left
    ·(intro w_ hS; go_simp; try with_reducible rfl)
    simp only [sL]
    refine wpX_t 8 ?_ Sw2t.out rfl rfl (by kernel_rfl) (fun _ _ _ h => h) rfl ?_ ?_
    rotate_left
    ·(intro w_ hS; go_simp; try with_reducible rfl)
    simp only [sL]
    refine wpX_t 9 ?_ Sw2t.out rfl rfl (by kernel_rfl) (fun _ _ _ h => h) rfl ?_ ?_
    rotate_left
    ·(intro w_ hS; go_simp; try with_reducible rfl)
    simp only [sL]
    refine wpX_one (i := 10) (by kernel_rfl) (fun w_ hS => ?_)
    obtain ⟨q0, q1, q2, q3⟩ := Sw2u.out _ hS
    obtain ⟨G, hG⟩ : ∃ G, G = w_.heap.size := ⟨_, rfl⟩
    have qn := q2.push z48 48
    rw [← hG] at qn
    have hbn := (Below.refl w_.heap.size w_).alloc (Nat.le_refl _) (.cells z48 48)
    obtain ⟨Sw3, Sw3u, Sw3m, Sw3t⟩ := lay (fun v : World => Qx w v (L38 b3 bx b1 x m R) [] (fun _ => True) [(m, R)] ∧ Rd v v.heap.size A (List.replicate (lenOf x.ln) x.B) ∧ Qx w v (L38 b3 bx b1 x m R) [] (fun _ => True) [(m2, W2), (m, R)] ∧ Fresh w.heap.size m m2 ∧ Qx w v (⟨G, z48, 48⟩ :: (L38 b3 bx b1 x m R)) [] (fun _ => True) [(m2, W2), (m, R)]) ((Qx.stands _ _ _ _ _).and ((stands_rd2 _ _).and ((Qx.stands _ _ _ _ _).and ((stands_const _).and (Qx.stands _ _ _ _ _)))))
    refine wpX_run (i := 10) (v := .pointer (some ⟨G, 0, none⟩)) (w' := w_.alloc (.cells z48 48)) Sw3 rfl rfl (by rfl) (by subst hG; exact exec_alloc rfl (Tryz.zeroValue48 _)) Sw3t.out (.inr fun v h => Sw2m.out _ (by obtain ⟨q0, q1, q2, q3, _⟩ := Sw3u.out _ h; exact ⟨q0, q1, q2, q3⟩)) (Sw3m.out _ ⟨(Qx.stands _ _ _ _ _) _ _ hbn q0, (stands_rd2 _ _) _ _ hbn q1, (Qx.stands _ _ _ _ _) _ _ hbn q2, (stands_const _) _ _ hbn q3, qn⟩) ?_
    clear hS qn hbn hG q0 q1 q2 q3
    clear w_
    simp only [sL]
    refine wpX_one (i := 11) (by kernel_rfl) (fun w_ hS => ?_)
    obtain ⟨q0, q1, q2, q3, q4⟩ := Sw3u.out _ hS
    obtain ⟨Sw4, Sw4u, Sw4m, Sw4t⟩ := lay (fun v : World => Qx w v (⟨G, splice z48 0 (pc m2 W2), 48⟩ :: (L38 b3 bx b1 x m R)) [] (fun _ => True) [(m2, W2), (m, R)] ∧ Fresh w.heap.size m m2) ((Qx.stands _ _ _ _ _).and (stands_const _))
    have st_ : Sw4 (w_.setRow G (splice z48 0 (pc m2 W2))) := Sw4m.out _ ⟨q4.setrow (i := 0) (e := ⟨G, z48, 48⟩) rfl (pc m2 W2) ⟨(by decide : (48 : Nat) ≠ 3), (by decide : (48 : Nat) ≠ 5), (by decide : (48 : Nat) ≠ 9)⟩, q3⟩
    refine wpX_store (i := 11) (w' := (w_.setRow G (splice z48 0 (pc m2 W2)))) Sw4 rfl rfl (by rfl) (by exact exec_store 48 (.tmp 14) (.tmp 76) rfl (vx := .pointer (some ⟨G, 0, none⟩)) rfl (vy := .agg (pc m2 W2)) rfl (run_store_agg (Tryz.sizeOf48 _) (q4.bx.at_ (i := 0) rfl) rfl (by decide) (fun x hx => List.all_eq_true.1 (q4.rp _ List.mem_cons_self).ones x hx))) Sw4t.out (.inl (by kernel_rfl)) st_ ?_
    clear hS st_  q0 q1 q2 q3 q4
    clear w_
    refine wpX_t 12 ?_ Sw4t.out rfl rfl (by kernel_rfl) (fun _ _ _ h => h) rfl ?_ ?_
    rotate_left
    ·(intro w_ hS; go_simp; try with_reducible rfl)
    simp only [sL]
    refine wpX_done (by kernel_rfl) (fun W9 hS => ?_) _
    obtain ⟨q0, q1⟩ := Sw4u.out _ hS
    clear hS Sw0u Sw0m Sw0t Sw1u Sw1m Sw1t Sw2u Sw2m Sw2t Sw3u Sw3m Sw3t Sw4u Sw4m Sw4t
    clear Sw0 Sw1 Sw2 Sw3 Sw4
    have HQ := Lib.hid q0
    have HF := Lib.hid q1
    clear q0 q1
    rw [splice_whole (n := 25) (by kernel_rfl) (by kernel_rfl)] at HQ
    unfold L38 at HQ
    go_wp2_with (rw [wpl_id]; first
     | (refine wpl_lda (Lib.hid HQ.out.bx) 0 rfl _ _ rfl (wnt rfl) (by exact rfl) Tryz.isAgg48 Tryz.sizeOf48 (by kernel_rfl) (whole_take (by kernel_rfl)) ?_)
     | (refine wplx_sta HQ 1 rfl rfl _ _ _ rfl (wnt rfl) (by exact rfl) (by exact rfl) Tryz.sizeOf48 (by kernel_rfl) (HQ.out.rp _ List.mem_cons_self).ones (by kernel_rfl) (by kernel_rfl) (splice_whole (n := 25) (by kernel_rfl) (by kernel_rfl)) (fun w' H2 => ?_); simp only [List.set_cons_succ, List.set_cons_zero] at H2; clear HQ; have HQ := H2; clear H2))
    exact bodyPost_ret (res_cell rfl rfl (HQ.out.bx.at_ (i := 1) rfl) (Tryz.isAgg48 _) (Tryz.sizeOf48 _) rfl) rfl ⟨_, rfl, HQ.out.rp _ List.mem_cons_self, HF.out, HQ.out.low⟩
   ·obtain ⟨q0, q1⟩ := Sw1u.out _ hS
    obtain ⟨G, hG⟩ : ∃ G, G = w_.heap.size := ⟨_, rfl⟩
    have qn := q0.push z48 48
    rw [← hG] at qn
    have hbn := (Below.refl w_.heap.size w_).alloc (Nat.le_refl _) (.cells z48 48)
    obtain ⟨Sw2, Sw2u, Sw2m, Sw2t⟩ := lay (fun v : World => Qx w v (L38 b3 bx b1 x m R) [] (fun _ => True) [(m, R)] ∧ Rd v v.heap.size A (List.replicate (lenOf x.ln) x.B) ∧ Qx w v (⟨G, z48, 48⟩ :: (L38 b3 bx b1 x m R)) [] (fun _ => True) [(m, R)]) ((Qx.stands _ _ _ _ _).and ((stands_rd2 _ _).and (Qx.stands _ _ _ _ _)))
    refine wpX_run (i := 10) (v := .pointer (some ⟨G, 0, none⟩)) (w' := w_.alloc (.cells z48 48)) Sw2 rfl rfl (by rfl) (by subst hG; exact exec_alloc rfl (Tryz.zeroValue48 _)) Sw2t.out (.inr fun v h => Sw1m.out _ (by obtain ⟨q0, q1, _⟩ := Sw2u.out _ h; exact ⟨q0, q1⟩)) (Sw2m.out _ ⟨(Qx.stands _ _ _ _ _) _ _ hbn q0, (stands_rd2 _ _) _ _ hbn q1, qn⟩) ?_
    clear hS qn hbn hG q0 q1
    clear w_
    simp only [sL]
    refine wpX_one (i := 6) (by kernel_rfl) (fun w_ hS => ?_)
    obtain ⟨q0, q1, q2⟩ := Sw2u.out _ hS
    refine wpX_call rfl rfl (by rfl) (HWR.out w_ (q2.rp _ List.mem_cons_self)) (by go_simp) ?_
    rintro _ w1_ ⟨m2, er, rfl, hr2, hf2, hb2⟩
    obtain ⟨Sw3, Sw3u, Sw3m, Sw3t⟩ := lay (fun v : World => Qx w v (L38 b3 bx b1 x m R) [] (fun _ => True) [(m, R)] ∧ Rd v v.heap.size A (List.replicate (lenOf x.ln) x.B) ∧ Qx w v (⟨G, z48, 48⟩ :: (L38 b3 bx b1 x m R)) [] (fun _ => True) [(m, R)] ∧ Qx w v (⟨G, z48, 48⟩ :: (L38 b3 bx b1 x m R)) [] (fun _ => True) [(m2, W2), (m, R)] ∧ Fresh w.heap.size m m2) ((Qx.stands _ _ _ _ _).and ((stands_rd2 _ _).and ((Qx.stands _ _ _ _ _).and ((Qx.stands _ _ _ _ _).and (stands_const _)))))
    refine ⟨Sw3, Sw3t.out, .inr (fun v h => Sw2m.out _ (by obtain ⟨q0, q1, q2, q3, q4⟩ := Sw3u.out _ h; exact ⟨q0, q1, q2⟩)), Sw3m.out _ ⟨(Qx.stands _ _ _ _ _) _ _ hb2 q0, (stands_rd2 _ _) _ _ hb2 q1, (Qx.stands _ _ _ _ _) _ _ hb2 q2, q2.ref List.mem_cons_self hr2 hf2 hb2, hf2.mono q2.low.size⟩, ?_⟩
    clear hS q0 q1 q2
    clear hr2 hf2 hb2
    clear w1_ w_
    simp only [sL]
    refine wpX_t 7 ?_ Sw3t.out rfl rfl (by kernel_rfl) (fun _ _ _ h => h) rfl ?_ ?_
    rotate_left
    ·(intro w_ hS; go_simp; try with_reducible rfl)
    simp only [sL]
    refine wpX_t 8 ?_ Sw3t.out rfl rfl (by kernel_rfl) (fun _ _ _ h => h) rfl ?_ ?_
    rotate_left
    ·(intro w_ hS; go_simp; try with_reducible rfl)
    simp only [sL]
    refine wpX_t 9 ?_ Sw3t.out rfl rfl (by kernel_rfl) (fun _ _ _ h => h) rfl ?_ ?_
    rotate_left
    ·(intro w_ hS; go_simp; try with_reducible rfl)
    simp only [sL]
    refine wpX_one (i := 11) (by kernel_rfl) (fun w_ hS => ?_)
    obtain ⟨q0, q1, q2, q3, q4⟩ := Sw3u.out _ hS
    obtain ⟨Sw4, Sw4u, Sw4m, Sw4t⟩ := lay (fun v : World => Qx w v (⟨G, splice z48 0 (pc m2 W2), 48⟩ :: (L38 b3 bx b1 x m R)) [] (fun _ => True) [(m2, W2), (m, R)] ∧ Fresh w.heap.size m m2) ((Qx.stands _ _ _ _ _).and (stands_const _))
    have st_ : Sw4 (w_.setRow G (splice z48 0 (pc m2 W2))) := Sw4m.out _ ⟨q3.setrow (i := 0) (e := ⟨G, z48, 48⟩) rfl (pc m2 W2) ⟨(by decide : (48 : Nat) ≠ 3), (by decide : (48 : Nat) ≠ 5), (by decide : (48 : Nat) ≠ 9)⟩, q4⟩
    refine wpX_store (i := 11) (w' := (w_.setRow G (splice z48 0 (pc m2 W2)))) Sw4 rfl rfl (by rfl) (by exact exec_store 48 (.tmp 14) (.tmp 76) rfl (vx := .pointer (some ⟨G, 0, none⟩)) rfl (vy := .agg (pc m2 W2)) rfl (run_store_agg (Tryz.sizeOf48 _) (q3.bx.at_ (i := 0) rfl) rfl (by decide) (fun x hx => List.all_eq_true.1 (q3.rp _ List.mem_cons_self).ones x hx))) Sw4t.out (.inl (by kernel_rfl)) st_ ?_
    clear hS st_  q0 q1 q2 q3 q4
    clear w_
    refine wpX_t 12 ?_ Sw4t.out rfl rfl (by kernel_rfl) (fun _ _ _ h => h) rfl ?_ ?_
    rotate_left
    ·(intro w_ hS; go_simp; try with_reducible rfl)
    simp only [sL]
    refine wpX_done (by kernel_rfl) (fun W9 hS => ?_) _
    obtain ⟨q0, q1⟩ := Sw4u.out _ hS
    clear hS Sw0u Sw0m Sw0t Sw1u Sw1m Sw1t Sw2u Sw2m Sw2t Sw3u Sw3m Sw3t Sw4u Sw4m Sw4t
    clear Sw0 Sw1 Sw2 Sw3 Sw4
    have HQ := Lib.hid q0
    have HF := Lib.hid q1
    clear q0 q1
    rw [splice_whole (n := 25) (by kernel_rfl) (by kernel_rfl)] at HQ
    unfold L38 at HQ
    go_wp2_with (rw [wpl_id]; first
     | (refine wpl_lda (Lib.hid HQ.out.bx) 0 rfl _ _ rfl (wnt rfl) (by exact rfl) Tryz.isAgg48 Tryz.sizeOf48 (by kernel_rfl) (whole_take (by kernel_rfl)) ?_)
     | (refine wplx_sta HQ 1 rfl rfl _ _ _ rfl (wnt rfl) (by exact rfl) (by exact rfl) Tryz.sizeOf48 (by kernel_rfl) (HQ.out.rp _ List.mem_cons_self).ones (by kernel_rfl) (by kernel_rfl) (splice_whole (n := 25) (by kernel_rfl) (by kernel_rfl)) (fun w' H2 => ?_); simp only [List.set_cons_succ, List.set_cons_zero] at H2; clear HQ; have HQ := H2; clear H2))
    exact bodyPost_ret (res_cell rfl rfl (HQ.out.bx.at_ (i := 1) rfl) (Tryz.isAgg48 _) (Tryz.sizeOf48 _) rfl) rfl ⟨_, rfl, HQ.out.rp _ List.mem_cons_self, HF.out, HQ.out.low⟩
  ·have q0 := Sw0u.out _ hS
   obtain ⟨G, hG⟩ : ∃ G, G = w_.heap.size := ⟨_, rfl⟩
   have qn := q0.push z48 48
   rw [← hG] at qn
   have hbn := (Below.refl w_.heap.size w_).alloc (Nat.le_refl _) (.cells z48 48)
   obtain ⟨Sw1, Sw1u, Sw1m, Sw1t⟩ := lay (fun v : World => Qx w v (L38 b3 bx b1 x m R) [] (fun _ => True) [(m, R)] ∧ Qx w v (⟨G, z48, 48⟩ :: (L38 b3 bx b1 x m R)) [] (fun _ => True) [(m, R)]) ((Qx.stands _ _ _ _ _).and (Qx.stands _ _ _ _ _))
   refine wpX_run (i := 10) (v := .pointer (some ⟨G, 0, none⟩)) (w' := w_.alloc (.cells z48 48)) Sw1 rfl rfl (by rfl) (by subst hG; exact exec_alloc rfl (Tryz.zeroValue48 _)) Sw1t.out (.inr fun v h => Sw0m.out _ (by obtain ⟨q0, _⟩ := Sw1u.out _ h; exact q0)) (Sw1m.out _ ⟨(Qx.stands _ _ _ _ _) _ _ hbn q0, qn⟩) ?_
   clear hS qn hbn hG q0
   clear w_
   simp only [sL]
   refine wpX_one (i := 4) (by kernel_rfl) (fun w_ hS => ?_)
   obtain ⟨q0, q1⟩ := Sw1u.out _ hS
   refine wpX_call rfl rfl (by rfl) (load_tup (actload_any x.k x.pg x.ln x.B w_ HXB.out)) (by go_simp) ?_
   rintro _ w1_ ⟨A, c, rfl, hrd, hb1⟩
   obtain ⟨Sw2, Sw2u, Sw2m, Sw2t⟩ := lay (fun v : World => Qx w v (L38 b3 bx b1 x m R) [] (fun _ => True) [(m, R)] ∧ Qx w v (⟨G, z48, 48⟩ :: (L38 b3 bx b1 x m R)) [] (fun _ => True) [(m, R)] ∧ Rd v v.heap.size A (List.replicate (lenOf x.ln) x.B)) ((Qx.stands _ _ _ _ _).and ((Qx.stands _ _ _ _ _).and (stands_rd2 _ _)))
   refine ⟨Sw2, Sw2t.out, .inr (fun v h => Sw1m.out _ (by obtain ⟨q0, q1, q2⟩ := Sw2u.out _ h; exact ⟨q0, q1⟩)), Sw2m.out _ ⟨(Qx.stands _ _ _ _ _) _ _ hb1 q0, (Qx.stands _ _ _ _ _) _ _ hb1 q1, hrd⟩, ?_⟩
   clear hS q0 q1
   clear hrd hb1
   clear w1_ w_
   simp only [sL]
   refine wpX_take (i := 5) (v := .string (str (List.replicate (lenOf x.ln) x.B))) Sw2t.out rfl rfl (by kernel_rfl) (by kernel_rfl) (by kernel_rfl) (by kernel_rfl) (fun _ _ _ h => h) (SteadyX.value (by rfl) (fun w_ hS => by obtain ⟨q0, q1, q2⟩ := Sw2u.out _ hS; exact exec_convert 31 9 (.tmp 73) rfl (vx := .slice A (lenOf x.ln) c) rfl (by have h := run_str c q2; rw [List.length_replicate] at h; exact h))) ?_
   simp only [sL]
   refine wpX_one (i := 6) (by kernel_rfl) (fun w_ hS => ?_)
   obtain ⟨q0, q1, q2⟩ := Sw2u.out _ hS
   refine wpX_call rfl rfl (by rfl) (HWR.out w_ (q1.rp _ List.mem_cons_self)) (by go_simp) ?_
   rintro _ w1_ ⟨m2, er, rfl, hr2, hf2, hb2⟩
   obtain ⟨Sw3, Sw3u, Sw3m, Sw3t⟩ := lay (fun v : World => Qx w v (L38 b3 bx b1 x m R) [] (fun _ => True) [(m, R)] ∧ Qx w v (⟨G, z48, 48⟩ :: (L38 b3 bx b1 x m R)) [] (fun _ => True) [(m, R)] ∧ Rd v v.heap.size A (List.replicate (lenOf x.ln) x.B) ∧ Qx w v (⟨G, z48, 48⟩ :: (L38 b3 bx b1 x m R)) [] (fun _ => True) [(m2, W2), (m, R)] ∧ Fresh w.heap.size m m2) ((Qx.stands _ _ _ _ _).and ((Qx.stands _ _ _ _ _).and ((stands_rd2 _ _).and ((Qx.stands _ _ _ _ _).and (stands_const _)))))
   refine ⟨Sw3, Sw3t.out, .inr (fun v h => Sw2m.out _ (by obtain ⟨q0, q1, q2, q3, q4⟩ := Sw3u.out _ h; exact ⟨q0, q1, q2⟩)), Sw3m.out _ ⟨(Qx.stands _ _ _ _ _) _ _ hb2 q0, (Qx.stands _ _ _ _ _) _ _ hb2 q1, (stands_rd2 _ _) _ _ hb2 q2, q1.ref List.mem_cons_self hr2 hf2 hb2, hf2.mono q1.low.size⟩, ?_⟩
   clear hS q0 q1 q2
   clear hr2 hf2 hb2
   clear w1_ w_
   simp only [sL]
   refine wpX_t 7 ?_ Sw3t.out rfl rfl (by kernel_rfl) (fun _ _ _ h => h) rfl ?_ ?_
   rotate_left
   ·(intro w_ hS; go_simp; try with_reducible rfl)
   simp only [sL]
   refine wpX_t 8 ?_ Sw3t.out rfl rfl (by kernel_rfl) (fun _ _ _ h => h) rfl ?_ ?_
   rotate_left
   ·(intro w_ hS; go_simp; try with_reducible rfl)
   simp only [sL]
   refine wpX_t 9 ?_ Sw3t.out rfl rfl (by kernel_rfl) (fun _ _ _ h => h) rfl ?_ ?_
   rotate_left
   ·(intro w_ hS; go_simp; try with_reducible rfl)
   simp only [sL]
   refine wpX_one (i := 11) (by kernel_rfl) (fun w_ hS => ?_)
   obtain ⟨q0, q1, q2, q3, q4⟩ := Sw3u.out _ hS
   obtain ⟨Sw4, Sw4u, Sw4m, Sw4t⟩ := lay (fun v : World => Qx w v (⟨G, splice z48 0 (pc m2 W2), 48⟩ :: (L38 b3 bx b1 x m R)) [] (fun _ => True) [(m2, W2), (m, R)] ∧ Fresh w.heap.size m m2) ((Qx.stands _ _ _ _ _).and (stands_const _))
   have st_ : Sw4 (w_.setRow G (splice z48 0 (pc m2 W2))) := Sw4m.out _ ⟨q3.setrow (i := 0) (e := ⟨G, z48, 48⟩) rfl (pc m2 W2) ⟨(by decide : (48 : Nat) ≠ 3), (by decide : (48 : Nat) ≠ 5), (by decide : (48 : Nat) ≠ 9)⟩, q4⟩
   refine wpX_store (i := 11) (w' := (w_.setRow G (splice z48 0 (pc m2 W2)))) Sw4 rfl rfl (by rfl) (by exact exec_store 48 (.tmp 14) (.tmp 76) rfl (vx := .pointer (some ⟨G, 0, none⟩)) rfl (vy := .agg (pc m2 W2)) rfl (run_store_agg (Tryz.sizeOf48 _) (q3.bx.at_ (i := 0) rfl) rfl (by decide) (fun x hx => List.all_eq_true.1 (q3.rp _ List.mem_cons_self).ones x hx))) Sw4t.out (.inl (by kernel_rfl)) st_ ?_
   clear hS st_  q0 q1 q2 q3 q4
   clear w_
   refine wpX_t 12 ?_ Sw4t.out rfl rfl (by kernel_rfl) (fun _ _ _ h => h) rfl ?_ ?_
   rotate_left
   ·(intro w_ hS; go_simp; try with_reducible rfl)
   simp only [sL]
   refine wpX_done (by kernel_rfl) (fun W9 hS => ?_) _
   obtain ⟨q0, q1⟩ := Sw4u.out _ hS
   clear hS Sw0u Sw0m Sw0t Sw1u Sw1m Sw1t Sw2u Sw2m Sw2t Sw3u Sw3m Sw3t Sw4u Sw4m Sw4t
   clear Sw0 Sw1 Sw2 Sw3 Sw4
   have HQ := Lib.hid q0
   have HF := Lib.hid q1
   clear q0 q1
   rw [splice_whole (n := 25) (by kernel_rfl) (by kernel_rfl)] at HQ
   unfold L38 at HQ
   go_wp2_with (rw [wpl_id]; first
    | (refine wpl_lda (Lib.hid HQ.out.bx) 0 rfl _ _ rfl (wnt rfl) (by exact rfl) Tryz.isAgg48 Tryz.sizeOf48 (by kernel_rfl) (whole_take (by kernel_rfl)) ?_)
    | (refine wplx_sta HQ 1 rfl rfl _ _ _ rfl (wnt rfl) (by exact rfl) (by exact rfl) Tryz.sizeOf48 (by kernel_rfl) (HQ.out.rp _ List.mem_cons_self).ones (by kernel_rfl) (by kernel_rfl) (splice_whole (n := 25) (by kernel_rfl) (by kernel_rfl)) (fun w' H2 => ?_); simp only [List.set_cons_succ, List.set_cons_zero] at H2; clear HQ; have HQ := H2; clear H2))
   exact bodyPost_ret (res_cell rfl rfl (HQ.out.bx.at_ (i := 1) rfl) (Tryz.isAgg48 _) (Tryz.sizeOf48 _) rfl) rfl ⟨_, rfl, HQ.out.rp _ List.mem_cons_self, HF.out, HQ.out.low⟩
 ·have hF : R.foll x = (R.give x.pg).2 := by unfold Rp.foll; rw [if_neg (by omega)]; rw [if_pos (by omega)]
  rw [hF]
  have e5 : (x.k.tmod 9 + 9).tmod 9 = 3 := by rw [e4]; rfl
  clear e4 hF hkE
  go_enter Tryz.func38, Tryz.ntmps38
  go_wp2_with (rw [wpl_id]; first
   | (refine wplx_box HQ 48 _ rfl (wnt rfl) rfl (fun b1 w' H2 => ?_); clear HQ; have HQ := H2; clear H2)
   | (refine wplx_box HQ 39 _ rfl (wnt rfl) rfl (fun bx w' H2 => ?_); clear HQ; have HQ := H2; clear H2)
   | (refine wplx_new HQ _ rfl (wnt rfl) Tryz.zeroValue48 (cs := z48) rfl (fun b3 w' H2 => ?_); clear HQ; have HQ := H2; clear H2)
   | (refine wpl_ld (Lib.hid HQ.out.bx) 1 rfl _ _ rfl (wnt rfl) (by exact rfl) (notAgg _ (by decide)) rfl ?_)
   | (refine wpl_lda (Lib.hid HQ.out.bx) 2 rfl _ _ rfl (wnt rfl) (by exact rfl) Tryz.isAgg48 Tryz.sizeOf48 (by kernel_rfl) (whole_take (by kernel_rfl)) ?_))
  refine (Give_ref (m := m) (R := R) x.pg (HQ.out.rp _ List.mem_cons_self) HSM.out.1).mono ?_
  rintro e w6 ⟨m2, rfl, hr2, hf2, hb2⟩
  have HF := Lib.hid (hf2.mono HQ.out.low.size)
  have HQ2 := Lib.hid (HQ.out.ref List.mem_cons_self hr2 hf2 hb2)
  clear HQ hr2 hf2 hb2
  have HQ := HQ2
  clear HQ2
  go_wp2_with (rw [wpl_id]; first
   | (refine wplx_new HQ _ rfl (wnt rfl) Tryz.zeroValue48 (cs := z48) rfl (fun b16 w' H2 => ?_); clear HQ; have HQ := H2; clear H2)
   | (refine wplx_sta HQ 0 rfl rfl _ _ _ rfl (wnt rfl) (by exact rfl) (by exact rfl) Tryz.sizeOf48 (by kernel_rfl) (HQ.out.rp _ List.mem_cons_self).ones (by kernel_rfl) (by kernel_rfl) (splice_whole (n := 25) (by kernel_rfl) (by kernel_rfl)) (fun w' H2 => ?_); simp only [List.set_cons_succ, List.set_cons_zero] at H2; clear HQ; have HQ := H2; clear H2)
   | (refine wpl_lda (Lib.hid HQ.out.bx) 0 rfl _ _ rfl (wnt rfl) (by exact rfl) Tryz.isAgg48 Tryz.sizeOf48 (by kernel_rfl) (whole_take (by kernel_rfl)) ?_)
   | (refine wplx_sta HQ 1 rfl rfl _ _ _ rfl (wnt rfl) (by exact rfl) (by exact rfl) Tryz.sizeOf48 (by kernel_rfl) (HQ.out.rp _ List.mem_cons_self).ones (by kernel_rfl) (by kernel_rfl) (splice_whole (n := 25) (by kernel_rfl) (by kernel_rfl)) (fun w' H2 => ?_); simp only [List.set_cons_succ, List.set_cons_zero] at H2; clear HQ; have HQ := H2; clear H2))
  exact bodyPost_ret (res_cell rfl rfl (HQ.out.bx.at_ (i := 1) rfl) (Tryz.isAgg48 _) (Tryz.sizeOf48 _) rfl) rfl ⟨_, rfl, HQ.out.rp _ List.mem_cons_self, HF.out, HQ.out.low⟩
 ·have hF : R.foll x = (R.setRoot x.pg x.ln).2 := by unfold Rp.foll; rw [if_neg (by omega)]; rw [if_neg (by omega)]; rw [if_pos (by omega)]
  rw [hF]
  have e5 : (x.k.tmod 9 + 9).tmod 9 = 4 := by rw [e4]; rfl
  clear e4 hF hkE
  go_enter Tryz.func38, Tryz.ntmps38
  go_wp2_with (rw [wpl_id]; first
   | (refine wplx_box HQ 48 _ rfl (wnt rfl) rfl (fun b1 w' H2 => ?_); clear HQ; have HQ := H2; clear H2)
   | (refine wplx_box HQ 39 _ rfl (wnt rfl) rfl (fun bx w' H2 => ?_); clear HQ; have HQ := H2; clear H2)
   | (refine wplx_new HQ _ rfl (wnt rfl) Tryz.zeroValue48 (cs := z48) rfl (fun b3 w' H2 => ?_); clear HQ; have HQ := H2; clear H2)
   | (refine wpl_ld (Lib.hid HQ.out.bx) 1 rfl _ _ rfl (wnt rfl) (by exact rfl) (notAgg _ (by decide)) rfl ?_)
   | (refine wpl_lda (Lib.hid HQ.out.bx) 2 rfl _ _ rfl (wnt rfl) (by exact rfl) Tryz.isAgg48 Tryz.sizeOf48 (by kernel_rfl) (whole_take (by kernel_rfl)) ?_))
  refine (SetRoot_ref (m := m) (R := R) x.pg x.ln (HQ.out.rp _ List.mem_cons_self)).mono ?_
  rintro e w6 ⟨m2, rfl, hr2, hf2, hb2⟩
  have HF := Lib.hid (hf2.mono HQ.out.low.size)
  have HQ2 := Lib.hid (HQ.out.ref List.mem_cons_self hr2 hf2 hb2)
  clear HQ hr2 hf2 hb2
  have HQ := HQ2
  clear HQ2
  go_wp2_with (rw [wpl_id]; first
   | (refine wplx_new HQ _ rfl (wnt rfl) Tryz.zeroValue48 (cs := z48) rfl (fun b16 w' H2 => ?_); clear HQ; have HQ := H2; clear H2)
   | (refine wplx_sta HQ 0 rfl rfl _ _ _ rfl (wnt rfl) (by exact rfl) (by exact rfl) Tryz.sizeOf48 (by kernel_rfl) (HQ.out.rp _ List.mem_cons_self).ones (by kernel_rfl) (by kernel_rfl) (splice_whole (n := 25) (by kernel_rfl) (by kernel_rfl)) (fun w' H2 => ?_); simp only [List.set_cons_succ, List.set_cons_zero] at H2; clear HQ; have HQ := H2; clear H2)
   | (refine wpl_lda (Lib.hid HQ.out.bx) 0 rfl _ _ rfl (wnt rfl) (by exact rfl) Tryz.isAgg48 Tryz.sizeOf48 (by kernel_rfl) (whole_take (by kernel_rfl)) ?_)
   | (refine wplx_sta HQ 1 rfl rfl _ _ _ rfl (wnt rfl) (by exact rfl) (by exact rfl) Tryz.sizeOf48 (by kernel_rfl) (HQ.out.rp _ List.mem_cons_self).ones (by kernel_rfl) (by kernel_rfl) (splice_whole (n := 25) (by kernel_rfl) (by kernel_rfl)) (fun w' H2 => ?_); simp only [List.set_cons_succ, List.set_cons_zero] at H2; clear HQ; have HQ := H2; clear H2))
  exact bodyPost_ret (res_cell rfl rfl (HQ.out.bx.at_ (i := 1) rfl) (Tryz.isAgg48 _) (Tryz.sizeOf48 _) rfl) rfl ⟨_, rfl, HQ.out.rp _ List.mem_cons_self, HF.out, HQ.out.low⟩
 ·have hF : R.foll x = R.commit.2 := by unfold Rp.foll; rw [if_neg (by omega)]; rw [if_neg (by omega)]; rw [if_neg (by omega)]; rw [if_pos (by omega)]
  rw [hF]
  have e5 : (x.k.tmod 9 + 9).tmod 9 = 5 := by rw [e4]; rfl
  clear e4 hF hkE
  go_enter Tryz.func38, Tryz.ntmps38
  go_wp2_with (rw [wpl_id]; first
   | (refine wplx_box HQ 48 _ rfl (wnt rfl) rfl (fun b1 w' H2 => ?_); clear HQ; have HQ := H2; clear H2)
   | (refine wplx_box HQ 39 _ rfl (wnt rfl) rfl (fun bx w' H2 => ?_); clear HQ; have HQ := H2; clear H2)
   | (refine wplx_new HQ _ rfl (wnt rfl) Tryz.zeroValue48 (cs := z48) rfl (fun b3 w' H2 => ?_); clear HQ; have HQ := H2; clear H2)
   | (refine wpl_ld (Lib.hid HQ.out.bx) 1 rfl _ _ rfl (wnt rfl) (by exact rfl) (notAgg _ (by decide)) rfl ?_)
   | (refine wpl_lda (Lib.hid HQ.out.bx) 2 rfl _ _ rfl (wnt rfl) (by exact rfl) Tryz.isAgg48 Tryz.sizeOf48 (by kernel_rfl) (whole_take (by kernel_rfl)) ?_))
  refine (Commit_ref (m := m) (R := R) (HQ.out.rp _ List.mem_cons_self)).mono ?_
  rintro e w6 ⟨m2, rfl, hr2, hf2, hb2⟩
  have HF := Lib.hid (hf2.mono HQ.out.low.size)
  have HQ2 := Lib.hid (HQ.out.ref List.mem_cons_self hr2 hf2 hb2)
  clear HQ hr2 hf2 hb2
  have HQ := HQ2
  clear HQ2
  go_wp2_with (rw [wpl_id]; first
   | (refine wplx_new HQ _ rfl (wnt rfl) Tryz.zeroValue48 (cs := z48) rfl (fun b16 w' H2 => ?_); clear HQ; have HQ := H2; clear H2)
   | (refine wplx_sta HQ 0 rfl rfl _ _ _ rfl (wnt rfl) (by exact rfl) (by exact rfl) Tryz.sizeOf48 (by kernel_rfl) (HQ.out.rp _ List.mem_cons_self).ones (by kernel_rfl) (by kernel_rfl) (splice_whole (n := 25) (by kernel_rfl) (by kernel_rfl)) (fun w' H2 => ?_); simp only [List.set_cons_succ, List.set_cons_zero] at H2; clear HQ; have HQ := H2; clear H2)
   | (refine wpl_lda (Lib.hid HQ.out.bx) 0 rfl _ _ rfl (wnt rfl) (by exact rfl) Tryz.isAgg48 Tryz.sizeOf48 (by kernel_rfl) (whole_take (by kernel_rfl)) ?_)
   | (refine wplx_sta HQ 1 rfl rfl _ _ _ rfl (wnt rfl) (by exact rfl) (by exact rfl) Tryz.sizeOf48 (by kernel_rfl) (HQ.out.rp _ List.mem_cons_self).ones (by kernel_rfl) (by kernel_rfl) (splice_whole (n := 25) (by kernel_rfl) (by kernel_rfl)) (fun w' H2 => ?_); simp only [List.set_cons_succ, List.set_cons_zero] at H2; clear HQ; have HQ := H2; clear H2))
  exact bodyPost_ret (res_cell rfl rfl (HQ.out.bx.at_ (i := 1) rfl) (Tryz.isAgg48 _) (Tryz.sizeOf48 _) rfl) rfl ⟨_, rfl, HQ.out.rp _ List.mem_cons_self, HF.out, HQ.out.low⟩
 ·have hF : R.foll x = R.back := by unfold Rp.foll; rw [if_neg (by omega)]; rw [if_neg (by omega)]; rw [if_neg (by omega)]; rw [if_neg (by omega)]; rw [if_pos (by omega)]
  rw [hF]
  have e5 : (x.k.tmod 9 + 9).tmod 9 = 6 := by rw [e4]; rfl
  clear e4 hF hkE
  go_enter Tryz.func38, Tryz.ntmps38
  go_wp2_with (rw [wpl_id]; first
   | (refine wplx_box HQ 48 _ rfl (wnt rfl) rfl (fun b1 w' H2 => ?_); clear HQ; have HQ := H2; clear H2)
   | (refine wplx_box HQ 39 _ rfl (wnt rfl) rfl (fun bx w' H2 => ?_); clear HQ; have HQ := H2; clear H2)
   | (refine wplx_new HQ _ rfl (wnt rfl) Tryz.zeroValue48 (cs := z48) rfl (fun b3 w' H2 => ?_); clear HQ; have HQ := H2; clear H2)
   | (refine wpl_ld (Lib.hid HQ.out.bx) 1 rfl _ _ rfl (wnt rfl) (by exact rfl) (notAgg _ (by decide)) rfl ?_)
   | (refine wpl_lda (Lib.hid HQ.out.bx) 2 rfl _ _ rfl (wnt rfl) (by exact rfl) Tryz.isAgg48 Tryz.sizeOf48 (by kernel_rfl) (whole_take (by kernel_rfl)) ?_))
  refine (Back_ref (m := m) (R := R) (HQ.out.rp _ List.mem_cons_self)).mono ?_
  rintro e w6 ⟨m2, rfl, hr2, hf2, hb2⟩
  have HF := Lib.hid (hf2.mono HQ.out.low.size)
  have HQ2 := Lib.hid (HQ.out.ref List.mem_cons_self hr2 hf2 hb2)
  clear HQ hr2 hf2 hb2
  have HQ := HQ2
  clear HQ2
  go_wp2_with (rw [wpl_id]; first
   | (refine wplx_sta HQ 0 rfl rfl _ _ _ rfl (wnt rfl) (by exact rfl) (by exact rfl) Tryz.sizeOf48 (by kernel_rfl) (HQ.out.rp _ List.mem_cons_self).ones (by kernel_rfl) (by kernel_rfl) (splice_whole (n := 25) (by kernel_rfl) (by kernel_rfl)) (fun w' H2 => ?_); simp only [List.set_cons_succ, List.set_cons_zero] at H2; clear HQ; have HQ := H2; clear H2))
  exact bodyPost_ret (res_cell rfl rfl (HQ.out.bx.at_ (i := 0) rfl) (Tryz.isAgg48 _) (Tryz.sizeOf48 _) rfl) rfl ⟨_, rfl, HQ.out.rp _ List.mem_cons_self, HF.out, HQ.out.low⟩
 ·have hF : R.foll x = R := by unfold Rp.foll; rw [if_neg (by omega)]; rw [if_neg (by omega)]; rw [if_neg (by omega)]; rw [if_neg (by omega)]; rw [if_neg (by omega)]; rw [if_pos (by omega)]
  rw [hF]
  have e5 : (x.k.tmod 9 + 9).tmod 9 = 7 := by rw [e4]; rfl
  clear e4 hF hkE
  go_enter Tryz.func38, Tryz.ntmps38
  go_wp2_with (rw [wpl_id]; first
   | (refine wplx_box HQ 48 _ rfl (wnt rfl) rfl (fun b1 w' H2 => ?_); clear HQ; have HQ := H2; clear H2)
   | (refine wplx_box HQ 39 _ rfl (wnt rfl) rfl (fun bx w' H2 => ?_); clear HQ; have HQ := H2; clear H2)
   | (refine wplx_new HQ _ rfl (wnt rfl) Tryz.zeroValue48 (cs := z48) rfl (fun b3 w' H2 => ?_); clear HQ; have HQ := H2; clear H2)
   | (refine wpl_ld (Lib.hid HQ.out.bx) 1 rfl _ _ rfl (wnt rfl) (by exact rfl) (notAgg _ (by decide)) rfl ?_)
   | (refine wpl_lda (Lib.hid HQ.out.bx) 2 rfl _ _ rfl (wnt rfl) (by exact rfl) Tryz.isAgg48 Tryz.sizeOf48 (by kernel_rfl) (whole_take (by kernel_rfl)) ?_)
   | (refine wplx_sta HQ 0 rfl rfl _ _ _ rfl (wnt rfl) (by exact rfl) (by exact rfl) Tryz.sizeOf48 (by kernel_rfl) (HQ.out.rp _ List.mem_cons_self).ones (by kernel_rfl) (by kernel_rfl) (splice_whole (n := 25) (by kernel_rfl) (by kernel_rfl)) (fun w' H2 => ?_); simp only [List.set_cons_succ, List.set_cons_zero] at H2; clear HQ; have HQ := H2; clear H2))
  exact bodyPost_ret (res_cell rfl rfl (HQ.out.bx.at_ (i := 0) rfl) (Tryz.isAgg48 _) (Tryz.sizeOf48 _) rfl) rfl ⟨_, rfl, HQ.out.rp _ List.mem_cons_self, Fresh.refl, HQ.out.low⟩
 ·have hF : R.foll x = R := by unfold Rp.foll; rw [if_neg (by omega)]; rw [if_neg (by omega)]; rw [if_neg (by omega)]; rw [if_neg (by omega)]; rw [if_neg (by omega)]; rw [if_pos (by omega)]
  rw [hF]
  have e5 : (x.k.tmod 9 + 9).tmod 9 = 8 := by rw [e4]; rfl
  clear e4 hF hkE
  go_enter Tryz.func38, Tryz.ntmps38
  go_wp2_with (rw [wpl_id]; first
   | (refine wplx_box HQ 48 _ rfl (wnt rfl) rfl (fun b1 w' H2 => ?_); clear HQ; have HQ := H2; clear H2)
   | (refine wplx_box HQ 39 _ rfl (wnt rfl) rfl (fun bx w' H2 => ?_); clear HQ; have HQ := H2; clear H2)
   | (refine wplx_new HQ _ rfl (wnt rfl) Tryz.zeroValue48 (cs := z48) rfl (fun b3 w' H2 => ?_); clear HQ; have HQ := H2; clear H2)
   | (refine wpl_ld (Lib.hid HQ.out.bx) 1 rfl _ _ rfl (wnt rfl) (by exact rfl) (notAgg _ (by decide)) rfl ?_)
   | (refine wpl_lda (Lib.hid HQ.out.bx) 2 rfl _ _ rfl (wnt rfl) (by exact rfl) Tryz.isAgg48 Tryz.sizeOf48 (by kernel_rfl) (whole_take (by kernel_rfl)) ?_)
   | (refine wplx_sta HQ 0 rfl rfl _ _ _ rfl (wnt rfl) (by exact rfl) (by exact rfl) Tryz.sizeOf48 (by kernel_rfl) (HQ.out.rp _ List.mem_cons_self).ones (by kernel_rfl) (by kernel_rfl) (splice_whole (n := 25) (by kernel_rfl) (by kernel_rfl)) (fun w' H2 => ?_); simp only [List.set_cons_succ, List.set_cons_zero] at H2; clear HQ; have HQ := H2; clear H2))
  exact bodyPost_ret (res_cell rfl rfl (HQ.out.bx.at_ (i := 0) rfl) (Tryz.isAgg48 _) (Tryz.sizeOf48 _) rfl) rfl ⟨_, rfl, HQ.out.rp _ List.mem_cons_self, Fresh.refl, HQ.out.low⟩
end Go.Proofs.YtklppnknllbfnaaGreat
