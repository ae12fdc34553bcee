/- Walks: the document's pool: New, SetRoot, Give. Printed by mk_rd.py. -/
import Derived.Test.YtklppnknllbfnaaGreatRc
namespace Go.Proofs.YtklppnknllbfnaaGreat
open Go.RowKit Go.Maps
set_option maxRecDepth 8000
set_option linter.unusedSimpArgs false
set_option maxHeartbeats 4000000 in
theorem SetRoot_ref {w : World} {m : Rm} {R : Rp} (k n : Int) (h : RpAt w m R) :
  Calls Tryz.prog 25 #[.agg (pc m R), .int .i64 k, .int .i64 n] w fun e w' => ∃ m', e = .returned (.tuple #[.agg (pc m' (R.setRoot k n).2), .int .i64 (R.setRoot k n).1]) ∧ RpAt w' m' (R.setRoot k n).2 ∧ Fresh w.heap.size m m' ∧ Below w.heap.size w w' := by
 have H := Lib.hid (Bxs.start w)
 have HW := Lib.hid h
 obtain ⟨A1, c1, A2, c2, A3, c3, A4, c4, A5, c5, rfl⟩ := h.shape
 clear h
 unfold Rp.setRoot
 by_cases h1 : k < 0
 ·rw [if_pos (.inl h1)]
  go_enter Tryz.func25, Tryz.ntmps25
  go_wp2_with (rw [wpl_id]; first
   | (refine wpl_box H _ _ rfl (wnt rfl) rfl (fun b1 w' H2 => ?_); clear H; have H := H2; clear H2)
   | (refine wpl_new H _ rfl (wnt rfl) Tryz.zeroValue48 (cs := z48) rfl (fun b2 w' H2 => ?_); clear H; have H := H2; clear H2)
   | (refine wpl_ld H 1 rfl _ _ rfl (wnt rfl) (by exact rfl) (notAgg _ (by decide)) (by exact rfl) ?_)
   | (refine wpl_lda H 1 rfl _ _ rfl (wnt rfl) (by exact rfl) Tryz.isAgg48 Tryz.sizeOf48 (by kernel_rfl) (whole_take (by kernel_rfl)) ?_)
   | (refine wpl_sta H 0 rfl rfl _ _ _ rfl (wnt rfl) (by exact rfl) (by exact rfl) Tryz.sizeOf48 (by kernel_rfl) (by kernel_rfl) (by kernel_rfl) (splice_whole (n := 25) (by kernel_rfl) (by kernel_rfl)) (fun w' H2 => ?_); simp only [List.set_cons_succ, List.set_cons_zero] at H2; clear H; have H := H2; clear H2))
  exact bodyPost_ret (res_cell1 rfl rfl (H.out.at_ (i := 0) rfl) (Tryz.isAgg48 _) (Tryz.sizeOf48 _) rfl) rfl ⟨_, rfl, HW.out.low H.out.low, Fresh.refl, H.out.low⟩
 by_cases h2 : 8 ≤ k
 ·rw [if_pos (.inr (.inl h2))]
  have h2' : 7 < k := by omega
  go_enter Tryz.func25, Tryz.ntmps25
  go_wp2_with (rw [wpl_id]; first
   | (refine wpl_box H _ _ rfl (wnt rfl) rfl (fun b1 w' H2 => ?_); clear H; have H := H2; clear H2)
   | (refine wpl_new H _ rfl (wnt rfl) Tryz.zeroValue48 (cs := z48) rfl (fun b2 w' H2 => ?_); clear H; have H := H2; clear H2)
   | (refine wpl_ld H 1 rfl _ _ rfl (wnt rfl) (by exact rfl) (notAgg _ (by decide)) (by exact rfl) ?_)
   | (refine wpl_lda H 1 rfl _ _ rfl (wnt rfl) (by exact rfl) Tryz.isAgg48 Tryz.sizeOf48 (by kernel_rfl) (whole_take (by kernel_rfl)) ?_)
   | (refine wpl_sta H 0 rfl rfl _ _ _ rfl (wnt rfl) (by exact rfl) (by exact rfl) Tryz.sizeOf48 (by kernel_rfl) (by kernel_rfl) (by kernel_rfl) (splice_whole (n := 25) (by kernel_rfl) (by kernel_rfl)) (fun w' H2 => ?_); simp only [List.set_cons_succ, List.set_cons_zero] at H2; clear H; have H := H2; clear H2))
  exact bodyPost_ret (res_cell1 rfl rfl (H.out.at_ (i := 0) rfl) (Tryz.isAgg48 _) (Tryz.sizeOf48 _) rfl) rfl ⟨_, rfl, HW.out.low H.out.low, Fresh.refl, H.out.low⟩
 by_cases h3 : n < 0
 ·rw [if_pos (.inr (.inr (.inl h3)))]
  have h2' : ¬ 7 < k := by omega
  go_enter Tryz.func25, Tryz.ntmps25
  go_wp2_with (rw [wpl_id]; first
   | (refine wpl_box H _ _ rfl (wnt rfl) rfl (fun b1 w' H2 => ?_); clear H; have H := H2; clear H2)
   | (refine wpl_new H _ rfl (wnt rfl) Tryz.zeroValue48 (cs := z48) rfl (fun b2 w' H2 => ?_); clear H; have H := H2; clear H2)
   | (refine wpl_ld H 1 rfl _ _ rfl (wnt rfl) (by exact rfl) (notAgg _ (by decide)) (by exact rfl) ?_)
   | (refine wpl_lda H 1 rfl _ _ rfl (wnt rfl) (by exact rfl) Tryz.isAgg48 Tryz.sizeOf48 (by kernel_rfl) (whole_take (by kernel_rfl)) ?_)
   | (refine wpl_sta H 0 rfl rfl _ _ _ rfl (wnt rfl) (by exact rfl) (by exact rfl) Tryz.sizeOf48 (by kernel_rfl) (by kernel_rfl) (by kernel_rfl) (splice_whole (n := 25) (by kernel_rfl) (by kernel_rfl)) (fun w' H2 => ?_); simp only [List.set_cons_succ, List.set_cons_zero] at H2; clear H; have H := H2; clear H2))
  exact bodyPost_ret (res_cell1 rfl rfl (H.out.at_ (i := 0) rfl) (Tryz.isAgg48 _) (Tryz.sizeOf48 _) rfl) rfl ⟨_, rfl, HW.out.low H.out.low, Fresh.refl, H.out.low⟩
 by_cases h4 : 2147483647 < n
 ·rw [if_pos (.inr (.inr (.inr h4)))]
  have h2' : ¬ 7 < k := by omega
  go_enter Tryz.func25, Tryz.ntmps25
  go_wp2_with (rw [wpl_id]; first
   | (refine wpl_box H _ _ rfl (wnt rfl) rfl (fun b1 w' H2 => ?_); clear H; have H := H2; clear H2)
   | (refine wpl_new H _ rfl (wnt rfl) Tryz.zeroValue48 (cs := z48) rfl (fun b2 w' H2 => ?_); clear H; have H := H2; clear H2)
   | (refine wpl_ld H 1 rfl _ _ rfl (wnt rfl) (by exact rfl) (notAgg _ (by decide)) (by exact rfl) ?_)
   | (refine wpl_lda H 1 rfl _ _ rfl (wnt rfl) (by exact rfl) Tryz.isAgg48 Tryz.sizeOf48 (by kernel_rfl) (whole_take (by kernel_rfl)) ?_)
   | (refine wpl_sta H 0 rfl rfl _ _ _ rfl (wnt rfl) (by exact rfl) (by exact rfl) Tryz.sizeOf48 (by kernel_rfl) (by kernel_rfl) (by kernel_rfl) (splice_whole (n := 25) (by kernel_rfl) (by kernel_rfl)) (fun w' H2 => ?_); simp only [List.set_cons_succ, List.set_cons_zero] at H2; clear H; have H := H2; clear H2))
  exact bodyPost_ret (res_cell1 rfl rfl (H.out.at_ (i := 0) rfl) (Tryz.isAgg48 _) (Tryz.sizeOf48 _) rfl) rfl ⟨_, rfl, HW.out.low H.out.low, Fresh.refl, H.out.low⟩
 rw [if_neg (by omega)]
 have hk : k = 0 ∨ k = 1 ∨ k = 2 ∨ k = 3 ∨ k = 4 ∨ k = 5 ∨ k = 6 ∨ k = 7 := by omega
 clear h1 h2
 rcases hk with rfl | rfl | rfl | rfl | rfl | rfl | rfl | rfl
 all_goals
  go_enter Tryz.func25, Tryz.ntmps25
  go_wp2_with (rw [wpl_id]; first
   | (refine wpl_box H _ _ rfl (wnt rfl) rfl (fun b1 w' H2 => ?_); clear H; have H := H2; clear H2)
   | (refine wpl_new H _ rfl (wnt rfl) Tryz.zeroValue48 (cs := z48) rfl (fun b2 w' H2 => ?_); clear H; have H := H2; clear H2)
   | (refine wpl_st H 1 rfl rfl _ _ _ rfl (wnt rfl) (by exact rfl) (by (conv => lhs; whnf) <;> exact rfl) (oneSize _ (by decide)) rfl (by kernel_rfl) rfl (fun w' H2 => ?_); simp only [List.set_cons_succ, List.set_cons_zero] at H2; clear H; have H := H2; clear H2)
   | (refine wpl_lda H 1 rfl _ _ rfl (wnt rfl) (by exact rfl) Tryz.isAgg48 Tryz.sizeOf48 (by kernel_rfl) (whole_take (by kernel_rfl)) ?_)
   | (refine wpl_sta H 0 rfl rfl _ _ _ rfl (wnt rfl) (by exact rfl) (by exact rfl) Tryz.sizeOf48 (by kernel_rfl) (by kernel_rfl) (by kernel_rfl) (splice_whole (n := 25) (by kernel_rfl) (by kernel_rfl)) (fun w' H2 => ?_); simp only [List.set_cons_succ, List.set_cons_zero] at H2; clear H; have H := H2; clear H2))
  exact bodyPost_ret (res_cell1 rfl rfl (H.out.at_ (i := 0) rfl) (Tryz.isAgg48 _) (Tryz.sizeOf48 _) rfl) rfl ⟨⟨.slice A1 R.now.loads.length c1, .slice A2 R.now.free.length c2, .slice A3 R.was.loads.length c3, .slice A4 R.was.free.length c4, .slice A5 R.ch.length c5⟩, rfl, ⟨HW.out.bn, HW.out.bw, HW.out.sn, HW.out.nl.low H.out.low, HW.out.nf.low H.out.low, HW.out.wl.low H.out.low, HW.out.wf.low H.out.low, HW.out.cv.low H.out.low⟩, Fresh.refl, H.out.low⟩
def z46 : Array Value := #[.slice none 0 0, .slice none 0 0, .int .i64 0, .int .i64 0, .int .i64 0, .int .i64 0, .int .i64 0, .int .i64 0, .int .i64 0, .int .i64 0]
theorem dash_str : (⟨#[45]⟩ : ByteArray) = str dash := by decide
set_option maxHeartbeats 4000000 in
theorem New_ref (s z : Nat) (hs : 6 ≤ s) (hs2 : s ≤ 1000) (hz : 45 ≤ z) (hz2 : z ≤ 5000) (w : World) :
  Calls Tryz.prog 20 #[.int .i64 (s : Nat), .int .i64 (z : Nat)] w fun e w' => ∃ m, e = .returned (.agg (pc m (Rp.new s z))) ∧ RpAt w' m (Rp.new s z) ∧ (∀ g ∈ m.blocks, w.heap.size ≤ g) ∧ Below w.heap.size w w' := by
 have H := Lib.hid (Bxs.start w)
 obtain ⟨q, hq⟩ : ∃ q, q = (s - 2) / 4 := ⟨_, rfl⟩
 obtain ⟨pg, hpg⟩ : ∃ pg, pg = s - 2 - (s - 2) / 4 := ⟨_, rfl⟩
 obtain ⟨rm, hrm⟩ : ∃ rm, rm = z - 45 := ⟨_, rfl⟩
 have e1 : IntKind.i64.wrap ((s : Int) - 2) = (s : Int) - 2 := by rw [IntKind.wrap_i64]; omega
 have e2 : IntKind.i64.wrap (((s : Int) - 2).tdiv 4) = (q : Nat) := by
  have h0 : ((s : Int) - 2).tdiv 4 = (q : Nat) := by rw [Int.tdiv_eq_ediv_of_nonneg (by omega)]; omega
  rw [h0, IntKind.wrap_i64]; omega
 have e3 : IntKind.i64.wrap ((s : Int) - 2 - (q : Nat)) = (pg : Nat) := by rw [IntKind.wrap_i64]; omega
 have e4 : IntKind.i64.wrap ((z : Int) - 45) = (rm : Nat) := by rw [IntKind.wrap_i64]; omega
 have HN := Lib.hid (show Rp.new s z = ⟨⟨[dash], [], R8.zero⟩, ⟨[dash], [], R8.zero⟩, false, [], pg, q, rm⟩ by unfold Rp.new; rw [hq, hpg, hrm])
 clear hq hpg hrm hs hs2 hz hz2
 go_enter Tryz.func20, Tryz.ntmps20
 go_wp2_with (rw [wpl_id]; first
  | (refine wpl_new H _ rfl (wnt rfl) Tryz.zeroValue48 (cs := z48) rfl (fun b2 w' H2 => ?_); clear H; have H := H2; clear H2)
  | (refine wpl_sta H 0 rfl rfl _ _ _ rfl (wnt rfl) (by exact rfl) (by exact rfl) Tryz.sizeOf48 (by kernel_rfl) (by kernel_rfl) (by kernel_rfl) (splice_whole (n := 25) (by kernel_rfl) (by kernel_rfl)) (fun w' H2 => ?_); simp only [List.set_cons_succ, List.set_cons_zero] at H2; clear H; have H := H2; clear H2)
  | (refine wpl_lit1 el9 H _ rfl (wnt rfl) (by (conv => lhs; whnf) <;> exact rfl) (.inl ⟨_, rfl⟩) (fun b w' H2 => ?_); clear H; have H := H2; clear H2)
  | (refine wpl_st H 0 rfl rfl _ _ _ rfl (wnt rfl) (by exact rfl) (by (conv => lhs; whnf) <;> exact rfl) (oneSize _ (by decide)) rfl (by kernel_rfl) rfl (fun w' H2 => ?_); simp only [List.set_cons_succ, List.set_cons_zero] at H2; clear H; have H := H2; clear H2)
  | (refine wpl_lda H 0 rfl _ _ rfl (wnt rfl) (by exact rfl) Tryz.isAgg46 Tryz.sizeOf46 (by kernel_rfl) (cs := sc (.slice (some ⟨b, 0, none⟩) 1 1) (.slice none 0 0) R8.zero) rfl ?_))
 have HRW := Lib.hid (show RowS w' (.slice (some ⟨b, 0, none⟩) 1 1) [dash] from by
  have hr := row_base0 (H.out.row_ (i := 0) rfl)
  dsimp only at hr
  rw [dash_str] at hr
  exact hr)
 refine (copied_ref R8.zero HRW.out (nil_rowI _) (by simp) (by simp)).mono ?_
 rintro e w1 ⟨lv, fv, rfl, hr1, hr2, hb⟩
 obtain ⟨B1, d1, rfl⟩ := slice_shape hr1
 obtain ⟨B2, d2, rfl⟩ := slice_shape hr2
 have H2 := Lib.hid (H.out.own2 hb hr1 hr2 (by decide)); clear H hr1 hr2 hb; have H := H2; clear H2
 go_wp2_with (rw [wpl_id]; first
  | (refine wpl_sta H 0 rfl rfl _ _ _ rfl (wnt rfl) (by exact rfl) (by exact rfl) Tryz.sizeOf46 (by kernel_rfl) (by kernel_rfl) (by kernel_rfl) rfl (fun w' H2 => ?_); simp only [List.set_cons_succ, List.set_cons_zero] at H2; clear H; have H := H2; clear H2)
  | (refine wpl_lda H 0 rfl _ _ rfl (wnt rfl) (by exact rfl) Tryz.isAgg48 Tryz.sizeOf48 (by kernel_rfl) (whole_take (by kernel_rfl)) ?_)
  | (refine wpl_sta H 1 rfl rfl _ _ _ rfl (wnt rfl) (by exact rfl) (by exact rfl) Tryz.sizeOf48 (by kernel_rfl) (by kernel_rfl) (by kernel_rfl) (splice_whole (n := 25) (by kernel_rfl) (by kernel_rfl)) (fun w' H2 => ?_); simp only [List.set_cons_succ, List.set_cons_zero] at H2; clear H; have H := H2; clear H2))
 rw [HN.out]
 refine bodyPost_ret (res_cell rfl rfl (H.out.at_ (i := 1) rfl) (Tryz.isAgg48 _) (Tryz.sizeOf48 _) rfl) rfl ⟨⟨.slice (some ⟨b, 0, none⟩) 1 1, .slice none 0 0, .slice B1 [dash].length d1, .slice B2 ([] : List Nat).length d2, .slice none 0 0⟩, rfl, ⟨?_, ?_, ⟨by simp, by simp, by simp, by simp, by simp⟩, ?_, nil_rowI _, row_base0 (H.out.row_ (i := 0) rfl), row_base0 (H.out.row_ (i := 1) rfl), nil_rowI _⟩, ?_, H.out.low⟩
 rotate_right
 ·intro g hg
  rcases (Fresh.mk5 (m := ⟨.slice none 0 0, .slice none 0 0, .slice none 0 0, .slice none 0 0, .slice none 0 0⟩) (FreshV.row (H.out.row_ (i := 2) rfl)) FreshV.none_ (FreshV.row (H.out.row_ (i := 0) rfl)) (FreshV.row (H.out.row_ (i := 1) rfl)) FreshV.none_) g hg with h | h
  ·simp [Rm.blocks, Value.ownBlock] at h
  ·exact h
 ·intro l hl; simp at hl; subst hl; exact dash_lt
 ·intro l hl; simp at hl; subst hl; exact dash_lt
 ·have hr := row_base0 (H.out.row_ (i := 2) rfl)
  dsimp only at hr
  rw [dash_str] at hr
  exact hr
end Go.Proofs.YtklppnknllbfnaaGreat
