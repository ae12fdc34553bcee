/- Walks: MayRect. Printed by mk_w15.py. -/
import Derived.Test.YthinjaddebfdhaaW14
import Derived.Test.YthinjaddebfdhaaFree
namespace Go.Proofs.Ythinjaddebfdhaa
open Go.RowKit
set_option maxRecDepth 8000

set_option maxHeartbeats 4000000 in
theorem MayRect_road (x0 y0 x1 y1 : Int) (m a b : Bool) (hm : (mayB x0 y0 && mayB x1 y1) = m) (ha : decide (x0 ≤ x1) = a) (hb : decide (y0 ≤ y1) = b) (w : World) :
    Calls Try.prog 16 #[.agg #[.int .i64 x0, .int .i64 y0, .int .i64 x1, .int .i64 y1]] w fun e w' => e = .returned (.bool (m && a && b)) ∧ Below w.heap.size w w' := by
  have k1 := Blk.new w #[.int .i64 x0, .int .i64 y0, .int .i64 x1, .int .i64 y1] 34
  have k2 := grow_alloc (Below.refl w.heap.size w) (.cells #[.int .i64 x0, .int .i64 y0, .int .i64 x1, .int .i64 y1] 34)
  have HB := Lib.hid (And.intro k1 k2)
  have HM := Lib.hid hm
  have HA := Lib.hid ha
  have HA2 := Lib.hid hb
  clear k1 k2 hm ha hb
  cases m
  · show Calls Try.prog 16 _ _ fun e w' => e = .returned (.bool false) ∧ Below w.heap.size w w'
    go_enter Try.func16, Try.ntmps16
    go_wp2_with fail
    obtain ⟨S0, S0d⟩ : ∃ S : World → Prop, S = fun v : World => Blk v w.heap.size #[.int .i64 x0, .int .i64 y0, .int .i64 x1, .int .i64 y1] 34 ∧ Below w.heap.size w v := ⟨_, rfl⟩
    have S0t0 : Stands S0 := by rw [S0d]; exact ((stands_blk _ _ _).and (stands_below _))
    have S0u0 : ∀ v, S0 v → Blk v w.heap.size #[.int .i64 x0, .int .i64 y0, .int .i64 x1, .int .i64 y1] 34 ∧ Below w.heap.size w v := fun v h => by rw [S0d] at h; exact h
    have S0m0 : ∀ v, (Blk v w.heap.size #[.int .i64 x0, .int .i64 y0, .int .i64 x1, .int .i64 y1] 34 ∧ Below w.heap.size w v) → S0 v := fun v h => by rw [S0d]; exact h
    have S0u := Lib.hid S0u0
    have S0m := Lib.hid S0m0
    have S0t := Lib.hid S0t0
    clear S0d S0u0 S0m0 S0t0
    refine wp_region_X (S := S0) (by kernel_rfl) (S0m.out _ ⟨HB.out.1.drew, HB.out.2.drew⟩) ?_
    refine wpX_take (i := 0) (v := ?_) S0t.out rfl rfl (by kernel_rfl) (by kernel_rfl) (by kernel_rfl) (by kernel_rfl) (fun _ _ _ h => h) (SteadyX.value (by rfl) ?_) ?_
    rotate_left
    · (intro w_ hS; obtain ⟨q0, q1⟩ := S0u.out _ hS; (have q0 := q0.four); (clear q1); go_simp; try with_reducible rfl)
    simp only [List.setIfInBounds_toArray, List.set_cons_zero, List.set_cons_succ]
    refine wpX_take (i := 1) S0t.out rfl rfl (by kernel_rfl) (by kernel_rfl) (by kernel_rfl) (by kernel_rfl) (fun _ _ _ h => h) (SteadyX.call (by rfl) (fun w_ hS => low_any x0 y0 x1 y1 w_) (fun w_ hS => by (go_simp))) ?_
    simp only [List.setIfInBounds_toArray, List.set_cons_zero, List.set_cons_succ]
    refine wpX_take (i := 2) (v := ?_) S0t.out rfl rfl (by kernel_rfl) (by kernel_rfl) (by kernel_rfl) (by kernel_rfl) (fun _ _ _ h => h) (SteadyX.value (by rfl) ?_) ?_
    rotate_left
    · (intro w_ hS; obtain ⟨q0, q1⟩ := S0u.out _ hS; (have q0 := q0.four); (clear q1); go_simp; try with_reducible rfl)
    simp only [List.setIfInBounds_toArray, List.set_cons_zero, List.set_cons_succ]
    refine wpX_take (i := 3) S0t.out rfl rfl (by kernel_rfl) (by kernel_rfl) (by kernel_rfl) (by kernel_rfl) (fun _ _ _ h => h) (SteadyX.call (by rfl) (fun w_ hS => high_any x0 y0 x1 y1 w_) (fun w_ hS => by (go_simp))) ?_
    simp only [List.setIfInBounds_toArray, List.set_cons_zero, List.set_cons_succ]
    refine wpX_one (i := 4) (by kernel_rfl) (fun w_ hS => ?_)
    obtain ⟨q0, q1⟩ := S0u.out _ hS
    obtain ⟨G, hG⟩ : ∃ R, R = w_.heap.size := ⟨_, rfl⟩
    have ltG_0 : w.heap.size < G := by rw [hG]; exact q0.lt
    have ltG_1 : w.heap.size ≤ G := by rw [hG]; exact q1.size
    obtain ⟨S1, S1d⟩ : ∃ S : World → Prop, S = fun v : World => Blk v w.heap.size #[.int .i64 x0, .int .i64 y0, .int .i64 x1, .int .i64 y1] 34 ∧ Below w.heap.size w v ∧ Blk v G #[.int .i64 x0, .int .i64 y0, .int .i64 x1, .int .i64 y1] 23 := ⟨_, rfl⟩
    have S1t0 : Stands S1 := by rw [S1d]; exact ((stands_blk _ _ _).and ((stands_below _).and (stands_blk _ _ _)))
    have S1u0 : ∀ v, S1 v → Blk v w.heap.size #[.int .i64 x0, .int .i64 y0, .int .i64 x1, .int .i64 y1] 34 ∧ Below w.heap.size w v ∧ Blk v G #[.int .i64 x0, .int .i64 y0, .int .i64 x1, .int .i64 y1] 23 := fun v h => by rw [S1d] at h; exact h
    have S1m0 : ∀ v, (Blk v w.heap.size #[.int .i64 x0, .int .i64 y0, .int .i64 x1, .int .i64 y1] 34 ∧ Below w.heap.size w v ∧ Blk v G #[.int .i64 x0, .int .i64 y0, .int .i64 x1, .int .i64 y1] 23) → S1 v := fun v h => by rw [S1d]; exact h
    have S1u := Lib.hid S1u0
    have S1m := Lib.hid S1m0
    have S1t := Lib.hid S1t0
    clear S1d S1u0 S1m0 S1t0
    refine wpX_run (i := 4) (v := .slice (some ⟨G, 0, none⟩) 2 2) (w' := w_.alloc (.cells #[.int .i64 x0, .int .i64 y0, .int .i64 x1, .int .i64 y1] 23)) S1 rfl rfl (by rfl) (by (subst hG; go_simp)) S1t.out (.inr fun v h => S0m.out _ (by obtain ⟨q0, q1, q2⟩ := S1u.out _ h; exact ⟨q0, q1⟩)) (S1m.out _ ⟨(stands_blk _ _ _) _ _ ((Below.refl _ w_).alloc (Nat.le_refl _) _) q0, (stands_below _) _ _ ((Below.refl _ w_).alloc (Nat.le_refl _) _) q1, Blk.new' w_ _ _ hG⟩) ?_
    clear hS q0 q1 hG
    clear w_
    simp only [List.setIfInBounds_toArray, List.set_cons_zero, List.set_cons_succ]
    refine wpX_take (i := 5) S1t.out rfl rfl (by kernel_rfl) (by kernel_rfl) (by kernel_rfl) (by kernel_rfl) (fun _ _ _ h => h) (SteadyX.call (by rfl) (fun w_ hS => by obtain ⟨q0, q1, q2⟩ := S1u.out _ hS; exact (all_two x0 y0 x1 y1 G w_ q2).mono (fun _ _ h => ⟨by rw [h.1, HM.out], h.2⟩)) (fun w_ hS => by (go_simp))) ?_
    simp only [List.setIfInBounds_toArray, List.set_cons_zero, List.set_cons_succ]
    refine wpX_take (i := 6) (v := ?_) S1t.out rfl rfl (by kernel_rfl) (by kernel_rfl) (by kernel_rfl) (by kernel_rfl) (fun _ _ _ h => h) (SteadyX.value (by rfl) ?_) ?_
    rotate_left
    · (intro w_ hS; go_simp; try with_reducible rfl)
    simp only [List.setIfInBounds_toArray, List.set_cons_zero, List.set_cons_succ]
    refine wpX_take (i := 7) (v := undef) S1t.out rfl rfl (by kernel_rfl) (by kernel_rfl) (by kernel_rfl) (by kernel_rfl) (fun _ _ _ h => h) (SteadyX.off (by rfl)) ?_
    simp only [List.setIfInBounds_toArray, List.set_cons_zero, List.set_cons_succ]
    refine wpX_take (i := 8) (v := undef) S1t.out rfl rfl (by kernel_rfl) (by kernel_rfl) (by kernel_rfl) (by kernel_rfl) (fun _ _ _ h => h) (SteadyX.off (by rfl)) ?_
    simp only [List.setIfInBounds_toArray, List.set_cons_zero, List.set_cons_succ]
    refine wpX_take (i := 9) (v := undef) S1t.out rfl rfl (by kernel_rfl) (by kernel_rfl) (by kernel_rfl) (by kernel_rfl) (fun _ _ _ h => h) (SteadyX.off (by rfl)) ?_
    simp only [List.setIfInBounds_toArray, List.set_cons_zero, List.set_cons_succ]
    refine wpX_take (i := 10) (v := undef) S1t.out rfl rfl (by kernel_rfl) (by kernel_rfl) (by kernel_rfl) (by kernel_rfl) (fun _ _ _ h => h) (SteadyX.off (by rfl)) ?_
    simp only [List.setIfInBounds_toArray, List.set_cons_zero, List.set_cons_succ]
    refine wpX_take (i := 11) (v := undef) S1t.out rfl rfl (by kernel_rfl) (by kernel_rfl) (by kernel_rfl) (by kernel_rfl) (fun _ _ _ h => h) (SteadyX.off (by rfl)) ?_
    simp only [List.setIfInBounds_toArray, List.set_cons_zero, List.set_cons_succ]
    refine wpX_take (i := 12) (v := ?_) S1t.out rfl rfl (by kernel_rfl) (by kernel_rfl) (by kernel_rfl) (by kernel_rfl) (fun _ _ _ h => h) (SteadyX.value (by rfl) ?_) ?_
    rotate_left
    · (intro w_ hS; go_simp; try with_reducible rfl)
    simp only [List.setIfInBounds_toArray, List.set_cons_zero, List.set_cons_succ]
    refine wpX_take (i := 13) (v := ?_) S1t.out rfl rfl (by kernel_rfl) (by kernel_rfl) (by kernel_rfl) (by kernel_rfl) (fun _ _ _ h => h) (SteadyX.value (by rfl) ?_) ?_
    rotate_left
    · (intro w_ hS; go_simp; try with_reducible rfl)
    simp only [List.setIfInBounds_toArray, List.set_cons_zero, List.set_cons_succ]
    refine wpX_take (i := 14) (v := undef) S1t.out rfl rfl (by kernel_rfl) (by kernel_rfl) (by kernel_rfl) (by kernel_rfl) (fun _ _ _ h => h) (SteadyX.off (by rfl)) ?_
    simp only [List.setIfInBounds_toArray, List.set_cons_zero, List.set_cons_succ]
    refine wpX_take (i := 15) (v := undef) S1t.out rfl rfl (by kernel_rfl) (by kernel_rfl) (by kernel_rfl) (by kernel_rfl) (fun _ _ _ h => h) (SteadyX.off (by rfl)) ?_
    simp only [List.setIfInBounds_toArray, List.set_cons_zero, List.set_cons_succ]
    refine wpX_take (i := 16) (v := undef) S1t.out rfl rfl (by kernel_rfl) (by kernel_rfl) (by kernel_rfl) (by kernel_rfl) (fun _ _ _ h => h) (SteadyX.off (by rfl)) ?_
    simp only [List.setIfInBounds_toArray, List.set_cons_zero, List.set_cons_succ]
    refine wpX_take (i := 17) (v := undef) S1t.out rfl rfl (by kernel_rfl) (by kernel_rfl) (by kernel_rfl) (by kernel_rfl) (fun _ _ _ h => h) (SteadyX.off (by rfl)) ?_
    simp only [List.setIfInBounds_toArray, List.set_cons_zero, List.set_cons_succ]
    refine wpX_take (i := 18) (v := undef) S1t.out rfl rfl (by kernel_rfl) (by kernel_rfl) (by kernel_rfl) (by kernel_rfl) (fun _ _ _ h => h) (SteadyX.off (by rfl)) ?_
    simp only [List.setIfInBounds_toArray, List.set_cons_zero, List.set_cons_succ]
    refine wpX_take (i := 19) (v := ?_) S1t.out rfl rfl (by kernel_rfl) (by kernel_rfl) (by kernel_rfl) (by kernel_rfl) (fun _ _ _ h => h) (SteadyX.value (by rfl) ?_) ?_
    rotate_left
    · (intro w_ hS; go_simp; try with_reducible rfl)
    simp only [List.setIfInBounds_toArray, List.set_cons_zero, List.set_cons_succ]
    refine wpX_take (i := 20) (v := ?_) S1t.out rfl rfl (by kernel_rfl) (by kernel_rfl) (by kernel_rfl) (by kernel_rfl) (fun _ _ _ h => h) (SteadyX.value (by rfl) ?_) ?_
    rotate_left
    · (intro w_ hS; go_simp; try with_reducible rfl)
    simp only [List.setIfInBounds_toArray, List.set_cons_zero, List.set_cons_succ]
    refine wpX_done (by kernel_rfl) (fun W hS => ?_) _
    obtain ⟨q0, q1, q2⟩ := S1u.out _ hS
    clear hS S0u S0m S0t S1u S1m S1t
    clear S0 S1
    go_wp2_with fail
    go_ret
    exact ⟨ret_bool rfl, q1⟩
  cases a
  · show Calls Try.prog 16 _ _ fun e w' => e = .returned (.bool false) ∧ Below w.heap.size w w'
    go_enter Try.func16, Try.ntmps16
    go_wp2_with fail
    obtain ⟨S0, S0d⟩ : ∃ S : World → Prop, S = fun v : World => Blk v w.heap.size #[.int .i64 x0, .int .i64 y0, .int .i64 x1, .int .i64 y1] 34 ∧ Below w.heap.size w v := ⟨_, rfl⟩
    have S0t0 : Stands S0 := by rw [S0d]; exact ((stands_blk _ _ _).and (stands_below _))
    have S0u0 : ∀ v, S0 v → Blk v w.heap.size #[.int .i64 x0, .int .i64 y0, .int .i64 x1, .int .i64 y1] 34 ∧ Below w.heap.size w v := fun v h => by rw [S0d] at h; exact h
    have S0m0 : ∀ v, (Blk v w.heap.size #[.int .i64 x0, .int .i64 y0, .int .i64 x1, .int .i64 y1] 34 ∧ Below w.heap.size w v) → S0 v := fun v h => by rw [S0d]; exact h
    have S0u := Lib.hid S0u0
    have S0m := Lib.hid S0m0
    have S0t := Lib.hid S0t0
    clear S0d S0u0 S0m0 S0t0
    refine wp_region_X (S := S0) (by kernel_rfl) (S0m.out _ ⟨HB.out.1.drew, HB.out.2.drew⟩) ?_
    refine wpX_take (i := 0) (v := ?_) S0t.out rfl rfl (by kernel_rfl) (by kernel_rfl) (by kernel_rfl) (by kernel_rfl) (fun _ _ _ h => h) (SteadyX.value (by rfl) ?_) ?_
    rotate_left
    · (intro w_ hS; obtain ⟨q0, q1⟩ := S0u.out _ hS; (have q0 := q0.four); (clear q1); go_simp; try with_reducible rfl)
    simp only [List.setIfInBounds_toArray, List.set_cons_zero, List.set_cons_succ]
    refine wpX_take (i := 1) S0t.out rfl rfl (by kernel_rfl) (by kernel_rfl) (by kernel_rfl) (by kernel_rfl) (fun _ _ _ h => h) (SteadyX.call (by rfl) (fun w_ hS => low_any x0 y0 x1 y1 w_) (fun w_ hS => by (go_simp))) ?_
    simp only [List.setIfInBounds_toArray, List.set_cons_zero, List.set_cons_succ]
    refine wpX_take (i := 2) (v := ?_) S0t.out rfl rfl (by kernel_rfl) (by kernel_rfl) (by kernel_rfl) (by kernel_rfl) (fun _ _ _ h => h) (SteadyX.value (by rfl) ?_) ?_
    rotate_left
    · (intro w_ hS; obtain ⟨q0, q1⟩ := S0u.out _ hS; (have q0 := q0.four); (clear q1); go_simp; try with_reducible rfl)
    simp only [List.setIfInBounds_toArray, List.set_cons_zero, List.set_cons_succ]
    refine wpX_take (i := 3) S0t.out rfl rfl (by kernel_rfl) (by kernel_rfl) (by kernel_rfl) (by kernel_rfl) (fun _ _ _ h => h) (SteadyX.call (by rfl) (fun w_ hS => high_any x0 y0 x1 y1 w_) (fun w_ hS => by (go_simp))) ?_
    simp only [List.setIfInBounds_toArray, List.set_cons_zero, List.set_cons_succ]
    refine wpX_one (i := 4) (by kernel_rfl) (fun w_ hS => ?_)
    obtain ⟨q0, q1⟩ := S0u.out _ hS
    obtain ⟨G, hG⟩ : ∃ R, R = w_.heap.size := ⟨_, rfl⟩
    have ltG_0 : w.heap.size < G := by rw [hG]; exact q0.lt
    have ltG_1 : w.heap.size ≤ G := by rw [hG]; exact q1.size
    obtain ⟨S1, S1d⟩ : ∃ S : World → Prop, S = fun v : World => Blk v w.heap.size #[.int .i64 x0, .int .i64 y0, .int .i64 x1, .int .i64 y1] 34 ∧ Below w.heap.size w v ∧ Blk v G #[.int .i64 x0, .int .i64 y0, .int .i64 x1, .int .i64 y1] 23 := ⟨_, rfl⟩
    have S1t0 : Stands S1 := by rw [S1d]; exact ((stands_blk _ _ _).and ((stands_below _).and (stands_blk _ _ _)))
    have S1u0 : ∀ v, S1 v → Blk v w.heap.size #[.int .i64 x0, .int .i64 y0, .int .i64 x1, .int .i64 y1] 34 ∧ Below w.heap.size w v ∧ Blk v G #[.int .i64 x0, .int .i64 y0, .int .i64 x1, .int .i64 y1] 23 := fun v h => by rw [S1d] at h; exact h
    have S1m0 : ∀ v, (Blk v w.heap.size #[.int .i64 x0, .int .i64 y0, .int .i64 x1, .int .i64 y1] 34 ∧ Below w.heap.size w v ∧ Blk v G #[.int .i64 x0, .int .i64 y0, .int .i64 x1, .int .i64 y1] 23) → S1 v := fun v h => by rw [S1d]; exact h
    have S1u := Lib.hid S1u0
    have S1m := Lib.hid S1m0
    have S1t := Lib.hid S1t0
    clear S1d S1u0 S1m0 S1t0
    refine wpX_run (i := 4) (v := .slice (some ⟨G, 0, none⟩) 2 2) (w' := w_.alloc (.cells #[.int .i64 x0, .int .i64 y0, .int .i64 x1, .int .i64 y1] 23)) S1 rfl rfl (by rfl) (by (subst hG; go_simp)) S1t.out (.inr fun v h => S0m.out _ (by obtain ⟨q0, q1, q2⟩ := S1u.out _ h; exact ⟨q0, q1⟩)) (S1m.out _ ⟨(stands_blk _ _ _) _ _ ((Below.refl _ w_).alloc (Nat.le_refl _) _) q0, (stands_below _) _ _ ((Below.refl _ w_).alloc (Nat.le_refl _) _) q1, Blk.new' w_ _ _ hG⟩) ?_
    clear hS q0 q1 hG
    clear w_
    simp only [List.setIfInBounds_toArray, List.set_cons_zero, List.set_cons_succ]
    refine wpX_take (i := 5) S1t.out rfl rfl (by kernel_rfl) (by kernel_rfl) (by kernel_rfl) (by kernel_rfl) (fun _ _ _ h => h) (SteadyX.call (by rfl) (fun w_ hS => by obtain ⟨q0, q1, q2⟩ := S1u.out _ hS; exact (all_two x0 y0 x1 y1 G w_ q2).mono (fun _ _ h => ⟨by rw [h.1, HM.out], h.2⟩)) (fun w_ hS => by (go_simp))) ?_
    simp only [List.setIfInBounds_toArray, List.set_cons_zero, List.set_cons_succ]
    refine wpX_take (i := 6) (v := ?_) S1t.out rfl rfl (by kernel_rfl) (by kernel_rfl) (by kernel_rfl) (by kernel_rfl) (fun _ _ _ h => h) (SteadyX.value (by rfl) ?_) ?_
    rotate_left
    · (intro w_ hS; go_simp; try with_reducible rfl)
    simp only [List.setIfInBounds_toArray, List.set_cons_zero, List.set_cons_succ]
    refine wpX_take (i := 7) (v := ?_) S1t.out rfl rfl (by kernel_rfl) (by kernel_rfl) (by kernel_rfl) (by kernel_rfl) (fun _ _ _ h => h) (SteadyX.value (by rfl) ?_) ?_
    rotate_left
    · (intro w_ hS; go_simp; try with_reducible rfl)
    simp only [List.setIfInBounds_toArray, List.set_cons_zero, List.set_cons_succ]
    refine wpX_take (i := 8) (v := ?_) S1t.out rfl rfl (by kernel_rfl) (by kernel_rfl) (by kernel_rfl) (by kernel_rfl) (fun _ _ _ h => h) (SteadyX.value (by rfl) ?_) ?_
    rotate_left
    · (intro w_ hS; obtain ⟨q0, q1, q2⟩ := S1u.out _ hS; (have q0 := q0.four); (clear q1); (have q2 := q2.four); go_simp; try with_reducible rfl)
    simp only [List.setIfInBounds_toArray, List.set_cons_zero, List.set_cons_succ]
    refine wpX_take (i := 9) (v := ?_) S1t.out rfl rfl (by kernel_rfl) (by kernel_rfl) (by kernel_rfl) (by kernel_rfl) (fun _ _ _ h => h) (SteadyX.value (by rfl) ?_) ?_
    rotate_left
    · (intro w_ hS; go_simp; try with_reducible rfl)
    simp only [List.setIfInBounds_toArray, List.set_cons_zero, List.set_cons_succ]
    refine wpX_take (i := 10) (v := ?_) S1t.out rfl rfl (by kernel_rfl) (by kernel_rfl) (by kernel_rfl) (by kernel_rfl) (fun _ _ _ h => h) (SteadyX.value (by rfl) ?_) ?_
    rotate_left
    · (intro w_ hS; obtain ⟨q0, q1, q2⟩ := S1u.out _ hS; (have q0 := q0.four); (clear q1); (have q2 := q2.four); go_simp; try with_reducible rfl)
    simp only [List.setIfInBounds_toArray, List.set_cons_zero, List.set_cons_succ]
    refine wpX_take (i := 11) (v := .bool false) S1t.out rfl rfl (by kernel_rfl) (by kernel_rfl) (by kernel_rfl) (by kernel_rfl) (fun _ _ _ h => h) (SteadyX.value (by rfl) (fun w_ hS => by obtain ⟨q0, q1, q2⟩ := S1u.out _ hS; (have q0 := q0.four; have ha := HA.out; go_simp))) ?_
    simp only [List.setIfInBounds_toArray, List.set_cons_zero, List.set_cons_succ]
    refine wpX_take (i := 12) (v := ?_) S1t.out rfl rfl (by kernel_rfl) (by kernel_rfl) (by kernel_rfl) (by kernel_rfl) (fun _ _ _ h => h) (SteadyX.value (by rfl) ?_) ?_
    rotate_left
    · (intro w_ hS; go_simp; try with_reducible rfl)
    simp only [List.setIfInBounds_toArray, List.set_cons_zero, List.set_cons_succ]
    refine wpX_take (i := 13) (v := ?_) S1t.out rfl rfl (by kernel_rfl) (by kernel_rfl) (by kernel_rfl) (by kernel_rfl) (fun _ _ _ h => h) (SteadyX.value (by rfl) ?_) ?_
    rotate_left
    · (intro w_ hS; go_simp; try with_reducible rfl)
    simp only [List.setIfInBounds_toArray, List.set_cons_zero, List.set_cons_succ]
    refine wpX_take (i := 14) (v := undef) S1t.out rfl rfl (by kernel_rfl) (by kernel_rfl) (by kernel_rfl) (by kernel_rfl) (fun _ _ _ h => h) (SteadyX.off (by rfl)) ?_
    simp only [List.setIfInBounds_toArray, List.set_cons_zero, List.set_cons_succ]
    refine wpX_take (i := 15) (v := undef) S1t.out rfl rfl (by kernel_rfl) (by kernel_rfl) (by kernel_rfl) (by kernel_rfl) (fun _ _ _ h => h) (SteadyX.off (by rfl)) ?_
    simp only [List.setIfInBounds_toArray, List.set_cons_zero, List.set_cons_succ]
    refine wpX_take (i := 16) (v := undef) S1t.out rfl rfl (by kernel_rfl) (by kernel_rfl) (by kernel_rfl) (by kernel_rfl) (fun _ _ _ h => h) (SteadyX.off (by rfl)) ?_
    simp only [List.setIfInBounds_toArray, List.set_cons_zero, List.set_cons_succ]
    refine wpX_take (i := 17) (v := undef) S1t.out rfl rfl (by kernel_rfl) (by kernel_rfl) (by kernel_rfl) (by kernel_rfl) (fun _ _ _ h => h) (SteadyX.off (by rfl)) ?_
    simp only [List.setIfInBounds_toArray, List.set_cons_zero, List.set_cons_succ]
    refine wpX_take (i := 18) (v := undef) S1t.out rfl rfl (by kernel_rfl) (by kernel_rfl) (by kernel_rfl) (by kernel_rfl) (fun _ _ _ h => h) (SteadyX.off (by rfl)) ?_
    simp only [List.setIfInBounds_toArray, List.set_cons_zero, List.set_cons_succ]
    refine wpX_take (i := 19) (v := ?_) S1t.out rfl rfl (by kernel_rfl) (by kernel_rfl) (by kernel_rfl) (by kernel_rfl) (fun _ _ _ h => h) (SteadyX.value (by rfl) ?_) ?_
    rotate_left
    · (intro w_ hS; go_simp; try with_reducible rfl)
    simp only [List.setIfInBounds_toArray, List.set_cons_zero, List.set_cons_succ]
    refine wpX_take (i := 20) (v := ?_) S1t.out rfl rfl (by kernel_rfl) (by kernel_rfl) (by kernel_rfl) (by kernel_rfl) (fun _ _ _ h => h) (SteadyX.value (by rfl) ?_) ?_
    rotate_left
    · (intro w_ hS; go_simp; try with_reducible rfl)
    simp only [List.setIfInBounds_toArray, List.set_cons_zero, List.set_cons_succ]
    refine wpX_done (by kernel_rfl) (fun W hS => ?_) _
    obtain ⟨q0, q1, q2⟩ := S1u.out _ hS
    clear hS S0u S0m S0t S1u S1m S1t
    clear S0 S1
    go_wp2_with fail
    go_ret
    exact ⟨ret_bool rfl, q1⟩
  cases b
  · show Calls Try.prog 16 _ _ fun e w' => e = .returned (.bool false) ∧ Below w.heap.size w w'
    go_enter Try.func16, Try.ntmps16
    go_wp2_with fail
    obtain ⟨S0, S0d⟩ : ∃ S : World → Prop, S = fun v : World => Blk v w.heap.size #[.int .i64 x0, .int .i64 y0, .int .i64 x1, .int .i64 y1] 34 ∧ Below w.heap.size w v := ⟨_, rfl⟩
    have S0t0 : Stands S0 := by rw [S0d]; exact ((stands_blk _ _ _).and (stands_below _))
    have S0u0 : ∀ v, S0 v → Blk v w.heap.size #[.int .i64 x0, .int .i64 y0, .int .i64 x1, .int .i64 y1] 34 ∧ Below w.heap.size w v := fun v h => by rw [S0d] at h; exact h
    have S0m0 : ∀ v, (Blk v w.heap.size #[.int .i64 x0, .int .i64 y0, .int .i64 x1, .int .i64 y1] 34 ∧ Below w.heap.size w v) → S0 v := fun v h => by rw [S0d]; exact h
    have S0u := Lib.hid S0u0
    have S0m := Lib.hid S0m0
    have S0t := Lib.hid S0t0
    clear S0d S0u0 S0m0 S0t0
    refine wp_region_X (S := S0) (by kernel_rfl) (S0m.out _ ⟨HB.out.1.drew, HB.out.2.drew⟩) ?_
    refine wpX_take (i := 0) (v := ?_) S0t.out rfl rfl (by kernel_rfl) (by kernel_rfl) (by kernel_rfl) (by kernel_rfl) (fun _ _ _ h => h) (SteadyX.value (by rfl) ?_) ?_
    rotate_left
    · (intro w_ hS; obtain ⟨q0, q1⟩ := S0u.out _ hS; (have q0 := q0.four); (clear q1); go_simp; try with_reducible rfl)
    simp only [List.setIfInBounds_toArray, List.set_cons_zero, List.set_cons_succ]
    refine wpX_take (i := 1) S0t.out rfl rfl (by kernel_rfl) (by kernel_rfl) (by kernel_rfl) (by kernel_rfl) (fun _ _ _ h => h) (SteadyX.call (by rfl) (fun w_ hS => low_any x0 y0 x1 y1 w_) (fun w_ hS => by (go_simp))) ?_
    simp only [List.setIfInBounds_toArray, List.set_cons_zero, List.set_cons_succ]
    refine wpX_take (i := 2) (v := ?_) S0t.out rfl rfl (by kernel_rfl) (by kernel_rfl) (by kernel_rfl) (by kernel_rfl) (fun _ _ _ h => h) (SteadyX.value (by rfl) ?_) ?_
    rotate_left
    · (intro w_ hS; obtain ⟨q0, q1⟩ := S0u.out _ hS; (have q0 := q0.four); (clear q1); go_simp; try with_reducible rfl)
    simp only [List.setIfInBounds_toArray, List.set_cons_zero, List.set_cons_succ]
    refine wpX_take (i := 3) S0t.out rfl rfl (by kernel_rfl) (by kernel_rfl) (by kernel_rfl) (by kernel_rfl) (fun _ _ _ h => h) (SteadyX.call (by rfl) (fun w_ hS => high_any x0 y0 x1 y1 w_) (fun w_ hS => by (go_simp))) ?_
    simp only [List.setIfInBounds_toArray, List.set_cons_zero, List.set_cons_succ]
    refine wpX_one (i := 4) (by kernel_rfl) (fun w_ hS => ?_)
    obtain ⟨q0, q1⟩ := S0u.out _ hS
    obtain ⟨G, hG⟩ : ∃ R, R = w_.heap.size := ⟨_, rfl⟩
    have ltG_0 : w.heap.size < G := by rw [hG]; exact q0.lt
    have ltG_1 : w.heap.size ≤ G := by rw [hG]; exact q1.size
    obtain ⟨S1, S1d⟩ : ∃ S : World → Prop, S = fun v : World => Blk v w.heap.size #[.int .i64 x0, .int .i64 y0, .int .i64 x1, .int .i64 y1] 34 ∧ Below w.heap.size w v ∧ Blk v G #[.int .i64 x0, .int .i64 y0, .int .i64 x1, .int .i64 y1] 23 := ⟨_, rfl⟩
    have S1t0 : Stands S1 := by rw [S1d]; exact ((stands_blk _ _ _).and ((stands_below _).and (stands_blk _ _ _)))
    have S1u0 : ∀ v, S1 v → Blk v w.heap.size #[.int .i64 x0, .int .i64 y0, .int .i64 x1, .int .i64 y1] 34 ∧ Below w.heap.size w v ∧ Blk v G #[.int .i64 x0, .int .i64 y0, .int .i64 x1, .int .i64 y1] 23 := fun v h => by rw [S1d] at h; exact h
    have S1m0 : ∀ v, (Blk v w.heap.size #[.int .i64 x0, .int .i64 y0, .int .i64 x1, .int .i64 y1] 34 ∧ Below w.heap.size w v ∧ Blk v G #[.int .i64 x0, .int .i64 y0, .int .i64 x1, .int .i64 y1] 23) → S1 v := fun v h => by rw [S1d]; exact h
    have S1u := Lib.hid S1u0
    have S1m := Lib.hid S1m0
    have S1t := Lib.hid S1t0
    clear S1d S1u0 S1m0 S1t0
    refine wpX_run (i := 4) (v := .slice (some ⟨G, 0, none⟩) 2 2) (w' := w_.alloc (.cells #[.int .i64 x0, .int .i64 y0, .int .i64 x1, .int .i64 y1] 23)) S1 rfl rfl (by rfl) (by (subst hG; go_simp)) S1t.out (.inr fun v h => S0m.out _ (by obtain ⟨q0, q1, q2⟩ := S1u.out _ h; exact ⟨q0, q1⟩)) (S1m.out _ ⟨(stands_blk _ _ _) _ _ ((Below.refl _ w_).alloc (Nat.le_refl _) _) q0, (stands_below _) _ _ ((Below.refl _ w_).alloc (Nat.le_refl _) _) q1, Blk.new' w_ _ _ hG⟩) ?_
    clear hS q0 q1 hG
    clear w_
    simp only [List.setIfInBounds_toArray, List.set_cons_zero, List.set_cons_succ]
    refine wpX_take (i := 5) S1t.out rfl rfl (by kernel_rfl) (by kernel_rfl) (by kernel_rfl) (by kernel_rfl) (fun _ _ _ h => h) (SteadyX.call (by rfl) (fun w_ hS => by obtain ⟨q0, q1, q2⟩ := S1u.out _ hS; exact (all_two x0 y0 x1 y1 G w_ q2).mono (fun _ _ h => ⟨by rw [h.1, HM.out], h.2⟩)) (fun w_ hS => by (go_simp))) ?_
    simp only [List.setIfInBounds_toArray, List.set_cons_zero, List.set_cons_succ]
    refine wpX_take (i := 6) (v := ?_) S1t.out rfl rfl (by kernel_rfl) (by kernel_rfl) (by kernel_rfl) (by kernel_rfl) (fun _ _ _ h => h) (SteadyX.value (by rfl) ?_) ?_
    rotate_left
    · (intro w_ hS; go_simp; try with_reducible rfl)
    simp only [List.setIfInBounds_toArray, List.set_cons_zero, List.set_cons_succ]
    refine wpX_take (i := 7) (v := ?_) S1t.out rfl rfl (by kernel_rfl) (by kernel_rfl) (by kernel_rfl) (by kernel_rfl) (fun _ _ _ h => h) (SteadyX.value (by rfl) ?_) ?_
    rotate_left
    · (intro w_ hS; go_simp; try with_reducible rfl)
    simp only [List.setIfInBounds_toArray, List.set_cons_zero, List.set_cons_succ]
    refine wpX_take (i := 8) (v := ?_) S1t.out rfl rfl (by kernel_rfl) (by kernel_rfl) (by kernel_rfl) (by kernel_rfl) (fun _ _ _ h => h) (SteadyX.value (by rfl) ?_) ?_
    rotate_left
    · (intro w_ hS; obtain ⟨q0, q1, q2⟩ := S1u.out _ hS; (have q0 := q0.four); (clear q1); (have q2 := q2.four); go_simp; try with_reducible rfl)
    simp only [List.setIfInBounds_toArray, List.set_cons_zero, List.set_cons_succ]
    refine wpX_take (i := 9) (v := ?_) S1t.out rfl rfl (by kernel_rfl) (by kernel_rfl) (by kernel_rfl) (by kernel_rfl) (fun _ _ _ h => h) (SteadyX.value (by rfl) ?_) ?_
    rotate_left
    · (intro w_ hS; go_simp; try with_reducible rfl)
    simp only [List.setIfInBounds_toArray, List.set_cons_zero, List.set_cons_succ]
    refine wpX_take (i := 10) (v := ?_) S1t.out rfl rfl (by kernel_rfl) (by kernel_rfl) (by kernel_rfl) (by kernel_rfl) (fun _ _ _ h => h) (SteadyX.value (by rfl) ?_) ?_
    rotate_left
    · (intro w_ hS; obtain ⟨q0, q1, q2⟩ := S1u.out _ hS; (have q0 := q0.four); (clear q1); (have q2 := q2.four); go_simp; try with_reducible rfl)
    simp only [List.setIfInBounds_toArray, List.set_cons_zero, List.set_cons_succ]
    refine wpX_take (i := 11) (v := .bool true) S1t.out rfl rfl (by kernel_rfl) (by kernel_rfl) (by kernel_rfl) (by kernel_rfl) (fun _ _ _ h => h) (SteadyX.value (by rfl) (fun w_ hS => by obtain ⟨q0, q1, q2⟩ := S1u.out _ hS; (have q0 := q0.four; have ha := HA.out; go_simp))) ?_
    simp only [List.setIfInBounds_toArray, List.set_cons_zero, List.set_cons_succ]
    refine wpX_take (i := 12) (v := ?_) S1t.out rfl rfl (by kernel_rfl) (by kernel_rfl) (by kernel_rfl) (by kernel_rfl) (fun _ _ _ h => h) (SteadyX.value (by rfl) ?_) ?_
    rotate_left
    · (intro w_ hS; go_simp; try with_reducible rfl)
    simp only [List.setIfInBounds_toArray, List.set_cons_zero, List.set_cons_succ]
    refine wpX_take (i := 13) (v := ?_) S1t.out rfl rfl (by kernel_rfl) (by kernel_rfl) (by kernel_rfl) (by kernel_rfl) (fun _ _ _ h => h) (SteadyX.value (by rfl) ?_) ?_
    rotate_left
    · (intro w_ hS; go_simp; try with_reducible rfl)
    simp only [List.setIfInBounds_toArray, List.set_cons_zero, List.set_cons_succ]
    refine wpX_take (i := 14) (v := ?_) S1t.out rfl rfl (by kernel_rfl) (by kernel_rfl) (by kernel_rfl) (by kernel_rfl) (fun _ _ _ h => h) (SteadyX.value (by rfl) ?_) ?_
    rotate_left
    · (intro w_ hS; go_simp; try with_reducible rfl)
    simp only [List.setIfInBounds_toArray, List.set_cons_zero, List.set_cons_succ]
    refine wpX_take (i := 15) (v := ?_) S1t.out rfl rfl (by kernel_rfl) (by kernel_rfl) (by kernel_rfl) (by kernel_rfl) (fun _ _ _ h => h) (SteadyX.value (by rfl) ?_) ?_
    rotate_left
    · (intro w_ hS; obtain ⟨q0, q1, q2⟩ := S1u.out _ hS; (have q0 := q0.four); (clear q1); (have q2 := q2.four); go_simp; try with_reducible rfl)
    simp only [List.setIfInBounds_toArray, List.set_cons_zero, List.set_cons_succ]
    refine wpX_take (i := 16) (v := ?_) S1t.out rfl rfl (by kernel_rfl) (by kernel_rfl) (by kernel_rfl) (by kernel_rfl) (fun _ _ _ h => h) (SteadyX.value (by rfl) ?_) ?_
    rotate_left
    · (intro w_ hS; go_simp; try with_reducible rfl)
    simp only [List.setIfInBounds_toArray, List.set_cons_zero, List.set_cons_succ]
    refine wpX_take (i := 17) (v := ?_) S1t.out rfl rfl (by kernel_rfl) (by kernel_rfl) (by kernel_rfl) (by kernel_rfl) (fun _ _ _ h => h) (SteadyX.value (by rfl) ?_) ?_
    rotate_left
    · (intro w_ hS; obtain ⟨q0, q1, q2⟩ := S1u.out _ hS; (have q0 := q0.four); (clear q1); (have q2 := q2.four); go_simp; try with_reducible rfl)
    simp only [List.setIfInBounds_toArray, List.set_cons_zero, List.set_cons_succ]
    refine wpX_take (i := 18) (v := .bool false) S1t.out rfl rfl (by kernel_rfl) (by kernel_rfl) (by kernel_rfl) (by kernel_rfl) (fun _ _ _ h => h) (SteadyX.value (by rfl) (fun w_ hS => by obtain ⟨q0, q1, q2⟩ := S1u.out _ hS; (have q0 := q0.four; have hb := HA2.out; go_simp))) ?_
    simp only [List.setIfInBounds_toArray, List.set_cons_zero, List.set_cons_succ]
    refine wpX_take (i := 19) (v := ?_) S1t.out rfl rfl (by kernel_rfl) (by kernel_rfl) (by kernel_rfl) (by kernel_rfl) (fun _ _ _ h => h) (SteadyX.value (by rfl) ?_) ?_
    rotate_left
    · (intro w_ hS; go_simp; try with_reducible rfl)
    simp only [List.setIfInBounds_toArray, List.set_cons_zero, List.set_cons_succ]
    refine wpX_take (i := 20) (v := ?_) S1t.out rfl rfl (by kernel_rfl) (by kernel_rfl) (by kernel_rfl) (by kernel_rfl) (fun _ _ _ h => h) (SteadyX.value (by rfl) ?_) ?_
    rotate_left
    · (intro w_ hS; go_simp; try with_reducible rfl)
    simp only [List.setIfInBounds_toArray, List.set_cons_zero, List.set_cons_succ]
    refine wpX_done (by kernel_rfl) (fun W hS => ?_) _
    obtain ⟨q0, q1, q2⟩ := S1u.out _ hS
    clear hS S0u S0m S0t S1u S1m S1t
    clear S0 S1
    go_wp2_with fail
    go_ret
    exact ⟨ret_bool rfl, q1⟩
  · show Calls Try.prog 16 _ _ fun e w' => e = .returned (.bool true) ∧ Below w.heap.size w w'
    go_enter Try.func16, Try.ntmps16
    go_wp2_with fail
    obtain ⟨S0, S0d⟩ : ∃ S : World → Prop, S = fun v : World => Blk v w.heap.size #[.int .i64 x0, .int .i64 y0, .int .i64 x1, .int .i64 y1] 34 ∧ Below w.heap.size w v := ⟨_, rfl⟩
    have S0t0 : Stands S0 := by rw [S0d]; exact ((stands_blk _ _ _).and (stands_below _))
    have S0u0 : ∀ v, S0 v → Blk v w.heap.size #[.int .i64 x0, .int .i64 y0, .int .i64 x1, .int .i64 y1] 34 ∧ Below w.heap.size w v := fun v h => by rw [S0d] at h; exact h
    have S0m0 : ∀ v, (Blk v w.heap.size #[.int .i64 x0, .int .i64 y0, .int .i64 x1, .int .i64 y1] 34 ∧ Below w.heap.size w v) → S0 v := fun v h => by rw [S0d]; exact h
    have S0u := Lib.hid S0u0
    have S0m := Lib.hid S0m0
    have S0t := Lib.hid S0t0
    clear S0d S0u0 S0m0 S0t0
    refine wp_region_X (S := S0) (by kernel_rfl) (S0m.out _ ⟨HB.out.1.drew, HB.out.2.drew⟩) ?_
    refine wpX_take (i := 0) (v := ?_) S0t.out rfl rfl (by kernel_rfl) (by kernel_rfl) (by kernel_rfl) (by kernel_rfl) (fun _ _ _ h => h) (SteadyX.value (by rfl) ?_) ?_
    rotate_left
    · (intro w_ hS; obtain ⟨q0, q1⟩ := S0u.out _ hS; (have q0 := q0.four); (clear q1); go_simp; try with_reducible rfl)
    simp only [List.setIfInBounds_toArray, List.set_cons_zero, List.set_cons_succ]
    refine wpX_take (i := 1) S0t.out rfl rfl (by kernel_rfl) (by kernel_rfl) (by kernel_rfl) (by kernel_rfl) (fun _ _ _ h => h) (SteadyX.call (by rfl) (fun w_ hS => low_any x0 y0 x1 y1 w_) (fun w_ hS => by (go_simp))) ?_
    simp only [List.setIfInBounds_toArray, List.set_cons_zero, List.set_cons_succ]
    refine wpX_take (i := 2) (v := ?_) S0t.out rfl rfl (by kernel_rfl) (by kernel_rfl) (by kernel_rfl) (by kernel_rfl) (fun _ _ _ h => h) (SteadyX.value (by rfl) ?_) ?_
    rotate_left
    · (intro w_ hS; obtain ⟨q0, q1⟩ := S0u.out _ hS; (have q0 := q0.four); (clear q1); go_simp; try with_reducible rfl)
    simp only [List.setIfInBounds_toArray, List.set_cons_zero, List.set_cons_succ]
    refine wpX_take (i := 3) S0t.out rfl rfl (by kernel_rfl) (by kernel_rfl) (by kernel_rfl) (by kernel_rfl) (fun _ _ _ h => h) (SteadyX.call (by rfl) (fun w_ hS => high_any x0 y0 x1 y1 w_) (fun w_ hS => by (go_simp))) ?_
    simp only [List.setIfInBounds_toArray, List.set_cons_zero, List.set_cons_succ]
    refine wpX_one (i := 4) (by kernel_rfl) (fun w_ hS => ?_)
    obtain ⟨q0, q1⟩ := S0u.out _ hS
    obtain ⟨G, hG⟩ : ∃ R, R = w_.heap.size := ⟨_, rfl⟩
    have ltG_0 : w.heap.size < G := by rw [hG]; exact q0.lt
    have ltG_1 : w.heap.size ≤ G := by rw [hG]; exact q1.size
    obtain ⟨S1, S1d⟩ : ∃ S : World → Prop, S = fun v : World => Blk v w.heap.size #[.int .i64 x0, .int .i64 y0, .int .i64 x1, .int .i64 y1] 34 ∧ Below w.heap.size w v ∧ Blk v G #[.int .i64 x0, .int .i64 y0, .int .i64 x1, .int .i64 y1] 23 := ⟨_, rfl⟩
    have S1t0 : Stands S1 := by rw [S1d]; exact ((stands_blk _ _ _).and ((stands_below _).and (stands_blk _ _ _)))
    have S1u0 : ∀ v, S1 v → Blk v w.heap.size #[.int .i64 x0, .int .i64 y0, .int .i64 x1, .int .i64 y1] 34 ∧ Below w.heap.size w v ∧ Blk v G #[.int .i64 x0, .int .i64 y0, .int .i64 x1, .int .i64 y1] 23 := fun v h => by rw [S1d] at h; exact h
    have S1m0 : ∀ v, (Blk v w.heap.size #[.int .i64 x0, .int .i64 y0, .int .i64 x1, .int .i64 y1] 34 ∧ Below w.heap.size w v ∧ Blk v G #[.int .i64 x0, .int .i64 y0, .int .i64 x1, .int .i64 y1] 23) → S1 v := fun v h => by rw [S1d]; exact h
    have S1u := Lib.hid S1u0
    have S1m := Lib.hid S1m0
    have S1t := Lib.hid S1t0
    clear S1d S1u0 S1m0 S1t0
    refine wpX_run (i := 4) (v := .slice (some ⟨G, 0, none⟩) 2 2) (w' := w_.alloc (.cells #[.int .i64 x0, .int .i64 y0, .int .i64 x1, .int .i64 y1] 23)) S1 rfl rfl (by rfl) (by (subst hG; go_simp)) S1t.out (.inr fun v h => S0m.out _ (by obtain ⟨q0, q1, q2⟩ := S1u.out _ h; exact ⟨q0, q1⟩)) (S1m.out _ ⟨(stands_blk _ _ _) _ _ ((Below.refl _ w_).alloc (Nat.le_refl _) _) q0, (stands_below _) _ _ ((Below.refl _ w_).alloc (Nat.le_refl _) _) q1, Blk.new' w_ _ _ hG⟩) ?_
    clear hS q0 q1 hG
    clear w_
    simp only [List.setIfInBounds_toArray, List.set_cons_zero, List.set_cons_succ]
    refine wpX_take (i := 5) S1t.out rfl rfl (by kernel_rfl) (by kernel_rfl) (by kernel_rfl) (by kernel_rfl) (fun _ _ _ h => h) (SteadyX.call (by rfl) (fun w_ hS => by obtain ⟨q0, q1, q2⟩ := S1u.out _ hS; exact (all_two x0 y0 x1 y1 G w_ q2).mono (fun _ _ h => ⟨by rw [h.1, HM.out], h.2⟩)) (fun w_ hS => by (go_simp))) ?_
    simp only [List.setIfInBounds_toArray, List.set_cons_zero, List.set_cons_succ]
    refine wpX_take (i := 6) (v := ?_) S1t.out rfl rfl (by kernel_rfl) (by kernel_rfl) (by kernel_rfl) (by kernel_rfl) (fun _ _ _ h => h) (SteadyX.value (by rfl) ?_) ?_
    rotate_left
    · (intro w_ hS; go_simp; try with_reducible rfl)
    simp only [List.setIfInBounds_toArray, List.set_cons_zero, List.set_cons_succ]
    refine wpX_take (i := 7) (v := ?_) S1t.out rfl rfl (by kernel_rfl) (by kernel_rfl) (by kernel_rfl) (by kernel_rfl) (fun _ _ _ h => h) (SteadyX.value (by rfl) ?_) ?_
    rotate_left
    · (intro w_ hS; go_simp; try with_reducible rfl)
    simp only [List.setIfInBounds_toArray, List.set_cons_zero, List.set_cons_succ]
    refine wpX_take (i := 8) (v := ?_) S1t.out rfl rfl (by kernel_rfl) (by kernel_rfl) (by kernel_rfl) (by kernel_rfl) (fun _ _ _ h => h) (SteadyX.value (by rfl) ?_) ?_
    rotate_left
    · (intro w_ hS; obtain ⟨q0, q1, q2⟩ := S1u.out _ hS; (have q0 := q0.four); (clear q1); (have q2 := q2.four); go_simp; try with_reducible rfl)
    simp only [List.setIfInBounds_toArray, List.set_cons_zero, List.set_cons_succ]
    refine wpX_take (i := 9) (v := ?_) S1t.out rfl rfl (by kernel_rfl) (by kernel_rfl) (by kernel_rfl) (by kernel_rfl) (fun _ _ _ h => h) (SteadyX.value (by rfl) ?_) ?_
    rotate_left
    · (intro w_ hS; go_simp; try with_reducible rfl)
    simp only [List.setIfInBounds_toArray, List.set_cons_zero, List.set_cons_succ]
    refine wpX_take (i := 10) (v := ?_) S1t.out rfl rfl (by kernel_rfl) (by kernel_rfl) (by kernel_rfl) (by kernel_rfl) (fun _ _ _ h => h) (SteadyX.value (by rfl) ?_) ?_
    rotate_left
    · (intro w_ hS; obtain ⟨q0, q1, q2⟩ := S1u.out _ hS; (have q0 := q0.four); (clear q1); (have q2 := q2.four); go_simp; try with_reducible rfl)
    simp only [List.setIfInBounds_toArray, List.set_cons_zero, List.set_cons_succ]
    refine wpX_take (i := 11) (v := .bool true) S1t.out rfl rfl (by kernel_rfl) (by kernel_rfl) (by kernel_rfl) (by kernel_rfl) (fun _ _ _ h => h) (SteadyX.value (by rfl) (fun w_ hS => by obtain ⟨q0, q1, q2⟩ := S1u.out _ hS; (have q0 := q0.four; have ha := HA.out; go_simp))) ?_
    simp only [List.setIfInBounds_toArray, List.set_cons_zero, List.set_cons_succ]
    refine wpX_take (i := 12) (v := ?_) S1t.out rfl rfl (by kernel_rfl) (by kernel_rfl) (by kernel_rfl) (by kernel_rfl) (fun _ _ _ h => h) (SteadyX.value (by rfl) ?_) ?_
    rotate_left
    · (intro w_ hS; go_simp; try with_reducible rfl)
    simp only [List.setIfInBounds_toArray, List.set_cons_zero, List.set_cons_succ]
    refine wpX_take (i := 13) (v := ?_) S1t.out rfl rfl (by kernel_rfl) (by kernel_rfl) (by kernel_rfl) (by kernel_rfl) (fun _ _ _ h => h) (SteadyX.value (by rfl) ?_) ?_
    rotate_left
    · (intro w_ hS; go_simp; try with_reducible rfl)
    simp only [List.setIfInBounds_toArray, List.set_cons_zero, List.set_cons_succ]
    refine wpX_take (i := 14) (v := ?_) S1t.out rfl rfl (by kernel_rfl) (by kernel_rfl) (by kernel_rfl) (by kernel_rfl) (fun _ _ _ h => h) (SteadyX.value (by rfl) ?_) ?_
    rotate_left
    · (intro w_ hS; go_simp; try with_reducible rfl)
    simp only [List.setIfInBounds_toArray, List.set_cons_zero, List.set_cons_succ]
    refine wpX_take (i := 15) (v := ?_) S1t.out rfl rfl (by kernel_rfl) (by kernel_rfl) (by kernel_rfl) (by kernel_rfl) (fun _ _ _ h => h) (SteadyX.value (by rfl) ?_) ?_
    rotate_left
    · (intro w_ hS; obtain ⟨q0, q1, q2⟩ := S1u.out _ hS; (have q0 := q0.four); (clear q1); (have q2 := q2.four); go_simp; try with_reducible rfl)
    simp only [List.setIfInBounds_toArray, List.set_cons_zero, List.set_cons_succ]
    refine wpX_take (i := 16) (v := ?_) S1t.out rfl rfl (by kernel_rfl) (by kernel_rfl) (by kernel_rfl) (by kernel_rfl) (fun _ _ _ h => h) (SteadyX.value (by rfl) ?_) ?_
    rotate_left
    · (intro w_ hS; go_simp; try with_reducible rfl)
    simp only [List.setIfInBounds_toArray, List.set_cons_zero, List.set_cons_succ]
    refine wpX_take (i := 17) (v := ?_) S1t.out rfl rfl (by kernel_rfl) (by kernel_rfl) (by kernel_rfl) (by kernel_rfl) (fun _ _ _ h => h) (SteadyX.value (by rfl) ?_) ?_
    rotate_left
    · (intro w_ hS; obtain ⟨q0, q1, q2⟩ := S1u.out _ hS; (have q0 := q0.four); (clear q1); (have q2 := q2.four); go_simp; try with_reducible rfl)
    simp only [List.setIfInBounds_toArray, List.set_cons_zero, List.set_cons_succ]
    refine wpX_take (i := 18) (v := .bool true) S1t.out rfl rfl (by kernel_rfl) (by kernel_rfl) (by kernel_rfl) (by kernel_rfl) (fun _ _ _ h => h) (SteadyX.value (by rfl) (fun w_ hS => by obtain ⟨q0, q1, q2⟩ := S1u.out _ hS; (have q0 := q0.four; have hb := HA2.out; go_simp))) ?_
    simp only [List.setIfInBounds_toArray, List.set_cons_zero, List.set_cons_succ]
    refine wpX_take (i := 19) (v := ?_) S1t.out rfl rfl (by kernel_rfl) (by kernel_rfl) (by kernel_rfl) (by kernel_rfl) (fun _ _ _ h => h) (SteadyX.value (by rfl) ?_) ?_
    rotate_left
    · (intro w_ hS; go_simp; try with_reducible rfl)
    simp only [List.setIfInBounds_toArray, List.set_cons_zero, List.set_cons_succ]
    refine wpX_take (i := 20) (v := ?_) S1t.out rfl rfl (by kernel_rfl) (by kernel_rfl) (by kernel_rfl) (by kernel_rfl) (fun _ _ _ h => h) (SteadyX.value (by rfl) ?_) ?_
    rotate_left
    · (intro w_ hS; go_simp; try with_reducible rfl)
    simp only [List.setIfInBounds_toArray, List.set_cons_zero, List.set_cons_succ]
    refine wpX_done (by kernel_rfl) (fun W hS => ?_) _
    obtain ⟨q0, q1, q2⟩ := S1u.out _ hS
    clear hS S0u S0m S0t S1u S1m S1t
    clear S0 S1
    go_wp2_with fail
    go_ret
    exact ⟨ret_bool rfl, q1⟩

/-- A rect that may be. -/
def mayR (x0 y0 x1 y1 : Int) : Bool := mayB x0 y0 && mayB x1 y1 && decide (x0 ≤ x1) && decide (y0 ≤ y1)
theorem MayRect_any (x0 y0 x1 y1 : Int) (w : World) :
    Calls Try.prog 16 #[.agg #[.int .i64 x0, .int .i64 y0, .int .i64 x1, .int .i64 y1]] w fun e w' => e = .returned (.bool (mayR x0 y0 x1 y1)) ∧ Below w.heap.size w w' :=
  MayRect_road x0 y0 x1 y1 _ _ _ rfl rfl rfl w

end Go.Proofs.Ythinjaddebfdhaa
