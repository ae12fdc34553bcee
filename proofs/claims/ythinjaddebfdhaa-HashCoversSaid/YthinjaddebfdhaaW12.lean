/- Walks: a rect's span of a depth. Printed by mk_w12.py. -/
import Derived.Test.YthinjaddebfdhaaW11
import Derived.Test.YthinjaddebfdhaaFree
namespace Go.Proofs.Ythinjaddebfdhaa
open Go.RowKit
set_option maxRecDepth 8000

set_option maxHeartbeats 2000000 in
theorem at_any (a b c e : Int) (d : Nat) (a0 : -1800000000 ≤ a) (a1 : a ≤ 1800000000) (c0 : -1800000000 ≤ c) (c1 : c ≤ 1800000000) (b0 : -900000000 ≤ b) (b1 : b ≤ 900000000) (e0 : -900000000 ≤ e) (e1 : e ≤ 900000000) (h2 : (d : Int) ≤ 32) (w : World) :
    Calls Try.prog 23 #[.agg #[.int .i64 a, .int .i64 b, .int .i64 c, .int .i64 e], .int .i64 d] w fun r w' => r = .returned (.agg #[.int .u64 ((a + 1800000000) / 2 ^ (32 - d)), .int .u64 ((c + 1800000000) / 2 ^ (32 - d)), .int .u64 ((b + 900000000) / 2 ^ (32 - d)), .int .u64 ((e + 900000000) / 2 ^ (32 - d))]) ∧ Below w.heap.size w w' := by
  have k1 := ((Blk.new w #[.int .i64 a, .int .i64 b, .int .i64 c, .int .i64 e] 34).alloc (.cells #[.int .i64 d] 3)).alloc (.cells #[.int .u64 0, .int .u64 0, .int .u64 0, .int .u64 0] 53)
  have k2 := (Blk.new' (b := w.heap.size + 1) (w.alloc (.cells #[.int .i64 a, .int .i64 b, .int .i64 c, .int .i64 e] 34)) #[.int .i64 d] 3 (by simp)).alloc (.cells #[.int .u64 0, .int .u64 0, .int .u64 0, .int .u64 0] 53)
  have k3 := Blk.new' (b := w.heap.size + 2) ((w.alloc (.cells #[.int .i64 a, .int .i64 b, .int .i64 c, .int .i64 e] 34)).alloc (.cells #[.int .i64 d] 3)) #[.int .u64 0, .int .u64 0, .int .u64 0, .int .u64 0] 53 (by simp)
  have k4 := grow_alloc (grow_alloc (grow_alloc (Below.refl w.heap.size w) (.cells #[.int .i64 a, .int .i64 b, .int .i64 c, .int .i64 e] 34)) (.cells #[.int .i64 d] 3)) (.cells #[.int .u64 0, .int .u64 0, .int .u64 0, .int .u64 0] 53)
  have HB := Lib.hid (And.intro k1 (And.intro k2 (And.intro k3 k4)))
  clear k1 k2 k3 k4
  go_enter Try.func23, Try.ntmps23
  go_wp2_with fail
  obtain ⟨S0, S0d⟩ : ∃ S : World → Prop, S = fun v : World => Blk v w.heap.size #[.int .i64 a, .int .i64 b, .int .i64 c, .int .i64 e] 34 ∧ Blk v (w.heap.size + 1) #[.int .i64 d] 3 ∧ Blk v (w.heap.size + 2) #[.int .u64 0, .int .u64 0, .int .u64 0, .int .u64 0] 53 ∧ Below w.heap.size w v := ⟨_, rfl⟩
  have S0t0 : Stands S0 := by rw [S0d]; exact ((stands_blk _ _ _).and ((stands_blk _ _ _).and ((stands_blk _ _ _).and (stands_below _))))
  have S0u0 : ∀ v, S0 v → Blk v w.heap.size #[.int .i64 a, .int .i64 b, .int .i64 c, .int .i64 e] 34 ∧ Blk v (w.heap.size + 1) #[.int .i64 d] 3 ∧ Blk v (w.heap.size + 2) #[.int .u64 0, .int .u64 0, .int .u64 0, .int .u64 0] 53 ∧ Below w.heap.size w v := fun v h => by rw [S0d] at h; exact h
  have S0m0 : ∀ v, (Blk v w.heap.size #[.int .i64 a, .int .i64 b, .int .i64 c, .int .i64 e] 34 ∧ Blk v (w.heap.size + 1) #[.int .i64 d] 3 ∧ Blk v (w.heap.size + 2) #[.int .u64 0, .int .u64 0, .int .u64 0, .int .u64 0] 53 ∧ Below w.heap.size w v) → S0 v := fun v h => by rw [S0d]; exact h
  have S0u := Lib.hid S0u0
  have S0m := Lib.hid S0m0
  have S0t := Lib.hid S0t0
  clear S0d S0u0 S0m0 S0t0
  refine wp_region_X (S := S0) (by kernel_rfl) (S0m.out _ ⟨HB.out.1.drew, HB.out.2.1.drew, HB.out.2.2.1.drew, HB.out.2.2.2.drew⟩) ?_
  refine wpX_take (i := 0) (v := ?_) S0t.out rfl rfl (by kernel_rfl) (by kernel_rfl) (by kernel_rfl) (by kernel_rfl) (fun _ _ _ h => h) (SteadyX.value (by rfl) ?_) ?_
  rotate_left
  · (intro w_ hS; go_simp; try with_reducible rfl)
  simp only [List.setIfInBounds_toArray, List.set_cons_zero, List.set_cons_succ]
  refine wpX_take (i := 1) (v := ?_) S0t.out rfl rfl (by kernel_rfl) (by kernel_rfl) (by kernel_rfl) (by kernel_rfl) (fun _ _ _ h => h) (SteadyX.value (by rfl) ?_) ?_
  rotate_left
  · (intro w_ hS; go_simp; try with_reducible rfl)
  simp only [List.setIfInBounds_toArray, List.set_cons_zero, List.set_cons_succ]
  refine wpX_take (i := 2) (v := ?_) S0t.out rfl rfl (by kernel_rfl) (by kernel_rfl) (by kernel_rfl) (by kernel_rfl) (fun _ _ _ h => h) (SteadyX.value (by rfl) ?_) ?_
  rotate_left
  · (intro w_ hS; obtain ⟨q0, q1, q2, q3⟩ := S0u.out _ hS; (have q0 := q0.four); (have q1 := q1.one); (have q2 := q2.four); (clear q3); go_simp; try with_reducible rfl)
  simp only [List.setIfInBounds_toArray, List.set_cons_zero, List.set_cons_succ]
  refine wpX_take (i := 3) S0t.out rfl rfl (by kernel_rfl) (by kernel_rfl) (by kernel_rfl) (by kernel_rfl) (fun _ _ _ h => h) (SteadyX.call (by rfl) (fun w_ hS => by obtain ⟨q0, q1, q2, q3⟩ := S0u.out _ hS; exact (cell_any a 1800000000 d (w.heap.size + 1) (by omega) (by omega) h2 w_ q1).mono (fun _ _ h => ⟨h.1, by rw [h.2]; exact Below.refl _ _⟩)) (fun w_ hS => by (go_simp))) ?_
  simp only [List.setIfInBounds_toArray, List.set_cons_zero, List.set_cons_succ]
  refine wpX_take (i := 4) (v := ?_) S0t.out rfl rfl (by kernel_rfl) (by kernel_rfl) (by kernel_rfl) (by kernel_rfl) (fun _ _ _ h => h) (SteadyX.value (by rfl) ?_) ?_
  rotate_left
  · (intro w_ hS; go_simp; try with_reducible rfl)
  simp only [List.setIfInBounds_toArray, List.set_cons_zero, List.set_cons_succ]
  refine wpX_take (i := 5) (v := ?_) S0t.out rfl rfl (by kernel_rfl) (by kernel_rfl) (by kernel_rfl) (by kernel_rfl) (fun _ _ _ h => h) (SteadyX.value (by rfl) ?_) ?_
  rotate_left
  · (intro w_ hS; go_simp; try with_reducible rfl)
  simp only [List.setIfInBounds_toArray, List.set_cons_zero, List.set_cons_succ]
  refine wpX_take (i := 6) (v := ?_) S0t.out rfl rfl (by kernel_rfl) (by kernel_rfl) (by kernel_rfl) (by kernel_rfl) (fun _ _ _ h => h) (SteadyX.value (by rfl) ?_) ?_
  rotate_left
  · (intro w_ hS; obtain ⟨q0, q1, q2, q3⟩ := S0u.out _ hS; (have q0 := q0.four); (have q1 := q1.one); (have q2 := q2.four); (clear q3); go_simp; try with_reducible rfl)
  simp only [List.setIfInBounds_toArray, List.set_cons_zero, List.set_cons_succ]
  refine wpX_take (i := 7) S0t.out rfl rfl (by kernel_rfl) (by kernel_rfl) (by kernel_rfl) (by kernel_rfl) (fun _ _ _ h => h) (SteadyX.call (by rfl) (fun w_ hS => by obtain ⟨q0, q1, q2, q3⟩ := S0u.out _ hS; exact (cell_any c 1800000000 d (w.heap.size + 1) (by omega) (by omega) h2 w_ q1).mono (fun _ _ h => ⟨h.1, by rw [h.2]; exact Below.refl _ _⟩)) (fun w_ hS => by (go_simp))) ?_
  simp only [List.setIfInBounds_toArray, List.set_cons_zero, List.set_cons_succ]
  refine wpX_take (i := 8) (v := ?_) S0t.out rfl rfl (by kernel_rfl) (by kernel_rfl) (by kernel_rfl) (by kernel_rfl) (fun _ _ _ h => h) (SteadyX.value (by rfl) ?_) ?_
  rotate_left
  · (intro w_ hS; go_simp; try with_reducible rfl)
  simp only [List.setIfInBounds_toArray, List.set_cons_zero, List.set_cons_succ]
  refine wpX_take (i := 9) (v := ?_) S0t.out rfl rfl (by kernel_rfl) (by kernel_rfl) (by kernel_rfl) (by kernel_rfl) (fun _ _ _ h => h) (SteadyX.value (by rfl) ?_) ?_
  rotate_left
  · (intro w_ hS; go_simp; try with_reducible rfl)
  simp only [List.setIfInBounds_toArray, List.set_cons_zero, List.set_cons_succ]
  refine wpX_take (i := 10) (v := ?_) S0t.out rfl rfl (by kernel_rfl) (by kernel_rfl) (by kernel_rfl) (by kernel_rfl) (fun _ _ _ h => h) (SteadyX.value (by rfl) ?_) ?_
  rotate_left
  · (intro w_ hS; obtain ⟨q0, q1, q2, q3⟩ := S0u.out _ hS; (have q0 := q0.four); (have q1 := q1.one); (have q2 := q2.four); (clear q3); go_simp; try with_reducible rfl)
  simp only [List.setIfInBounds_toArray, List.set_cons_zero, List.set_cons_succ]
  refine wpX_take (i := 11) S0t.out rfl rfl (by kernel_rfl) (by kernel_rfl) (by kernel_rfl) (by kernel_rfl) (fun _ _ _ h => h) (SteadyX.call (by rfl) (fun w_ hS => by obtain ⟨q0, q1, q2, q3⟩ := S0u.out _ hS; exact (cell_any b 900000000 d (w.heap.size + 1) (by omega) (by omega) h2 w_ q1).mono (fun _ _ h => ⟨h.1, by rw [h.2]; exact Below.refl _ _⟩)) (fun w_ hS => by (go_simp))) ?_
  simp only [List.setIfInBounds_toArray, List.set_cons_zero, List.set_cons_succ]
  refine wpX_take (i := 12) (v := ?_) S0t.out rfl rfl (by kernel_rfl) (by kernel_rfl) (by kernel_rfl) (by kernel_rfl) (fun _ _ _ h => h) (SteadyX.value (by rfl) ?_) ?_
  rotate_left
  · (intro w_ hS; go_simp; try with_reducible rfl)
  simp only [List.setIfInBounds_toArray, List.set_cons_zero, List.set_cons_succ]
  refine wpX_take (i := 13) (v := ?_) S0t.out rfl rfl (by kernel_rfl) (by kernel_rfl) (by kernel_rfl) (by kernel_rfl) (fun _ _ _ h => h) (SteadyX.value (by rfl) ?_) ?_
  rotate_left
  · (intro w_ hS; go_simp; try with_reducible rfl)
  simp only [List.setIfInBounds_toArray, List.set_cons_zero, List.set_cons_succ]
  refine wpX_take (i := 14) (v := ?_) S0t.out rfl rfl (by kernel_rfl) (by kernel_rfl) (by kernel_rfl) (by kernel_rfl) (fun _ _ _ h => h) (SteadyX.value (by rfl) ?_) ?_
  rotate_left
  · (intro w_ hS; obtain ⟨q0, q1, q2, q3⟩ := S0u.out _ hS; (have q0 := q0.four); (have q1 := q1.one); (have q2 := q2.four); (clear q3); go_simp; try with_reducible rfl)
  simp only [List.setIfInBounds_toArray, List.set_cons_zero, List.set_cons_succ]
  refine wpX_take (i := 15) S0t.out rfl rfl (by kernel_rfl) (by kernel_rfl) (by kernel_rfl) (by kernel_rfl) (fun _ _ _ h => h) (SteadyX.call (by rfl) (fun w_ hS => by obtain ⟨q0, q1, q2, q3⟩ := S0u.out _ hS; exact (cell_any e 900000000 d (w.heap.size + 1) (by omega) (by omega) h2 w_ q1).mono (fun _ _ h => ⟨h.1, by rw [h.2]; exact Below.refl _ _⟩)) (fun w_ hS => by (go_simp))) ?_
  simp only [List.setIfInBounds_toArray, List.set_cons_zero, List.set_cons_succ]
  refine wpX_take (i := 16) (v := ?_) S0t.out rfl rfl (by kernel_rfl) (by kernel_rfl) (by kernel_rfl) (by kernel_rfl) (fun _ _ _ h => h) (SteadyX.value (by rfl) ?_) ?_
  rotate_left
  · (intro w_ hS; go_simp; try with_reducible rfl)
  simp only [List.setIfInBounds_toArray, List.set_cons_zero, List.set_cons_succ]
  refine wpX_one (i := 17) (by kernel_rfl) (fun w_ hS => ?_)
  obtain ⟨q0, q1, q2, q3⟩ := S0u.out _ hS
  obtain ⟨S1, S1d⟩ : ∃ S : World → Prop, S = fun v : World => Blk v w.heap.size #[.int .i64 a, .int .i64 b, .int .i64 c, .int .i64 e] 34 ∧ Blk v (w.heap.size + 1) #[.int .i64 d] 3 ∧ Blk v (w.heap.size + 2) #[.int .u64 ((a + 1800000000) / 2 ^ (32 - d)), .int .u64 ((c + 1800000000) / 2 ^ (32 - d)), .int .u64 ((b + 900000000) / 2 ^ (32 - d)), .int .u64 ((e + 900000000) / 2 ^ (32 - d))] 53 ∧ Below w.heap.size w v := ⟨_, rfl⟩
  have S1t0 : Stands S1 := by rw [S1d]; exact ((stands_blk _ _ _).and ((stands_blk _ _ _).and ((stands_blk _ _ _).and (stands_below _))))
  have S1u0 : ∀ v, S1 v → Blk v w.heap.size #[.int .i64 a, .int .i64 b, .int .i64 c, .int .i64 e] 34 ∧ Blk v (w.heap.size + 1) #[.int .i64 d] 3 ∧ Blk v (w.heap.size + 2) #[.int .u64 ((a + 1800000000) / 2 ^ (32 - d)), .int .u64 ((c + 1800000000) / 2 ^ (32 - d)), .int .u64 ((b + 900000000) / 2 ^ (32 - d)), .int .u64 ((e + 900000000) / 2 ^ (32 - d))] 53 ∧ Below w.heap.size w v := fun v h => by rw [S1d] at h; exact h
  have S1m0 : ∀ v, (Blk v w.heap.size #[.int .i64 a, .int .i64 b, .int .i64 c, .int .i64 e] 34 ∧ Blk v (w.heap.size + 1) #[.int .i64 d] 3 ∧ Blk v (w.heap.size + 2) #[.int .u64 ((a + 1800000000) / 2 ^ (32 - d)), .int .u64 ((c + 1800000000) / 2 ^ (32 - d)), .int .u64 ((b + 900000000) / 2 ^ (32 - d)), .int .u64 ((e + 900000000) / 2 ^ (32 - d))] 53 ∧ Below w.heap.size w v) → S1 v := fun v h => by rw [S1d]; exact h
  have S1u := Lib.hid S1u0
  have S1m := Lib.hid S1m0
  have S1t := Lib.hid S1t0
  clear S1d S1u0 S1m0 S1t0
  have n2 : Blk ((((w_.setCell ⟨(w.heap.size + 2), 0, none⟩ (.int .u64 ((a + 1800000000) / 2 ^ (32 - d)))).setCell ⟨(w.heap.size + 2), 1, none⟩ (.int .u64 ((c + 1800000000) / 2 ^ (32 - d)))).setCell ⟨(w.heap.size + 2), 2, none⟩ (.int .u64 ((b + 900000000) / 2 ^ (32 - d)))).setCell ⟨(w.heap.size + 2), 3, none⟩ (.int .u64 ((e + 900000000) / 2 ^ (32 - d)))) (w.heap.size + 2) #[.int .u64 ((a + 1800000000) / 2 ^ (32 - d)), .int .u64 ((c + 1800000000) / 2 ^ (32 - d)), .int .u64 ((b + 900000000) / 2 ^ (32 - d)), .int .u64 ((e + 900000000) / 2 ^ (32 - d))] 53 := by have h := ((((q2.set 0 (.int .u64 ((a + 1800000000) / 2 ^ (32 - d)))).set 1 (.int .u64 ((c + 1800000000) / 2 ^ (32 - d)))).set 2 (.int .u64 ((b + 900000000) / 2 ^ (32 - d)))).set 3 (.int .u64 ((e + 900000000) / 2 ^ (32 - d)))); simpa using h
  have st_ : S1 ((((w_.setCell ⟨(w.heap.size + 2), 0, none⟩ (.int .u64 ((a + 1800000000) / 2 ^ (32 - d)))).setCell ⟨(w.heap.size + 2), 1, none⟩ (.int .u64 ((c + 1800000000) / 2 ^ (32 - d)))).setCell ⟨(w.heap.size + 2), 2, none⟩ (.int .u64 ((b + 900000000) / 2 ^ (32 - d)))).setCell ⟨(w.heap.size + 2), 3, none⟩ (.int .u64 ((e + 900000000) / 2 ^ (32 - d)))) := S1m.out _ ⟨((((((((q0).other (a := ⟨(w.heap.size + 2), 0, none⟩) (by show w.heap.size ≠ (w.heap.size + 2); omega) _)).other (a := ⟨(w.heap.size + 2), 1, none⟩) (by show w.heap.size ≠ (w.heap.size + 2); omega) _)).other (a := ⟨(w.heap.size + 2), 2, none⟩) (by show w.heap.size ≠ (w.heap.size + 2); omega) _)).other (a := ⟨(w.heap.size + 2), 3, none⟩) (by show w.heap.size ≠ (w.heap.size + 2); omega) _), ((((((((q1).other (a := ⟨(w.heap.size + 2), 0, none⟩) (by show (w.heap.size + 1) ≠ (w.heap.size + 2); omega) _)).other (a := ⟨(w.heap.size + 2), 1, none⟩) (by show (w.heap.size + 1) ≠ (w.heap.size + 2); omega) _)).other (a := ⟨(w.heap.size + 2), 2, none⟩) (by show (w.heap.size + 1) ≠ (w.heap.size + 2); omega) _)).other (a := ⟨(w.heap.size + 2), 3, none⟩) (by show (w.heap.size + 1) ≠ (w.heap.size + 2); omega) _), n2, ((((((((q3).setCell (p := ⟨(w.heap.size + 2), 0, none⟩) (by show w.heap.size ≤ (w.heap.size + 2); omega) _)).setCell (p := ⟨(w.heap.size + 2), 1, none⟩) (by show w.heap.size ≤ (w.heap.size + 2); omega) _)).setCell (p := ⟨(w.heap.size + 2), 2, none⟩) (by show w.heap.size ≤ (w.heap.size + 2); omega) _)).setCell (p := ⟨(w.heap.size + 2), 3, none⟩) (by show w.heap.size ≤ (w.heap.size + 2); omega) _)⟩
  have r_ := q2.four
  refine wpX_store (i := 17) (w' := ((((w_.setCell ⟨(w.heap.size + 2), 0, none⟩ (.int .u64 ((a + 1800000000) / 2 ^ (32 - d)))).setCell ⟨(w.heap.size + 2), 1, none⟩ (.int .u64 ((c + 1800000000) / 2 ^ (32 - d)))).setCell ⟨(w.heap.size + 2), 2, none⟩ (.int .u64 ((b + 900000000) / 2 ^ (32 - d)))).setCell ⟨(w.heap.size + 2), 3, none⟩ (.int .u64 ((e + 900000000) / 2 ^ (32 - d))))) S1 rfl rfl (by rfl) (by go_simp) S1t.out (.inl (by kernel_rfl)) st_ ?_
  clear r_ hS st_ q0 q1 q2 q3 n2
  clear w_
  refine wpX_done (by kernel_rfl) (fun W hS => ?_) _
  obtain ⟨q0, q1, q2, q3⟩ := S1u.out _ hS
  clear hS S0u S0m S0t S1u S1m S1t
  clear S0 S1
  have r_ := q2.four
  go_wp2_with fail
  go_wp2_with fail
  refine bodyPost_ret (v := .agg #[.int .u64 ((a + 1800000000) / 2 ^ (32 - d)), .int .u64 ((c + 1800000000) / 2 ^ (32 - d)), .int .u64 ((b + 900000000) / 2 ^ (32 - d)), .int .u64 ((e + 900000000) / 2 ^ (32 - d))]) ?_ rfl ⟨rfl, q3⟩
  clear HB
  simp [results, Try.results23, go_sem, r_]

end Go.Proofs.Ythinjaddebfdhaa
