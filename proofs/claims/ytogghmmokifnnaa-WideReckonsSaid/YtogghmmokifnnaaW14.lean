/- Walks: row; WideProducts. -/
import Derived.Test.YtogghmmokifnnaaW13
namespace Go.Proofs.Ytogghmmokifnnaa
open Go.RowKit

set_option maxRecDepth 20000 in
theorem eq_row (f : Nat → Int) (w : World) : (Op.equalIn 10000 32 (.agg #[.int .i64 (f 0), .int .i64 (f 1), .int .i64 (f 2), .int .i64 (f 3), .int .i64 (f 4), .int .i64 (f 5), .int .i64 (f 6), .int .i64 (f 7)]) (.agg #[.int .i64 (f 0), .int .i64 (f 1), .int .i64 (f 2), .int .i64 (f 3), .int .i64 (f 4), .int .i64 (f 5), .int .i64 (f 6), .int .i64 (f 7)])).run Try.prog w = .ok true w := by
  have u3 := Try.underlying3
  have a3 := Try.isAgg3
  have z3 := Try.sizeOf3
  rw [show (10000 : Nat) = 9999 + 1 from rfl, Op.equalIn]
  simp only [Sem.run_bind, run_underlying Try.underlying32, Result.andThen_ok]
  simp only [Std.Legacy.Range.forIn_eq_forIn_range', Std.Legacy.Range.size, Nat.sub_zero, Nat.add_sub_cancel, Nat.div_one, List.range'_succ, List.range'_zero, List.forIn_cons, List.forIn_nil]
  go_simp

set_option maxRecDepth 20000 in
set_option maxHeartbeats 1000000 in
theorem row_road (h l : Int) (f : Nat → Int) (k1 : ∀ w, Calls Try.prog 32 #[.int .i64 h, .int .u64 l] w fun e w' => e = .returned (.agg #[.int .i64 (f 0), .int .i64 (f 1), .int .i64 (f 2), .int .i64 (f 3), .int .i64 (f 4), .int .i64 (f 5), .int .i64 (f 6), .int .i64 (f 7)]) ∧ Below w.heap.size w w') (w : World) :
    Calls Try.prog 16 #[.agg #[.int .i64 h, .int .u64 l]] w fun e w' => e = .returned (.agg #[.int .i64 (f 0), .int .i64 (f 1), .int .i64 (f 2), .int .i64 (f 3), .int .i64 (f 4), .int .i64 (f 5), .int .i64 (f 6), .int .i64 (f 7)]) ∧ Below w.heap.size w w' := by
  obtain ⟨w0, hw0, p0, p1, g0, z0⟩ := boxes2 w #[.int .i64 h, .int .u64 l] #[.int .i64 0, .int .i64 0, .int .i64 0, .int .i64 0, .int .i64 0, .int .i64 0, .int .i64 0, .int .i64 0] 24 32
  have c0 := p0.two
  have B0 := Lib.hid (And.intro p1 g0)
  have K1 := Lib.hid k1
  clear p0 p1 g0 z0 k1
  go_enter Try.func16, Try.ntmps16
  go_wp2_with fail
  refine (K1.out _).mono ?_
  rintro e w1 ⟨rfl, hb⟩
  have hB := And.intro (B0.out.1.grew hb) (grow B0.out.2 hb)
  clear hb c0 B0
  have c1 := hB.1.eight
  have r2 := ((((((((hB.1.set 0 (.int .i64 (f 0))).set 1 (.int .i64 (f 1))).set 2 (.int .i64 (f 2))).set 3 (.int .i64 (f 3))).set 4 (.int .i64 (f 4))).set 5 (.int .i64 (f 5))).set 6 (.int .i64 (f 6))).set 7 (.int .i64 (f 7))).eight
  have HG := Lib.hid hB.2
  clear hB
  go_wp2
  refine bodyPost_ret (v := .agg #[.int .i64 (f 0), .int .i64 (f 1), .int .i64 (f 2), .int .i64 (f 3), .int .i64 (f 4), .int .i64 (f 5), .int .i64 (f 6), .int .i64 (f 7)]) ?_ rfl ⟨rfl, ?_⟩
  · simp [results, Try.results16, go_sem, r2]
  · exact ((((((((HG.out.setCell (by show w.heap.size ≤ w.heap.size + 1; omega) _).setCell (by show w.heap.size ≤ w.heap.size + 1; omega) _).setCell (by show w.heap.size ≤ w.heap.size + 1; omega) _).setCell (by show w.heap.size ≤ w.heap.size + 1; omega) _).setCell (by show w.heap.size ≤ w.heap.size + 1; omega) _).setCell (by show w.heap.size ≤ w.heap.size + 1; omega) _).setCell (by show w.heap.size ≤ w.heap.size + 1; omega) _).setCell (by show w.heap.size ≤ w.heap.size + 1; omega) _)

theorem row_any (v : Nat) (w : World) : Calls Try.prog 16 #[W v] w fun e w' => e = .returned (.agg (rowC (halfZ (M.hiZ v) (M.loZ v)))) ∧ Below w.heap.size w w' := by
  have hr := M.hiZ_rng v
  have hl := M.loN_lt v
  exact row_road _ _ _ (fun w => refOf_any _ _ hr.1 hr.2 (by unfold M.loZ; omega) (by unfold M.loZ; omega) w) w

set_option maxRecDepth 20000 in
set_option maxHeartbeats 8000000 in
theorem Prod_road (a b ah al ph pl : Int) (x y p : Nat → Int)
    (k1 : ∀ w, Calls Try.prog 14 #[.int .i64 a] w fun e w' => e = .returned (.agg #[.int .i64 (x 0), .int .i64 (x 1), .int .i64 (x 2), .int .i64 (x 3), .int .i64 (x 4), .int .i64 (x 5), .int .i64 (x 6), .int .i64 (x 7)]) ∧ Below w.heap.size w w')
    (k2 : ∀ w, Calls Try.prog 14 #[.int .i64 b] w fun e w' => e = .returned (.agg #[.int .i64 (y 0), .int .i64 (y 1), .int .i64 (y 2), .int .i64 (y 3), .int .i64 (y 4), .int .i64 (y 5), .int .i64 (y 6), .int .i64 (y 7)]) ∧ Below w.heap.size w w')
    (k3 : ∀ w, Calls Try.prog 12 #[.int .i64 a] w fun e w' => e = .returned (.agg #[.int .i64 ah, .int .u64 al]) ∧ Below w.heap.size w w')
    (k4 : ∀ w, Calls Try.prog 15 #[.agg #[.int .i64 ah, .int .u64 al]] w fun e w' => e = .returned (.tuple #[.int .i64 a, .bool true]) ∧ Below w.heap.size w w')
    (k5 : ∀ w, Calls Try.prog 17 #[.int .i64 a, .int .i64 b] w fun e w' => e = .returned (.agg #[.int .i64 ph, .int .u64 pl]) ∧ Below w.heap.size w w')
    (k6 : ∀ w, Calls Try.prog 16 #[.agg #[.int .i64 ph, .int .u64 pl]] w fun e w' => e = .returned (.agg #[.int .i64 (p 0), .int .i64 (p 1), .int .i64 (p 2), .int .i64 (p 3), .int .i64 (p 4), .int .i64 (p 5), .int .i64 (p 6), .int .i64 (p 7)]) ∧ Below w.heap.size w w')
    (k7 : ∀ w, Calls Try.prog 18 #[.agg #[.int .i64 (x 0), .int .i64 (x 1), .int .i64 (x 2), .int .i64 (x 3), .int .i64 (x 4), .int .i64 (x 5), .int .i64 (x 6), .int .i64 (x 7)], .agg #[.int .i64 (y 0), .int .i64 (y 1), .int .i64 (y 2), .int .i64 (y 3), .int .i64 (y 4), .int .i64 (y 5), .int .i64 (y 6), .int .i64 (y 7)]] w fun e w' => e = .returned (.agg #[.int .i64 (p 0), .int .i64 (p 1), .int .i64 (p 2), .int .i64 (p 3), .int .i64 (p 4), .int .i64 (p 5), .int .i64 (p 6), .int .i64 (p 7)]) ∧ Below w.heap.size w w')
    (k8 : ∀ w, Calls Try.prog 16 #[.agg #[.int .i64 ah, .int .u64 al]] w fun e w' => e = .returned (.agg #[.int .i64 (x 0), .int .i64 (x 1), .int .i64 (x 2), .int .i64 (x 3), .int .i64 (x 4), .int .i64 (x 5), .int .i64 (x 6), .int .i64 (x 7)]) ∧ Below w.heap.size w w') (w : World) :
    Calls Try.prog 4 #[.int .i64 a, .int .i64 b] w fun e w' => e = .returned (.bool true) ∧ Below w.heap.size w w' := by
  have K1 := Lib.hid k1
  have K2 := Lib.hid k2
  have K3 := Lib.hid k3
  have K4 := Lib.hid k4
  have K5 := Lib.hid k5
  have K6 := Lib.hid k6
  have K7 := Lib.hid k7
  have K8 := Lib.hid k8
  have K9 := Lib.hid awake_any
  have ep := eq_row p
  have ex := eq_row x
  clear k1 k2 k3 k4 k5 k6 k7 k8
  go_enter Try.func4, Try.ntmps4
  go_wp2_with fail
  refine (K1.out _).mono ?_
  rintro e w1 ⟨rfl, hb⟩
  have B1 := Lib.hid hb
  clear hb
  go_wp2_with fail
  refine (K2.out _).mono ?_
  rintro e w2 ⟨rfl, hb⟩
  have B2 := Lib.hid (grow B1.out hb)
  clear hb B1
  obtain ⟨wz, hwz, z1, z2, z3, z4⟩ := boxes2 w2 #[.int .i64 (x 0), .int .i64 (x 1), .int .i64 (x 2), .int .i64 (x 3), .int .i64 (x 4), .int .i64 (x 5), .int .i64 (x 6), .int .i64 (x 7)] #[.int .i64 (y 0), .int .i64 (y 1), .int .i64 (y 2), .int .i64 (y 3), .int .i64 (y 4), .int .i64 (y 5), .int .i64 (y 6), .int .i64 (y 7)] 32 32
  obtain ⟨P, hP⟩ : ∃ P, P = w2.heap.size := ⟨_, rfl⟩
  rw [← hP] at z1 z2
  have B3 := Lib.hid (And.intro z1 (And.intro z2 (grow B2.out z3)))
  clear z1 z2 z3 z4 B2
  go_wp2_with fail
  (try rw [hwz])
  (try rw [← hP])
  clear hwz hP
  refine (K3.out _).mono ?_
  rintro e w3 ⟨rfl, hb⟩
  have B4 := Lib.hid (And.intro (B3.out.1.grew hb) (And.intro (B3.out.2.1.grew hb) (grow B3.out.2.2 hb)))
  clear hb B3
  go_wp2_with fail
  refine (K4.out _).mono ?_
  rintro e w4 ⟨rfl, hb⟩
  have B5 := Lib.hid (And.intro (B4.out.1.grew hb) (And.intro (B4.out.2.1.grew hb) (grow B4.out.2.2 hb)))
  clear hb B4
  go_wp2_with fail
  obtain ⟨S0, S0d⟩ : ∃ S : World → Prop, S = fun v : World => Blk v P #[.int .i64 (x 0), .int .i64 (x 1), .int .i64 (x 2), .int .i64 (x 3), .int .i64 (x 4), .int .i64 (x 5), .int .i64 (x 6), .int .i64 (x 7)] 32 ∧ Blk v (P + 1) #[.int .i64 (y 0), .int .i64 (y 1), .int .i64 (y 2), .int .i64 (y 3), .int .i64 (y 4), .int .i64 (y 5), .int .i64 (y 6), .int .i64 (y 7)] 32 ∧ Below w.heap.size w v := ⟨_, rfl⟩
  have S0t0 : Stands S0 := by rw [S0d]; exact ((stands_blk _ _ _).and ((stands_blk _ _ _).and (stands_below _)))
  have S0u0 : ∀ v, S0 v → Blk v P #[.int .i64 (x 0), .int .i64 (x 1), .int .i64 (x 2), .int .i64 (x 3), .int .i64 (x 4), .int .i64 (x 5), .int .i64 (x 6), .int .i64 (x 7)] 32 ∧ Blk v (P + 1) #[.int .i64 (y 0), .int .i64 (y 1), .int .i64 (y 2), .int .i64 (y 3), .int .i64 (y 4), .int .i64 (y 5), .int .i64 (y 6), .int .i64 (y 7)] 32 ∧ Below w.heap.size w v := fun v h => by rw [S0d] at h; exact h
  have S0m0 : ∀ v, (Blk v P #[.int .i64 (x 0), .int .i64 (x 1), .int .i64 (x 2), .int .i64 (x 3), .int .i64 (x 4), .int .i64 (x 5), .int .i64 (x 6), .int .i64 (x 7)] 32 ∧ Blk v (P + 1) #[.int .i64 (y 0), .int .i64 (y 1), .int .i64 (y 2), .int .i64 (y 3), .int .i64 (y 4), .int .i64 (y 5), .int .i64 (y 6), .int .i64 (y 7)] 32 ∧ Below w.heap.size w v) → S0 v := fun v h => by rw [S0d]; exact h
  have S0u := Lib.hid S0u0
  have S0m := Lib.hid S0m0
  have S0t := Lib.hid S0t0
  clear S0d S0u0 S0m0 S0t0
  refine wp_region_X (S := S0) (by kernel_rfl) (S0m.out _ ⟨B5.out.1.drew, B5.out.2.1.drew, B5.out.2.2.drew⟩) ?_
  clear B5
  refine wpX_take (i := 0) (v := ?_) S0t.out rfl rfl (by kernel_rfl) (by kernel_rfl) (by kernel_rfl) (fun _ _ _ h => h) (SteadyX.value (by rfl) ?_) ?_
  rotate_left
  · (intro w_ hS; go_simp; try with_reducible rfl)
  simp only [List.setIfInBounds_toArray, List.set_cons_zero, List.set_cons_succ]
  refine wpX_take (i := 1) (v := ?_) S0t.out rfl rfl (by kernel_rfl) (by kernel_rfl) (by kernel_rfl) (fun _ _ _ h => h) (SteadyX.value (by rfl) ?_) ?_
  rotate_left
  · (intro w_ hS; go_simp; try with_reducible rfl)
  simp only [List.setIfInBounds_toArray, List.set_cons_zero, List.set_cons_succ]
  refine wpX_take (i := 2) S0t.out rfl rfl (by kernel_rfl) (by kernel_rfl) (by kernel_rfl) (fun _ _ _ h => h) (SteadyX.call (by rfl) (fun w_ hS => K5.out w_) (fun w_ hS => by (go_simp))) ?_
  simp only [List.setIfInBounds_toArray, List.set_cons_zero, List.set_cons_succ]
  refine wpX_take (i := 3) S0t.out rfl rfl (by kernel_rfl) (by kernel_rfl) (by kernel_rfl) (fun _ _ _ h => h) (SteadyX.call (by rfl) (fun w_ hS => K6.out w_) (fun w_ hS => by (go_simp))) ?_
  simp only [List.setIfInBounds_toArray, List.set_cons_zero, List.set_cons_succ]
  refine wpX_take (i := 4) (v := ?_) S0t.out rfl rfl (by kernel_rfl) (by kernel_rfl) (by kernel_rfl) (fun _ _ _ h => h) (SteadyX.value (by rfl) ?_) ?_
  rotate_left
  · (intro w_ hS; obtain ⟨q0, q1, q2⟩ := S0u.out _ hS; (have q0 := q0.eight); (have q1 := q1.eight); (clear q2); go_simp; try with_reducible rfl)
  simp only [List.setIfInBounds_toArray, List.set_cons_zero, List.set_cons_succ]
  refine wpX_take (i := 5) (v := ?_) S0t.out rfl rfl (by kernel_rfl) (by kernel_rfl) (by kernel_rfl) (fun _ _ _ h => h) (SteadyX.value (by rfl) ?_) ?_
  rotate_left
  · (intro w_ hS; obtain ⟨q0, q1, q2⟩ := S0u.out _ hS; (have q0 := q0.eight); (have q1 := q1.eight); (clear q2); go_simp; try with_reducible rfl)
  simp only [List.setIfInBounds_toArray, List.set_cons_zero, List.set_cons_succ]
  refine wpX_take (i := 6) S0t.out rfl rfl (by kernel_rfl) (by kernel_rfl) (by kernel_rfl) (fun _ _ _ h => h) (SteadyX.call (by rfl) (fun w_ hS => K7.out w_) (fun w_ hS => by (go_simp))) ?_
  simp only [List.setIfInBounds_toArray, List.set_cons_zero, List.set_cons_succ]
  refine wpX_take (i := 7) (v := ?_) S0t.out rfl rfl (by kernel_rfl) (by kernel_rfl) (by kernel_rfl) (fun _ _ _ h => h) (SteadyX.value (by rfl) ?_) ?_
  rotate_left
  · (intro w_ hS; go_simp; try with_reducible rfl)
  simp only [List.setIfInBounds_toArray, List.set_cons_zero, List.set_cons_succ]
  refine wpX_take (i := 8) (v := ?_) S0t.out rfl rfl (by kernel_rfl) (by kernel_rfl) (by kernel_rfl) (fun _ _ _ h => h) (SteadyX.value (by rfl) ?_) ?_
  rotate_left
  · (intro w_ hS; go_simp; try with_reducible rfl)
  simp only [List.setIfInBounds_toArray, List.set_cons_zero, List.set_cons_succ]
  refine wpX_take (i := 9) (v := ?_) S0t.out rfl rfl (by kernel_rfl) (by kernel_rfl) (by kernel_rfl) (fun _ _ _ h => h) (SteadyX.value (by rfl) ?_) ?_
  rotate_left
  · (intro w_ hS; go_simp; try with_reducible rfl)
  simp only [List.setIfInBounds_toArray, List.set_cons_zero, List.set_cons_succ]
  refine wpX_take (i := 10) S0t.out rfl rfl (by kernel_rfl) (by kernel_rfl) (by kernel_rfl) (fun _ _ _ h => h) (SteadyX.call (by rfl) (fun w_ hS => K3.out w_) (fun w_ hS => by (go_simp))) ?_
  simp only [List.setIfInBounds_toArray, List.set_cons_zero, List.set_cons_succ]
  refine wpX_take (i := 11) S0t.out rfl rfl (by kernel_rfl) (by kernel_rfl) (by kernel_rfl) (fun _ _ _ h => h) (SteadyX.call (by rfl) (fun w_ hS => K8.out w_) (fun w_ hS => by (go_simp))) ?_
  simp only [List.setIfInBounds_toArray, List.set_cons_zero, List.set_cons_succ]
  refine wpX_take (i := 12) (v := ?_) S0t.out rfl rfl (by kernel_rfl) (by kernel_rfl) (by kernel_rfl) (fun _ _ _ h => h) (SteadyX.value (by rfl) ?_) ?_
  rotate_left
  · (intro w_ hS; obtain ⟨q0, q1, q2⟩ := S0u.out _ hS; (have q0 := q0.eight); (have q1 := q1.eight); (clear q2); go_simp; try with_reducible rfl)
  simp only [List.setIfInBounds_toArray, List.set_cons_zero, List.set_cons_succ]
  refine wpX_take (i := 13) (v := ?_) S0t.out rfl rfl (by kernel_rfl) (by kernel_rfl) (by kernel_rfl) (fun _ _ _ h => h) (SteadyX.value (by rfl) ?_) ?_
  rotate_left
  · (intro w_ hS; go_simp; try with_reducible rfl)
  simp only [List.setIfInBounds_toArray, List.set_cons_zero, List.set_cons_succ]
  refine wpX_take (i := 14) (v := ?_) S0t.out rfl rfl (by kernel_rfl) (by kernel_rfl) (by kernel_rfl) (fun _ _ _ h => h) (SteadyX.value (by rfl) ?_) ?_
  rotate_left
  · (intro w_ hS; go_simp; try with_reducible rfl)
  simp only [List.setIfInBounds_toArray, List.set_cons_zero, List.set_cons_succ]
  refine wpX_take (i := 15) (v := ?_) S0t.out rfl rfl (by kernel_rfl) (by kernel_rfl) (by kernel_rfl) (fun _ _ _ h => h) (SteadyX.value (by rfl) ?_) ?_
  rotate_left
  · (intro w_ hS; go_simp; try with_reducible rfl)
  simp only [List.setIfInBounds_toArray, List.set_cons_zero, List.set_cons_succ]
  refine wpX_take (i := 16) (v := ?_) S0t.out rfl rfl (by kernel_rfl) (by kernel_rfl) (by kernel_rfl) (fun _ _ _ h => h) (SteadyX.value (by rfl) ?_) ?_
  rotate_left
  · (intro w_ hS; go_simp; try with_reducible rfl)
  simp only [List.setIfInBounds_toArray, List.set_cons_zero, List.set_cons_succ]
  refine wpX_take (i := 17) (v := ?_) S0t.out rfl rfl (by kernel_rfl) (by kernel_rfl) (by kernel_rfl) (fun _ _ _ h => h) (SteadyX.value (by rfl) ?_) ?_
  rotate_left
  · (intro w_ hS; go_simp; try with_reducible rfl)
  simp only [List.setIfInBounds_toArray, List.set_cons_zero, List.set_cons_succ]
  refine wpX_take (i := 18) (v := ?_) S0t.out rfl rfl (by kernel_rfl) (by kernel_rfl) (by kernel_rfl) (fun _ _ _ h => h) (SteadyX.value (by rfl) ?_) ?_
  rotate_left
  · (intro w_ hS; go_simp; try with_reducible rfl)
  simp only [List.setIfInBounds_toArray, List.set_cons_zero, List.set_cons_succ]
  refine wpX_take (i := 19) (v := ?_) S0t.out rfl rfl (by kernel_rfl) (by kernel_rfl) (by kernel_rfl) (fun _ _ _ h => h) (SteadyX.value (by rfl) ?_) ?_
  rotate_left
  · (intro w_ hS; go_simp; try with_reducible rfl)
  simp only [List.setIfInBounds_toArray, List.set_cons_zero, List.set_cons_succ]
  refine wpX_take (i := 20) (v := ?_) S0t.out rfl rfl (by kernel_rfl) (by kernel_rfl) (by kernel_rfl) (fun _ _ _ h => h) (SteadyX.value (by rfl) ?_) ?_
  rotate_left
  · (intro w_ hS; go_simp; try with_reducible rfl)
  simp only [List.setIfInBounds_toArray, List.set_cons_zero, List.set_cons_succ]
  refine wpX_take (i := 21) (v := ?_) S0t.out rfl rfl (by kernel_rfl) (by kernel_rfl) (by kernel_rfl) (fun _ _ _ h => h) (SteadyX.value (by rfl) ?_) ?_
  rotate_left
  · (intro w_ hS; go_simp; try with_reducible rfl)
  simp only [List.setIfInBounds_toArray, List.set_cons_zero, List.set_cons_succ]
  refine wpX_take (i := 22) (v := ?_) S0t.out rfl rfl (by kernel_rfl) (by kernel_rfl) (by kernel_rfl) (fun _ _ _ h => h) (SteadyX.value (by rfl) ?_) ?_
  rotate_left
  · (intro w_ hS; go_simp; try with_reducible rfl)
  simp only [List.setIfInBounds_toArray, List.set_cons_zero, List.set_cons_succ]
  refine wpX_take (i := 23) (v := ?_) S0t.out rfl rfl (by kernel_rfl) (by kernel_rfl) (by kernel_rfl) (fun _ _ _ h => h) (SteadyX.value (by rfl) ?_) ?_
  rotate_left
  · (intro w_ hS; go_simp; try with_reducible rfl)
  simp only [List.setIfInBounds_toArray, List.set_cons_zero, List.set_cons_succ]
  refine wpX_take (i := 24) S0t.out rfl rfl (by kernel_rfl) (by kernel_rfl) (by kernel_rfl) (fun _ _ _ h => h) (SteadyX.call (by rfl) (fun w_ hS => K9.out w_) (fun w_ hS => by (go_simp))) ?_
  simp only [List.setIfInBounds_toArray, List.set_cons_zero, List.set_cons_succ]
  refine wpX_take (i := 25) (v := ?_) S0t.out rfl rfl (by kernel_rfl) (by kernel_rfl) (by kernel_rfl) (fun _ _ _ h => h) (SteadyX.value (by rfl) ?_) ?_
  rotate_left
  · (intro w_ hS; go_simp; try with_reducible rfl)
  simp only [List.setIfInBounds_toArray, List.set_cons_zero, List.set_cons_succ]
  refine wpX_take (i := 26) (v := ?_) S0t.out rfl rfl (by kernel_rfl) (by kernel_rfl) (by kernel_rfl) (fun _ _ _ h => h) (SteadyX.value (by rfl) ?_) ?_
  rotate_left
  · (intro w_ hS; go_simp; try with_reducible rfl)
  simp only [List.setIfInBounds_toArray, List.set_cons_zero, List.set_cons_succ]
  refine wpX_done (by kernel_rfl) (fun W9 hS => ?_) _
  obtain ⟨q0, q1, q2⟩ := S0u.out _ hS
  clear hS S0u S0m S0t
  clear S0
  have HG := Lib.hid q2
  clear q0 q1 q2
  go_wp2
  go_ret
  exact ⟨rfl, HG.out⟩

/-- The figures of a number that is another one by so many times 2^128. -/
theorem fig_mod (n m c : Int) (h : n = m + c * 340282366920938463463374607431768211456) (j : Nat) (hj : j < 8) : figZ n j = figZ m j := by
  have e : n = m + (c * 65536 ^ (7 - j)) * 65536 ^ (j + 1) := by
    rw [h, Int.mul_assoc, ← Int.pow_add, show 7 - j + (j + 1) = 8 by omega]; rfl
  rw [e, fig_more]
theorem ofN_fig (n : Int) (j : Nat) (hj : j < 8) : figZ ((ofN n : Nat) : Int) j = figZ n j := by
  refine fig_mod _ _ (-(n / 340282366920938463463374607431768211456)) ?_ j hj
  unfold ofN; omega
theorem pow4 : (65536 : Int) ^ 4 = 18446744073709551616 := rfl
theorem half_fig (v : Nat) (hv : v < 340282366920938463463374607431768211456) (j : Nat) (hj : j < 8) : halfZ (M.hiZ v) (M.loZ v) j = figZ (v : Int) j := by
  have hh := M.of_halves v hv
  have hl := M.loN_lt v
  have hu := M.hiN_lt v
  unfold halfZ
  by_cases h4 : j < 4
  · rw [if_pos h4]
    have e : (v : Int) = M.loZ v + ((M.hiN v : Int) * 65536 ^ (3 - j)) * 65536 ^ (j + 1) := by
      rw [Int.mul_assoc, ← Int.pow_add, show 3 - j + (j + 1) = 4 by omega, pow4]
      unfold M.loZ; omega
    rw [e, fig_more]
  · rw [if_neg h4]
    obtain ⟨d, rfl⟩ : ∃ d, j = 4 + d := ⟨j - 4, by omega⟩
    have e1 : figZ (v : Int) (4 + d) = figZ (M.hiN v : Int) d := by
      unfold figZ
      rw [Int.pow_add, ← Int.ediv_ediv_of_nonneg (by decide), pow4]
      congr 2
      omega
    rw [e1, show 4 + d - 4 = d by omega]
    have e2 : (M.hiN v : Int) = M.hiZ v + ((if M.hiN v < 9223372036854775808 then 0 else 1) * 65536 ^ (3 - d)) * 65536 ^ (d + 1) := by
      rw [Int.mul_assoc, ← Int.pow_add, show 3 - d + (d + 1) = 4 by omega, pow4]
      unfold M.hiZ M.sgn
      split <;> omega
    rw [e2, fig_more]
theorem fig_rng (n : Int) (j : Nat) : 0 ≤ figZ n j ∧ figZ n j ≤ 65535 := by unfold figZ; omega
/-- The figures below a place, together. -/
theorem sum_mod (n : Int) : ∀ k, sumZ (figZ n) k = n % 65536 ^ k
  | 0 => by
    show (0 : Int) = n % 1
    omega
  | k + 1 => by
    show sumZ (figZ n) k + figZ n k * 65536 ^ k = _
    rw [sum_mod n k]
    unfold figZ
    have hp : (0 : Int) < 65536 ^ k := Int.pow_pos (by decide)
    rw [Int.pow_succ]
    have h1 := Int.emod_add_mul_ediv n (65536 ^ k)
    have h2 := Int.emod_add_mul_ediv (n / 65536 ^ k) 65536
    have h3 : n = (n % 65536 ^ k + n / 65536 ^ k % 65536 * 65536 ^ k) + (65536 ^ k * 65536) * (n / 65536 ^ k / 65536) := by
      have e : 65536 ^ k * (n / 65536 ^ k) = n / 65536 ^ k % 65536 * 65536 ^ k + (65536 ^ k * 65536) * (n / 65536 ^ k / 65536) := by
        generalize n / 65536 ^ k % 65536 = r at *
        generalize n / 65536 ^ k / 65536 = q at *
        rw [← h2, Int.mul_add, Int.mul_comm r, Int.mul_assoc]
      omega
    have lo : 0 ≤ n % 65536 ^ k + n / 65536 ^ k % 65536 * 65536 ^ k := Int.add_nonneg (Int.emod_nonneg _ (Int.ne_of_gt hp)) (Int.mul_nonneg (Int.emod_nonneg _ (by decide)) (Int.le_of_lt hp))
    have hi : n % 65536 ^ k + n / 65536 ^ k % 65536 * 65536 ^ k < 65536 ^ k * 65536 := by
      have a := Int.emod_lt_of_pos n hp
      have b : n / 65536 ^ k % 65536 * 65536 ^ k ≤ 65535 * 65536 ^ k := Int.mul_le_mul_of_nonneg_right (by omega) (Int.le_of_lt hp)
      omega
    rw [eq_comm]
    conv => lhs; rw [h3]
    rw [Int.add_mul_emod_self_left, Int.emod_eq_of_lt lo hi]

/-- The product's figures. -/
theorem mul_part (x y : Int) : ∀ i, i ≤ 8 → ∃ c, mulZ (figZ x) (figZ y) i = (x % 65536 ^ i) * y + c * 340282366920938463463374607431768211456
  | 0, _ => ⟨0, by
    show (0 : Int) = x % 1 * y + _
    rw [Int.emod_one]; omega⟩
  | i + 1, hi => by
    obtain ⟨c, hc⟩ := mul_part x y i (by omega)
    have hs := sum_mod y (8 - i)
    have hx := sum_mod x (i + 1)
    have hx0 := sum_mod x i
    refine ⟨c - figZ x i * (y / 65536 ^ (8 - i)), ?_⟩
    show mulZ (figZ x) (figZ y) i + figZ x i * 65536 ^ i * sumZ (figZ y) (8 - i) = _
    rw [hc, hs, ← hx]
    show _ = (sumZ (figZ x) i + figZ x i * 65536 ^ i) * y + _
    rw [hx0]
    have hy := Int.emod_add_mul_ediv y (65536 ^ (8 - i))
    have hp : (65536 : Int) ^ i * 65536 ^ (8 - i) = 340282366920938463463374607431768211456 := by
      rw [← Int.pow_add, show i + (8 - i) = 8 by omega]; rfl
    have e : figZ x i * 65536 ^ i * y = figZ x i * 65536 ^ i * (y % 65536 ^ (8 - i)) + figZ x i * (y / 65536 ^ (8 - i)) * 340282366920938463463374607431768211456 := by
      conv => lhs; rw [← hy]
      rw [Int.mul_add, ← hp]
      congr 1
      ac_rfl
    rw [Int.add_mul, e, Int.sub_mul]
    omega
theorem mul_fig (x y : Int) (j : Nat) (hj : j < 8) : figZ (mulZ (figZ x) (figZ y) 8) j = figZ (x * y) j := by
  obtain ⟨c, hc⟩ := mul_part x y 8 (Nat.le_refl _)
  have hx := Int.emod_add_mul_ediv x (65536 ^ 8)
  have e8 : (65536 : Int) ^ 8 = 340282366920938463463374607431768211456 := rfl
  rw [e8] at hx hc
  refine fig_mod _ _ (c - x / 340282366920938463463374607431768211456 * y) ?_ j hj
  have h : x * y = x % 340282366920938463463374607431768211456 * y + x / 340282366920938463463374607431768211456 * y * 340282366920938463463374607431768211456 := by
    conv => lhs; rw [← hx]
    rw [Int.add_mul]
    congr 1
    ac_rfl
  rw [hc, h, Int.sub_mul]
  omega

theorem Prod_any (a b : Int) (a0 : -9223372036854775808 ≤ a) (a1 : a ≤ 9223372036854775807) (b0 : -9223372036854775808 ≤ b) (b1 : b ≤ 9223372036854775807) (w : World) :
    Calls Try.prog 4 #[.int .i64 a, .int .i64 b] w fun e w' => e = .returned (.bool true) ∧ Below w.heap.size w w' := by
  have k1 := refInt_any a a0 a1
  have k2 := refInt_any b b0 b1
  have k3 := Of_any a a0 a1
  have k4 := Int_any (ofN a)
  have ef : fits (ofN a) = true := by
    obtain ⟨r0, r1⟩ := intN_rng (ofN a)
    unfold fits
    rw [decide_eq_true_eq, (ofN_hi _ r0 r1).1]
    unfold intN M.sgn M.loN M.hiZ M.sgn M.hiN ofN
    split <;> split <;> omega
  have en : intN (ofN a) = a := by
    unfold intN M.sgn M.loN ofN
    split <;> omega
  rw [ef, if_pos rfl, en] at k4
  have k5 := Mul_any a b a0 a1 b0 b1
  have sa := mul_small a b a0 a1 b0 b1
  have wa := ofN_W (a * b) (by omega) (by omega)
  have k6 := row_any (ofN (a * b))
  have k7 := refMul_any (figZ a) (figZ b) (fun j _ => fig_rng a j) (fun j _ => fig_rng b j)
  have k8 := row_any (ofN a)
  rw [wa, rowC_congr (fun j hj => (half_fig _ (ofN_lt (a * b)) j hj).trans (ofN_fig (a * b) j hj))] at k6
  rw [rowC_congr (fun j hj => mul_fig a b j hj)] at k7
  rw [rowC_congr (fun j hj => (half_fig _ (ofN_lt a) j hj).trans (ofN_fig a j hj))] at k8
  exact Prod_road a b _ _ _ _ (figZ a) (figZ b) (figZ (a * b)) k1 k2 k3 k4 k5 k6 k7 k8 w
end Go.Proofs.Ytogghmmokifnnaa
