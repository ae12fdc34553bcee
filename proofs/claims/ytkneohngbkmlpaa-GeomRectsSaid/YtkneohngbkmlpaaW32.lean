/- Walks: GeomNear. -/
import Derived.Test.YtkneohngbkmlpaaW28
namespace Go.Proofs.Ytkneohngbkmlpaa
open Go.RowKit

theorem Blk.eight {w : World} {b : Nat} {t : TypeId} {x y z u x' y' z' u' : Value} (h : Blk w b #[x, y, z, u, x', y', z', u'] t) :
    w.cell? ⟨b, 0, none⟩ = some x ∧ w.cell? ⟨b, 1, none⟩ = some y ∧ w.cell? ⟨b, 2, none⟩ = some z ∧ w.cell? ⟨b, 3, none⟩ = some u ∧ w.cell? ⟨b, 4, none⟩ = some x' ∧ w.cell? ⟨b, 5, none⟩ = some y' ∧ w.cell? ⟨b, 6, none⟩ = some z' ∧ w.cell? ⟨b, 7, none⟩ = some u' ∧
    w.frozen? ⟨b, 0, none⟩ = false ∧ w.frozen? ⟨b, 1, none⟩ = false ∧ w.frozen? ⟨b, 2, none⟩ = false ∧ w.frozen? ⟨b, 3, none⟩ = false ∧ w.frozen? ⟨b, 4, none⟩ = false ∧ w.frozen? ⟨b, 5, none⟩ = false ∧ w.frozen? ⟨b, 6, none⟩ = false ∧ w.frozen? ⟨b, 7, none⟩ = false :=
  ⟨h.cell 0, h.cell 1, h.cell 2, h.cell 3, h.cell 4, h.cell 5, h.cell 6, h.cell 7, h.free 0, h.free 1, h.free 2, h.free 3, h.free 4, h.free 5, h.free 6, h.free 7⟩

/-- A rect's corners, in the statement's order. -/
def corner (s : Rc) : Nat → Pt
  | 0 => ⟨s.x0, s.y0⟩
  | 1 => ⟨s.x0, s.y1⟩
  | 2 => ⟨s.x1, s.y0⟩
  | _ => ⟨s.x1, s.y1⟩
theorem corner_cells {w : World} {b : Nat} {t : TypeId} {sx0 sy0 sx1 sy1 : Int} (h : Blk w b #[.int .i64 sx0, .int .i64 sy0, .int .i64 sx0, .int .i64 sy1, .int .i64 sx1, .int .i64 sy0, .int .i64 sx1, .int .i64 sy1] t) (k : Nat) (hk : k < 4) :
    w.cell? ⟨b, k * 2, none⟩ = some (.int .i64 (corner ⟨sx0, sy0, sx1, sy1⟩ k).x) ∧ w.cell? ⟨b, k * 2 + 1, none⟩ = some (.int .i64 (corner ⟨sx0, sy0, sx1, sy1⟩ k).y) := by
  match k, hk with
  | 0, _ => exact ⟨h.cell 0, h.cell 1⟩
  | 1, _ => exact ⟨h.cell 2, h.cell 3⟩
  | 2, _ => exact ⟨h.cell 4, h.cell 5⟩
  | 3, _ => exact ⟨h.cell 6, h.cell 7⟩

set_option maxRecDepth 20000 in
set_option maxHeartbeats 8000000 in
theorem Near_road2 (rx0 ry0 rx1 ry1 sx0 sy0 sx1 sy1 px py jx0 jy0 jx1 jy1 n n2 : Int) (h : Bool) (hb : Nat → Bool) (dd : Nat → Int)
    (h0 : (n == 0) = h) (h2 : n2 ≤ n) (hd : ∀ k, k < 4 → hb k = true → n ≤ dd k)
    (k1 : ∀ w, Calls Try.prog 28 #[.agg #[.int .i64 rx0, .int .i64 ry0, .int .i64 rx1, .int .i64 ry1]] w fun e w' => e = .returned (.bool true) ∧ Below w.heap.size w w')
    (k2 : ∀ w, Calls Try.prog 28 #[.agg #[.int .i64 sx0, .int .i64 sy0, .int .i64 sx1, .int .i64 sy1]] w fun e w' => e = .returned (.bool true) ∧ Below w.heap.size w w')
    (k3 : ∀ w, Calls Try.prog 15 #[.agg #[.int .i64 px, .int .i64 py]] w fun e w' => e = .returned (.bool true) ∧ Below w.heap.size w w')
    (k4 : ∀ w, Calls Try.prog 29 #[.agg #[.int .i64 rx0, .int .i64 ry0, .int .i64 rx1, .int .i64 ry1], .agg #[.int .i64 px, .int .i64 py]] w fun e w' => e = .returned (.int .u64 n) ∧ Below w.heap.size w w')
    (k5 : ∀ k, k < 4 → ∀ w, Calls Try.prog 27 #[.agg #[.int .i64 rx0, .int .i64 ry0, .int .i64 rx1, .int .i64 ry1], pt (corner ⟨sx0, sy0, sx1, sy1⟩ k)] w fun e w' => e = .returned (.bool (hb k)) ∧ Below w.heap.size w w')
    (k6 : ∀ k, k < 4 → ∀ w, Calls Try.prog 30 #[pt (corner ⟨sx0, sy0, sx1, sy1⟩ k), .agg #[.int .i64 px, .int .i64 py]] w fun e w' => e = .returned (.int .u64 (dd k)) ∧ Below w.heap.size w w')
    (k7 : ∀ w, Calls Try.prog 27 #[.agg #[.int .i64 rx0, .int .i64 ry0, .int .i64 rx1, .int .i64 ry1], .agg #[.int .i64 px, .int .i64 py]] w fun e w' => e = .returned (.bool h) ∧ Below w.heap.size w w')
    (k8 : ∀ w, Calls Try.prog 26 #[.agg #[.int .i64 rx0, .int .i64 ry0, .int .i64 rx1, .int .i64 ry1], .agg #[.int .i64 sx0, .int .i64 sy0, .int .i64 sx1, .int .i64 sy1]] w fun e w' => e = .returned (.agg #[.int .i64 jx0, .int .i64 jy0, .int .i64 jx1, .int .i64 jy1]) ∧ Below w.heap.size w w')
    (k9 : ∀ w, Calls Try.prog 29 #[.agg #[.int .i64 jx0, .int .i64 jy0, .int .i64 jx1, .int .i64 jy1], .agg #[.int .i64 px, .int .i64 py]] w fun e w' => e = .returned (.int .u64 n2) ∧ Below w.heap.size w w')
    (k10 : ∀ w, Calls Try.prog 31 #[.agg #[.int .i64 jx0, .int .i64 jy0, .int .i64 jx1, .int .i64 jy1], .agg #[.int .i64 rx0, .int .i64 ry0, .int .i64 rx1, .int .i64 ry1]] w fun e w' => e = .returned (.bool true) ∧ Below w.heap.size w w') (w : World) :
    Calls Try.prog 8 #[.agg #[.int .i64 rx0, .int .i64 ry0, .int .i64 rx1, .int .i64 ry1], .agg #[.int .i64 sx0, .int .i64 sy0, .int .i64 sx1, .int .i64 sy1], .agg #[.int .i64 px, .int .i64 py]] w fun e w' => e = .returned (.bool true) ∧ Below w.heap.size w w' := by
  have K1 := Lib.hid k1
  have K2 := Lib.hid k2
  have K3 := Lib.hid k3
  have K4 := Lib.hid k4
  have K5 := Lib.hid k5
  have K6 := Lib.hid k6
  have K7 := Lib.hid k7
  have K8 := Lib.hid k8
  have K9 := Lib.hid k9
  have K10 := Lib.hid k10
  have HD := Lib.hid hd
  have H2 := Lib.hid h2
  have H0 := Lib.hid h0
  clear k1 k2 k3 k4 k5 k6 k7 k8 k9 k10 hd h2 h0
  have K14 := Lib.hid awake_any
  obtain ⟨w0, hw0, p0, p1, p2, g0, z0⟩ := boxes3 w #[.int .i64 rx0, .int .i64 ry0, .int .i64 rx1, .int .i64 ry1] #[.int .i64 sx0, .int .i64 sy0, .int .i64 sx1, .int .i64 sy1] #[.int .i64 px, .int .i64 py] 38 38 24
  have B0 := Lib.hid (And.intro p0 (And.intro p1 (And.intro p2 g0)))
  clear p0 p1 p2 g0 z0
  have c0 := B0.out.1.four
  have c1 := B0.out.2.1.four
  have c2 := B0.out.2.2.1.two
  go_enter Try.func8, Try.ntmps8
  go_wp2_with fail
  refine (K1.out _).mono ?_
  rintro e w1 ⟨rfl, hb⟩
  (try clear hw0)
  have B1 := Lib.hid (And.intro (B0.out.1.grew hb) (And.intro (B0.out.2.1.grew hb) (And.intro (B0.out.2.2.1.grew hb) (grow B0.out.2.2.2 hb))))
  clear hb c0 c1 c2 B0
  have c0 := B1.out.1.four
  have c1 := B1.out.2.1.four
  have c2 := B1.out.2.2.1.two
  go_wp2_with fail
  refine (K2.out _).mono ?_
  rintro e w2 ⟨rfl, hb⟩
  have B2 := Lib.hid (And.intro (B1.out.1.grew hb) (And.intro (B1.out.2.1.grew hb) (And.intro (B1.out.2.2.1.grew hb) (grow B1.out.2.2.2 hb))))
  clear hb c0 c1 c2 B1
  have c0 := B2.out.1.four
  have c1 := B2.out.2.1.four
  have c2 := B2.out.2.2.1.two
  go_wp2_with fail
  refine (K3.out _).mono ?_
  rintro e w3 ⟨rfl, hb⟩
  have B3 := Lib.hid (And.intro (B2.out.1.grew hb) (And.intro (B2.out.2.1.grew hb) (And.intro (B2.out.2.2.1.grew hb) (grow B2.out.2.2.2 hb))))
  clear hb c0 c1 c2 B2
  have c0 := B3.out.1.four
  have c1 := B3.out.2.1.four
  have c2 := B3.out.2.2.1.two
  go_wp2_with fail
  refine (K4.out _).mono ?_
  rintro e w4 ⟨rfl, hb⟩
  have B4 := Lib.hid (And.intro (B3.out.1.grew hb) (And.intro (B3.out.2.1.grew hb) (And.intro (B3.out.2.2.1.grew hb) (grow B3.out.2.2.2 hb))))
  clear hb c0 c1 c2 B3
  have c0 := B4.out.1.four
  have c1 := B4.out.2.1.four
  have c2 := B4.out.2.2.1.two
  clear c0 c1 c2
  go_wp2_with fail
  obtain ⟨S0, S0d⟩ : ∃ S : World → Prop, S = fun v : World => Blk v w.heap.size #[.int .i64 rx0, .int .i64 ry0, .int .i64 rx1, .int .i64 ry1] 38 ∧ Blk v (w.heap.size + 1) #[.int .i64 sx0, .int .i64 sy0, .int .i64 sx1, .int .i64 sy1] 38 ∧ Blk v (w.heap.size + 1 + 1) #[.int .i64 px, .int .i64 py] 24 ∧ Below w.heap.size w v := ⟨_, rfl⟩
  have S0t0 : Stands S0 := by rw [S0d]; exact ((stands_blk _ _ _).and ((stands_blk _ _ _).and ((stands_blk _ _ _).and (stands_below _))))
  have S0u0 : ∀ v, S0 v → Blk v w.heap.size #[.int .i64 rx0, .int .i64 ry0, .int .i64 rx1, .int .i64 ry1] 38 ∧ Blk v (w.heap.size + 1) #[.int .i64 sx0, .int .i64 sy0, .int .i64 sx1, .int .i64 sy1] 38 ∧ Blk v (w.heap.size + 1 + 1) #[.int .i64 px, .int .i64 py] 24 ∧ Below w.heap.size w v := fun v h => by rw [S0d] at h; exact h
  have S0m0 : ∀ v, (Blk v w.heap.size #[.int .i64 rx0, .int .i64 ry0, .int .i64 rx1, .int .i64 ry1] 38 ∧ Blk v (w.heap.size + 1) #[.int .i64 sx0, .int .i64 sy0, .int .i64 sx1, .int .i64 sy1] 38 ∧ Blk v (w.heap.size + 1 + 1) #[.int .i64 px, .int .i64 py] 24 ∧ Below w.heap.size w v) → S0 v := fun v h => by rw [S0d]; exact h
  have S0u := Lib.hid S0u0
  have S0m := Lib.hid S0m0
  have S0t := Lib.hid S0t0
  clear S0d S0u0 S0m0 S0t0
  refine wp_region_X (S := S0) (by kernel_rfl) (S0m.out _ ⟨B4.out.1.drew, B4.out.2.1.drew, B4.out.2.2.1.drew, B4.out.2.2.2.drew⟩) ?_
  clear B4
  refine wpX_take (i := 0) (v := ?_) S0t.out rfl rfl (by kernel_rfl) (by kernel_rfl) (by kernel_rfl) (fun _ _ _ h => h) (SteadyX.value (by rfl) ?_) ?_
  rotate_left
  · (intro w_ hS; obtain ⟨q0, q1, q2, q3⟩ := S0u.out _ hS; (have q0 := q0.four); (have q1 := q1.four); (have q2 := q2.two); (clear q3); go_simp; try with_reducible rfl)
  simp only [List.setIfInBounds_toArray, List.set_cons_zero, List.set_cons_succ]
  refine wpX_take (i := 1) (v := ?_) S0t.out rfl rfl (by kernel_rfl) (by kernel_rfl) (by kernel_rfl) (fun _ _ _ h => h) (SteadyX.value (by rfl) ?_) ?_
  rotate_left
  · (intro w_ hS; obtain ⟨q0, q1, q2, q3⟩ := S0u.out _ hS; (have q0 := q0.four); (have q1 := q1.four); (have q2 := q2.two); (clear q3); go_simp; try with_reducible rfl)
  simp only [List.setIfInBounds_toArray, List.set_cons_zero, List.set_cons_succ]
  refine wpX_take (i := 2) (v := ?_) S0t.out rfl rfl (by kernel_rfl) (by kernel_rfl) (by kernel_rfl) (fun _ _ _ h => h) (SteadyX.value (by rfl) ?_) ?_
  rotate_left
  · (intro w_ hS; obtain ⟨q0, q1, q2, q3⟩ := S0u.out _ hS; (have q0 := q0.four); (have q1 := q1.four); (have q2 := q2.two); (clear q3); go_simp; try with_reducible rfl)
  simp only [List.setIfInBounds_toArray, List.set_cons_zero, List.set_cons_succ]
  refine wpX_take (i := 3) (v := ?_) S0t.out rfl rfl (by kernel_rfl) (by kernel_rfl) (by kernel_rfl) (fun _ _ _ h => h) (SteadyX.value (by rfl) ?_) ?_
  rotate_left
  · (intro w_ hS; obtain ⟨q0, q1, q2, q3⟩ := S0u.out _ hS; (have q0 := q0.four); (have q1 := q1.four); (have q2 := q2.two); (clear q3); go_simp; try with_reducible rfl)
  simp only [List.setIfInBounds_toArray, List.set_cons_zero, List.set_cons_succ]
  refine wpX_take (i := 4) S0t.out rfl rfl (by kernel_rfl) (by kernel_rfl) (by kernel_rfl) (fun _ _ _ h => h) (SteadyX.call (by rfl) (fun w_ hS => at_any sx0 sy0 w_) (fun w_ hS => by (obtain ⟨q0, q1, q2, q3⟩ := S0u.out _ hS; (have q0 := q0.four); (have q1 := q1.four); (have q2 := q2.two); (clear q3); go_simp))) ?_
  simp only [List.setIfInBounds_toArray, List.set_cons_zero, List.set_cons_succ]
  refine wpX_take (i := 5) (v := ?_) S0t.out rfl rfl (by kernel_rfl) (by kernel_rfl) (by kernel_rfl) (fun _ _ _ h => h) (SteadyX.value (by rfl) ?_) ?_
  rotate_left
  · (intro w_ hS; obtain ⟨q0, q1, q2, q3⟩ := S0u.out _ hS; (have q0 := q0.four); (have q1 := q1.four); (have q2 := q2.two); (clear q3); go_simp; try with_reducible rfl)
  simp only [List.setIfInBounds_toArray, List.set_cons_zero, List.set_cons_succ]
  refine wpX_take (i := 6) (v := ?_) S0t.out rfl rfl (by kernel_rfl) (by kernel_rfl) (by kernel_rfl) (fun _ _ _ h => h) (SteadyX.value (by rfl) ?_) ?_
  rotate_left
  · (intro w_ hS; obtain ⟨q0, q1, q2, q3⟩ := S0u.out _ hS; (have q0 := q0.four); (have q1 := q1.four); (have q2 := q2.two); (clear q3); go_simp; try with_reducible rfl)
  simp only [List.setIfInBounds_toArray, List.set_cons_zero, List.set_cons_succ]
  refine wpX_take (i := 7) (v := ?_) S0t.out rfl rfl (by kernel_rfl) (by kernel_rfl) (by kernel_rfl) (fun _ _ _ h => h) (SteadyX.value (by rfl) ?_) ?_
  rotate_left
  · (intro w_ hS; obtain ⟨q0, q1, q2, q3⟩ := S0u.out _ hS; (have q0 := q0.four); (have q1 := q1.four); (have q2 := q2.two); (clear q3); go_simp; try with_reducible rfl)
  simp only [List.setIfInBounds_toArray, List.set_cons_zero, List.set_cons_succ]
  refine wpX_take (i := 8) (v := ?_) S0t.out rfl rfl (by kernel_rfl) (by kernel_rfl) (by kernel_rfl) (fun _ _ _ h => h) (SteadyX.value (by rfl) ?_) ?_
  rotate_left
  · (intro w_ hS; obtain ⟨q0, q1, q2, q3⟩ := S0u.out _ hS; (have q0 := q0.four); (have q1 := q1.four); (have q2 := q2.two); (clear q3); go_simp; try with_reducible rfl)
  simp only [List.setIfInBounds_toArray, List.set_cons_zero, List.set_cons_succ]
  refine wpX_take (i := 9) S0t.out rfl rfl (by kernel_rfl) (by kernel_rfl) (by kernel_rfl) (fun _ _ _ h => h) (SteadyX.call (by rfl) (fun w_ hS => at_any sx0 sy1 w_) (fun w_ hS => by (obtain ⟨q0, q1, q2, q3⟩ := S0u.out _ hS; (have q0 := q0.four); (have q1 := q1.four); (have q2 := q2.two); (clear q3); go_simp))) ?_
  simp only [List.setIfInBounds_toArray, List.set_cons_zero, List.set_cons_succ]
  refine wpX_take (i := 10) (v := ?_) S0t.out rfl rfl (by kernel_rfl) (by kernel_rfl) (by kernel_rfl) (fun _ _ _ h => h) (SteadyX.value (by rfl) ?_) ?_
  rotate_left
  · (intro w_ hS; obtain ⟨q0, q1, q2, q3⟩ := S0u.out _ hS; (have q0 := q0.four); (have q1 := q1.four); (have q2 := q2.two); (clear q3); go_simp; try with_reducible rfl)
  simp only [List.setIfInBounds_toArray, List.set_cons_zero, List.set_cons_succ]
  refine wpX_take (i := 11) (v := ?_) S0t.out rfl rfl (by kernel_rfl) (by kernel_rfl) (by kernel_rfl) (fun _ _ _ h => h) (SteadyX.value (by rfl) ?_) ?_
  rotate_left
  · (intro w_ hS; obtain ⟨q0, q1, q2, q3⟩ := S0u.out _ hS; (have q0 := q0.four); (have q1 := q1.four); (have q2 := q2.two); (clear q3); go_simp; try with_reducible rfl)
  simp only [List.setIfInBounds_toArray, List.set_cons_zero, List.set_cons_succ]
  refine wpX_take (i := 12) (v := ?_) S0t.out rfl rfl (by kernel_rfl) (by kernel_rfl) (by kernel_rfl) (fun _ _ _ h => h) (SteadyX.value (by rfl) ?_) ?_
  rotate_left
  · (intro w_ hS; obtain ⟨q0, q1, q2, q3⟩ := S0u.out _ hS; (have q0 := q0.four); (have q1 := q1.four); (have q2 := q2.two); (clear q3); go_simp; try with_reducible rfl)
  simp only [List.setIfInBounds_toArray, List.set_cons_zero, List.set_cons_succ]
  refine wpX_take (i := 13) (v := ?_) S0t.out rfl rfl (by kernel_rfl) (by kernel_rfl) (by kernel_rfl) (fun _ _ _ h => h) (SteadyX.value (by rfl) ?_) ?_
  rotate_left
  · (intro w_ hS; obtain ⟨q0, q1, q2, q3⟩ := S0u.out _ hS; (have q0 := q0.four); (have q1 := q1.four); (have q2 := q2.two); (clear q3); go_simp; try with_reducible rfl)
  simp only [List.setIfInBounds_toArray, List.set_cons_zero, List.set_cons_succ]
  refine wpX_take (i := 14) S0t.out rfl rfl (by kernel_rfl) (by kernel_rfl) (by kernel_rfl) (fun _ _ _ h => h) (SteadyX.call (by rfl) (fun w_ hS => at_any sx1 sy0 w_) (fun w_ hS => by (obtain ⟨q0, q1, q2, q3⟩ := S0u.out _ hS; (have q0 := q0.four); (have q1 := q1.four); (have q2 := q2.two); (clear q3); go_simp))) ?_
  simp only [List.setIfInBounds_toArray, List.set_cons_zero, List.set_cons_succ]
  refine wpX_take (i := 15) (v := ?_) S0t.out rfl rfl (by kernel_rfl) (by kernel_rfl) (by kernel_rfl) (fun _ _ _ h => h) (SteadyX.value (by rfl) ?_) ?_
  rotate_left
  · (intro w_ hS; obtain ⟨q0, q1, q2, q3⟩ := S0u.out _ hS; (have q0 := q0.four); (have q1 := q1.four); (have q2 := q2.two); (clear q3); go_simp; try with_reducible rfl)
  simp only [List.setIfInBounds_toArray, List.set_cons_zero, List.set_cons_succ]
  refine wpX_take (i := 16) (v := ?_) S0t.out rfl rfl (by kernel_rfl) (by kernel_rfl) (by kernel_rfl) (fun _ _ _ h => h) (SteadyX.value (by rfl) ?_) ?_
  rotate_left
  · (intro w_ hS; obtain ⟨q0, q1, q2, q3⟩ := S0u.out _ hS; (have q0 := q0.four); (have q1 := q1.four); (have q2 := q2.two); (clear q3); go_simp; try with_reducible rfl)
  simp only [List.setIfInBounds_toArray, List.set_cons_zero, List.set_cons_succ]
  refine wpX_take (i := 17) (v := ?_) S0t.out rfl rfl (by kernel_rfl) (by kernel_rfl) (by kernel_rfl) (fun _ _ _ h => h) (SteadyX.value (by rfl) ?_) ?_
  rotate_left
  · (intro w_ hS; obtain ⟨q0, q1, q2, q3⟩ := S0u.out _ hS; (have q0 := q0.four); (have q1 := q1.four); (have q2 := q2.two); (clear q3); go_simp; try with_reducible rfl)
  simp only [List.setIfInBounds_toArray, List.set_cons_zero, List.set_cons_succ]
  refine wpX_take (i := 18) (v := ?_) S0t.out rfl rfl (by kernel_rfl) (by kernel_rfl) (by kernel_rfl) (fun _ _ _ h => h) (SteadyX.value (by rfl) ?_) ?_
  rotate_left
  · (intro w_ hS; obtain ⟨q0, q1, q2, q3⟩ := S0u.out _ hS; (have q0 := q0.four); (have q1 := q1.four); (have q2 := q2.two); (clear q3); go_simp; try with_reducible rfl)
  simp only [List.setIfInBounds_toArray, List.set_cons_zero, List.set_cons_succ]
  refine wpX_take (i := 19) S0t.out rfl rfl (by kernel_rfl) (by kernel_rfl) (by kernel_rfl) (fun _ _ _ h => h) (SteadyX.call (by rfl) (fun w_ hS => at_any sx1 sy1 w_) (fun w_ hS => by (obtain ⟨q0, q1, q2, q3⟩ := S0u.out _ hS; (have q0 := q0.four); (have q1 := q1.four); (have q2 := q2.two); (clear q3); go_simp))) ?_
  simp only [List.setIfInBounds_toArray, List.set_cons_zero, List.set_cons_succ]
  refine wpX_take (i := 20) (v := ?_) S0t.out rfl rfl (by kernel_rfl) (by kernel_rfl) (by kernel_rfl) (fun _ _ _ h => h) (SteadyX.value (by rfl) ?_) ?_
  rotate_left
  · (intro w_ hS; obtain ⟨q0, q1, q2, q3⟩ := S0u.out _ hS; (have q0 := q0.four); (have q1 := q1.four); (have q2 := q2.two); (clear q3); go_simp; try with_reducible rfl)
  simp only [List.setIfInBounds_toArray, List.set_cons_zero, List.set_cons_succ]
  refine wpX_one (i := 21) (by kernel_rfl) (fun w_ hS => ?_)
  obtain ⟨q0, q1, q2, q3⟩ := S0u.out _ hS
  obtain ⟨Q, hQ⟩ : ∃ R, R = w_.heap.size := ⟨_, rfl⟩
  have ltQ_0 : w.heap.size < Q := by rw [hQ]; exact q0.lt
  have ltQ_1 : (w.heap.size + 1) < Q := by rw [hQ]; exact q1.lt
  have ltQ_2 : (w.heap.size + 1 + 1) < Q := by rw [hQ]; exact q2.lt
  have ltQ_3 : w.heap.size ≤ Q := by rw [hQ]; exact q3.size
  obtain ⟨S1, S1d⟩ : ∃ S : World → Prop, S = fun v : World => Blk v w.heap.size #[.int .i64 rx0, .int .i64 ry0, .int .i64 rx1, .int .i64 ry1] 38 ∧ Blk v (w.heap.size + 1) #[.int .i64 sx0, .int .i64 sy0, .int .i64 sx1, .int .i64 sy1] 38 ∧ Blk v (w.heap.size + 1 + 1) #[.int .i64 px, .int .i64 py] 24 ∧ Below w.heap.size w v ∧ Blk v Q #[.int .i64 0, .int .i64 0, .int .i64 0, .int .i64 0, .int .i64 0, .int .i64 0, .int .i64 0, .int .i64 0] 32 := ⟨_, rfl⟩
  have S1t0 : Stands S1 := by rw [S1d]; exact ((stands_blk _ _ _).and ((stands_blk _ _ _).and ((stands_blk _ _ _).and ((stands_below _).and (stands_blk _ _ _)))))
  have S1u0 : ∀ v, S1 v → Blk v w.heap.size #[.int .i64 rx0, .int .i64 ry0, .int .i64 rx1, .int .i64 ry1] 38 ∧ Blk v (w.heap.size + 1) #[.int .i64 sx0, .int .i64 sy0, .int .i64 sx1, .int .i64 sy1] 38 ∧ Blk v (w.heap.size + 1 + 1) #[.int .i64 px, .int .i64 py] 24 ∧ Below w.heap.size w v ∧ Blk v Q #[.int .i64 0, .int .i64 0, .int .i64 0, .int .i64 0, .int .i64 0, .int .i64 0, .int .i64 0, .int .i64 0] 32 := fun v h => by rw [S1d] at h; exact h
  have S1m0 : ∀ v, (Blk v w.heap.size #[.int .i64 rx0, .int .i64 ry0, .int .i64 rx1, .int .i64 ry1] 38 ∧ Blk v (w.heap.size + 1) #[.int .i64 sx0, .int .i64 sy0, .int .i64 sx1, .int .i64 sy1] 38 ∧ Blk v (w.heap.size + 1 + 1) #[.int .i64 px, .int .i64 py] 24 ∧ Below w.heap.size w v ∧ Blk v Q #[.int .i64 0, .int .i64 0, .int .i64 0, .int .i64 0, .int .i64 0, .int .i64 0, .int .i64 0, .int .i64 0] 32) → S1 v := fun v h => by rw [S1d]; exact h
  have S1u := Lib.hid S1u0
  have S1m := Lib.hid S1m0
  have S1t := Lib.hid S1t0
  clear S1d S1u0 S1m0 S1t0
  refine wpX_run (i := 21) (v := .pointer (some ⟨Q, 0, none⟩)) (w' := w_.alloc (.cells #[.int .i64 0, .int .i64 0, .int .i64 0, .int .i64 0, .int .i64 0, .int .i64 0, .int .i64 0, .int .i64 0] 32)) S1 rfl rfl (by rfl) (by (subst hQ; go_simp)) S1t.out (.inr fun v h => S0m.out _ (by obtain ⟨q0, q1, q2, q3, q4⟩ := S1u.out _ h; exact ⟨q0, q1, q2, q3⟩)) (S1m.out _ ⟨(stands_blk _ _ _) _ _ ((Below.refl _ w_).alloc (Nat.le_refl _) _) q0, (stands_blk _ _ _) _ _ ((Below.refl _ w_).alloc (Nat.le_refl _) _) q1, (stands_blk _ _ _) _ _ ((Below.refl _ w_).alloc (Nat.le_refl _) _) q2, (stands_below _) _ _ ((Below.refl _ w_).alloc (Nat.le_refl _) _) q3, Blk.new' w_ _ _ hQ⟩) ?_
  clear hS q0 q1 q2 q3 hQ
  clear w_
  simp only [List.setIfInBounds_toArray, List.set_cons_zero, List.set_cons_succ]
  refine wpX_one (i := 22) (by kernel_rfl) (fun w_ hS => ?_)
  obtain ⟨q0, q1, q2, q3, q4⟩ := S1u.out _ hS
  obtain ⟨S2, S2d⟩ : ∃ S : World → Prop, S = fun v : World => Blk v w.heap.size #[.int .i64 rx0, .int .i64 ry0, .int .i64 rx1, .int .i64 ry1] 38 ∧ Blk v (w.heap.size + 1) #[.int .i64 sx0, .int .i64 sy0, .int .i64 sx1, .int .i64 sy1] 38 ∧ Blk v (w.heap.size + 1 + 1) #[.int .i64 px, .int .i64 py] 24 ∧ Below w.heap.size w v ∧ Blk v Q #[.int .i64 sx0, .int .i64 sy0, .int .i64 sx0, .int .i64 sy1, .int .i64 sx1, .int .i64 sy0, .int .i64 sx1, .int .i64 sy1] 32 := ⟨_, rfl⟩
  have S2t0 : Stands S2 := by rw [S2d]; exact ((stands_blk _ _ _).and ((stands_blk _ _ _).and ((stands_blk _ _ _).and ((stands_below _).and (stands_blk _ _ _)))))
  have S2u0 : ∀ v, S2 v → Blk v w.heap.size #[.int .i64 rx0, .int .i64 ry0, .int .i64 rx1, .int .i64 ry1] 38 ∧ Blk v (w.heap.size + 1) #[.int .i64 sx0, .int .i64 sy0, .int .i64 sx1, .int .i64 sy1] 38 ∧ Blk v (w.heap.size + 1 + 1) #[.int .i64 px, .int .i64 py] 24 ∧ Below w.heap.size w v ∧ Blk v Q #[.int .i64 sx0, .int .i64 sy0, .int .i64 sx0, .int .i64 sy1, .int .i64 sx1, .int .i64 sy0, .int .i64 sx1, .int .i64 sy1] 32 := fun v h => by rw [S2d] at h; exact h
  have S2m0 : ∀ v, (Blk v w.heap.size #[.int .i64 rx0, .int .i64 ry0, .int .i64 rx1, .int .i64 ry1] 38 ∧ Blk v (w.heap.size + 1) #[.int .i64 sx0, .int .i64 sy0, .int .i64 sx1, .int .i64 sy1] 38 ∧ Blk v (w.heap.size + 1 + 1) #[.int .i64 px, .int .i64 py] 24 ∧ Below w.heap.size w v ∧ Blk v Q #[.int .i64 sx0, .int .i64 sy0, .int .i64 sx0, .int .i64 sy1, .int .i64 sx1, .int .i64 sy0, .int .i64 sx1, .int .i64 sy1] 32) → S2 v := fun v h => by rw [S2d]; exact h
  have S2u := Lib.hid S2u0
  have S2m := Lib.hid S2m0
  have S2t := Lib.hid S2t0
  clear S2d S2u0 S2m0 S2t0
  have n4 : Blk ((((((((w_.setCell ⟨Q, 0, none⟩ (.int .i64 sx0)).setCell ⟨Q, 1, none⟩ (.int .i64 sy0)).setCell ⟨Q, 2, none⟩ (.int .i64 sx0)).setCell ⟨Q, 3, none⟩ (.int .i64 sy1)).setCell ⟨Q, 4, none⟩ (.int .i64 sx1)).setCell ⟨Q, 5, none⟩ (.int .i64 sy0)).setCell ⟨Q, 6, none⟩ (.int .i64 sx1)).setCell ⟨Q, 7, none⟩ (.int .i64 sy1)) Q #[.int .i64 sx0, .int .i64 sy0, .int .i64 sx0, .int .i64 sy1, .int .i64 sx1, .int .i64 sy0, .int .i64 sx1, .int .i64 sy1] 32 := by have h := ((((((((q4.set 0 (.int .i64 sx0)).set 1 (.int .i64 sy0)).set 2 (.int .i64 sx0)).set 3 (.int .i64 sy1)).set 4 (.int .i64 sx1)).set 5 (.int .i64 sy0)).set 6 (.int .i64 sx1)).set 7 (.int .i64 sy1)); simpa using h
  have st_ : S2 ((((((((w_.setCell ⟨Q, 0, none⟩ (.int .i64 sx0)).setCell ⟨Q, 1, none⟩ (.int .i64 sy0)).setCell ⟨Q, 2, none⟩ (.int .i64 sx0)).setCell ⟨Q, 3, none⟩ (.int .i64 sy1)).setCell ⟨Q, 4, none⟩ (.int .i64 sx1)).setCell ⟨Q, 5, none⟩ (.int .i64 sy0)).setCell ⟨Q, 6, none⟩ (.int .i64 sx1)).setCell ⟨Q, 7, none⟩ (.int .i64 sy1)) := S2m.out _ ⟨((((((((((((((((q0).other (a := ⟨Q, 0, none⟩) (by show w.heap.size ≠ Q; omega) _)).other (a := ⟨Q, 1, none⟩) (by show w.heap.size ≠ Q; omega) _)).other (a := ⟨Q, 2, none⟩) (by show w.heap.size ≠ Q; omega) _)).other (a := ⟨Q, 3, none⟩) (by show w.heap.size ≠ Q; omega) _)).other (a := ⟨Q, 4, none⟩) (by show w.heap.size ≠ Q; omega) _)).other (a := ⟨Q, 5, none⟩) (by show w.heap.size ≠ Q; omega) _)).other (a := ⟨Q, 6, none⟩) (by show w.heap.size ≠ Q; omega) _)).other (a := ⟨Q, 7, none⟩) (by show w.heap.size ≠ Q; omega) _), ((((((((((((((((q1).other (a := ⟨Q, 0, none⟩) (by show (w.heap.size + 1) ≠ Q; omega) _)).other (a := ⟨Q, 1, none⟩) (by show (w.heap.size + 1) ≠ Q; omega) _)).other (a := ⟨Q, 2, none⟩) (by show (w.heap.size + 1) ≠ Q; omega) _)).other (a := ⟨Q, 3, none⟩) (by show (w.heap.size + 1) ≠ Q; omega) _)).other (a := ⟨Q, 4, none⟩) (by show (w.heap.size + 1) ≠ Q; omega) _)).other (a := ⟨Q, 5, none⟩) (by show (w.heap.size + 1) ≠ Q; omega) _)).other (a := ⟨Q, 6, none⟩) (by show (w.heap.size + 1) ≠ Q; omega) _)).other (a := ⟨Q, 7, none⟩) (by show (w.heap.size + 1) ≠ Q; omega) _), ((((((((((((((((q2).other (a := ⟨Q, 0, none⟩) (by show (w.heap.size + 1 + 1) ≠ Q; omega) _)).other (a := ⟨Q, 1, none⟩) (by show (w.heap.size + 1 + 1) ≠ Q; omega) _)).other (a := ⟨Q, 2, none⟩) (by show (w.heap.size + 1 + 1) ≠ Q; omega) _)).other (a := ⟨Q, 3, none⟩) (by show (w.heap.size + 1 + 1) ≠ Q; omega) _)).other (a := ⟨Q, 4, none⟩) (by show (w.heap.size + 1 + 1) ≠ Q; omega) _)).other (a := ⟨Q, 5, none⟩) (by show (w.heap.size + 1 + 1) ≠ Q; omega) _)).other (a := ⟨Q, 6, none⟩) (by show (w.heap.size + 1 + 1) ≠ Q; omega) _)).other (a := ⟨Q, 7, none⟩) (by show (w.heap.size + 1 + 1) ≠ Q; omega) _), ((((((((((((((((q3).setCell (p := ⟨Q, 0, none⟩) (by show w.heap.size ≤ Q; omega) _)).setCell (p := ⟨Q, 1, none⟩) (by show w.heap.size ≤ Q; omega) _)).setCell (p := ⟨Q, 2, none⟩) (by show w.heap.size ≤ Q; omega) _)).setCell (p := ⟨Q, 3, none⟩) (by show w.heap.size ≤ Q; omega) _)).setCell (p := ⟨Q, 4, none⟩) (by show w.heap.size ≤ Q; omega) _)).setCell (p := ⟨Q, 5, none⟩) (by show w.heap.size ≤ Q; omega) _)).setCell (p := ⟨Q, 6, none⟩) (by show w.heap.size ≤ Q; omega) _)).setCell (p := ⟨Q, 7, none⟩) (by show w.heap.size ≤ Q; omega) _), n4⟩
  have r_ := q4.eight
  refine wpX_store (i := 22) (w' := ((((((((w_.setCell ⟨Q, 0, none⟩ (.int .i64 sx0)).setCell ⟨Q, 1, none⟩ (.int .i64 sy0)).setCell ⟨Q, 2, none⟩ (.int .i64 sx0)).setCell ⟨Q, 3, none⟩ (.int .i64 sy1)).setCell ⟨Q, 4, none⟩ (.int .i64 sx1)).setCell ⟨Q, 5, none⟩ (.int .i64 sy0)).setCell ⟨Q, 6, none⟩ (.int .i64 sx1)).setCell ⟨Q, 7, none⟩ (.int .i64 sy1))) S2 rfl rfl (by rfl) (by go_simp) S2t.out (.inl (by kernel_rfl)) st_ ?_
  clear r_ hS st_ q0 q1 q2 q3 q4 n4
  clear w_
  refine wpX_done (by kernel_rfl) (fun W hS => ?_) _
  obtain ⟨q0, q1, q2, q3, q4⟩ := S2u.out _ hS
  clear hS S0u S0m S0t S1u S1m S1t S2u S2m S2t
  clear S0 S1 S2
  have C0 := Lib.hid (And.intro q0 (And.intro q1 (And.intro q2 (And.intro q3 q4))))
  clear q0 q1 q2 q3 q4 ltQ_0 ltQ_1 ltQ_2 ltQ_3
  go_wp2
  go_loopw [9] (fun i wr => ∃ k : Nat, k ≤ 4 ∧ i = .int .i64 k ∧ Hid (Blk wr w.heap.size #[.int .i64 rx0, .int .i64 ry0, .int .i64 rx1, .int .i64 ry1] 38 ∧ Blk wr (w.heap.size + 1) #[.int .i64 sx0, .int .i64 sy0, .int .i64 sx1, .int .i64 sy1] 38 ∧ Blk wr (w.heap.size + 1 + 1) #[.int .i64 px, .int .i64 py] 24 ∧ Below w.heap.size w wr ∧ Blk wr Q #[.int .i64 sx0, .int .i64 sy0, .int .i64 sx0, .int .i64 sy1, .int .i64 sx1, .int .i64 sy0, .int .i64 sx1, .int .i64 sy1] 32)) (fun i _ => 4 - (intOf i).toNat)
  case atStart => exact ⟨0, by omega, rfl, C0⟩
  case round =>
    obtain ⟨k, hk, rfl, B⟩ := hrel
    clear C0
    by_cases hlt : k < 4
    · have k5 := K5.out k hlt
      have k6 := K6.out k hlt
      have hdk := HD.out k hlt
      have cc := corner_cells B.out.2.2.2.2 k hlt
      generalize corner ⟨sx0, sy0, sx1, sy1⟩ k = q at *
      generalize hb k = b at *
      generalize dd k = d at *
      obtain ⟨qx, qy⟩ := q
      dsimp only at cc
      have L5 := Lib.hid k5
      have L6 := Lib.hid k6
      have CC := Lib.hid cc
      clear k5 k6 cc
      cases b
      · go_wp2_with fail
        obtain ⟨Sa0, Sa0d⟩ : ∃ S : World → Prop, S = fun v : World => v.cell? ⟨Q, k * 2, none⟩ = some (.int .i64 qx) ∧ v.cell? ⟨Q, k * 2 + 1, none⟩ = some (.int .i64 qy) ∧ Blk v w.heap.size #[.int .i64 rx0, .int .i64 ry0, .int .i64 rx1, .int .i64 ry1] 38 ∧ Blk v (w.heap.size + 1) #[.int .i64 sx0, .int .i64 sy0, .int .i64 sx1, .int .i64 sy1] 38 ∧ Blk v (w.heap.size + 1 + 1) #[.int .i64 px, .int .i64 py] 24 ∧ Below w.heap.size w v ∧ Blk v Q #[.int .i64 sx0, .int .i64 sy0, .int .i64 sx0, .int .i64 sy1, .int .i64 sx1, .int .i64 sy0, .int .i64 sx1, .int .i64 sy1] 32 := ⟨_, rfl⟩
        have Sa0t0 : Stands Sa0 := by rw [Sa0d]; exact ((stands_cell _ _).and ((stands_cell _ _).and ((stands_blk _ _ _).and ((stands_blk _ _ _).and ((stands_blk _ _ _).and ((stands_below _).and (stands_blk _ _ _)))))))
        have Sa0u0 : ∀ v, Sa0 v → v.cell? ⟨Q, k * 2, none⟩ = some (.int .i64 qx) ∧ v.cell? ⟨Q, k * 2 + 1, none⟩ = some (.int .i64 qy) ∧ Blk v w.heap.size #[.int .i64 rx0, .int .i64 ry0, .int .i64 rx1, .int .i64 ry1] 38 ∧ Blk v (w.heap.size + 1) #[.int .i64 sx0, .int .i64 sy0, .int .i64 sx1, .int .i64 sy1] 38 ∧ Blk v (w.heap.size + 1 + 1) #[.int .i64 px, .int .i64 py] 24 ∧ Below w.heap.size w v ∧ Blk v Q #[.int .i64 sx0, .int .i64 sy0, .int .i64 sx0, .int .i64 sy1, .int .i64 sx1, .int .i64 sy0, .int .i64 sx1, .int .i64 sy1] 32 := fun v h => by rw [Sa0d] at h; exact h
        have Sa0m0 : ∀ v, (v.cell? ⟨Q, k * 2, none⟩ = some (.int .i64 qx) ∧ v.cell? ⟨Q, k * 2 + 1, none⟩ = some (.int .i64 qy) ∧ Blk v w.heap.size #[.int .i64 rx0, .int .i64 ry0, .int .i64 rx1, .int .i64 ry1] 38 ∧ Blk v (w.heap.size + 1) #[.int .i64 sx0, .int .i64 sy0, .int .i64 sx1, .int .i64 sy1] 38 ∧ Blk v (w.heap.size + 1 + 1) #[.int .i64 px, .int .i64 py] 24 ∧ Below w.heap.size w v ∧ Blk v Q #[.int .i64 sx0, .int .i64 sy0, .int .i64 sx0, .int .i64 sy1, .int .i64 sx1, .int .i64 sy0, .int .i64 sx1, .int .i64 sy1] 32) → Sa0 v := fun v h => by rw [Sa0d]; exact h
        have Sa0u := Lib.hid Sa0u0
        have Sa0m := Lib.hid Sa0m0
        have Sa0t := Lib.hid Sa0t0
        clear Sa0d Sa0u0 Sa0m0 Sa0t0
        refine wp_region_X (S := Sa0) (by kernel_rfl) (Sa0m.out _ ⟨CC.out.1, CC.out.2, B.out.1.drew, B.out.2.1.drew, B.out.2.2.1.drew, B.out.2.2.2.1.drew, B.out.2.2.2.2.drew⟩) ?_
        clear B CC
        refine wpX_take (i := 0) (v := ?_) Sa0t.out rfl rfl (by kernel_rfl) (by kernel_rfl) (by kernel_rfl) (fun _ _ _ h => h) (SteadyX.value (by rfl) ?_) ?_
        rotate_left
        · (intro w_ hS; obtain ⟨q0, q1, q2, q3, q4, q5, q6⟩ := Sa0u.out _ hS; (have q2 := q2.four); (have q3 := q3.four); (have q4 := q4.two); (clear q5); (have q6 := q6.eight); go_simp; try with_reducible rfl)
        simp only [List.setIfInBounds_toArray, List.set_cons_zero, List.set_cons_succ]
        refine wpX_take (i := 1) (v := ?_) Sa0t.out rfl rfl (by kernel_rfl) (by kernel_rfl) (by kernel_rfl) (fun _ _ _ h => h) (SteadyX.value (by rfl) ?_) ?_
        rotate_left
        · (intro w_ hS; obtain ⟨q0, q1, q2, q3, q4, q5, q6⟩ := Sa0u.out _ hS; (have q2 := q2.four); (have q3 := q3.four); (have q4 := q4.two); (clear q5); (have q6 := q6.eight); go_simp; try with_reducible rfl)
        simp only [List.setIfInBounds_toArray, List.set_cons_zero, List.set_cons_succ]
        refine wpX_take (i := 2) (v := ?_) Sa0t.out rfl rfl (by kernel_rfl) (by kernel_rfl) (by kernel_rfl) (fun _ _ _ h => h) (SteadyX.value (by rfl) ?_) ?_
        rotate_left
        · (intro w_ hS; obtain ⟨q0, q1, q2, q3, q4, q5, q6⟩ := Sa0u.out _ hS; (have q2 := q2.four); (have q3 := q3.four); (have q4 := q4.two); (clear q5); (have q6 := q6.eight); go_simp; try with_reducible rfl)
        simp only [List.setIfInBounds_toArray, List.set_cons_zero, List.set_cons_succ]
        refine wpX_take (i := 3) (v := ?_) Sa0t.out rfl rfl (by kernel_rfl) (by kernel_rfl) (by kernel_rfl) (fun _ _ _ h => h) (SteadyX.value (by rfl) ?_) ?_
        rotate_left
        · (intro w_ hS; obtain ⟨q0, q1, q2, q3, q4, q5, q6⟩ := Sa0u.out _ hS; (have q2 := q2.four); (have q3 := q3.four); (have q4 := q4.two); (clear q5); (have q6 := q6.eight); go_simp; try with_reducible rfl)
        simp only [List.setIfInBounds_toArray, List.set_cons_zero, List.set_cons_succ]
        refine wpX_take (i := 4) Sa0t.out rfl rfl (by kernel_rfl) (by kernel_rfl) (by kernel_rfl) (fun _ _ _ h => h) (SteadyX.call (by rfl) (fun w_ hS => L5.out w_) (fun w_ hS => by (obtain ⟨q0, q1, q2, q3, q4, q5, q6⟩ := Sa0u.out _ hS; (have q2 := q2.four); (have q3 := q3.four); (have q4 := q4.two); (clear q5); (have q6 := q6.eight); go_simp))) ?_
        simp only [List.setIfInBounds_toArray, List.set_cons_zero, List.set_cons_succ]
        refine wpX_take (i := 5) (v := ?_) Sa0t.out rfl rfl (by kernel_rfl) (by kernel_rfl) (by kernel_rfl) (fun _ _ _ h => h) (SteadyX.value (by rfl) ?_) ?_
        rotate_left
        · (intro w_ hS; obtain ⟨q0, q1, q2, q3, q4, q5, q6⟩ := Sa0u.out _ hS; (have q2 := q2.four); (have q3 := q3.four); (have q4 := q4.two); (clear q5); (have q6 := q6.eight); go_simp; try with_reducible rfl)
        simp only [List.setIfInBounds_toArray, List.set_cons_zero, List.set_cons_succ]
        refine wpX_take (i := 6) (v := undef) Sa0t.out rfl rfl (by kernel_rfl) (by kernel_rfl) (by kernel_rfl) (fun _ _ _ h => h) (SteadyX.off (by rfl)) ?_
        simp only [List.setIfInBounds_toArray, List.set_cons_zero, List.set_cons_succ]
        refine wpX_take (i := 7) (v := undef) Sa0t.out rfl rfl (by kernel_rfl) (by kernel_rfl) (by kernel_rfl) (fun _ _ _ h => h) (SteadyX.off (by rfl)) ?_
        simp only [List.setIfInBounds_toArray, List.set_cons_zero, List.set_cons_succ]
        refine wpX_take (i := 8) (v := undef) Sa0t.out rfl rfl (by kernel_rfl) (by kernel_rfl) (by kernel_rfl) (fun _ _ _ h => h) (SteadyX.off (by rfl)) ?_
        simp only [List.setIfInBounds_toArray, List.set_cons_zero, List.set_cons_succ]
        refine wpX_take (i := 9) (v := undef) Sa0t.out rfl rfl (by kernel_rfl) (by kernel_rfl) (by kernel_rfl) (fun _ _ _ h => h) (SteadyX.off (by rfl)) ?_
        simp only [List.setIfInBounds_toArray, List.set_cons_zero, List.set_cons_succ]
        refine wpX_take (i := 10) (v := undef) Sa0t.out rfl rfl (by kernel_rfl) (by kernel_rfl) (by kernel_rfl) (fun _ _ _ h => h) (SteadyX.off (by rfl)) ?_
        simp only [List.setIfInBounds_toArray, List.set_cons_zero, List.set_cons_succ]
        refine wpX_take (i := 11) (v := undef) Sa0t.out rfl rfl (by kernel_rfl) (by kernel_rfl) (by kernel_rfl) (fun _ _ _ h => h) (SteadyX.off (by rfl)) ?_
        simp only [List.setIfInBounds_toArray, List.set_cons_zero, List.set_cons_succ]
        refine wpX_take (i := 12) (v := undef) Sa0t.out rfl rfl (by kernel_rfl) (by kernel_rfl) (by kernel_rfl) (fun _ _ _ h => h) (SteadyX.off (by rfl)) ?_
        simp only [List.setIfInBounds_toArray, List.set_cons_zero, List.set_cons_succ]
        refine wpX_take (i := 13) (v := ?_) Sa0t.out rfl rfl (by kernel_rfl) (by kernel_rfl) (by kernel_rfl) (fun _ _ _ h => h) (SteadyX.value (by rfl) ?_) ?_
        rotate_left
        · (intro w_ hS; obtain ⟨q0, q1, q2, q3, q4, q5, q6⟩ := Sa0u.out _ hS; (have q2 := q2.four); (have q3 := q3.four); (have q4 := q4.two); (clear q5); (have q6 := q6.eight); go_simp; try with_reducible rfl)
        simp only [List.setIfInBounds_toArray, List.set_cons_zero, List.set_cons_succ]
        refine wpX_done (by kernel_rfl) (fun W hS => ?_) _
        obtain ⟨q0, q1, q2, q3, q4, q5, q6⟩ := Sa0u.out _ hS
        clear hS Sa0u Sa0m Sa0t
        clear Sa0
        have B := Lib.hid (And.intro q2 (And.intro q3 (And.intro q4 (And.intro q5 q6))))
        clear q0 q1 q2 q3 q4 q5 q6
        go_wp2
        go_round
        case rel => exact ⟨k + 1, by omega, val_int rfl, B⟩
        case measure => simp only [intOf]; omega
      · have hlt2 : ¬ d < n := by have := hdk rfl; omega
        go_wp2_with fail
        obtain ⟨Sa0, Sa0d⟩ : ∃ S : World → Prop, S = fun v : World => v.cell? ⟨Q, k * 2, none⟩ = some (.int .i64 qx) ∧ v.cell? ⟨Q, k * 2 + 1, none⟩ = some (.int .i64 qy) ∧ Blk v w.heap.size #[.int .i64 rx0, .int .i64 ry0, .int .i64 rx1, .int .i64 ry1] 38 ∧ Blk v (w.heap.size + 1) #[.int .i64 sx0, .int .i64 sy0, .int .i64 sx1, .int .i64 sy1] 38 ∧ Blk v (w.heap.size + 1 + 1) #[.int .i64 px, .int .i64 py] 24 ∧ Below w.heap.size w v ∧ Blk v Q #[.int .i64 sx0, .int .i64 sy0, .int .i64 sx0, .int .i64 sy1, .int .i64 sx1, .int .i64 sy0, .int .i64 sx1, .int .i64 sy1] 32 := ⟨_, rfl⟩
        have Sa0t0 : Stands Sa0 := by rw [Sa0d]; exact ((stands_cell _ _).and ((stands_cell _ _).and ((stands_blk _ _ _).and ((stands_blk _ _ _).and ((stands_blk _ _ _).and ((stands_below _).and (stands_blk _ _ _)))))))
        have Sa0u0 : ∀ v, Sa0 v → v.cell? ⟨Q, k * 2, none⟩ = some (.int .i64 qx) ∧ v.cell? ⟨Q, k * 2 + 1, none⟩ = some (.int .i64 qy) ∧ Blk v w.heap.size #[.int .i64 rx0, .int .i64 ry0, .int .i64 rx1, .int .i64 ry1] 38 ∧ Blk v (w.heap.size + 1) #[.int .i64 sx0, .int .i64 sy0, .int .i64 sx1, .int .i64 sy1] 38 ∧ Blk v (w.heap.size + 1 + 1) #[.int .i64 px, .int .i64 py] 24 ∧ Below w.heap.size w v ∧ Blk v Q #[.int .i64 sx0, .int .i64 sy0, .int .i64 sx0, .int .i64 sy1, .int .i64 sx1, .int .i64 sy0, .int .i64 sx1, .int .i64 sy1] 32 := fun v h => by rw [Sa0d] at h; exact h
        have Sa0m0 : ∀ v, (v.cell? ⟨Q, k * 2, none⟩ = some (.int .i64 qx) ∧ v.cell? ⟨Q, k * 2 + 1, none⟩ = some (.int .i64 qy) ∧ Blk v w.heap.size #[.int .i64 rx0, .int .i64 ry0, .int .i64 rx1, .int .i64 ry1] 38 ∧ Blk v (w.heap.size + 1) #[.int .i64 sx0, .int .i64 sy0, .int .i64 sx1, .int .i64 sy1] 38 ∧ Blk v (w.heap.size + 1 + 1) #[.int .i64 px, .int .i64 py] 24 ∧ Below w.heap.size w v ∧ Blk v Q #[.int .i64 sx0, .int .i64 sy0, .int .i64 sx0, .int .i64 sy1, .int .i64 sx1, .int .i64 sy0, .int .i64 sx1, .int .i64 sy1] 32) → Sa0 v := fun v h => by rw [Sa0d]; exact h
        have Sa0u := Lib.hid Sa0u0
        have Sa0m := Lib.hid Sa0m0
        have Sa0t := Lib.hid Sa0t0
        clear Sa0d Sa0u0 Sa0m0 Sa0t0
        refine wp_region_X (S := Sa0) (by kernel_rfl) (Sa0m.out _ ⟨CC.out.1, CC.out.2, B.out.1.drew, B.out.2.1.drew, B.out.2.2.1.drew, B.out.2.2.2.1.drew, B.out.2.2.2.2.drew⟩) ?_
        clear B CC
        refine wpX_take (i := 0) (v := ?_) Sa0t.out rfl rfl (by kernel_rfl) (by kernel_rfl) (by kernel_rfl) (fun _ _ _ h => h) (SteadyX.value (by rfl) ?_) ?_
        rotate_left
        · (intro w_ hS; obtain ⟨q0, q1, q2, q3, q4, q5, q6⟩ := Sa0u.out _ hS; (have q2 := q2.four); (have q3 := q3.four); (have q4 := q4.two); (clear q5); (have q6 := q6.eight); go_simp; try with_reducible rfl)
        simp only [List.setIfInBounds_toArray, List.set_cons_zero, List.set_cons_succ]
        refine wpX_take (i := 1) (v := ?_) Sa0t.out rfl rfl (by kernel_rfl) (by kernel_rfl) (by kernel_rfl) (fun _ _ _ h => h) (SteadyX.value (by rfl) ?_) ?_
        rotate_left
        · (intro w_ hS; obtain ⟨q0, q1, q2, q3, q4, q5, q6⟩ := Sa0u.out _ hS; (have q2 := q2.four); (have q3 := q3.four); (have q4 := q4.two); (clear q5); (have q6 := q6.eight); go_simp; try with_reducible rfl)
        simp only [List.setIfInBounds_toArray, List.set_cons_zero, List.set_cons_succ]
        refine wpX_take (i := 2) (v := ?_) Sa0t.out rfl rfl (by kernel_rfl) (by kernel_rfl) (by kernel_rfl) (fun _ _ _ h => h) (SteadyX.value (by rfl) ?_) ?_
        rotate_left
        · (intro w_ hS; obtain ⟨q0, q1, q2, q3, q4, q5, q6⟩ := Sa0u.out _ hS; (have q2 := q2.four); (have q3 := q3.four); (have q4 := q4.two); (clear q5); (have q6 := q6.eight); go_simp; try with_reducible rfl)
        simp only [List.setIfInBounds_toArray, List.set_cons_zero, List.set_cons_succ]
        refine wpX_take (i := 3) (v := ?_) Sa0t.out rfl rfl (by kernel_rfl) (by kernel_rfl) (by kernel_rfl) (fun _ _ _ h => h) (SteadyX.value (by rfl) ?_) ?_
        rotate_left
        · (intro w_ hS; obtain ⟨q0, q1, q2, q3, q4, q5, q6⟩ := Sa0u.out _ hS; (have q2 := q2.four); (have q3 := q3.four); (have q4 := q4.two); (clear q5); (have q6 := q6.eight); go_simp; try with_reducible rfl)
        simp only [List.setIfInBounds_toArray, List.set_cons_zero, List.set_cons_succ]
        refine wpX_take (i := 4) Sa0t.out rfl rfl (by kernel_rfl) (by kernel_rfl) (by kernel_rfl) (fun _ _ _ h => h) (SteadyX.call (by rfl) (fun w_ hS => L5.out w_) (fun w_ hS => by (obtain ⟨q0, q1, q2, q3, q4, q5, q6⟩ := Sa0u.out _ hS; (have q2 := q2.four); (have q3 := q3.four); (have q4 := q4.two); (clear q5); (have q6 := q6.eight); go_simp))) ?_
        simp only [List.setIfInBounds_toArray, List.set_cons_zero, List.set_cons_succ]
        refine wpX_take (i := 5) (v := ?_) Sa0t.out rfl rfl (by kernel_rfl) (by kernel_rfl) (by kernel_rfl) (fun _ _ _ h => h) (SteadyX.value (by rfl) ?_) ?_
        rotate_left
        · (intro w_ hS; obtain ⟨q0, q1, q2, q3, q4, q5, q6⟩ := Sa0u.out _ hS; (have q2 := q2.four); (have q3 := q3.four); (have q4 := q4.two); (clear q5); (have q6 := q6.eight); go_simp; try with_reducible rfl)
        simp only [List.setIfInBounds_toArray, List.set_cons_zero, List.set_cons_succ]
        refine wpX_take (i := 6) (v := ?_) Sa0t.out rfl rfl (by kernel_rfl) (by kernel_rfl) (by kernel_rfl) (fun _ _ _ h => h) (SteadyX.value (by rfl) ?_) ?_
        rotate_left
        · (intro w_ hS; obtain ⟨q0, q1, q2, q3, q4, q5, q6⟩ := Sa0u.out _ hS; (have q2 := q2.four); (have q3 := q3.four); (have q4 := q4.two); (clear q5); (have q6 := q6.eight); go_simp; try with_reducible rfl)
        simp only [List.setIfInBounds_toArray, List.set_cons_zero, List.set_cons_succ]
        refine wpX_take (i := 7) (v := ?_) Sa0t.out rfl rfl (by kernel_rfl) (by kernel_rfl) (by kernel_rfl) (fun _ _ _ h => h) (SteadyX.value (by rfl) ?_) ?_
        rotate_left
        · (intro w_ hS; obtain ⟨q0, q1, q2, q3, q4, q5, q6⟩ := Sa0u.out _ hS; (have q2 := q2.four); (have q3 := q3.four); (have q4 := q4.two); (clear q5); (have q6 := q6.eight); go_simp; try with_reducible rfl)
        simp only [List.setIfInBounds_toArray, List.set_cons_zero, List.set_cons_succ]
        refine wpX_take (i := 8) (v := ?_) Sa0t.out rfl rfl (by kernel_rfl) (by kernel_rfl) (by kernel_rfl) (fun _ _ _ h => h) (SteadyX.value (by rfl) ?_) ?_
        rotate_left
        · (intro w_ hS; obtain ⟨q0, q1, q2, q3, q4, q5, q6⟩ := Sa0u.out _ hS; (have q2 := q2.four); (have q3 := q3.four); (have q4 := q4.two); (clear q5); (have q6 := q6.eight); go_simp; try with_reducible rfl)
        simp only [List.setIfInBounds_toArray, List.set_cons_zero, List.set_cons_succ]
        refine wpX_take (i := 9) (v := ?_) Sa0t.out rfl rfl (by kernel_rfl) (by kernel_rfl) (by kernel_rfl) (fun _ _ _ h => h) (SteadyX.value (by rfl) ?_) ?_
        rotate_left
        · (intro w_ hS; obtain ⟨q0, q1, q2, q3, q4, q5, q6⟩ := Sa0u.out _ hS; (have q2 := q2.four); (have q3 := q3.four); (have q4 := q4.two); (clear q5); (have q6 := q6.eight); go_simp; try with_reducible rfl)
        simp only [List.setIfInBounds_toArray, List.set_cons_zero, List.set_cons_succ]
        refine wpX_take (i := 10) (v := ?_) Sa0t.out rfl rfl (by kernel_rfl) (by kernel_rfl) (by kernel_rfl) (fun _ _ _ h => h) (SteadyX.value (by rfl) ?_) ?_
        rotate_left
        · (intro w_ hS; obtain ⟨q0, q1, q2, q3, q4, q5, q6⟩ := Sa0u.out _ hS; (have q2 := q2.four); (have q3 := q3.four); (have q4 := q4.two); (clear q5); (have q6 := q6.eight); go_simp; try with_reducible rfl)
        simp only [List.setIfInBounds_toArray, List.set_cons_zero, List.set_cons_succ]
        refine wpX_take (i := 11) Sa0t.out rfl rfl (by kernel_rfl) (by kernel_rfl) (by kernel_rfl) (fun _ _ _ h => h) (SteadyX.call (by rfl) (fun w_ hS => L6.out w_) (fun w_ hS => by (obtain ⟨q0, q1, q2, q3, q4, q5, q6⟩ := Sa0u.out _ hS; (have q2 := q2.four); (have q3 := q3.four); (have q4 := q4.two); (clear q5); (have q6 := q6.eight); go_simp))) ?_
        simp only [List.setIfInBounds_toArray, List.set_cons_zero, List.set_cons_succ]
        refine wpX_take (i := 12) (v := ?_) Sa0t.out rfl rfl (by kernel_rfl) (by kernel_rfl) (by kernel_rfl) (fun _ _ _ h => h) (SteadyX.value (by rfl) ?_) ?_
        rotate_left
        · (intro w_ hS; obtain ⟨q0, q1, q2, q3, q4, q5, q6⟩ := Sa0u.out _ hS; (have q2 := q2.four); (have q3 := q3.four); (have q4 := q4.two); (clear q5); (have q6 := q6.eight); go_simp; try with_reducible rfl)
        simp only [List.setIfInBounds_toArray, List.set_cons_zero, List.set_cons_succ]
        refine wpX_take (i := 13) (v := ?_) Sa0t.out rfl rfl (by kernel_rfl) (by kernel_rfl) (by kernel_rfl) (fun _ _ _ h => h) (SteadyX.value (by rfl) ?_) ?_
        rotate_left
        · (intro w_ hS; obtain ⟨q0, q1, q2, q3, q4, q5, q6⟩ := Sa0u.out _ hS; (have q2 := q2.four); (have q3 := q3.four); (have q4 := q4.two); (clear q5); (have q6 := q6.eight); go_simp; try with_reducible rfl)
        simp only [List.setIfInBounds_toArray, List.set_cons_zero, List.set_cons_succ]
        refine wpX_done (by kernel_rfl) (fun W hS => ?_) _
        obtain ⟨q0, q1, q2, q3, q4, q5, q6⟩ := Sa0u.out _ hS
        clear hS Sa0u Sa0m Sa0t
        clear Sa0
        have B := Lib.hid (And.intro q2 (And.intro q3 (And.intro q4 (And.intro q5 q6))))
        clear q0 q1 q2 q3 q4 q5 q6
        go_wp2
        go_round
        case rel => exact ⟨k + 1, by omega, val_int rfl, B⟩
        case measure => simp only [intOf]; omega
    · have h0 := H0.out
      have h2 := H2.out
      go_wp2_with fail
      obtain ⟨Sb0, Sb0d⟩ : ∃ S : World → Prop, S = fun v : World => Blk v w.heap.size #[.int .i64 rx0, .int .i64 ry0, .int .i64 rx1, .int .i64 ry1] 38 ∧ Blk v (w.heap.size + 1) #[.int .i64 sx0, .int .i64 sy0, .int .i64 sx1, .int .i64 sy1] 38 ∧ Blk v (w.heap.size + 1 + 1) #[.int .i64 px, .int .i64 py] 24 ∧ Below w.heap.size w v ∧ Blk v Q #[.int .i64 sx0, .int .i64 sy0, .int .i64 sx0, .int .i64 sy1, .int .i64 sx1, .int .i64 sy0, .int .i64 sx1, .int .i64 sy1] 32 := ⟨_, rfl⟩
      have Sb0t0 : Stands Sb0 := by rw [Sb0d]; exact ((stands_blk _ _ _).and ((stands_blk _ _ _).and ((stands_blk _ _ _).and ((stands_below _).and (stands_blk _ _ _)))))
      have Sb0u0 : ∀ v, Sb0 v → Blk v w.heap.size #[.int .i64 rx0, .int .i64 ry0, .int .i64 rx1, .int .i64 ry1] 38 ∧ Blk v (w.heap.size + 1) #[.int .i64 sx0, .int .i64 sy0, .int .i64 sx1, .int .i64 sy1] 38 ∧ Blk v (w.heap.size + 1 + 1) #[.int .i64 px, .int .i64 py] 24 ∧ Below w.heap.size w v ∧ Blk v Q #[.int .i64 sx0, .int .i64 sy0, .int .i64 sx0, .int .i64 sy1, .int .i64 sx1, .int .i64 sy0, .int .i64 sx1, .int .i64 sy1] 32 := fun v h => by rw [Sb0d] at h; exact h
      have Sb0m0 : ∀ v, (Blk v w.heap.size #[.int .i64 rx0, .int .i64 ry0, .int .i64 rx1, .int .i64 ry1] 38 ∧ Blk v (w.heap.size + 1) #[.int .i64 sx0, .int .i64 sy0, .int .i64 sx1, .int .i64 sy1] 38 ∧ Blk v (w.heap.size + 1 + 1) #[.int .i64 px, .int .i64 py] 24 ∧ Below w.heap.size w v ∧ Blk v Q #[.int .i64 sx0, .int .i64 sy0, .int .i64 sx0, .int .i64 sy1, .int .i64 sx1, .int .i64 sy0, .int .i64 sx1, .int .i64 sy1] 32) → Sb0 v := fun v h => by rw [Sb0d]; exact h
      have Sb0u := Lib.hid Sb0u0
      have Sb0m := Lib.hid Sb0m0
      have Sb0t := Lib.hid Sb0t0
      clear Sb0d Sb0u0 Sb0m0 Sb0t0
      refine wp_region_X (S := Sb0) (by kernel_rfl) (Sb0m.out _ ⟨B.out.1.drew, B.out.2.1.drew, B.out.2.2.1.drew, B.out.2.2.2.1.drew, B.out.2.2.2.2.drew⟩) ?_
      clear B
      refine wpX_take (i := 0) (v := ?_) Sb0t.out rfl rfl (by kernel_rfl) (by kernel_rfl) (by kernel_rfl) (fun _ _ _ h => h) (SteadyX.value (by rfl) ?_) ?_
      rotate_left
      · (intro w_ hS; obtain ⟨q0, q1, q2, q3, q4⟩ := Sb0u.out _ hS; (have q0 := q0.four); (have q1 := q1.four); (have q2 := q2.two); (clear q3); (have q4 := q4.eight); go_simp; try with_reducible rfl)
      simp only [List.setIfInBounds_toArray, List.set_cons_zero, List.set_cons_succ]
      refine wpX_take (i := 1) (v := ?_) Sb0t.out rfl rfl (by kernel_rfl) (by kernel_rfl) (by kernel_rfl) (fun _ _ _ h => h) (SteadyX.value (by rfl) ?_) ?_
      rotate_left
      · (intro w_ hS; obtain ⟨q0, q1, q2, q3, q4⟩ := Sb0u.out _ hS; (have q0 := q0.four); (have q1 := q1.four); (have q2 := q2.two); (clear q3); (have q4 := q4.eight); go_simp; try with_reducible rfl)
      simp only [List.setIfInBounds_toArray, List.set_cons_zero, List.set_cons_succ]
      refine wpX_take (i := 2) (v := ?_) Sb0t.out rfl rfl (by kernel_rfl) (by kernel_rfl) (by kernel_rfl) (fun _ _ _ h => h) (SteadyX.value (by rfl) ?_) ?_
      rotate_left
      · (intro w_ hS; obtain ⟨q0, q1, q2, q3, q4⟩ := Sb0u.out _ hS; (have q0 := q0.four); (have q1 := q1.four); (have q2 := q2.two); (clear q3); (have q4 := q4.eight); go_simp; try with_reducible rfl)
      simp only [List.setIfInBounds_toArray, List.set_cons_zero, List.set_cons_succ]
      refine wpX_take (i := 3) (v := ?_) Sb0t.out rfl rfl (by kernel_rfl) (by kernel_rfl) (by kernel_rfl) (fun _ _ _ h => h) (SteadyX.value (by rfl) ?_) ?_
      rotate_left
      · (intro w_ hS; obtain ⟨q0, q1, q2, q3, q4⟩ := Sb0u.out _ hS; (have q0 := q0.four); (have q1 := q1.four); (have q2 := q2.two); (clear q3); (have q4 := q4.eight); go_simp; try with_reducible rfl)
      simp only [List.setIfInBounds_toArray, List.set_cons_zero, List.set_cons_succ]
      refine wpX_take (i := 4) Sb0t.out rfl rfl (by kernel_rfl) (by kernel_rfl) (by kernel_rfl) (fun _ _ _ h => h) (SteadyX.call (by rfl) (fun w_ hS => K7.out w_) (fun w_ hS => by (obtain ⟨q0, q1, q2, q3, q4⟩ := Sb0u.out _ hS; (have q0 := q0.four); (have q1 := q1.four); (have q2 := q2.two); (clear q3); (have q4 := q4.eight); go_simp))) ?_
      simp only [List.setIfInBounds_toArray, List.set_cons_zero, List.set_cons_succ]
      refine wpX_take (i := 5) (v := ?_) Sb0t.out rfl rfl (by kernel_rfl) (by kernel_rfl) (by kernel_rfl) (fun _ _ _ h => h) (SteadyX.value (by rfl) ?_) ?_
      rotate_left
      · (intro w_ hS; obtain ⟨q0, q1, q2, q3, q4⟩ := Sb0u.out _ hS; (have q0 := q0.four); (have q1 := q1.four); (have q2 := q2.two); (clear q3); (have q4 := q4.eight); go_simp; try with_reducible rfl)
      simp only [List.setIfInBounds_toArray, List.set_cons_zero, List.set_cons_succ]
      refine wpX_take (i := 6) (v := ?_) Sb0t.out rfl rfl (by kernel_rfl) (by kernel_rfl) (by kernel_rfl) (fun _ _ _ h => h) (SteadyX.value (by rfl) ?_) ?_
      rotate_left
      · (intro w_ hS; obtain ⟨q0, q1, q2, q3, q4⟩ := Sb0u.out _ hS; (have q0 := q0.four); (have q1 := q1.four); (have q2 := q2.two); (clear q3); (have q4 := q4.eight); go_simp; try with_reducible rfl)
      simp only [List.setIfInBounds_toArray, List.set_cons_zero, List.set_cons_succ]
      refine wpX_take (i := 7) (v := ?_) Sb0t.out rfl rfl (by kernel_rfl) (by kernel_rfl) (by kernel_rfl) (fun _ _ _ h => h) (SteadyX.value (by rfl) ?_) ?_
      rotate_left
      · (intro w_ hS; obtain ⟨q0, q1, q2, q3, q4⟩ := Sb0u.out _ hS; (have q0 := q0.four); (have q1 := q1.four); (have q2 := q2.two); (clear q3); (have q4 := q4.eight); go_simp; try with_reducible rfl)
      simp only [List.setIfInBounds_toArray, List.set_cons_zero, List.set_cons_succ]
      refine wpX_take (i := 8) (v := ?_) Sb0t.out rfl rfl (by kernel_rfl) (by kernel_rfl) (by kernel_rfl) (fun _ _ _ h => h) (SteadyX.value (by rfl) ?_) ?_
      rotate_left
      · (intro w_ hS; obtain ⟨q0, q1, q2, q3, q4⟩ := Sb0u.out _ hS; (have q0 := q0.four); (have q1 := q1.four); (have q2 := q2.two); (clear q3); (have q4 := q4.eight); go_simp; try with_reducible rfl)
      simp only [List.setIfInBounds_toArray, List.set_cons_zero, List.set_cons_succ]
      refine wpX_take (i := 9) Sb0t.out rfl rfl (by kernel_rfl) (by kernel_rfl) (by kernel_rfl) (fun _ _ _ h => h) (SteadyX.call (by rfl) (fun w_ hS => K8.out w_) (fun w_ hS => by (obtain ⟨q0, q1, q2, q3, q4⟩ := Sb0u.out _ hS; (have q0 := q0.four); (have q1 := q1.four); (have q2 := q2.two); (clear q3); (have q4 := q4.eight); go_simp))) ?_
      simp only [List.setIfInBounds_toArray, List.set_cons_zero, List.set_cons_succ]
      refine wpX_take (i := 10) (v := ?_) Sb0t.out rfl rfl (by kernel_rfl) (by kernel_rfl) (by kernel_rfl) (fun _ _ _ h => h) (SteadyX.value (by rfl) ?_) ?_
      rotate_left
      · (intro w_ hS; obtain ⟨q0, q1, q2, q3, q4⟩ := Sb0u.out _ hS; (have q0 := q0.four); (have q1 := q1.four); (have q2 := q2.two); (clear q3); (have q4 := q4.eight); go_simp; try with_reducible rfl)
      simp only [List.setIfInBounds_toArray, List.set_cons_zero, List.set_cons_succ]
      refine wpX_take (i := 11) Sb0t.out rfl rfl (by kernel_rfl) (by kernel_rfl) (by kernel_rfl) (fun _ _ _ h => h) (SteadyX.call (by rfl) (fun w_ hS => K9.out w_) (fun w_ hS => by (obtain ⟨q0, q1, q2, q3, q4⟩ := Sb0u.out _ hS; (have q0 := q0.four); (have q1 := q1.four); (have q2 := q2.two); (clear q3); (have q4 := q4.eight); go_simp))) ?_
      simp only [List.setIfInBounds_toArray, List.set_cons_zero, List.set_cons_succ]
      refine wpX_take (i := 12) (v := ?_) Sb0t.out rfl rfl (by kernel_rfl) (by kernel_rfl) (by kernel_rfl) (fun _ _ _ h => h) (SteadyX.value (by rfl) ?_) ?_
      rotate_left
      · (intro w_ hS; obtain ⟨q0, q1, q2, q3, q4⟩ := Sb0u.out _ hS; (have q0 := q0.four); (have q1 := q1.four); (have q2 := q2.two); (clear q3); (have q4 := q4.eight); go_simp; try with_reducible rfl)
      simp only [List.setIfInBounds_toArray, List.set_cons_zero, List.set_cons_succ]
      refine wpX_take (i := 13) (v := ?_) Sb0t.out rfl rfl (by kernel_rfl) (by kernel_rfl) (by kernel_rfl) (fun _ _ _ h => h) (SteadyX.value (by rfl) ?_) ?_
      rotate_left
      · (intro w_ hS; obtain ⟨q0, q1, q2, q3, q4⟩ := Sb0u.out _ hS; (have q0 := q0.four); (have q1 := q1.four); (have q2 := q2.two); (clear q3); (have q4 := q4.eight); go_simp; try with_reducible rfl)
      simp only [List.setIfInBounds_toArray, List.set_cons_zero, List.set_cons_succ]
      refine wpX_take (i := 14) (v := ?_) Sb0t.out rfl rfl (by kernel_rfl) (by kernel_rfl) (by kernel_rfl) (fun _ _ _ h => h) (SteadyX.value (by rfl) ?_) ?_
      rotate_left
      · (intro w_ hS; obtain ⟨q0, q1, q2, q3, q4⟩ := Sb0u.out _ hS; (have q0 := q0.four); (have q1 := q1.four); (have q2 := q2.two); (clear q3); (have q4 := q4.eight); go_simp; try with_reducible rfl)
      simp only [List.setIfInBounds_toArray, List.set_cons_zero, List.set_cons_succ]
      refine wpX_take (i := 15) (v := ?_) Sb0t.out rfl rfl (by kernel_rfl) (by kernel_rfl) (by kernel_rfl) (fun _ _ _ h => h) (SteadyX.value (by rfl) ?_) ?_
      rotate_left
      · (intro w_ hS; obtain ⟨q0, q1, q2, q3, q4⟩ := Sb0u.out _ hS; (have q0 := q0.four); (have q1 := q1.four); (have q2 := q2.two); (clear q3); (have q4 := q4.eight); go_simp; try with_reducible rfl)
      simp only [List.setIfInBounds_toArray, List.set_cons_zero, List.set_cons_succ]
      refine wpX_take (i := 16) (v := ?_) Sb0t.out rfl rfl (by kernel_rfl) (by kernel_rfl) (by kernel_rfl) (fun _ _ _ h => h) (SteadyX.value (by rfl) ?_) ?_
      rotate_left
      · (intro w_ hS; obtain ⟨q0, q1, q2, q3, q4⟩ := Sb0u.out _ hS; (have q0 := q0.four); (have q1 := q1.four); (have q2 := q2.two); (clear q3); (have q4 := q4.eight); go_simp; try with_reducible rfl)
      simp only [List.setIfInBounds_toArray, List.set_cons_zero, List.set_cons_succ]
      refine wpX_take (i := 17) (v := ?_) Sb0t.out rfl rfl (by kernel_rfl) (by kernel_rfl) (by kernel_rfl) (fun _ _ _ h => h) (SteadyX.value (by rfl) ?_) ?_
      rotate_left
      · (intro w_ hS; obtain ⟨q0, q1, q2, q3, q4⟩ := Sb0u.out _ hS; (have q0 := q0.four); (have q1 := q1.four); (have q2 := q2.two); (clear q3); (have q4 := q4.eight); go_simp; try with_reducible rfl)
      simp only [List.setIfInBounds_toArray, List.set_cons_zero, List.set_cons_succ]
      refine wpX_take (i := 18) Sb0t.out rfl rfl (by kernel_rfl) (by kernel_rfl) (by kernel_rfl) (fun _ _ _ h => h) (SteadyX.call (by rfl) (fun w_ hS => K8.out w_) (fun w_ hS => by (obtain ⟨q0, q1, q2, q3, q4⟩ := Sb0u.out _ hS; (have q0 := q0.four); (have q1 := q1.four); (have q2 := q2.two); (clear q3); (have q4 := q4.eight); go_simp))) ?_
      simp only [List.setIfInBounds_toArray, List.set_cons_zero, List.set_cons_succ]
      refine wpX_take (i := 19) (v := ?_) Sb0t.out rfl rfl (by kernel_rfl) (by kernel_rfl) (by kernel_rfl) (fun _ _ _ h => h) (SteadyX.value (by rfl) ?_) ?_
      rotate_left
      · (intro w_ hS; obtain ⟨q0, q1, q2, q3, q4⟩ := Sb0u.out _ hS; (have q0 := q0.four); (have q1 := q1.four); (have q2 := q2.two); (clear q3); (have q4 := q4.eight); go_simp; try with_reducible rfl)
      simp only [List.setIfInBounds_toArray, List.set_cons_zero, List.set_cons_succ]
      refine wpX_take (i := 20) Sb0t.out rfl rfl (by kernel_rfl) (by kernel_rfl) (by kernel_rfl) (fun _ _ _ h => h) (SteadyX.call (by rfl) (fun w_ hS => K10.out w_) (fun w_ hS => by (obtain ⟨q0, q1, q2, q3, q4⟩ := Sb0u.out _ hS; (have q0 := q0.four); (have q1 := q1.four); (have q2 := q2.two); (clear q3); (have q4 := q4.eight); go_simp))) ?_
      simp only [List.setIfInBounds_toArray, List.set_cons_zero, List.set_cons_succ]
      refine wpX_take (i := 21) (v := ?_) Sb0t.out rfl rfl (by kernel_rfl) (by kernel_rfl) (by kernel_rfl) (fun _ _ _ h => h) (SteadyX.value (by rfl) ?_) ?_
      rotate_left
      · (intro w_ hS; obtain ⟨q0, q1, q2, q3, q4⟩ := Sb0u.out _ hS; (have q0 := q0.four); (have q1 := q1.four); (have q2 := q2.two); (clear q3); (have q4 := q4.eight); go_simp; try with_reducible rfl)
      simp only [List.setIfInBounds_toArray, List.set_cons_zero, List.set_cons_succ]
      refine wpX_take (i := 22) (v := ?_) Sb0t.out rfl rfl (by kernel_rfl) (by kernel_rfl) (by kernel_rfl) (fun _ _ _ h => h) (SteadyX.value (by rfl) ?_) ?_
      rotate_left
      · (intro w_ hS; obtain ⟨q0, q1, q2, q3, q4⟩ := Sb0u.out _ hS; (have q0 := q0.four); (have q1 := q1.four); (have q2 := q2.two); (clear q3); (have q4 := q4.eight); go_simp; try with_reducible rfl)
      simp only [List.setIfInBounds_toArray, List.set_cons_zero, List.set_cons_succ]
      refine wpX_take (i := 23) Sb0t.out rfl rfl (by kernel_rfl) (by kernel_rfl) (by kernel_rfl) (fun _ _ _ h => h) (SteadyX.call (by rfl) (fun w_ hS => K14.out w_) (fun w_ hS => by (obtain ⟨q0, q1, q2, q3, q4⟩ := Sb0u.out _ hS; (have q0 := q0.four); (have q1 := q1.four); (have q2 := q2.two); (clear q3); (have q4 := q4.eight); go_simp))) ?_
      simp only [List.setIfInBounds_toArray, List.set_cons_zero, List.set_cons_succ]
      refine wpX_take (i := 24) (v := ?_) Sb0t.out rfl rfl (by kernel_rfl) (by kernel_rfl) (by kernel_rfl) (fun _ _ _ h => h) (SteadyX.value (by rfl) ?_) ?_
      rotate_left
      · (intro w_ hS; obtain ⟨q0, q1, q2, q3, q4⟩ := Sb0u.out _ hS; (have q0 := q0.four); (have q1 := q1.four); (have q2 := q2.two); (clear q3); (have q4 := q4.eight); go_simp; try with_reducible rfl)
      simp only [List.setIfInBounds_toArray, List.set_cons_zero, List.set_cons_succ]
      refine wpX_take (i := 25) (v := ?_) Sb0t.out rfl rfl (by kernel_rfl) (by kernel_rfl) (by kernel_rfl) (fun _ _ _ h => h) (SteadyX.value (by rfl) ?_) ?_
      rotate_left
      · (intro w_ hS; obtain ⟨q0, q1, q2, q3, q4⟩ := Sb0u.out _ hS; (have q0 := q0.four); (have q1 := q1.four); (have q2 := q2.two); (clear q3); (have q4 := q4.eight); go_simp; try with_reducible rfl)
      simp only [List.setIfInBounds_toArray, List.set_cons_zero, List.set_cons_succ]
      refine wpX_done (by kernel_rfl) (fun W hS => ?_) _
      obtain ⟨q0, q1, q2, q3, q4⟩ := Sb0u.out _ hS
      clear hS Sb0u Sb0m Sb0t
      clear Sb0
      go_wp2
      go_ret
      exact ⟨rfl, q3⟩
end Go.Proofs.Ytkneohngbkmlpaa
