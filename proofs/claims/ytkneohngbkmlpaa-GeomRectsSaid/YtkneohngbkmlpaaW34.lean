/- Walks: the reference's rects: Overlap, Holds, MayRect, Distance, Nearest, Bounds. -/
import Derived.Test.YtkneohngbkmlpaaW33
import Derived.Test.YtkneohngbkmlpaaW17
namespace Go.Proofs.Ytkneohngbkmlpaa
open Go.RowKit

set_option maxHeartbeats 4000000 in
theorem refOver_any (r s : Rc) (w : World) : Calls Try.prog 34 #[rc r, rc s] w fun e w' => e = .returned (.bool (decide (overR r s))) ∧ Below w.heap.size w w' := by
  obtain ⟨rx0, ry0, rx1, ry1⟩ := r
  obtain ⟨sx0, sy0, sx1, sy1⟩ := s
  by_cases h1 : rx1 < sx0
  · rw [decide_eq_false (show ¬ overR ⟨rx0, ry0, rx1, ry1⟩ ⟨sx0, sy0, sx1, sy1⟩ from by unfold overR; dsimp only; omega)]
    go_enter Try.func34, Try.ntmps34
    go_wp2
    go_ret
    exact ⟨by first | rfl | simp_all, by go_grown⟩
  · by_cases h2 : sx1 < rx0
    · rw [decide_eq_false (show ¬ overR ⟨rx0, ry0, rx1, ry1⟩ ⟨sx0, sy0, sx1, sy1⟩ from by unfold overR; dsimp only; omega)]
      go_enter Try.func34, Try.ntmps34
      go_wp2
      go_ret
      exact ⟨by first | rfl | simp_all, by go_grown⟩
    · by_cases h3 : ry1 < sy0
      · rw [decide_eq_false (show ¬ overR ⟨rx0, ry0, rx1, ry1⟩ ⟨sx0, sy0, sx1, sy1⟩ from by unfold overR; dsimp only; omega)]
        go_enter Try.func34, Try.ntmps34
        go_wp2
        go_ret
        exact ⟨by first | rfl | simp_all, by go_grown⟩
      · by_cases h4 : sy1 < ry0
        · rw [decide_eq_false (show ¬ overR ⟨rx0, ry0, rx1, ry1⟩ ⟨sx0, sy0, sx1, sy1⟩ from by unfold overR; dsimp only; omega)]
          go_enter Try.func34, Try.ntmps34
          go_wp2
          go_ret
          exact ⟨by first | rfl | simp_all, by go_grown⟩
        · rw [decide_eq_true (show overR ⟨rx0, ry0, rx1, ry1⟩ ⟨sx0, sy0, sx1, sy1⟩ from by unfold overR; dsimp only; omega)]
          go_enter Try.func34, Try.ntmps34
          go_wp2
          go_ret
          exact ⟨by first | rfl | simp_all, by go_grown⟩

set_option maxHeartbeats 4000000 in
theorem refHolds_any (r : Rc) (p : Pt) (w : World) : Calls Try.prog 38 #[rc r, pt p] w fun e w' => e = .returned (.bool (decide (holdsR r p))) ∧ Below w.heap.size w w' := by
  obtain ⟨rx0, ry0, rx1, ry1⟩ := r
  obtain ⟨px, py⟩ := p
  by_cases h1 : rx0 ≤ px
  · by_cases h2 : px ≤ rx1
    · by_cases h3 : ry0 ≤ py
      · by_cases h4 : py ≤ ry1
        · rw [decide_eq_true (show holdsR ⟨rx0, ry0, rx1, ry1⟩ ⟨px, py⟩ from by unfold holdsR; dsimp only; omega)]
          go_enter Try.func38, Try.ntmps38
          go_wp2
          go_ret
          exact ⟨by first | rfl | simp_all, by go_grown⟩
        · rw [decide_eq_false (show ¬ holdsR ⟨rx0, ry0, rx1, ry1⟩ ⟨px, py⟩ from by unfold holdsR; dsimp only; omega)]
          go_enter Try.func38, Try.ntmps38
          go_wp2
          go_ret
          exact ⟨by first | rfl | simp_all, by go_grown⟩
      · rw [decide_eq_false (show ¬ holdsR ⟨rx0, ry0, rx1, ry1⟩ ⟨px, py⟩ from by unfold holdsR; dsimp only; omega)]
        go_enter Try.func38, Try.ntmps38
        go_wp2
        go_ret
        exact ⟨by first | rfl | simp_all, by go_grown⟩
    · rw [decide_eq_false (show ¬ holdsR ⟨rx0, ry0, rx1, ry1⟩ ⟨px, py⟩ from by unfold holdsR; dsimp only; omega)]
      go_enter Try.func38, Try.ntmps38
      go_wp2
      go_ret
      exact ⟨by first | rfl | simp_all, by go_grown⟩
  · rw [decide_eq_false (show ¬ holdsR ⟨rx0, ry0, rx1, ry1⟩ ⟨px, py⟩ from by unfold holdsR; dsimp only; omega)]
    go_enter Try.func38, Try.ntmps38
    go_wp2
    go_ret
    exact ⟨by first | rfl | simp_all, by go_grown⟩

theorem refAll2 (x0 y0 x1 y1 : Int) (w0 : World) : ∀ b, b = w0.heap.size →
    Calls Try.prog 10 #[.slice (some ⟨b, 0, none⟩) 2 2] (w0.alloc (.cells #[.int .i64 x0, .int .i64 y0, .int .i64 x1, .int .i64 y1] 24)) fun e w' => e = .returned (.bool (decide (May ⟨x0, y0⟩ ∧ May ⟨x1, y1⟩))) ∧ Below w0.heap.size w0 w' := by
  intro b hb
  have h := refAll_any (some ⟨b, 0, none⟩) [⟨x0, y0⟩, ⟨x1, y1⟩] 2 2 (w0.alloc (.cells #[.int .i64 x0, .int .i64 y0, .int .i64 x1, .int .i64 y1] 24)) rfl (pts2 (Blk.new' w0 _ 24 hb)) (by decide)
  have e : decide (∀ p ∈ [(⟨x0, y0⟩ : Pt), ⟨x1, y1⟩], May p) = decide (May ⟨x0, y0⟩ ∧ May ⟨x1, y1⟩) := by
    rw [decide_eq_decide]; simp
  rw [e] at h
  exact h.mono fun e w' ⟨h1, h2⟩ => ⟨h1, grow (grow_alloc (Below.refl _ w0) _) h2⟩

set_option maxHeartbeats 4000000 in
theorem refMayR_road (x0 y0 x1 y1 : Int) (m a b : Bool) (ha : decide (x0 ≤ x1) = a) (hb : decide (y0 ≤ y1) = b)
    (k1 : ∀ w0 : World, ∀ b, b = w0.heap.size → Calls Try.prog 10 #[.slice (some ⟨b, 0, none⟩) 2 2] (w0.alloc (.cells #[.int .i64 x0, .int .i64 y0, .int .i64 x1, .int .i64 y1] 24)) fun e w' => e = .returned (.bool m) ∧ Below w0.heap.size w0 w') (w : World) :
    Calls Try.prog 33 #[.agg #[.int .i64 x0, .int .i64 y0, .int .i64 x1, .int .i64 y1]] w fun e w' => e = .returned (.bool (m && a && b)) ∧ Below w.heap.size w w' := by
  have K1 := Lib.hid k1
  clear k1
  obtain ⟨w0, hw0, p0, g0, z0⟩ := boxes1 w #[.int .i64 x0, .int .i64 y0, .int .i64 x1, .int .i64 y1] 38
  have c0 := p0.four
  have B0 := Lib.hid (And.intro p0 g0)
  clear p0 g0 z0
  cases m
  · go_enter Try.func33, Try.ntmps33
    go_wp2_with fail
    refine (K1.out _ _ rfl).mono ?_
    rintro e w1 ⟨rfl, hb1⟩
    have B1 := Lib.hid (grow B0.out.2 hb1)
    clear hb1 c0 B0
    go_wp2
    go_ret
    exact ⟨rfl, B1.out⟩
  · cases a <;> cases b
    all_goals
      go_enter Try.func33, Try.ntmps33
      go_wp2_with fail
      refine (K1.out _ _ rfl).mono ?_
      rintro e w1 ⟨rfl, hb1⟩
      have B1 := Lib.hid (And.intro (B0.out.1.grew hb1) (grow B0.out.2 hb1))
      clear hb1 c0 B0
      have c0 := B1.out.1.four
      go_wp2
      go_ret
      exact ⟨rfl, B1.out.2⟩
theorem refMayR_any (r : Rc) (w : World) : Calls Try.prog 33 #[rc r] w fun e w' => e = .returned (.bool (decide (MayR r))) ∧ Below w.heap.size w w' := by
  have h := refMayR_road r.x0 r.y0 r.x1 r.y1 _ _ _ rfl rfl (refAll2 r.x0 r.y0 r.x1 r.y1) w
  rw [← Bool.decide_and, ← Bool.decide_and, show decide (((May ⟨r.x0, r.y0⟩ ∧ May ⟨r.x1, r.y1⟩) ∧ r.x0 ≤ r.x1) ∧ r.y0 ≤ r.y1) = decide (MayR r) from by
    rw [decide_eq_decide]; unfold MayR; simp only [and_assoc]] at h
  exact h

set_option maxHeartbeats 4000000 in
theorem refDist_road (ax ay bx byy X Y D : Int) (hx : IntKind.i64.wrap (ax - bx) = X) (hy : IntKind.i64.wrap (ay - byy) = Y)
    (nx : X < 0 → IntKind.i64.wrap (-X) = -X) (ny : Y < 0 → IntKind.i64.wrap (-Y) = -Y)
    (hd : ∀ U V, (U = X ∨ U = -X) → (V = Y ∨ V = -Y) → 0 ≤ U → 0 ≤ V → IntKind.u64.wrap (IntKind.u64.wrap (IntKind.u64.wrap U * IntKind.u64.wrap U) + IntKind.u64.wrap (IntKind.u64.wrap V * IntKind.u64.wrap V)) = D) (w : World) :
    Calls Try.prog 37 #[.agg #[.int .i64 ax, .int .i64 ay], .agg #[.int .i64 bx, .int .i64 byy]] w fun e w' => e = .returned (.int .u64 D) ∧ Below w.heap.size w w' := by
  have HD := Lib.hid hd
  clear hd
  obtain ⟨w0, hw0, p0, p1, g0, z0⟩ := boxes2 w #[.int .i64 ax, .int .i64 ay] #[.int .i64 bx, .int .i64 byy] 24 24
  have B0 := Lib.hid (And.intro p0 (And.intro p1 g0))
  clear p0 p1 g0 z0
  by_cases sx : X < 0 <;> by_cases sy : Y < 0
  · have nx' := nx sx
    have ny' := ny sy
    have hdd := HD.out (-X) (-Y) (by simp) (by simp) (by omega) (by omega)
    clear nx ny HD
    go_enter Try.func37, Try.ntmps37
    go_wp2_with fail
    (try clear hw0)
    obtain ⟨S0, S0d⟩ : ∃ S : World → Prop, S = fun v : World => Blk v w.heap.size #[.int .i64 ax, .int .i64 ay] 24 ∧ Blk v (w.heap.size + 1) #[.int .i64 bx, .int .i64 byy] 24 ∧ Below w.heap.size w v := ⟨_, rfl⟩
    have S0t0 : Stands S0 := by rw [S0d]; exact ((stands_blk _ _ _).and ((stands_blk _ _ _).and (stands_below _)))
    have S0u0 : ∀ v, S0 v → Blk v w.heap.size #[.int .i64 ax, .int .i64 ay] 24 ∧ Blk v (w.heap.size + 1) #[.int .i64 bx, .int .i64 byy] 24 ∧ Below w.heap.size w v := fun v h => by rw [S0d] at h; exact h
    have S0m0 : ∀ v, (Blk v w.heap.size #[.int .i64 ax, .int .i64 ay] 24 ∧ Blk v (w.heap.size + 1) #[.int .i64 bx, .int .i64 byy] 24 ∧ Below w.heap.size w v) → S0 v := fun v h => by rw [S0d]; exact h
    have S0u := Lib.hid S0u0
    have S0m := Lib.hid S0m0
    have S0t := Lib.hid S0t0
    clear S0d S0u0 S0m0 S0t0
    refine wp_region_X (S := S0) (by kernel_rfl) (S0m.out _ ⟨B0.out.1.drew, B0.out.2.1.drew, B0.out.2.2.drew⟩) ?_
    clear B0
    refine wpX_take (i := 0) (v := ?_) S0t.out rfl rfl (by kernel_rfl) (by kernel_rfl) (by kernel_rfl) (fun _ _ _ h => h) (SteadyX.value (by rfl) ?_) ?_
    rotate_left
    · (intro w_ hS; obtain ⟨q0, q1, q2⟩ := S0u.out _ hS; (have q0 := q0.two); (have q1 := q1.two); (clear q2); go_simp; try with_reducible rfl)
    simp only [List.setIfInBounds_toArray, List.set_cons_zero, List.set_cons_succ]
    refine wpX_take (i := 1) (v := ?_) S0t.out rfl rfl (by kernel_rfl) (by kernel_rfl) (by kernel_rfl) (fun _ _ _ h => h) (SteadyX.value (by rfl) ?_) ?_
    rotate_left
    · (intro w_ hS; obtain ⟨q0, q1, q2⟩ := S0u.out _ hS; (have q0 := q0.two); (have q1 := q1.two); (clear q2); go_simp; try with_reducible rfl)
    simp only [List.setIfInBounds_toArray, List.set_cons_zero, List.set_cons_succ]
    refine wpX_take (i := 2) (v := ?_) S0t.out rfl rfl (by kernel_rfl) (by kernel_rfl) (by kernel_rfl) (fun _ _ _ h => h) (SteadyX.value (by rfl) ?_) ?_
    rotate_left
    · (intro w_ hS; obtain ⟨q0, q1, q2⟩ := S0u.out _ hS; (have q0 := q0.two); (have q1 := q1.two); (clear q2); go_simp; try with_reducible rfl)
    simp only [List.setIfInBounds_toArray, List.set_cons_zero, List.set_cons_succ]
    refine wpX_take (i := 3) (v := ?_) S0t.out rfl rfl (by kernel_rfl) (by kernel_rfl) (by kernel_rfl) (fun _ _ _ h => h) (SteadyX.value (by rfl) ?_) ?_
    rotate_left
    · (intro w_ hS; obtain ⟨q0, q1, q2⟩ := S0u.out _ hS; (have q0 := q0.two); (have q1 := q1.two); (clear q2); go_simp; try with_reducible rfl)
    simp only [List.setIfInBounds_toArray, List.set_cons_zero, List.set_cons_succ]
    refine wpX_take (i := 4) (v := ?_) S0t.out rfl rfl (by kernel_rfl) (by kernel_rfl) (by kernel_rfl) (fun _ _ _ h => h) (SteadyX.value (by rfl) ?_) ?_
    rotate_left
    · (intro w_ hS; obtain ⟨q0, q1, q2⟩ := S0u.out _ hS; (have q0 := q0.two); (have q1 := q1.two); (clear q2); go_simp; try with_reducible rfl)
    simp only [List.setIfInBounds_toArray, List.set_cons_zero, List.set_cons_succ]
    refine wpX_take (i := 5) (v := ?_) S0t.out rfl rfl (by kernel_rfl) (by kernel_rfl) (by kernel_rfl) (fun _ _ _ h => h) (SteadyX.value (by rfl) ?_) ?_
    rotate_left
    · (intro w_ hS; obtain ⟨q0, q1, q2⟩ := S0u.out _ hS; (have q0 := q0.two); (have q1 := q1.two); (clear q2); go_simp; try with_reducible rfl)
    simp only [List.setIfInBounds_toArray, List.set_cons_zero, List.set_cons_succ]
    refine wpX_take (i := 6) (v := ?_) S0t.out rfl rfl (by kernel_rfl) (by kernel_rfl) (by kernel_rfl) (fun _ _ _ h => h) (SteadyX.value (by rfl) ?_) ?_
    rotate_left
    · (intro w_ hS; obtain ⟨q0, q1, q2⟩ := S0u.out _ hS; (have q0 := q0.two); (have q1 := q1.two); (clear q2); go_simp; try with_reducible rfl)
    simp only [List.setIfInBounds_toArray, List.set_cons_zero, List.set_cons_succ]
    refine wpX_take (i := 7) (v := ?_) S0t.out rfl rfl (by kernel_rfl) (by kernel_rfl) (by kernel_rfl) (fun _ _ _ h => h) (SteadyX.value (by rfl) ?_) ?_
    rotate_left
    · (intro w_ hS; obtain ⟨q0, q1, q2⟩ := S0u.out _ hS; (have q0 := q0.two); (have q1 := q1.two); (clear q2); go_simp; try with_reducible rfl)
    simp only [List.setIfInBounds_toArray, List.set_cons_zero, List.set_cons_succ]
    refine wpX_take (i := 8) (v := ?_) S0t.out rfl rfl (by kernel_rfl) (by kernel_rfl) (by kernel_rfl) (fun _ _ _ h => h) (SteadyX.value (by rfl) ?_) ?_
    rotate_left
    · (intro w_ hS; obtain ⟨q0, q1, q2⟩ := S0u.out _ hS; (have q0 := q0.two); (have q1 := q1.two); (clear q2); go_simp; try with_reducible rfl)
    simp only [List.setIfInBounds_toArray, List.set_cons_zero, List.set_cons_succ]
    refine wpX_take (i := 9) (v := ?_) S0t.out rfl rfl (by kernel_rfl) (by kernel_rfl) (by kernel_rfl) (fun _ _ _ h => h) (SteadyX.value (by rfl) ?_) ?_
    rotate_left
    · (intro w_ hS; obtain ⟨q0, q1, q2⟩ := S0u.out _ hS; (have q0 := q0.two); (have q1 := q1.two); (clear q2); go_simp; try with_reducible rfl)
    simp only [List.setIfInBounds_toArray, List.set_cons_zero, List.set_cons_succ]
    refine wpX_take (i := 10) (v := ?_) S0t.out rfl rfl (by kernel_rfl) (by kernel_rfl) (by kernel_rfl) (fun _ _ _ h => h) (SteadyX.value (by rfl) ?_) ?_
    rotate_left
    · (intro w_ hS; obtain ⟨q0, q1, q2⟩ := S0u.out _ hS; (have q0 := q0.two); (have q1 := q1.two); (clear q2); go_simp; try with_reducible rfl)
    simp only [List.setIfInBounds_toArray, List.set_cons_zero, List.set_cons_succ]
    refine wpX_take (i := 11) (v := ?_) S0t.out rfl rfl (by kernel_rfl) (by kernel_rfl) (by kernel_rfl) (fun _ _ _ h => h) (SteadyX.value (by rfl) ?_) ?_
    rotate_left
    · (intro w_ hS; obtain ⟨q0, q1, q2⟩ := S0u.out _ hS; (have q0 := q0.two); (have q1 := q1.two); (clear q2); go_simp; try with_reducible rfl)
    simp only [List.setIfInBounds_toArray, List.set_cons_zero, List.set_cons_succ]
    refine wpX_done (by kernel_rfl) (fun W hS => ?_) _
    obtain ⟨q0, q1, q2⟩ := S0u.out _ hS
    clear hS S0u S0m S0t
    clear S0
    have HG := Lib.hid q2
    clear q0 q1 q2
    go_wp2
    go_ret
    exact ⟨rfl, HG.out⟩
  · have nx' := nx sx
    have hdd := HD.out (-X) (Y) (by simp) (by simp) (by omega) (by omega)
    clear nx ny HD
    go_enter Try.func37, Try.ntmps37
    go_wp2_with fail
    (try clear hw0)
    obtain ⟨S0, S0d⟩ : ∃ S : World → Prop, S = fun v : World => Blk v w.heap.size #[.int .i64 ax, .int .i64 ay] 24 ∧ Blk v (w.heap.size + 1) #[.int .i64 bx, .int .i64 byy] 24 ∧ Below w.heap.size w v := ⟨_, rfl⟩
    have S0t0 : Stands S0 := by rw [S0d]; exact ((stands_blk _ _ _).and ((stands_blk _ _ _).and (stands_below _)))
    have S0u0 : ∀ v, S0 v → Blk v w.heap.size #[.int .i64 ax, .int .i64 ay] 24 ∧ Blk v (w.heap.size + 1) #[.int .i64 bx, .int .i64 byy] 24 ∧ Below w.heap.size w v := fun v h => by rw [S0d] at h; exact h
    have S0m0 : ∀ v, (Blk v w.heap.size #[.int .i64 ax, .int .i64 ay] 24 ∧ Blk v (w.heap.size + 1) #[.int .i64 bx, .int .i64 byy] 24 ∧ Below w.heap.size w v) → S0 v := fun v h => by rw [S0d]; exact h
    have S0u := Lib.hid S0u0
    have S0m := Lib.hid S0m0
    have S0t := Lib.hid S0t0
    clear S0d S0u0 S0m0 S0t0
    refine wp_region_X (S := S0) (by kernel_rfl) (S0m.out _ ⟨B0.out.1.drew, B0.out.2.1.drew, B0.out.2.2.drew⟩) ?_
    clear B0
    refine wpX_take (i := 0) (v := ?_) S0t.out rfl rfl (by kernel_rfl) (by kernel_rfl) (by kernel_rfl) (fun _ _ _ h => h) (SteadyX.value (by rfl) ?_) ?_
    rotate_left
    · (intro w_ hS; obtain ⟨q0, q1, q2⟩ := S0u.out _ hS; (have q0 := q0.two); (have q1 := q1.two); (clear q2); go_simp; try with_reducible rfl)
    simp only [List.setIfInBounds_toArray, List.set_cons_zero, List.set_cons_succ]
    refine wpX_take (i := 1) (v := ?_) S0t.out rfl rfl (by kernel_rfl) (by kernel_rfl) (by kernel_rfl) (fun _ _ _ h => h) (SteadyX.value (by rfl) ?_) ?_
    rotate_left
    · (intro w_ hS; obtain ⟨q0, q1, q2⟩ := S0u.out _ hS; (have q0 := q0.two); (have q1 := q1.two); (clear q2); go_simp; try with_reducible rfl)
    simp only [List.setIfInBounds_toArray, List.set_cons_zero, List.set_cons_succ]
    refine wpX_take (i := 2) (v := ?_) S0t.out rfl rfl (by kernel_rfl) (by kernel_rfl) (by kernel_rfl) (fun _ _ _ h => h) (SteadyX.value (by rfl) ?_) ?_
    rotate_left
    · (intro w_ hS; obtain ⟨q0, q1, q2⟩ := S0u.out _ hS; (have q0 := q0.two); (have q1 := q1.two); (clear q2); go_simp; try with_reducible rfl)
    simp only [List.setIfInBounds_toArray, List.set_cons_zero, List.set_cons_succ]
    refine wpX_take (i := 3) (v := ?_) S0t.out rfl rfl (by kernel_rfl) (by kernel_rfl) (by kernel_rfl) (fun _ _ _ h => h) (SteadyX.value (by rfl) ?_) ?_
    rotate_left
    · (intro w_ hS; obtain ⟨q0, q1, q2⟩ := S0u.out _ hS; (have q0 := q0.two); (have q1 := q1.two); (clear q2); go_simp; try with_reducible rfl)
    simp only [List.setIfInBounds_toArray, List.set_cons_zero, List.set_cons_succ]
    refine wpX_take (i := 4) (v := ?_) S0t.out rfl rfl (by kernel_rfl) (by kernel_rfl) (by kernel_rfl) (fun _ _ _ h => h) (SteadyX.value (by rfl) ?_) ?_
    rotate_left
    · (intro w_ hS; obtain ⟨q0, q1, q2⟩ := S0u.out _ hS; (have q0 := q0.two); (have q1 := q1.two); (clear q2); go_simp; try with_reducible rfl)
    simp only [List.setIfInBounds_toArray, List.set_cons_zero, List.set_cons_succ]
    refine wpX_take (i := 5) (v := ?_) S0t.out rfl rfl (by kernel_rfl) (by kernel_rfl) (by kernel_rfl) (fun _ _ _ h => h) (SteadyX.value (by rfl) ?_) ?_
    rotate_left
    · (intro w_ hS; obtain ⟨q0, q1, q2⟩ := S0u.out _ hS; (have q0 := q0.two); (have q1 := q1.two); (clear q2); go_simp; try with_reducible rfl)
    simp only [List.setIfInBounds_toArray, List.set_cons_zero, List.set_cons_succ]
    refine wpX_take (i := 6) (v := ?_) S0t.out rfl rfl (by kernel_rfl) (by kernel_rfl) (by kernel_rfl) (fun _ _ _ h => h) (SteadyX.value (by rfl) ?_) ?_
    rotate_left
    · (intro w_ hS; obtain ⟨q0, q1, q2⟩ := S0u.out _ hS; (have q0 := q0.two); (have q1 := q1.two); (clear q2); go_simp; try with_reducible rfl)
    simp only [List.setIfInBounds_toArray, List.set_cons_zero, List.set_cons_succ]
    refine wpX_take (i := 7) (v := ?_) S0t.out rfl rfl (by kernel_rfl) (by kernel_rfl) (by kernel_rfl) (fun _ _ _ h => h) (SteadyX.value (by rfl) ?_) ?_
    rotate_left
    · (intro w_ hS; obtain ⟨q0, q1, q2⟩ := S0u.out _ hS; (have q0 := q0.two); (have q1 := q1.two); (clear q2); go_simp; try with_reducible rfl)
    simp only [List.setIfInBounds_toArray, List.set_cons_zero, List.set_cons_succ]
    refine wpX_take (i := 8) (v := ?_) S0t.out rfl rfl (by kernel_rfl) (by kernel_rfl) (by kernel_rfl) (fun _ _ _ h => h) (SteadyX.value (by rfl) ?_) ?_
    rotate_left
    · (intro w_ hS; obtain ⟨q0, q1, q2⟩ := S0u.out _ hS; (have q0 := q0.two); (have q1 := q1.two); (clear q2); go_simp; try with_reducible rfl)
    simp only [List.setIfInBounds_toArray, List.set_cons_zero, List.set_cons_succ]
    refine wpX_take (i := 9) (v := ?_) S0t.out rfl rfl (by kernel_rfl) (by kernel_rfl) (by kernel_rfl) (fun _ _ _ h => h) (SteadyX.value (by rfl) ?_) ?_
    rotate_left
    · (intro w_ hS; obtain ⟨q0, q1, q2⟩ := S0u.out _ hS; (have q0 := q0.two); (have q1 := q1.two); (clear q2); go_simp; try with_reducible rfl)
    simp only [List.setIfInBounds_toArray, List.set_cons_zero, List.set_cons_succ]
    refine wpX_take (i := 10) (v := ?_) S0t.out rfl rfl (by kernel_rfl) (by kernel_rfl) (by kernel_rfl) (fun _ _ _ h => h) (SteadyX.value (by rfl) ?_) ?_
    rotate_left
    · (intro w_ hS; obtain ⟨q0, q1, q2⟩ := S0u.out _ hS; (have q0 := q0.two); (have q1 := q1.two); (clear q2); go_simp; try with_reducible rfl)
    simp only [List.setIfInBounds_toArray, List.set_cons_zero, List.set_cons_succ]
    refine wpX_take (i := 11) (v := ?_) S0t.out rfl rfl (by kernel_rfl) (by kernel_rfl) (by kernel_rfl) (fun _ _ _ h => h) (SteadyX.value (by rfl) ?_) ?_
    rotate_left
    · (intro w_ hS; obtain ⟨q0, q1, q2⟩ := S0u.out _ hS; (have q0 := q0.two); (have q1 := q1.two); (clear q2); go_simp; try with_reducible rfl)
    simp only [List.setIfInBounds_toArray, List.set_cons_zero, List.set_cons_succ]
    refine wpX_done (by kernel_rfl) (fun W hS => ?_) _
    obtain ⟨q0, q1, q2⟩ := S0u.out _ hS
    clear hS S0u S0m S0t
    clear S0
    have HG := Lib.hid q2
    clear q0 q1 q2
    go_wp2
    go_ret
    exact ⟨rfl, HG.out⟩
  · have ny' := ny sy
    have hdd := HD.out (X) (-Y) (by simp) (by simp) (by omega) (by omega)
    clear nx ny HD
    go_enter Try.func37, Try.ntmps37
    go_wp2_with fail
    (try clear hw0)
    obtain ⟨S0, S0d⟩ : ∃ S : World → Prop, S = fun v : World => Blk v w.heap.size #[.int .i64 ax, .int .i64 ay] 24 ∧ Blk v (w.heap.size + 1) #[.int .i64 bx, .int .i64 byy] 24 ∧ Below w.heap.size w v := ⟨_, rfl⟩
    have S0t0 : Stands S0 := by rw [S0d]; exact ((stands_blk _ _ _).and ((stands_blk _ _ _).and (stands_below _)))
    have S0u0 : ∀ v, S0 v → Blk v w.heap.size #[.int .i64 ax, .int .i64 ay] 24 ∧ Blk v (w.heap.size + 1) #[.int .i64 bx, .int .i64 byy] 24 ∧ Below w.heap.size w v := fun v h => by rw [S0d] at h; exact h
    have S0m0 : ∀ v, (Blk v w.heap.size #[.int .i64 ax, .int .i64 ay] 24 ∧ Blk v (w.heap.size + 1) #[.int .i64 bx, .int .i64 byy] 24 ∧ Below w.heap.size w v) → S0 v := fun v h => by rw [S0d]; exact h
    have S0u := Lib.hid S0u0
    have S0m := Lib.hid S0m0
    have S0t := Lib.hid S0t0
    clear S0d S0u0 S0m0 S0t0
    refine wp_region_X (S := S0) (by kernel_rfl) (S0m.out _ ⟨B0.out.1.drew, B0.out.2.1.drew, B0.out.2.2.drew⟩) ?_
    clear B0
    refine wpX_take (i := 0) (v := ?_) S0t.out rfl rfl (by kernel_rfl) (by kernel_rfl) (by kernel_rfl) (fun _ _ _ h => h) (SteadyX.value (by rfl) ?_) ?_
    rotate_left
    · (intro w_ hS; obtain ⟨q0, q1, q2⟩ := S0u.out _ hS; (have q0 := q0.two); (have q1 := q1.two); (clear q2); go_simp; try with_reducible rfl)
    simp only [List.setIfInBounds_toArray, List.set_cons_zero, List.set_cons_succ]
    refine wpX_take (i := 1) (v := ?_) S0t.out rfl rfl (by kernel_rfl) (by kernel_rfl) (by kernel_rfl) (fun _ _ _ h => h) (SteadyX.value (by rfl) ?_) ?_
    rotate_left
    · (intro w_ hS; obtain ⟨q0, q1, q2⟩ := S0u.out _ hS; (have q0 := q0.two); (have q1 := q1.two); (clear q2); go_simp; try with_reducible rfl)
    simp only [List.setIfInBounds_toArray, List.set_cons_zero, List.set_cons_succ]
    refine wpX_take (i := 2) (v := ?_) S0t.out rfl rfl (by kernel_rfl) (by kernel_rfl) (by kernel_rfl) (fun _ _ _ h => h) (SteadyX.value (by rfl) ?_) ?_
    rotate_left
    · (intro w_ hS; obtain ⟨q0, q1, q2⟩ := S0u.out _ hS; (have q0 := q0.two); (have q1 := q1.two); (clear q2); go_simp; try with_reducible rfl)
    simp only [List.setIfInBounds_toArray, List.set_cons_zero, List.set_cons_succ]
    refine wpX_take (i := 3) (v := ?_) S0t.out rfl rfl (by kernel_rfl) (by kernel_rfl) (by kernel_rfl) (fun _ _ _ h => h) (SteadyX.value (by rfl) ?_) ?_
    rotate_left
    · (intro w_ hS; obtain ⟨q0, q1, q2⟩ := S0u.out _ hS; (have q0 := q0.two); (have q1 := q1.two); (clear q2); go_simp; try with_reducible rfl)
    simp only [List.setIfInBounds_toArray, List.set_cons_zero, List.set_cons_succ]
    refine wpX_take (i := 4) (v := ?_) S0t.out rfl rfl (by kernel_rfl) (by kernel_rfl) (by kernel_rfl) (fun _ _ _ h => h) (SteadyX.value (by rfl) ?_) ?_
    rotate_left
    · (intro w_ hS; obtain ⟨q0, q1, q2⟩ := S0u.out _ hS; (have q0 := q0.two); (have q1 := q1.two); (clear q2); go_simp; try with_reducible rfl)
    simp only [List.setIfInBounds_toArray, List.set_cons_zero, List.set_cons_succ]
    refine wpX_take (i := 5) (v := ?_) S0t.out rfl rfl (by kernel_rfl) (by kernel_rfl) (by kernel_rfl) (fun _ _ _ h => h) (SteadyX.value (by rfl) ?_) ?_
    rotate_left
    · (intro w_ hS; obtain ⟨q0, q1, q2⟩ := S0u.out _ hS; (have q0 := q0.two); (have q1 := q1.two); (clear q2); go_simp; try with_reducible rfl)
    simp only [List.setIfInBounds_toArray, List.set_cons_zero, List.set_cons_succ]
    refine wpX_take (i := 6) (v := ?_) S0t.out rfl rfl (by kernel_rfl) (by kernel_rfl) (by kernel_rfl) (fun _ _ _ h => h) (SteadyX.value (by rfl) ?_) ?_
    rotate_left
    · (intro w_ hS; obtain ⟨q0, q1, q2⟩ := S0u.out _ hS; (have q0 := q0.two); (have q1 := q1.two); (clear q2); go_simp; try with_reducible rfl)
    simp only [List.setIfInBounds_toArray, List.set_cons_zero, List.set_cons_succ]
    refine wpX_take (i := 7) (v := ?_) S0t.out rfl rfl (by kernel_rfl) (by kernel_rfl) (by kernel_rfl) (fun _ _ _ h => h) (SteadyX.value (by rfl) ?_) ?_
    rotate_left
    · (intro w_ hS; obtain ⟨q0, q1, q2⟩ := S0u.out _ hS; (have q0 := q0.two); (have q1 := q1.two); (clear q2); go_simp; try with_reducible rfl)
    simp only [List.setIfInBounds_toArray, List.set_cons_zero, List.set_cons_succ]
    refine wpX_take (i := 8) (v := ?_) S0t.out rfl rfl (by kernel_rfl) (by kernel_rfl) (by kernel_rfl) (fun _ _ _ h => h) (SteadyX.value (by rfl) ?_) ?_
    rotate_left
    · (intro w_ hS; obtain ⟨q0, q1, q2⟩ := S0u.out _ hS; (have q0 := q0.two); (have q1 := q1.two); (clear q2); go_simp; try with_reducible rfl)
    simp only [List.setIfInBounds_toArray, List.set_cons_zero, List.set_cons_succ]
    refine wpX_take (i := 9) (v := ?_) S0t.out rfl rfl (by kernel_rfl) (by kernel_rfl) (by kernel_rfl) (fun _ _ _ h => h) (SteadyX.value (by rfl) ?_) ?_
    rotate_left
    · (intro w_ hS; obtain ⟨q0, q1, q2⟩ := S0u.out _ hS; (have q0 := q0.two); (have q1 := q1.two); (clear q2); go_simp; try with_reducible rfl)
    simp only [List.setIfInBounds_toArray, List.set_cons_zero, List.set_cons_succ]
    refine wpX_take (i := 10) (v := ?_) S0t.out rfl rfl (by kernel_rfl) (by kernel_rfl) (by kernel_rfl) (fun _ _ _ h => h) (SteadyX.value (by rfl) ?_) ?_
    rotate_left
    · (intro w_ hS; obtain ⟨q0, q1, q2⟩ := S0u.out _ hS; (have q0 := q0.two); (have q1 := q1.two); (clear q2); go_simp; try with_reducible rfl)
    simp only [List.setIfInBounds_toArray, List.set_cons_zero, List.set_cons_succ]
    refine wpX_take (i := 11) (v := ?_) S0t.out rfl rfl (by kernel_rfl) (by kernel_rfl) (by kernel_rfl) (fun _ _ _ h => h) (SteadyX.value (by rfl) ?_) ?_
    rotate_left
    · (intro w_ hS; obtain ⟨q0, q1, q2⟩ := S0u.out _ hS; (have q0 := q0.two); (have q1 := q1.two); (clear q2); go_simp; try with_reducible rfl)
    simp only [List.setIfInBounds_toArray, List.set_cons_zero, List.set_cons_succ]
    refine wpX_done (by kernel_rfl) (fun W hS => ?_) _
    obtain ⟨q0, q1, q2⟩ := S0u.out _ hS
    clear hS S0u S0m S0t
    clear S0
    have HG := Lib.hid q2
    clear q0 q1 q2
    go_wp2
    go_ret
    exact ⟨rfl, HG.out⟩
  · have hdd := HD.out (X) (Y) (by simp) (by simp) (by omega) (by omega)
    clear nx ny HD
    go_enter Try.func37, Try.ntmps37
    go_wp2_with fail
    (try clear hw0)
    obtain ⟨S0, S0d⟩ : ∃ S : World → Prop, S = fun v : World => Blk v w.heap.size #[.int .i64 ax, .int .i64 ay] 24 ∧ Blk v (w.heap.size + 1) #[.int .i64 bx, .int .i64 byy] 24 ∧ Below w.heap.size w v := ⟨_, rfl⟩
    have S0t0 : Stands S0 := by rw [S0d]; exact ((stands_blk _ _ _).and ((stands_blk _ _ _).and (stands_below _)))
    have S0u0 : ∀ v, S0 v → Blk v w.heap.size #[.int .i64 ax, .int .i64 ay] 24 ∧ Blk v (w.heap.size + 1) #[.int .i64 bx, .int .i64 byy] 24 ∧ Below w.heap.size w v := fun v h => by rw [S0d] at h; exact h
    have S0m0 : ∀ v, (Blk v w.heap.size #[.int .i64 ax, .int .i64 ay] 24 ∧ Blk v (w.heap.size + 1) #[.int .i64 bx, .int .i64 byy] 24 ∧ Below w.heap.size w v) → S0 v := fun v h => by rw [S0d]; exact h
    have S0u := Lib.hid S0u0
    have S0m := Lib.hid S0m0
    have S0t := Lib.hid S0t0
    clear S0d S0u0 S0m0 S0t0
    refine wp_region_X (S := S0) (by kernel_rfl) (S0m.out _ ⟨B0.out.1.drew, B0.out.2.1.drew, B0.out.2.2.drew⟩) ?_
    clear B0
    refine wpX_take (i := 0) (v := ?_) S0t.out rfl rfl (by kernel_rfl) (by kernel_rfl) (by kernel_rfl) (fun _ _ _ h => h) (SteadyX.value (by rfl) ?_) ?_
    rotate_left
    · (intro w_ hS; obtain ⟨q0, q1, q2⟩ := S0u.out _ hS; (have q0 := q0.two); (have q1 := q1.two); (clear q2); go_simp; try with_reducible rfl)
    simp only [List.setIfInBounds_toArray, List.set_cons_zero, List.set_cons_succ]
    refine wpX_take (i := 1) (v := ?_) S0t.out rfl rfl (by kernel_rfl) (by kernel_rfl) (by kernel_rfl) (fun _ _ _ h => h) (SteadyX.value (by rfl) ?_) ?_
    rotate_left
    · (intro w_ hS; obtain ⟨q0, q1, q2⟩ := S0u.out _ hS; (have q0 := q0.two); (have q1 := q1.two); (clear q2); go_simp; try with_reducible rfl)
    simp only [List.setIfInBounds_toArray, List.set_cons_zero, List.set_cons_succ]
    refine wpX_take (i := 2) (v := ?_) S0t.out rfl rfl (by kernel_rfl) (by kernel_rfl) (by kernel_rfl) (fun _ _ _ h => h) (SteadyX.value (by rfl) ?_) ?_
    rotate_left
    · (intro w_ hS; obtain ⟨q0, q1, q2⟩ := S0u.out _ hS; (have q0 := q0.two); (have q1 := q1.two); (clear q2); go_simp; try with_reducible rfl)
    simp only [List.setIfInBounds_toArray, List.set_cons_zero, List.set_cons_succ]
    refine wpX_take (i := 3) (v := ?_) S0t.out rfl rfl (by kernel_rfl) (by kernel_rfl) (by kernel_rfl) (fun _ _ _ h => h) (SteadyX.value (by rfl) ?_) ?_
    rotate_left
    · (intro w_ hS; obtain ⟨q0, q1, q2⟩ := S0u.out _ hS; (have q0 := q0.two); (have q1 := q1.two); (clear q2); go_simp; try with_reducible rfl)
    simp only [List.setIfInBounds_toArray, List.set_cons_zero, List.set_cons_succ]
    refine wpX_take (i := 4) (v := ?_) S0t.out rfl rfl (by kernel_rfl) (by kernel_rfl) (by kernel_rfl) (fun _ _ _ h => h) (SteadyX.value (by rfl) ?_) ?_
    rotate_left
    · (intro w_ hS; obtain ⟨q0, q1, q2⟩ := S0u.out _ hS; (have q0 := q0.two); (have q1 := q1.two); (clear q2); go_simp; try with_reducible rfl)
    simp only [List.setIfInBounds_toArray, List.set_cons_zero, List.set_cons_succ]
    refine wpX_take (i := 5) (v := ?_) S0t.out rfl rfl (by kernel_rfl) (by kernel_rfl) (by kernel_rfl) (fun _ _ _ h => h) (SteadyX.value (by rfl) ?_) ?_
    rotate_left
    · (intro w_ hS; obtain ⟨q0, q1, q2⟩ := S0u.out _ hS; (have q0 := q0.two); (have q1 := q1.two); (clear q2); go_simp; try with_reducible rfl)
    simp only [List.setIfInBounds_toArray, List.set_cons_zero, List.set_cons_succ]
    refine wpX_take (i := 6) (v := ?_) S0t.out rfl rfl (by kernel_rfl) (by kernel_rfl) (by kernel_rfl) (fun _ _ _ h => h) (SteadyX.value (by rfl) ?_) ?_
    rotate_left
    · (intro w_ hS; obtain ⟨q0, q1, q2⟩ := S0u.out _ hS; (have q0 := q0.two); (have q1 := q1.two); (clear q2); go_simp; try with_reducible rfl)
    simp only [List.setIfInBounds_toArray, List.set_cons_zero, List.set_cons_succ]
    refine wpX_take (i := 7) (v := ?_) S0t.out rfl rfl (by kernel_rfl) (by kernel_rfl) (by kernel_rfl) (fun _ _ _ h => h) (SteadyX.value (by rfl) ?_) ?_
    rotate_left
    · (intro w_ hS; obtain ⟨q0, q1, q2⟩ := S0u.out _ hS; (have q0 := q0.two); (have q1 := q1.two); (clear q2); go_simp; try with_reducible rfl)
    simp only [List.setIfInBounds_toArray, List.set_cons_zero, List.set_cons_succ]
    refine wpX_take (i := 8) (v := ?_) S0t.out rfl rfl (by kernel_rfl) (by kernel_rfl) (by kernel_rfl) (fun _ _ _ h => h) (SteadyX.value (by rfl) ?_) ?_
    rotate_left
    · (intro w_ hS; obtain ⟨q0, q1, q2⟩ := S0u.out _ hS; (have q0 := q0.two); (have q1 := q1.two); (clear q2); go_simp; try with_reducible rfl)
    simp only [List.setIfInBounds_toArray, List.set_cons_zero, List.set_cons_succ]
    refine wpX_take (i := 9) (v := ?_) S0t.out rfl rfl (by kernel_rfl) (by kernel_rfl) (by kernel_rfl) (fun _ _ _ h => h) (SteadyX.value (by rfl) ?_) ?_
    rotate_left
    · (intro w_ hS; obtain ⟨q0, q1, q2⟩ := S0u.out _ hS; (have q0 := q0.two); (have q1 := q1.two); (clear q2); go_simp; try with_reducible rfl)
    simp only [List.setIfInBounds_toArray, List.set_cons_zero, List.set_cons_succ]
    refine wpX_take (i := 10) (v := ?_) S0t.out rfl rfl (by kernel_rfl) (by kernel_rfl) (by kernel_rfl) (fun _ _ _ h => h) (SteadyX.value (by rfl) ?_) ?_
    rotate_left
    · (intro w_ hS; obtain ⟨q0, q1, q2⟩ := S0u.out _ hS; (have q0 := q0.two); (have q1 := q1.two); (clear q2); go_simp; try with_reducible rfl)
    simp only [List.setIfInBounds_toArray, List.set_cons_zero, List.set_cons_succ]
    refine wpX_take (i := 11) (v := ?_) S0t.out rfl rfl (by kernel_rfl) (by kernel_rfl) (by kernel_rfl) (fun _ _ _ h => h) (SteadyX.value (by rfl) ?_) ?_
    rotate_left
    · (intro w_ hS; obtain ⟨q0, q1, q2⟩ := S0u.out _ hS; (have q0 := q0.two); (have q1 := q1.two); (clear q2); go_simp; try with_reducible rfl)
    simp only [List.setIfInBounds_toArray, List.set_cons_zero, List.set_cons_succ]
    refine wpX_done (by kernel_rfl) (fun W hS => ?_) _
    obtain ⟨q0, q1, q2⟩ := S0u.out _ hS
    clear hS S0u S0m S0t
    clear S0
    have HG := Lib.hid q2
    clear q0 q1 q2
    go_wp2
    go_ret
    exact ⟨rfl, HG.out⟩

theorem refDist_any (a b : Pt) (ha : May a) (hb : May b) (w : World) : Calls Try.prog 37 #[pt a, pt b] w fun e w' => e = .returned (.int .u64 (distZ a b)) ∧ Below w.heap.size w w' := by
  obtain ⟨a0, a1, a2, a3⟩ := ha
  obtain ⟨b0, b1, b2, b3⟩ := hb
  refine refDist_road a.x a.y b.x b.y (a.x - b.x) (a.y - b.y) (distZ a b) (by rw [IntKind.wrap_i64]; omega) (by rw [IntKind.wrap_i64]; omega) (fun _ => by rw [IntKind.wrap_i64]; omega) (fun _ => by rw [IntKind.wrap_i64]; omega) ?_ w
  intro U V hU hV hU0 hV0
  have eU : U * U = (a.x - b.x) * (a.x - b.x) := hU.elim (fun h => by rw [h]) (fun h => by rw [h, Int.neg_mul_neg])
  have eV : V * V = (a.y - b.y) * (a.y - b.y) := hV.elim (fun h => by rw [h]) (fun h => by rw [h, Int.neg_mul_neg])
  have hx := mul_bd (x := U) (y := U) (m := 3600000000) (n := 3600000000) (by omega) (by omega) (by omega) (by omega)
  have hy := mul_bd (x := V) (y := V) (m := 1800000000) (n := 1800000000) (by omega) (by omega) (by omega) (by omega)
  have hx0 : 0 ≤ U * U := Int.mul_nonneg hU0 hU0
  have hy0 : 0 ≤ V * V := Int.mul_nonneg hV0 hV0
  have f1 : IntKind.u64.wrap U = U := by rw [IntKind.wrap_u64]; exact Int.emod_eq_of_lt hU0 (by omega)
  have f2 : IntKind.u64.wrap V = V := by rw [IntKind.wrap_u64]; exact Int.emod_eq_of_lt hV0 (by omega)
  rw [f1, f2]
  have f3 : IntKind.u64.wrap (U * U) = U * U := by rw [IntKind.wrap_u64]; exact Int.emod_eq_of_lt hx0 (by omega)
  have f4 : IntKind.u64.wrap (V * V) = V * V := by rw [IntKind.wrap_u64]; exact Int.emod_eq_of_lt hy0 (by omega)
  rw [f3, f4, IntKind.wrap_u64]
  unfold distZ
  rw [← eU, ← eV]
  exact Int.emod_eq_of_lt (by omega) (by omega)
end Go.Proofs.Ytkneohngbkmlpaa
