/- Walks: the reference's Nearest, Bounds. -/
import Derived.Test.YtkneohngbkmlpaaW34
namespace Go.Proofs.Ytkneohngbkmlpaa
open Go.RowKit

set_option maxHeartbeats 16000000 in
theorem refNear_road (rx0 ry0 rx1 ry1 px py nx ny D : Int) (hr0 : rx0 ≤ rx1) (hr1 : ry0 ≤ ry1) (hx : min (max px rx0) rx1 = nx) (hy : min (max py ry0) ry1 = ny)
    (k1 : ∀ x y, x = nx → y = ny → ∀ w, Calls Try.prog 37 #[.agg #[.int .i64 px, .int .i64 py], .agg #[.int .i64 x, .int .i64 y]] w fun e w' => e = .returned (.int .u64 D) ∧ Below w.heap.size w w') (w : World) :
    Calls Try.prog 36 #[.agg #[.int .i64 rx0, .int .i64 ry0, .int .i64 rx1, .int .i64 ry1], .agg #[.int .i64 px, .int .i64 py]] w fun e w' => e = .returned (.int .u64 D) ∧ Below w.heap.size w w' := by
  have K1 := Lib.hid k1
  clear k1
  obtain ⟨w0, hw0, p0, p1, g0, z0⟩ := boxes2 w #[.int .i64 rx0, .int .i64 ry0, .int .i64 rx1, .int .i64 ry1] #[.int .i64 px, .int .i64 py] 38 24
  have c0 := p0.four
  have c1 := p1.two
  have G0 := Lib.hid g0
  clear p0 p1 g0
  by_cases a1 : px < rx0
  · have a2 : ¬ rx1 < rx0 := by omega
    by_cases b1 : py < ry0
    · have b2 : ¬ ry1 < ry0 := by omega
      go_enter Try.func36, Try.ntmps36
      go_wp2_with fail
      refine (K1.out _ _ (by omega) (by omega) _).mono ?_
      rintro e w1 ⟨rfl, hb⟩
      have HE := Lib.hid (grow (w1 := _) (grow_alloc G0.out _) hb)
      clear hb
      go_wp2
      go_ret
      exact ⟨rfl, HE.out⟩
    · by_cases b2 : ry1 < py
      · go_enter Try.func36, Try.ntmps36
        go_wp2_with fail
        refine (K1.out _ _ (by omega) (by omega) _).mono ?_
        rintro e w1 ⟨rfl, hb⟩
        have HE := Lib.hid (grow (w1 := _) (grow_alloc G0.out _) hb)
        clear hb
        go_wp2
        go_ret
        exact ⟨rfl, HE.out⟩
      · go_enter Try.func36, Try.ntmps36
        go_wp2_with fail
        refine (K1.out _ _ (by omega) (by omega) _).mono ?_
        rintro e w1 ⟨rfl, hb⟩
        have HE := Lib.hid (grow (w1 := _) (grow_alloc G0.out _) hb)
        clear hb
        go_wp2
        go_ret
        exact ⟨rfl, HE.out⟩
  · by_cases a2 : rx1 < px
    · by_cases b1 : py < ry0
      · have b2 : ¬ ry1 < ry0 := by omega
        go_enter Try.func36, Try.ntmps36
        go_wp2_with fail
        refine (K1.out _ _ (by omega) (by omega) _).mono ?_
        rintro e w1 ⟨rfl, hb⟩
        have HE := Lib.hid (grow (w1 := _) (grow_alloc G0.out _) hb)
        clear hb
        go_wp2
        go_ret
        exact ⟨rfl, HE.out⟩
      · by_cases b2 : ry1 < py
        · go_enter Try.func36, Try.ntmps36
          go_wp2_with fail
          refine (K1.out _ _ (by omega) (by omega) _).mono ?_
          rintro e w1 ⟨rfl, hb⟩
          have HE := Lib.hid (grow (w1 := _) (grow_alloc G0.out _) hb)
          clear hb
          go_wp2
          go_ret
          exact ⟨rfl, HE.out⟩
        · go_enter Try.func36, Try.ntmps36
          go_wp2_with fail
          refine (K1.out _ _ (by omega) (by omega) _).mono ?_
          rintro e w1 ⟨rfl, hb⟩
          have HE := Lib.hid (grow (w1 := _) (grow_alloc G0.out _) hb)
          clear hb
          go_wp2
          go_ret
          exact ⟨rfl, HE.out⟩
    · by_cases b1 : py < ry0
      · have b2 : ¬ ry1 < ry0 := by omega
        go_enter Try.func36, Try.ntmps36
        go_wp2_with fail
        refine (K1.out _ _ (by omega) (by omega) _).mono ?_
        rintro e w1 ⟨rfl, hb⟩
        have HE := Lib.hid (grow (w1 := _) (grow_alloc G0.out _) hb)
        clear hb
        go_wp2
        go_ret
        exact ⟨rfl, HE.out⟩
      · by_cases b2 : ry1 < py
        · go_enter Try.func36, Try.ntmps36
          go_wp2_with fail
          refine (K1.out _ _ (by omega) (by omega) _).mono ?_
          rintro e w1 ⟨rfl, hb⟩
          have HE := Lib.hid (grow (w1 := _) (grow_alloc G0.out _) hb)
          clear hb
          go_wp2
          go_ret
          exact ⟨rfl, HE.out⟩
        · go_enter Try.func36, Try.ntmps36
          go_wp2_with fail
          refine (K1.out _ _ (by omega) (by omega) _).mono ?_
          rintro e w1 ⟨rfl, hb⟩
          have HE := Lib.hid (grow (w1 := _) (grow_alloc G0.out _) hb)
          clear hb
          go_wp2
          go_ret
          exact ⟨rfl, HE.out⟩

theorem refNear_any (r : Rc) (p : Pt) (hr : MayR r) (hp : May p) (w : World) : Calls Try.prog 36 #[rc r, pt p] w fun e w' => e = .returned (.int .u64 (distZ (nearP r p) p)) ∧ Below w.heap.size w w' := by
  refine refNear_road r.x0 r.y0 r.x1 r.y1 p.x p.y (nearP r p).x (nearP r p).y _ hr.2.2.1 hr.2.2.2 rfl rfl (fun x y hx hy w => ?_) w
  subst hx hy
  have h := refDist_any p (nearP r p) hp (near_may hr) w
  have e : distZ p (nearP r p) = distZ (nearP r p) p := by
    unfold distZ
    rw [← Int.neg_mul_neg, ← Int.neg_mul_neg (p.y - _), Int.neg_sub, Int.neg_sub]
  rwa [e] at h

set_option maxRecDepth 20000 in
set_option maxHeartbeats 4000000 in
theorem refBounds_any (l : List Pt) (A : Option Addr) (n c : Nat) (w : World) (hn : l.length = n) (hr : Pts w w.heap.size A l) (hn0 : 0 < n) (hn1 : (n : Int) ≤ 1000) :
    Calls Try.prog 32 #[.slice A n c] w fun e w' => e = .returned (rc (bndL l)) ∧ Below w.heap.size w w' := by
  have HR := Lib.hid hr
  have HN := Lib.hid hn
  have h0 : 0 < l.length := by omega
  obtain ⟨p, e, hpl, h1, h2⟩ := hr.get h0
  subst e
  obtain ⟨⟨ax, ay⟩, ha⟩ : ∃ a, l[0] = a := ⟨_, rfl⟩
  rw [ha] at h1 h2
  have HA := Lib.hid ha
  have HPL := Lib.hid hpl
  clear hr hn ha hpl
  rw [add_one] at h2
  simp only [Nat.zero_mul] at h1 h2
  have e0 : p.add 0 = p := by unfold Addr.add; simp
  rw [e0] at h1 h2
  clear e0
  obtain ⟨w0, hw0, p0, g0, z0⟩ := boxes1 w #[.int .i64 0, .int .i64 0, .int .i64 0, .int .i64 0] 38
  have C0 := Lib.hid (And.intro ((g0.cell (p := p) HPL.out).trans h1) (And.intro ((g0.cell (p := ⟨p.block, p.off + 1, none⟩) HPL.out).trans h2) (And.intro p0 g0)))
  clear p0 g0 z0 h1 h2
  go_enter Try.func32, Try.ntmps32
  go_wp2_with fail
  (try clear hw0)
  obtain ⟨S0, S0d⟩ : ∃ S : World → Prop, S = fun v : World => v.cell? p = some (.int .i64 ax) ∧ v.cell? ⟨p.block, p.off + 1, none⟩ = some (.int .i64 ay) ∧ Blk v w.heap.size #[.int .i64 0, .int .i64 0, .int .i64 0, .int .i64 0] 38 ∧ Below w.heap.size w v := ⟨_, rfl⟩
  have S0t0 : Stands S0 := by rw [S0d]; exact ((stands_cell _ _).and ((stands_cell _ _).and ((stands_blk _ _ _).and (stands_below _))))
  have S0u0 : ∀ v, S0 v → v.cell? p = some (.int .i64 ax) ∧ v.cell? ⟨p.block, p.off + 1, none⟩ = some (.int .i64 ay) ∧ Blk v w.heap.size #[.int .i64 0, .int .i64 0, .int .i64 0, .int .i64 0] 38 ∧ Below w.heap.size w v := fun v h => by rw [S0d] at h; exact h
  have S0m0 : ∀ v, (v.cell? p = some (.int .i64 ax) ∧ v.cell? ⟨p.block, p.off + 1, none⟩ = some (.int .i64 ay) ∧ Blk v w.heap.size #[.int .i64 0, .int .i64 0, .int .i64 0, .int .i64 0] 38 ∧ Below w.heap.size w v) → S0 v := fun v h => by rw [S0d]; exact h
  have S0u := Lib.hid S0u0
  have S0m := Lib.hid S0m0
  have S0t := Lib.hid S0t0
  clear S0d S0u0 S0m0 S0t0
  refine wp_region_X (S := S0) (by kernel_rfl) (S0m.out _ ⟨C0.out.1, C0.out.2.1, C0.out.2.2.1.drew, C0.out.2.2.2.drew⟩) ?_
  clear C0
  refine wpX_take (i := 0) (v := ?_) S0t.out rfl rfl (by kernel_rfl) (by kernel_rfl) (by kernel_rfl) (fun _ _ _ h => h) (SteadyX.value (by rfl) ?_) ?_
  rotate_left
  · (intro w_ hS; obtain ⟨q0, q1, q2, q3⟩ := S0u.out _ hS; (have q2 := q2.four); (clear q3); go_simp; try with_reducible rfl)
  simp only [List.setIfInBounds_toArray, List.set_cons_zero, List.set_cons_succ]
  refine wpX_take (i := 1) (v := ?_) S0t.out rfl rfl (by kernel_rfl) (by kernel_rfl) (by kernel_rfl) (fun _ _ _ h => h) (SteadyX.value (by rfl) ?_) ?_
  rotate_left
  · (intro w_ hS; obtain ⟨q0, q1, q2, q3⟩ := S0u.out _ hS; (have q2 := q2.four); (clear q3); go_simp; try with_reducible rfl)
  simp only [List.setIfInBounds_toArray, List.set_cons_zero, List.set_cons_succ]
  refine wpX_take (i := 2) (v := ?_) S0t.out rfl rfl (by kernel_rfl) (by kernel_rfl) (by kernel_rfl) (fun _ _ _ h => h) (SteadyX.value (by rfl) ?_) ?_
  rotate_left
  · (intro w_ hS; obtain ⟨q0, q1, q2, q3⟩ := S0u.out _ hS; (have q2 := q2.four); (clear q3); go_simp; try with_reducible rfl)
  simp only [List.setIfInBounds_toArray, List.set_cons_zero, List.set_cons_succ]
  refine wpX_take (i := 3) (v := ?_) S0t.out rfl rfl (by kernel_rfl) (by kernel_rfl) (by kernel_rfl) (fun _ _ _ h => h) (SteadyX.value (by rfl) ?_) ?_
  rotate_left
  · (intro w_ hS; obtain ⟨q0, q1, q2, q3⟩ := S0u.out _ hS; (have q2 := q2.four); (clear q3); go_simp; try with_reducible rfl)
  simp only [List.setIfInBounds_toArray, List.set_cons_zero, List.set_cons_succ]
  refine wpX_take (i := 4) (v := ?_) S0t.out rfl rfl (by kernel_rfl) (by kernel_rfl) (by kernel_rfl) (fun _ _ _ h => h) (SteadyX.value (by rfl) ?_) ?_
  rotate_left
  · (intro w_ hS; obtain ⟨q0, q1, q2, q3⟩ := S0u.out _ hS; (have q2 := q2.four); (clear q3); go_simp; try with_reducible rfl)
  simp only [List.setIfInBounds_toArray, List.set_cons_zero, List.set_cons_succ]
  refine wpX_take (i := 5) (v := ?_) S0t.out rfl rfl (by kernel_rfl) (by kernel_rfl) (by kernel_rfl) (fun _ _ _ h => h) (SteadyX.value (by rfl) ?_) ?_
  rotate_left
  · (intro w_ hS; obtain ⟨q0, q1, q2, q3⟩ := S0u.out _ hS; (have q2 := q2.four); (clear q3); go_simp; try with_reducible rfl)
  simp only [List.setIfInBounds_toArray, List.set_cons_zero, List.set_cons_succ]
  refine wpX_take (i := 6) (v := ?_) S0t.out rfl rfl (by kernel_rfl) (by kernel_rfl) (by kernel_rfl) (fun _ _ _ h => h) (SteadyX.value (by rfl) ?_) ?_
  rotate_left
  · (intro w_ hS; obtain ⟨q0, q1, q2, q3⟩ := S0u.out _ hS; (have q2 := q2.four); (clear q3); go_simp; try with_reducible rfl)
  simp only [List.setIfInBounds_toArray, List.set_cons_zero, List.set_cons_succ]
  refine wpX_take (i := 7) (v := ?_) S0t.out rfl rfl (by kernel_rfl) (by kernel_rfl) (by kernel_rfl) (fun _ _ _ h => h) (SteadyX.value (by rfl) ?_) ?_
  rotate_left
  · (intro w_ hS; obtain ⟨q0, q1, q2, q3⟩ := S0u.out _ hS; (have q2 := q2.four); (clear q3); go_simp; try with_reducible rfl)
  simp only [List.setIfInBounds_toArray, List.set_cons_zero, List.set_cons_succ]
  refine wpX_take (i := 8) (v := ?_) S0t.out rfl rfl (by kernel_rfl) (by kernel_rfl) (by kernel_rfl) (fun _ _ _ h => h) (SteadyX.value (by rfl) ?_) ?_
  rotate_left
  · (intro w_ hS; obtain ⟨q0, q1, q2, q3⟩ := S0u.out _ hS; (have q2 := q2.four); (clear q3); go_simp; try with_reducible rfl)
  simp only [List.setIfInBounds_toArray, List.set_cons_zero, List.set_cons_succ]
  refine wpX_take (i := 9) (v := ?_) S0t.out rfl rfl (by kernel_rfl) (by kernel_rfl) (by kernel_rfl) (fun _ _ _ h => h) (SteadyX.value (by rfl) ?_) ?_
  rotate_left
  · (intro w_ hS; obtain ⟨q0, q1, q2, q3⟩ := S0u.out _ hS; (have q2 := q2.four); (clear q3); go_simp; try with_reducible rfl)
  simp only [List.setIfInBounds_toArray, List.set_cons_zero, List.set_cons_succ]
  refine wpX_take (i := 10) (v := ?_) S0t.out rfl rfl (by kernel_rfl) (by kernel_rfl) (by kernel_rfl) (fun _ _ _ h => h) (SteadyX.value (by rfl) ?_) ?_
  rotate_left
  · (intro w_ hS; obtain ⟨q0, q1, q2, q3⟩ := S0u.out _ hS; (have q2 := q2.four); (clear q3); go_simp; try with_reducible rfl)
  simp only [List.setIfInBounds_toArray, List.set_cons_zero, List.set_cons_succ]
  refine wpX_take (i := 11) (v := ?_) S0t.out rfl rfl (by kernel_rfl) (by kernel_rfl) (by kernel_rfl) (fun _ _ _ h => h) (SteadyX.value (by rfl) ?_) ?_
  rotate_left
  · (intro w_ hS; obtain ⟨q0, q1, q2, q3⟩ := S0u.out _ hS; (have q2 := q2.four); (clear q3); go_simp; try with_reducible rfl)
  simp only [List.setIfInBounds_toArray, List.set_cons_zero, List.set_cons_succ]
  refine wpX_take (i := 12) (v := ?_) S0t.out rfl rfl (by kernel_rfl) (by kernel_rfl) (by kernel_rfl) (fun _ _ _ h => h) (SteadyX.value (by rfl) ?_) ?_
  rotate_left
  · (intro w_ hS; obtain ⟨q0, q1, q2, q3⟩ := S0u.out _ hS; (have q2 := q2.four); (clear q3); go_simp; try with_reducible rfl)
  simp only [List.setIfInBounds_toArray, List.set_cons_zero, List.set_cons_succ]
  refine wpX_take (i := 13) (v := ?_) S0t.out rfl rfl (by kernel_rfl) (by kernel_rfl) (by kernel_rfl) (fun _ _ _ h => h) (SteadyX.value (by rfl) ?_) ?_
  rotate_left
  · (intro w_ hS; obtain ⟨q0, q1, q2, q3⟩ := S0u.out _ hS; (have q2 := q2.four); (clear q3); go_simp; try with_reducible rfl)
  simp only [List.setIfInBounds_toArray, List.set_cons_zero, List.set_cons_succ]
  refine wpX_take (i := 14) (v := ?_) S0t.out rfl rfl (by kernel_rfl) (by kernel_rfl) (by kernel_rfl) (fun _ _ _ h => h) (SteadyX.value (by rfl) ?_) ?_
  rotate_left
  · (intro w_ hS; obtain ⟨q0, q1, q2, q3⟩ := S0u.out _ hS; (have q2 := q2.four); (clear q3); go_simp; try with_reducible rfl)
  simp only [List.setIfInBounds_toArray, List.set_cons_zero, List.set_cons_succ]
  refine wpX_take (i := 15) (v := ?_) S0t.out rfl rfl (by kernel_rfl) (by kernel_rfl) (by kernel_rfl) (fun _ _ _ h => h) (SteadyX.value (by rfl) ?_) ?_
  rotate_left
  · (intro w_ hS; obtain ⟨q0, q1, q2, q3⟩ := S0u.out _ hS; (have q2 := q2.four); (clear q3); go_simp; try with_reducible rfl)
  simp only [List.setIfInBounds_toArray, List.set_cons_zero, List.set_cons_succ]
  refine wpX_take (i := 16) (v := ?_) S0t.out rfl rfl (by kernel_rfl) (by kernel_rfl) (by kernel_rfl) (fun _ _ _ h => h) (SteadyX.value (by rfl) ?_) ?_
  rotate_left
  · (intro w_ hS; obtain ⟨q0, q1, q2, q3⟩ := S0u.out _ hS; (have q2 := q2.four); (clear q3); go_simp; try with_reducible rfl)
  simp only [List.setIfInBounds_toArray, List.set_cons_zero, List.set_cons_succ]
  refine wpX_one (i := 17) (by kernel_rfl) (fun w_ hS => ?_)
  obtain ⟨q0, q1, q2, q3⟩ := S0u.out _ hS
  obtain ⟨R, hR⟩ : ∃ R, R = w_.heap.size := ⟨_, rfl⟩
  have ltR_2 : w.heap.size < R := by rw [hR]; exact q2.lt
  have ltR_3 : w.heap.size ≤ R := by rw [hR]; exact q3.size
  obtain ⟨S1, S1d⟩ : ∃ S : World → Prop, S = fun v : World => v.cell? p = some (.int .i64 ax) ∧ v.cell? ⟨p.block, p.off + 1, none⟩ = some (.int .i64 ay) ∧ Blk v w.heap.size #[.int .i64 0, .int .i64 0, .int .i64 0, .int .i64 0] 38 ∧ Below w.heap.size w v ∧ Blk v R #[.int .i64 0, .int .i64 0, .int .i64 0, .int .i64 0] 38 := ⟨_, rfl⟩
  have S1t0 : Stands S1 := by rw [S1d]; exact ((stands_cell _ _).and ((stands_cell _ _).and ((stands_blk _ _ _).and ((stands_below _).and (stands_blk _ _ _)))))
  have S1u0 : ∀ v, S1 v → v.cell? p = some (.int .i64 ax) ∧ v.cell? ⟨p.block, p.off + 1, none⟩ = some (.int .i64 ay) ∧ Blk v w.heap.size #[.int .i64 0, .int .i64 0, .int .i64 0, .int .i64 0] 38 ∧ Below w.heap.size w v ∧ Blk v R #[.int .i64 0, .int .i64 0, .int .i64 0, .int .i64 0] 38 := fun v h => by rw [S1d] at h; exact h
  have S1m0 : ∀ v, (v.cell? p = some (.int .i64 ax) ∧ v.cell? ⟨p.block, p.off + 1, none⟩ = some (.int .i64 ay) ∧ Blk v w.heap.size #[.int .i64 0, .int .i64 0, .int .i64 0, .int .i64 0] 38 ∧ Below w.heap.size w v ∧ Blk v R #[.int .i64 0, .int .i64 0, .int .i64 0, .int .i64 0] 38) → S1 v := fun v h => by rw [S1d]; exact h
  have S1u := Lib.hid S1u0
  have S1m := Lib.hid S1m0
  have S1t := Lib.hid S1t0
  clear S1d S1u0 S1m0 S1t0
  refine wpX_run (i := 17) (v := .pointer (some ⟨R, 0, none⟩)) (w' := w_.alloc (.cells #[.int .i64 0, .int .i64 0, .int .i64 0, .int .i64 0] 38)) S1 rfl rfl (by rfl) (by (subst hR; go_simp)) S1t.out (.inr fun v h => S0m.out _ (by obtain ⟨q0, q1, q2, q3, q4⟩ := S1u.out _ h; exact ⟨q0, q1, q2, q3⟩)) (S1m.out _ ⟨(stands_cell _ _) _ _ ((Below.refl _ w_).alloc (Nat.le_refl _) _) q0, (stands_cell _ _) _ _ ((Below.refl _ w_).alloc (Nat.le_refl _) _) q1, (stands_blk _ _ _) _ _ ((Below.refl _ w_).alloc (Nat.le_refl _) _) q2, (stands_below _) _ _ ((Below.refl _ w_).alloc (Nat.le_refl _) _) q3, Blk.new' w_ _ _ hR⟩) ?_
  clear hS q0 q1 q2 q3 hR
  clear w_
  simp only [List.setIfInBounds_toArray, List.set_cons_zero, List.set_cons_succ]
  have hpR : p.block < w.heap.size := HPL.out
  refine wpX_one (i := 18) (by kernel_rfl) (fun w_ hS => ?_)
  obtain ⟨q0, q1, q2, q3, q4⟩ := S1u.out _ hS
  obtain ⟨S2, S2d⟩ : ∃ S : World → Prop, S = fun v : World => v.cell? p = some (.int .i64 ax) ∧ v.cell? ⟨p.block, p.off + 1, none⟩ = some (.int .i64 ay) ∧ Blk v w.heap.size #[.int .i64 0, .int .i64 0, .int .i64 0, .int .i64 0] 38 ∧ Below w.heap.size w v ∧ Blk v R #[.int .i64 ax, .int .i64 ay, .int .i64 ax, .int .i64 ay] 38 := ⟨_, rfl⟩
  have S2t0 : Stands S2 := by rw [S2d]; exact ((stands_cell _ _).and ((stands_cell _ _).and ((stands_blk _ _ _).and ((stands_below _).and (stands_blk _ _ _)))))
  have S2u0 : ∀ v, S2 v → v.cell? p = some (.int .i64 ax) ∧ v.cell? ⟨p.block, p.off + 1, none⟩ = some (.int .i64 ay) ∧ Blk v w.heap.size #[.int .i64 0, .int .i64 0, .int .i64 0, .int .i64 0] 38 ∧ Below w.heap.size w v ∧ Blk v R #[.int .i64 ax, .int .i64 ay, .int .i64 ax, .int .i64 ay] 38 := fun v h => by rw [S2d] at h; exact h
  have S2m0 : ∀ v, (v.cell? p = some (.int .i64 ax) ∧ v.cell? ⟨p.block, p.off + 1, none⟩ = some (.int .i64 ay) ∧ Blk v w.heap.size #[.int .i64 0, .int .i64 0, .int .i64 0, .int .i64 0] 38 ∧ Below w.heap.size w v ∧ Blk v R #[.int .i64 ax, .int .i64 ay, .int .i64 ax, .int .i64 ay] 38) → S2 v := fun v h => by rw [S2d]; exact h
  have S2u := Lib.hid S2u0
  have S2m := Lib.hid S2m0
  have S2t := Lib.hid S2t0
  clear S2d S2u0 S2m0 S2t0
  have n4 : Blk ((((w_.setCell ⟨R, 0, none⟩ (.int .i64 ax)).setCell ⟨R, 1, none⟩ (.int .i64 ay)).setCell ⟨R, 2, none⟩ (.int .i64 ax)).setCell ⟨R, 3, none⟩ (.int .i64 ay)) R #[.int .i64 ax, .int .i64 ay, .int .i64 ax, .int .i64 ay] 38 := by have h := ((((q4.set 0 (.int .i64 ax)).set 1 (.int .i64 ay)).set 2 (.int .i64 ax)).set 3 (.int .i64 ay)); simpa using h
  have st_ : S2 ((((w_.setCell ⟨R, 0, none⟩ (.int .i64 ax)).setCell ⟨R, 1, none⟩ (.int .i64 ay)).setCell ⟨R, 2, none⟩ (.int .i64 ax)).setCell ⟨R, 3, none⟩ (.int .i64 ay)) := S2m.out _ ⟨(cell_set (cell_set (cell_set (cell_set q0 (by show R ≠ p.block; omega)) (by show R ≠ p.block; omega)) (by show R ≠ p.block; omega)) (by show R ≠ p.block; omega)), (cell_set (cell_set (cell_set (cell_set q1 (by show R ≠ p.block; omega)) (by show R ≠ p.block; omega)) (by show R ≠ p.block; omega)) (by show R ≠ p.block; omega)), ((((((((q2).other (a := ⟨R, 0, none⟩) (by show w.heap.size ≠ R; omega) _)).other (a := ⟨R, 1, none⟩) (by show w.heap.size ≠ R; omega) _)).other (a := ⟨R, 2, none⟩) (by show w.heap.size ≠ R; omega) _)).other (a := ⟨R, 3, none⟩) (by show w.heap.size ≠ R; omega) _), ((((((((q3).setCell (p := ⟨R, 0, none⟩) (by show w.heap.size ≤ R; omega) _)).setCell (p := ⟨R, 1, none⟩) (by show w.heap.size ≤ R; omega) _)).setCell (p := ⟨R, 2, none⟩) (by show w.heap.size ≤ R; omega) _)).setCell (p := ⟨R, 3, none⟩) (by show w.heap.size ≤ R; omega) _), n4⟩
  have r_ := q4.four
  refine wpX_store (i := 18) (w' := ((((w_.setCell ⟨R, 0, none⟩ (.int .i64 ax)).setCell ⟨R, 1, none⟩ (.int .i64 ay)).setCell ⟨R, 2, none⟩ (.int .i64 ax)).setCell ⟨R, 3, none⟩ (.int .i64 ay))) S2 rfl rfl (by rfl) (by go_simp) S2t.out (.inl (by kernel_rfl)) st_ ?_
  clear r_ hS st_ q0 q1 q2 q3 q4 n4
  clear w_
  refine wpX_done (by kernel_rfl) (fun W hS => ?_) _
  obtain ⟨q0, q1, q2, q3, q4⟩ := S2u.out _ hS
  clear hS S0u S0m S0t S1u S1m S1t S2u S2m S2t
  clear S0 S1 S2
  have HB0 := Lib.hid (And.intro q4 (And.intro q2 q3))
  have HLR := Lib.hid ltR_2
  clear q0 q1 q2 q3 q4 ltR_2 ltR_3 hpR
  go_wp2
  go_loopw [4] (fun i wr => ∃ (k : Nat) (x0 y0 x1 y1 : Int), k ≤ n ∧ 1 ≤ k ∧ i = .int .i64 k ∧ Hid (Blk wr R #[.int .i64 x0, .int .i64 y0, .int .i64 x1, .int .i64 y1] 38 ∧ Blk wr w.heap.size #[.int .i64 0, .int .i64 0, .int .i64 0, .int .i64 0] 38 ∧ Below w.heap.size w wr) ∧ Hid ((l.take k).foldl (fun o q => joinR o (ptR q)) (ptR ⟨ax, ay⟩) = ⟨x0, y0, x1, y1⟩)) (fun i _ => n - (intOf i).toNat)
  case atStart =>
    refine ⟨1, ax, ay, ax, ay, by omega, by omega, rfl, HB0, Lib.hid ?_⟩
    have h : l.take 1 = [⟨ax, ay⟩] := by
      rw [List.take_succ_eq_append_getElem h0, HA.out]; rfl
    rw [h]
    exact join_self (ptR ⟨ax, ay⟩)
  case round =>
    obtain ⟨k, x0, y0, x1, y1, hk, hk1, rfl, HB, HF⟩ := hrel
    clear HB0
    by_cases hlt : k < n
    · have hkl : k < l.length := by rw [HN.out]; exact hlt
      obtain ⟨p', e, hpl, h1, h2⟩ := (HR.out.below HB.out.2.2 (Nat.le_refl _)).get hkl
      cases e
      obtain ⟨q, hq⟩ : ∃ q, l[k] = q := ⟨_, rfl⟩
      rw [hq] at h1 h2
      obtain ⟨qx, qy⟩ := q
      dsimp only at h1 h2
      rw [add_one] at h2
      obtain ⟨z, hz⟩ : ∃ z, joinR ⟨x0, y0, x1, y1⟩ (ptR ⟨qx, qy⟩) = z := ⟨_, rfl⟩
      have kj := refJoin_any ⟨x0, y0, x1, y1⟩ ⟨qx, qy, qx, qy⟩
      have hz' : joinR ⟨x0, y0, x1, y1⟩ ⟨qx, qy, qx, qy⟩ = z := hz
      rw [hz'] at kj
      obtain ⟨z0, z1, z2, z3⟩ := z
      have HF1 : Hid ((l.take (k + 1)).foldl (fun o q => joinR o (ptR q)) (ptR ⟨ax, ay⟩) = ⟨z0, z1, z2, z3⟩) := Lib.hid (by
        rw [List.take_succ_eq_append_getElem hkl, List.foldl_append, HF.out, hq]; exact hz)
      have KJ := Lib.hid kj
      clear hz hz' hq kj HF
      go_wp2_with fail
      have lWR : w.heap.size < R := HLR.out
      have HC := Lib.hid (And.intro h1 h2)
      have hpR : (p.add (k * 2)).block < w.heap.size := by rw [add_block]; exact HPL.out
      clear h1 h2
      obtain ⟨Sa0, Sa0d⟩ : ∃ S : World → Prop, S = fun v : World => v.cell? (p.add (k * 2)) = some (.int .i64 qx) ∧ v.cell? ⟨(p.add (k * 2)).block, (p.add (k * 2)).off + 1, none⟩ = some (.int .i64 qy) ∧ Blk v R #[.int .i64 x0, .int .i64 y0, .int .i64 x1, .int .i64 y1] 38 ∧ Blk v w.heap.size #[.int .i64 0, .int .i64 0, .int .i64 0, .int .i64 0] 38 ∧ Below w.heap.size w v := ⟨_, rfl⟩
      have Sa0t0 : Stands Sa0 := by rw [Sa0d]; exact ((stands_cell _ _).and ((stands_cell _ _).and ((stands_blk _ _ _).and ((stands_blk _ _ _).and (stands_below _)))))
      have Sa0u0 : ∀ v, Sa0 v → v.cell? (p.add (k * 2)) = some (.int .i64 qx) ∧ v.cell? ⟨(p.add (k * 2)).block, (p.add (k * 2)).off + 1, none⟩ = some (.int .i64 qy) ∧ Blk v R #[.int .i64 x0, .int .i64 y0, .int .i64 x1, .int .i64 y1] 38 ∧ Blk v w.heap.size #[.int .i64 0, .int .i64 0, .int .i64 0, .int .i64 0] 38 ∧ Below w.heap.size w v := fun v h => by rw [Sa0d] at h; exact h
      have Sa0m0 : ∀ v, (v.cell? (p.add (k * 2)) = some (.int .i64 qx) ∧ v.cell? ⟨(p.add (k * 2)).block, (p.add (k * 2)).off + 1, none⟩ = some (.int .i64 qy) ∧ Blk v R #[.int .i64 x0, .int .i64 y0, .int .i64 x1, .int .i64 y1] 38 ∧ Blk v w.heap.size #[.int .i64 0, .int .i64 0, .int .i64 0, .int .i64 0] 38 ∧ Below w.heap.size w v) → Sa0 v := fun v h => by rw [Sa0d]; exact h
      have Sa0u := Lib.hid Sa0u0
      have Sa0m := Lib.hid Sa0m0
      have Sa0t := Lib.hid Sa0t0
      clear Sa0d Sa0u0 Sa0m0 Sa0t0
      refine wp_region_X (S := Sa0) (by kernel_rfl) (Sa0m.out _ ⟨HC.out.1, HC.out.2, HB.out.1.drew, HB.out.2.1.drew, HB.out.2.2.drew⟩) ?_
      clear HB HC
      refine wpX_take (i := 0) (v := ?_) Sa0t.out rfl rfl (by kernel_rfl) (by kernel_rfl) (by kernel_rfl) (fun _ _ _ h => h) (SteadyX.value (by rfl) ?_) ?_
      rotate_left
      · (intro w_ hS; obtain ⟨q0, q1, q2, q3, q4⟩ := Sa0u.out _ hS; (have q2 := q2.four); (have q3 := q3.four); (clear q4); go_simp; try with_reducible rfl)
      simp only [List.setIfInBounds_toArray, List.set_cons_zero, List.set_cons_succ]
      refine wpX_take (i := 1) (v := ?_) Sa0t.out rfl rfl (by kernel_rfl) (by kernel_rfl) (by kernel_rfl) (fun _ _ _ h => h) (SteadyX.value (by rfl) ?_) ?_
      rotate_left
      · (intro w_ hS; obtain ⟨q0, q1, q2, q3, q4⟩ := Sa0u.out _ hS; (have q2 := q2.four); (have q3 := q3.four); (clear q4); go_simp; try with_reducible rfl)
      simp only [List.setIfInBounds_toArray, List.set_cons_zero, List.set_cons_succ]
      refine wpX_take (i := 2) (v := ?_) Sa0t.out rfl rfl (by kernel_rfl) (by kernel_rfl) (by kernel_rfl) (fun _ _ _ h => h) (SteadyX.value (by rfl) ?_) ?_
      rotate_left
      · (intro w_ hS; obtain ⟨q0, q1, q2, q3, q4⟩ := Sa0u.out _ hS; (have q2 := q2.four); (have q3 := q3.four); (clear q4); go_simp; try with_reducible rfl)
      simp only [List.setIfInBounds_toArray, List.set_cons_zero, List.set_cons_succ]
      refine wpX_take (i := 3) (v := ?_) Sa0t.out rfl rfl (by kernel_rfl) (by kernel_rfl) (by kernel_rfl) (fun _ _ _ h => h) (SteadyX.value (by rfl) ?_) ?_
      rotate_left
      · (intro w_ hS; obtain ⟨q0, q1, q2, q3, q4⟩ := Sa0u.out _ hS; (have q2 := q2.four); (have q3 := q3.four); (clear q4); go_simp; try with_reducible rfl)
      simp only [List.setIfInBounds_toArray, List.set_cons_zero, List.set_cons_succ]
      refine wpX_take (i := 4) (v := ?_) Sa0t.out rfl rfl (by kernel_rfl) (by kernel_rfl) (by kernel_rfl) (fun _ _ _ h => h) (SteadyX.value (by rfl) ?_) ?_
      rotate_left
      · (intro w_ hS; obtain ⟨q0, q1, q2, q3, q4⟩ := Sa0u.out _ hS; (have q2 := q2.four); (have q3 := q3.four); (clear q4); go_simp; try with_reducible rfl)
      simp only [List.setIfInBounds_toArray, List.set_cons_zero, List.set_cons_succ]
      refine wpX_take (i := 5) (v := ?_) Sa0t.out rfl rfl (by kernel_rfl) (by kernel_rfl) (by kernel_rfl) (fun _ _ _ h => h) (SteadyX.value (by rfl) ?_) ?_
      rotate_left
      · (intro w_ hS; obtain ⟨q0, q1, q2, q3, q4⟩ := Sa0u.out _ hS; (have q2 := q2.four); (have q3 := q3.four); (clear q4); go_simp; try with_reducible rfl)
      simp only [List.setIfInBounds_toArray, List.set_cons_zero, List.set_cons_succ]
      refine wpX_take (i := 6) (v := ?_) Sa0t.out rfl rfl (by kernel_rfl) (by kernel_rfl) (by kernel_rfl) (fun _ _ _ h => h) (SteadyX.value (by rfl) ?_) ?_
      rotate_left
      · (intro w_ hS; obtain ⟨q0, q1, q2, q3, q4⟩ := Sa0u.out _ hS; (have q2 := q2.four); (have q3 := q3.four); (clear q4); go_simp; try with_reducible rfl)
      simp only [List.setIfInBounds_toArray, List.set_cons_zero, List.set_cons_succ]
      refine wpX_take (i := 7) (v := ?_) Sa0t.out rfl rfl (by kernel_rfl) (by kernel_rfl) (by kernel_rfl) (fun _ _ _ h => h) (SteadyX.value (by rfl) ?_) ?_
      rotate_left
      · (intro w_ hS; obtain ⟨q0, q1, q2, q3, q4⟩ := Sa0u.out _ hS; (have q2 := q2.four); (have q3 := q3.four); (clear q4); go_simp; try with_reducible rfl)
      simp only [List.setIfInBounds_toArray, List.set_cons_zero, List.set_cons_succ]
      refine wpX_take (i := 8) (v := ?_) Sa0t.out rfl rfl (by kernel_rfl) (by kernel_rfl) (by kernel_rfl) (fun _ _ _ h => h) (SteadyX.value (by rfl) ?_) ?_
      rotate_left
      · (intro w_ hS; obtain ⟨q0, q1, q2, q3, q4⟩ := Sa0u.out _ hS; (have q2 := q2.four); (have q3 := q3.four); (clear q4); go_simp; try with_reducible rfl)
      simp only [List.setIfInBounds_toArray, List.set_cons_zero, List.set_cons_succ]
      refine wpX_take (i := 9) (v := ?_) Sa0t.out rfl rfl (by kernel_rfl) (by kernel_rfl) (by kernel_rfl) (fun _ _ _ h => h) (SteadyX.value (by rfl) ?_) ?_
      rotate_left
      · (intro w_ hS; obtain ⟨q0, q1, q2, q3, q4⟩ := Sa0u.out _ hS; (have q2 := q2.four); (have q3 := q3.four); (clear q4); go_simp; try with_reducible rfl)
      simp only [List.setIfInBounds_toArray, List.set_cons_zero, List.set_cons_succ]
      refine wpX_take (i := 10) (v := ?_) Sa0t.out rfl rfl (by kernel_rfl) (by kernel_rfl) (by kernel_rfl) (fun _ _ _ h => h) (SteadyX.value (by rfl) ?_) ?_
      rotate_left
      · (intro w_ hS; obtain ⟨q0, q1, q2, q3, q4⟩ := Sa0u.out _ hS; (have q2 := q2.four); (have q3 := q3.four); (clear q4); go_simp; try with_reducible rfl)
      simp only [List.setIfInBounds_toArray, List.set_cons_zero, List.set_cons_succ]
      refine wpX_take (i := 11) (v := ?_) Sa0t.out rfl rfl (by kernel_rfl) (by kernel_rfl) (by kernel_rfl) (fun _ _ _ h => h) (SteadyX.value (by rfl) ?_) ?_
      rotate_left
      · (intro w_ hS; obtain ⟨q0, q1, q2, q3, q4⟩ := Sa0u.out _ hS; (have q2 := q2.four); (have q3 := q3.four); (clear q4); go_simp; try with_reducible rfl)
      simp only [List.setIfInBounds_toArray, List.set_cons_zero, List.set_cons_succ]
      refine wpX_take (i := 12) (v := ?_) Sa0t.out rfl rfl (by kernel_rfl) (by kernel_rfl) (by kernel_rfl) (fun _ _ _ h => h) (SteadyX.value (by rfl) ?_) ?_
      rotate_left
      · (intro w_ hS; obtain ⟨q0, q1, q2, q3, q4⟩ := Sa0u.out _ hS; (have q2 := q2.four); (have q3 := q3.four); (clear q4); go_simp; try with_reducible rfl)
      simp only [List.setIfInBounds_toArray, List.set_cons_zero, List.set_cons_succ]
      refine wpX_take (i := 13) (v := ?_) Sa0t.out rfl rfl (by kernel_rfl) (by kernel_rfl) (by kernel_rfl) (fun _ _ _ h => h) (SteadyX.value (by rfl) ?_) ?_
      rotate_left
      · (intro w_ hS; obtain ⟨q0, q1, q2, q3, q4⟩ := Sa0u.out _ hS; (have q2 := q2.four); (have q3 := q3.four); (clear q4); go_simp; try with_reducible rfl)
      simp only [List.setIfInBounds_toArray, List.set_cons_zero, List.set_cons_succ]
      refine wpX_take (i := 14) (v := ?_) Sa0t.out rfl rfl (by kernel_rfl) (by kernel_rfl) (by kernel_rfl) (fun _ _ _ h => h) (SteadyX.value (by rfl) ?_) ?_
      rotate_left
      · (intro w_ hS; obtain ⟨q0, q1, q2, q3, q4⟩ := Sa0u.out _ hS; (have q2 := q2.four); (have q3 := q3.four); (clear q4); go_simp; try with_reducible rfl)
      simp only [List.setIfInBounds_toArray, List.set_cons_zero, List.set_cons_succ]
      refine wpX_take (i := 15) (v := ?_) Sa0t.out rfl rfl (by kernel_rfl) (by kernel_rfl) (by kernel_rfl) (fun _ _ _ h => h) (SteadyX.value (by rfl) ?_) ?_
      rotate_left
      · (intro w_ hS; obtain ⟨q0, q1, q2, q3, q4⟩ := Sa0u.out _ hS; (have q2 := q2.four); (have q3 := q3.four); (clear q4); go_simp; try with_reducible rfl)
      simp only [List.setIfInBounds_toArray, List.set_cons_zero, List.set_cons_succ]
      refine wpX_take (i := 16) (v := ?_) Sa0t.out rfl rfl (by kernel_rfl) (by kernel_rfl) (by kernel_rfl) (fun _ _ _ h => h) (SteadyX.value (by rfl) ?_) ?_
      rotate_left
      · (intro w_ hS; obtain ⟨q0, q1, q2, q3, q4⟩ := Sa0u.out _ hS; (have q2 := q2.four); (have q3 := q3.four); (clear q4); go_simp; try with_reducible rfl)
      simp only [List.setIfInBounds_toArray, List.set_cons_zero, List.set_cons_succ]
      refine wpX_take (i := 17) (v := ?_) Sa0t.out rfl rfl (by kernel_rfl) (by kernel_rfl) (by kernel_rfl) (fun _ _ _ h => h) (SteadyX.value (by rfl) ?_) ?_
      rotate_left
      · (intro w_ hS; obtain ⟨q0, q1, q2, q3, q4⟩ := Sa0u.out _ hS; (have q2 := q2.four); (have q3 := q3.four); (clear q4); go_simp; try with_reducible rfl)
      simp only [List.setIfInBounds_toArray, List.set_cons_zero, List.set_cons_succ]
      refine wpX_take (i := 18) (v := ?_) Sa0t.out rfl rfl (by kernel_rfl) (by kernel_rfl) (by kernel_rfl) (fun _ _ _ h => h) (SteadyX.value (by rfl) ?_) ?_
      rotate_left
      · (intro w_ hS; obtain ⟨q0, q1, q2, q3, q4⟩ := Sa0u.out _ hS; (have q2 := q2.four); (have q3 := q3.four); (clear q4); go_simp; try with_reducible rfl)
      simp only [List.setIfInBounds_toArray, List.set_cons_zero, List.set_cons_succ]
      refine wpX_take (i := 19) (v := ?_) Sa0t.out rfl rfl (by kernel_rfl) (by kernel_rfl) (by kernel_rfl) (fun _ _ _ h => h) (SteadyX.value (by rfl) ?_) ?_
      rotate_left
      · (intro w_ hS; obtain ⟨q0, q1, q2, q3, q4⟩ := Sa0u.out _ hS; (have q2 := q2.four); (have q3 := q3.four); (clear q4); go_simp; try with_reducible rfl)
      simp only [List.setIfInBounds_toArray, List.set_cons_zero, List.set_cons_succ]
      refine wpX_take (i := 20) (v := ?_) Sa0t.out rfl rfl (by kernel_rfl) (by kernel_rfl) (by kernel_rfl) (fun _ _ _ h => h) (SteadyX.value (by rfl) ?_) ?_
      rotate_left
      · (intro w_ hS; obtain ⟨q0, q1, q2, q3, q4⟩ := Sa0u.out _ hS; (have q2 := q2.four); (have q3 := q3.four); (clear q4); go_simp; try with_reducible rfl)
      simp only [List.setIfInBounds_toArray, List.set_cons_zero, List.set_cons_succ]
      refine wpX_take (i := 21) (v := ?_) Sa0t.out rfl rfl (by kernel_rfl) (by kernel_rfl) (by kernel_rfl) (fun _ _ _ h => h) (SteadyX.value (by rfl) ?_) ?_
      rotate_left
      · (intro w_ hS; obtain ⟨q0, q1, q2, q3, q4⟩ := Sa0u.out _ hS; (have q2 := q2.four); (have q3 := q3.four); (clear q4); go_simp; try with_reducible rfl)
      simp only [List.setIfInBounds_toArray, List.set_cons_zero, List.set_cons_succ]
      refine wpX_take (i := 22) Sa0t.out rfl rfl (by kernel_rfl) (by kernel_rfl) (by kernel_rfl) (fun _ _ _ h => h) (SteadyX.call (by rfl) (fun w_ hS => KJ.out w_) (fun w_ hS => by (obtain ⟨q0, q1, q2, q3, q4⟩ := Sa0u.out _ hS; (have q2 := q2.four); (have q3 := q3.four); (clear q4); go_simp))) ?_
      simp only [List.setIfInBounds_toArray, List.set_cons_zero, List.set_cons_succ]
      refine wpX_one (i := 23) (by kernel_rfl) (fun w_ hS => ?_)
      obtain ⟨q0, q1, q2, q3, q4⟩ := Sa0u.out _ hS
      obtain ⟨Sa1, Sa1d⟩ : ∃ S : World → Prop, S = fun v : World => v.cell? (p.add (k * 2)) = some (.int .i64 qx) ∧ v.cell? ⟨(p.add (k * 2)).block, (p.add (k * 2)).off + 1, none⟩ = some (.int .i64 qy) ∧ Blk v R #[.int .i64 z0, .int .i64 z1, .int .i64 z2, .int .i64 z3] 38 ∧ Blk v w.heap.size #[.int .i64 0, .int .i64 0, .int .i64 0, .int .i64 0] 38 ∧ Below w.heap.size w v := ⟨_, rfl⟩
      have Sa1t0 : Stands Sa1 := by rw [Sa1d]; exact ((stands_cell _ _).and ((stands_cell _ _).and ((stands_blk _ _ _).and ((stands_blk _ _ _).and (stands_below _)))))
      have Sa1u0 : ∀ v, Sa1 v → v.cell? (p.add (k * 2)) = some (.int .i64 qx) ∧ v.cell? ⟨(p.add (k * 2)).block, (p.add (k * 2)).off + 1, none⟩ = some (.int .i64 qy) ∧ Blk v R #[.int .i64 z0, .int .i64 z1, .int .i64 z2, .int .i64 z3] 38 ∧ Blk v w.heap.size #[.int .i64 0, .int .i64 0, .int .i64 0, .int .i64 0] 38 ∧ Below w.heap.size w v := fun v h => by rw [Sa1d] at h; exact h
      have Sa1m0 : ∀ v, (v.cell? (p.add (k * 2)) = some (.int .i64 qx) ∧ v.cell? ⟨(p.add (k * 2)).block, (p.add (k * 2)).off + 1, none⟩ = some (.int .i64 qy) ∧ Blk v R #[.int .i64 z0, .int .i64 z1, .int .i64 z2, .int .i64 z3] 38 ∧ Blk v w.heap.size #[.int .i64 0, .int .i64 0, .int .i64 0, .int .i64 0] 38 ∧ Below w.heap.size w v) → Sa1 v := fun v h => by rw [Sa1d]; exact h
      have Sa1u := Lib.hid Sa1u0
      have Sa1m := Lib.hid Sa1m0
      have Sa1t := Lib.hid Sa1t0
      clear Sa1d Sa1u0 Sa1m0 Sa1t0
      have n2 : Blk ((((w_.setCell ⟨R, 0, none⟩ (.int .i64 z0)).setCell ⟨R, 1, none⟩ (.int .i64 z1)).setCell ⟨R, 2, none⟩ (.int .i64 z2)).setCell ⟨R, 3, none⟩ (.int .i64 z3)) R #[.int .i64 z0, .int .i64 z1, .int .i64 z2, .int .i64 z3] 38 := by have h := ((((q2.set 0 (.int .i64 z0)).set 1 (.int .i64 z1)).set 2 (.int .i64 z2)).set 3 (.int .i64 z3)); simpa using h
      have st_ : Sa1 ((((w_.setCell ⟨R, 0, none⟩ (.int .i64 z0)).setCell ⟨R, 1, none⟩ (.int .i64 z1)).setCell ⟨R, 2, none⟩ (.int .i64 z2)).setCell ⟨R, 3, none⟩ (.int .i64 z3)) := Sa1m.out _ ⟨(cell_set (cell_set (cell_set (cell_set q0 (by show R ≠ (p.add (k * 2)).block; omega)) (by show R ≠ (p.add (k * 2)).block; omega)) (by show R ≠ (p.add (k * 2)).block; omega)) (by show R ≠ (p.add (k * 2)).block; omega)), (cell_set (cell_set (cell_set (cell_set q1 (by show R ≠ (p.add (k * 2)).block; omega)) (by show R ≠ (p.add (k * 2)).block; omega)) (by show R ≠ (p.add (k * 2)).block; omega)) (by show R ≠ (p.add (k * 2)).block; omega)), n2, ((((((((q3).other (a := ⟨R, 0, none⟩) (by show w.heap.size ≠ R; omega) _)).other (a := ⟨R, 1, none⟩) (by show w.heap.size ≠ R; omega) _)).other (a := ⟨R, 2, none⟩) (by show w.heap.size ≠ R; omega) _)).other (a := ⟨R, 3, none⟩) (by show w.heap.size ≠ R; omega) _), ((((((((q4).setCell (p := ⟨R, 0, none⟩) (by show w.heap.size ≤ R; omega) _)).setCell (p := ⟨R, 1, none⟩) (by show w.heap.size ≤ R; omega) _)).setCell (p := ⟨R, 2, none⟩) (by show w.heap.size ≤ R; omega) _)).setCell (p := ⟨R, 3, none⟩) (by show w.heap.size ≤ R; omega) _)⟩
      have r_ := q2.four
      refine wpX_store (i := 23) (w' := ((((w_.setCell ⟨R, 0, none⟩ (.int .i64 z0)).setCell ⟨R, 1, none⟩ (.int .i64 z1)).setCell ⟨R, 2, none⟩ (.int .i64 z2)).setCell ⟨R, 3, none⟩ (.int .i64 z3))) Sa1 rfl rfl (by rfl) (by go_simp) Sa1t.out (.inl (by kernel_rfl)) st_ ?_
      clear r_ hS st_ q0 q1 q2 q3 q4 n2
      clear w_
      refine wpX_done (by kernel_rfl) (fun W hS => ?_) _
      obtain ⟨q0, q1, q2, q3, q4⟩ := Sa1u.out _ hS
      clear hS Sa0u Sa0m Sa0t Sa1u Sa1m Sa1t
      clear Sa0 Sa1
      have HB2 := Lib.hid (And.intro q2 (And.intro q3 q4))
      clear q0 q1 q2 q3 q4
      go_wp2
      go_round
      case rel => exact ⟨k + 1, z0, z1, z2, z3, by omega, by omega, val_int rfl, HB2, HF1⟩
      case measure => simp only [intOf]; omega
    · have hkn : k = n := by omega
      have hres : bndL l = ⟨x0, y0, x1, y1⟩ := by
        have h := HF.out
        rw [hkn, ← HN.out, List.take_length] at h
        have hl := HN.out
        have ha := HA.out
        cases l with
        | nil => simp at hl; omega
        | cons a l => simp only [List.getElem_cons_zero] at ha; subst ha; exact h
      have lWR : w.heap.size < R := HLR.out
      have hne : ¬ R = w.heap.size := by omega
      have c0 := HB.out.1.four
      have c1 := HB.out.2.1.four
      have r2 := ((((HB.out.2.1.set 0 (.int .i64 x0)).set 1 (.int .i64 y0)).set 2 (.int .i64 x1)).set 3 (.int .i64 y1)).four
      have HG := Lib.hid HB.out.2.2
      clear HB
      go_wp2
      refine bodyPost_ret (v := rc (bndL l)) ?_ rfl ⟨rfl, ?_⟩
      · rw [hres]
        simp [results, Try.results32, go_sem, r2]
      · exact (((HG.out.setCell (by show _ ≤ w.heap.size; omega) _).setCell (by show _ ≤ w.heap.size; omega) _).setCell (by show _ ≤ w.heap.size; omega) _).setCell (by show _ ≤ w.heap.size; omega) _
end Go.Proofs.Ytkneohngbkmlpaa
