/- Walks: the reference's On, Cross, Meet. -/
import Derived.Test.YtkneohngbkmlpaaW15
namespace Go.Proofs.Ytkneohngbkmlpaa
open Go.RowKit

theorem refOn_road (ax ay bx byy cx cy : Int) (t : Int) (x y : Bool)
    (k1 : ∀ w, Calls Try.prog 17 #[.agg #[.int .i64 ax, .int .i64 ay], .agg #[.int .i64 bx, .int .i64 byy], .agg #[.int .i64 cx, .int .i64 cy]] w fun e w' => e = .returned (.int .i64 t) ∧ Below w.heap.size w w')
    (k2 : ∀ w, Calls Try.prog 44 #[.int .i64 ax, .int .i64 cx, .int .i64 bx] w fun e w' => e = .returned (.bool x) ∧ w = w')
    (k3 : ∀ w, Calls Try.prog 44 #[.int .i64 ay, .int .i64 cy, .int .i64 byy] w fun e w' => e = .returned (.bool y) ∧ w = w')
    (w : World) :
    Calls Try.prog 18 #[.agg #[.int .i64 ax, .int .i64 ay], .agg #[.int .i64 bx, .int .i64 byy], .agg #[.int .i64 cx, .int .i64 cy]] w fun e w' => e = .returned (.bool (decide (t = 0) && x && y)) ∧ Below w.heap.size w w' := by
  have keep : ∀ a b : World, Below a.heap.size a b → (fun v : World => v.cell? ⟨w.heap.size, 0, none⟩ = some (.int .i64 ax) ∧ v.cell? ⟨w.heap.size, 1, none⟩ = some (.int .i64 ay) ∧ v.cell? ⟨w.heap.size + 1, 0, none⟩ = some (.int .i64 bx) ∧ v.cell? ⟨w.heap.size + 1, 1, none⟩ = some (.int .i64 byy) ∧ v.cell? ⟨w.heap.size + 1 + 1, 0, none⟩ = some (.int .i64 cx) ∧ v.cell? ⟨w.heap.size + 1 + 1, 1, none⟩ = some (.int .i64 cy) ∧ Below w.heap.size w v) a → (fun v : World => v.cell? ⟨w.heap.size, 0, none⟩ = some (.int .i64 ax) ∧ v.cell? ⟨w.heap.size, 1, none⟩ = some (.int .i64 ay) ∧ v.cell? ⟨w.heap.size + 1, 0, none⟩ = some (.int .i64 bx) ∧ v.cell? ⟨w.heap.size + 1, 1, none⟩ = some (.int .i64 byy) ∧ v.cell? ⟨w.heap.size + 1 + 1, 0, none⟩ = some (.int .i64 cx) ∧ v.cell? ⟨w.heap.size + 1 + 1, 1, none⟩ = some (.int .i64 cy) ∧ Below w.heap.size w v) b :=
    fun a b hb ⟨h0, h1, h2, h3, h4, h5, h6⟩ => ⟨cell_grew h0 hb, cell_grew h1 hb, cell_grew h2 hb, cell_grew h3 hb, cell_grew h4 hb, cell_grew h5 hb, grow h6 hb⟩
  have KS := Lib.hid keep
  clear keep
  obtain ⟨w0, hw0, p0, p1, p2, g0, z0⟩ := boxes3 w #[.int .i64 ax, .int .i64 ay] #[.int .i64 bx, .int .i64 byy] #[.int .i64 cx, .int .i64 cy] 24 24 24
  have hS0 : (fun v : World => v.cell? ⟨w.heap.size, 0, none⟩ = some (.int .i64 ax) ∧ v.cell? ⟨w.heap.size, 1, none⟩ = some (.int .i64 ay) ∧ v.cell? ⟨w.heap.size + 1, 0, none⟩ = some (.int .i64 bx) ∧ v.cell? ⟨w.heap.size + 1, 1, none⟩ = some (.int .i64 byy) ∧ v.cell? ⟨w.heap.size + 1 + 1, 0, none⟩ = some (.int .i64 cx) ∧ v.cell? ⟨w.heap.size + 1 + 1, 1, none⟩ = some (.int .i64 cy) ∧ Below w.heap.size w v) w0 := ⟨p0.two.1, p0.two.2.1, p1.two.1, p1.two.2.1, p2.two.1, p2.two.2.1, g0⟩
  clear p0 p1 p2 z0 g0
  have K1 := Lib.hid k1
  have K2 := Lib.hid k2
  have K3 := Lib.hid k3
  clear k1 k2 k3
  by_cases h : t = 0
  · rw [decide_eq_true h]
    subst h
    cases x
    · go_enter Try.func18, Try.ntmps18
      go_wp2_with fail
      clear hw0
      obtain ⟨c0, c1, c2, c3, c4, c5, c6⟩ := id hS0
      refine (K1.out _).mono ?_
      rintro e w1 ⟨rfl, hb⟩
      have hS1 := KS.out _ _ hb hS0
      have HS1 := Lib.hid hS1
      clear hb hS0 c0 c1 c2 c3 c4 c5 c6
      obtain ⟨c0, c1, c2, c3, c4, c5, c6⟩ := hS1
      have C6 := Lib.hid c6
      clear c6
      go_wp2_with fail
      refine (K2.out _).mono ?_
      rintro e v0 ⟨rfl, rfl⟩
      go_wp2
      go_ret
      exact ⟨rfl, C6.out⟩
    · go_enter Try.func18, Try.ntmps18
      go_wp2_with fail
      clear hw0
      obtain ⟨c0, c1, c2, c3, c4, c5, c6⟩ := id hS0
      refine (K1.out _).mono ?_
      rintro e w1 ⟨rfl, hb⟩
      have hS1 := KS.out _ _ hb hS0
      have HS1 := Lib.hid hS1
      clear hb hS0 c0 c1 c2 c3 c4 c5 c6
      obtain ⟨c0, c1, c2, c3, c4, c5, c6⟩ := hS1
      have C6 := Lib.hid c6
      clear c6
      go_wp2_with fail
      refine (K2.out _).mono ?_
      rintro e v0 ⟨rfl, rfl⟩
      go_wp2_with fail
      refine (K3.out _).mono ?_
      rintro e v1 ⟨rfl, rfl⟩
      go_wp2
      go_ret
      exact ⟨rfl, C6.out⟩
  · rw [decide_eq_false h]
    go_enter Try.func18, Try.ntmps18
    go_wp2_with fail
    clear hw0
    obtain ⟨c0, c1, c2, c3, c4, c5, c6⟩ := id hS0
    refine (K1.out _).mono ?_
    rintro e w1 ⟨rfl, hb⟩
    have hS1 := KS.out _ _ hb hS0
    have HS1 := Lib.hid hS1
    clear hb hS0 c0 c1 c2 c3 c4 c5 c6
    obtain ⟨c0, c1, c2, c3, c4, c5, c6⟩ := hS1
    have C6 := Lib.hid c6
    clear c6
    go_wp2
    go_ret
    exact ⟨rfl, C6.out⟩

set_option maxHeartbeats 4000000 in
theorem refCross_road (ax ay bx byy cx cy dx dy : Int) (s0 s1 s2 s3 p q : Int) (x y : Bool) (hp : IntKind.i64.wrap (s0 * s1) = p) (hq : IntKind.i64.wrap (s2 * s3) = q) (hx : (p == -1) = x) (hy : (q == -1) = y)
    (k1 : ∀ w, Calls Try.prog 17 #[.agg #[.int .i64 ax, .int .i64 ay], .agg #[.int .i64 bx, .int .i64 byy], .agg #[.int .i64 cx, .int .i64 cy]] w fun e w' => e = .returned (.int .i64 s0) ∧ Below w.heap.size w w')
    (k2 : ∀ w, Calls Try.prog 17 #[.agg #[.int .i64 ax, .int .i64 ay], .agg #[.int .i64 bx, .int .i64 byy], .agg #[.int .i64 dx, .int .i64 dy]] w fun e w' => e = .returned (.int .i64 s1) ∧ Below w.heap.size w w')
    (k3 : ∀ w, Calls Try.prog 17 #[.agg #[.int .i64 cx, .int .i64 cy], .agg #[.int .i64 dx, .int .i64 dy], .agg #[.int .i64 ax, .int .i64 ay]] w fun e w' => e = .returned (.int .i64 s2) ∧ Below w.heap.size w w')
    (k4 : ∀ w, Calls Try.prog 17 #[.agg #[.int .i64 cx, .int .i64 cy], .agg #[.int .i64 dx, .int .i64 dy], .agg #[.int .i64 bx, .int .i64 byy]] w fun e w' => e = .returned (.int .i64 s3) ∧ Below w.heap.size w w')
    (w : World) :
    Calls Try.prog 24 #[.agg #[.int .i64 ax, .int .i64 ay], .agg #[.int .i64 bx, .int .i64 byy], .agg #[.int .i64 cx, .int .i64 cy], .agg #[.int .i64 dx, .int .i64 dy]] w fun e w' => e = .returned (.bool (x && y)) ∧ Below w.heap.size w w' := by
  have keep : ∀ a b : World, Below a.heap.size a b → (fun v : World => v.cell? ⟨w.heap.size, 0, none⟩ = some (.int .i64 ax) ∧ v.cell? ⟨w.heap.size, 1, none⟩ = some (.int .i64 ay) ∧ v.cell? ⟨w.heap.size + 1, 0, none⟩ = some (.int .i64 bx) ∧ v.cell? ⟨w.heap.size + 1, 1, none⟩ = some (.int .i64 byy) ∧ v.cell? ⟨w.heap.size + 1 + 1, 0, none⟩ = some (.int .i64 cx) ∧ v.cell? ⟨w.heap.size + 1 + 1, 1, none⟩ = some (.int .i64 cy) ∧ v.cell? ⟨w.heap.size + 1 + 1 + 1, 0, none⟩ = some (.int .i64 dx) ∧ v.cell? ⟨w.heap.size + 1 + 1 + 1, 1, none⟩ = some (.int .i64 dy) ∧ Below w.heap.size w v) a → (fun v : World => v.cell? ⟨w.heap.size, 0, none⟩ = some (.int .i64 ax) ∧ v.cell? ⟨w.heap.size, 1, none⟩ = some (.int .i64 ay) ∧ v.cell? ⟨w.heap.size + 1, 0, none⟩ = some (.int .i64 bx) ∧ v.cell? ⟨w.heap.size + 1, 1, none⟩ = some (.int .i64 byy) ∧ v.cell? ⟨w.heap.size + 1 + 1, 0, none⟩ = some (.int .i64 cx) ∧ v.cell? ⟨w.heap.size + 1 + 1, 1, none⟩ = some (.int .i64 cy) ∧ v.cell? ⟨w.heap.size + 1 + 1 + 1, 0, none⟩ = some (.int .i64 dx) ∧ v.cell? ⟨w.heap.size + 1 + 1 + 1, 1, none⟩ = some (.int .i64 dy) ∧ Below w.heap.size w v) b :=
    fun a b hb ⟨h0, h1, h2, h3, h4, h5, h6, h7, h8⟩ => ⟨cell_grew h0 hb, cell_grew h1 hb, cell_grew h2 hb, cell_grew h3 hb, cell_grew h4 hb, cell_grew h5 hb, cell_grew h6 hb, cell_grew h7 hb, grow h8 hb⟩
  have KS := Lib.hid keep
  clear keep
  obtain ⟨w0, hw0, p0, p1, p2, p3, g0, z0⟩ := boxes4 w #[.int .i64 ax, .int .i64 ay] #[.int .i64 bx, .int .i64 byy] #[.int .i64 cx, .int .i64 cy] #[.int .i64 dx, .int .i64 dy] 24 24 24 24
  have hS0 : (fun v : World => v.cell? ⟨w.heap.size, 0, none⟩ = some (.int .i64 ax) ∧ v.cell? ⟨w.heap.size, 1, none⟩ = some (.int .i64 ay) ∧ v.cell? ⟨w.heap.size + 1, 0, none⟩ = some (.int .i64 bx) ∧ v.cell? ⟨w.heap.size + 1, 1, none⟩ = some (.int .i64 byy) ∧ v.cell? ⟨w.heap.size + 1 + 1, 0, none⟩ = some (.int .i64 cx) ∧ v.cell? ⟨w.heap.size + 1 + 1, 1, none⟩ = some (.int .i64 cy) ∧ v.cell? ⟨w.heap.size + 1 + 1 + 1, 0, none⟩ = some (.int .i64 dx) ∧ v.cell? ⟨w.heap.size + 1 + 1 + 1, 1, none⟩ = some (.int .i64 dy) ∧ Below w.heap.size w v) w0 := ⟨p0.two.1, p0.two.2.1, p1.two.1, p1.two.2.1, p2.two.1, p2.two.2.1, p3.two.1, p3.two.2.1, g0⟩
  clear p0 p1 p2 p3 z0 g0
  have drew : ∀ a : World, (fun v : World => v.cell? ⟨w.heap.size, 0, none⟩ = some (.int .i64 ax) ∧ v.cell? ⟨w.heap.size, 1, none⟩ = some (.int .i64 ay) ∧ v.cell? ⟨w.heap.size + 1, 0, none⟩ = some (.int .i64 bx) ∧ v.cell? ⟨w.heap.size + 1, 1, none⟩ = some (.int .i64 byy) ∧ v.cell? ⟨w.heap.size + 1 + 1, 0, none⟩ = some (.int .i64 cx) ∧ v.cell? ⟨w.heap.size + 1 + 1, 1, none⟩ = some (.int .i64 cy) ∧ v.cell? ⟨w.heap.size + 1 + 1 + 1, 0, none⟩ = some (.int .i64 dx) ∧ v.cell? ⟨w.heap.size + 1 + 1 + 1, 1, none⟩ = some (.int .i64 dy) ∧ Below w.heap.size w v) a → (fun v : World => v.cell? ⟨w.heap.size, 0, none⟩ = some (.int .i64 ax) ∧ v.cell? ⟨w.heap.size, 1, none⟩ = some (.int .i64 ay) ∧ v.cell? ⟨w.heap.size + 1, 0, none⟩ = some (.int .i64 bx) ∧ v.cell? ⟨w.heap.size + 1, 1, none⟩ = some (.int .i64 byy) ∧ v.cell? ⟨w.heap.size + 1 + 1, 0, none⟩ = some (.int .i64 cx) ∧ v.cell? ⟨w.heap.size + 1 + 1, 1, none⟩ = some (.int .i64 cy) ∧ v.cell? ⟨w.heap.size + 1 + 1 + 1, 0, none⟩ = some (.int .i64 dx) ∧ v.cell? ⟨w.heap.size + 1 + 1 + 1, 1, none⟩ = some (.int .i64 dy) ∧ Below w.heap.size w v) a.drew :=
    fun a ⟨h0, h1, h2, h3, h4, h5, h6, h7, h8⟩ => ⟨h0, h1, h2, h3, h4, h5, h6, h7, h8.drew⟩
  have HD := Lib.hid drew
  clear drew
  have K1 := Lib.hid k1
  have K2 := Lib.hid k2
  have K3 := Lib.hid k3
  have K4 := Lib.hid k4
  clear k1 k2 k3 k4
  cases x
  · go_enter Try.func24, Try.ntmps24
    go_wp2_with fail
    refine wp_region_steady (S := (fun v : World => v.cell? ⟨w.heap.size, 0, none⟩ = some (.int .i64 ax) ∧ v.cell? ⟨w.heap.size, 1, none⟩ = some (.int .i64 ay) ∧ v.cell? ⟨w.heap.size + 1, 0, none⟩ = some (.int .i64 bx) ∧ v.cell? ⟨w.heap.size + 1, 1, none⟩ = some (.int .i64 byy) ∧ v.cell? ⟨w.heap.size + 1 + 1, 0, none⟩ = some (.int .i64 cx) ∧ v.cell? ⟨w.heap.size + 1 + 1, 1, none⟩ = some (.int .i64 cy) ∧ v.cell? ⟨w.heap.size + 1 + 1 + 1, 0, none⟩ = some (.int .i64 dx) ∧ v.cell? ⟨w.heap.size + 1 + 1 + 1, 1, none⟩ = some (.int .i64 dy) ∧ Below w.heap.size w v)) (by kernel_rfl) (HD.out _ hS0) ?_
    refine wpS_take (i := 0) (v := ?_) rfl rfl (by kernel_rfl) (by kernel_rfl) (by kernel_rfl) (fun _ _ _ h => h) (Steady.value (by rfl) ?_) ?_
    rotate_left
    · (intro w hS; (try dsimp only at hS); go_simp; try with_reducible rfl)
    simp only [List.setIfInBounds_toArray, List.set_cons_zero, List.set_cons_succ]
    refine wpS_take (i := 1) (v := ?_) rfl rfl (by kernel_rfl) (by kernel_rfl) (by kernel_rfl) (fun _ _ _ h => h) (Steady.value (by rfl) ?_) ?_
    rotate_left
    · (intro w hS; (try dsimp only at hS); go_simp; try with_reducible rfl)
    simp only [List.setIfInBounds_toArray, List.set_cons_zero, List.set_cons_succ]
    refine wpS_take (i := 2) (v := ?_) rfl rfl (by kernel_rfl) (by kernel_rfl) (by kernel_rfl) (fun _ _ _ h => h) (Steady.value (by rfl) ?_) ?_
    rotate_left
    · (intro w hS; (try dsimp only at hS); go_simp; try with_reducible rfl)
    simp only [List.setIfInBounds_toArray, List.set_cons_zero, List.set_cons_succ]
    refine wpS_take (i := 3) rfl rfl (by kernel_rfl) (by kernel_rfl) (by kernel_rfl) (fun _ _ _ h => h) (Steady.call (by rfl) (steady_below KS.out K1.out) (fun w hS => by (go_simp))) ?_
    simp only [List.setIfInBounds_toArray, List.set_cons_zero, List.set_cons_succ]
    refine wpS_take (i := 4) (v := ?_) rfl rfl (by kernel_rfl) (by kernel_rfl) (by kernel_rfl) (fun _ _ _ h => h) (Steady.value (by rfl) ?_) ?_
    rotate_left
    · (intro w hS; (try dsimp only at hS); go_simp; try with_reducible rfl)
    simp only [List.setIfInBounds_toArray, List.set_cons_zero, List.set_cons_succ]
    refine wpS_take (i := 5) (v := ?_) rfl rfl (by kernel_rfl) (by kernel_rfl) (by kernel_rfl) (fun _ _ _ h => h) (Steady.value (by rfl) ?_) ?_
    rotate_left
    · (intro w hS; (try dsimp only at hS); go_simp; try with_reducible rfl)
    simp only [List.setIfInBounds_toArray, List.set_cons_zero, List.set_cons_succ]
    refine wpS_take (i := 6) (v := ?_) rfl rfl (by kernel_rfl) (by kernel_rfl) (by kernel_rfl) (fun _ _ _ h => h) (Steady.value (by rfl) ?_) ?_
    rotate_left
    · (intro w hS; (try dsimp only at hS); go_simp; try with_reducible rfl)
    simp only [List.setIfInBounds_toArray, List.set_cons_zero, List.set_cons_succ]
    refine wpS_take (i := 7) rfl rfl (by kernel_rfl) (by kernel_rfl) (by kernel_rfl) (fun _ _ _ h => h) (Steady.call (by rfl) (steady_below KS.out K2.out) (fun w hS => by (go_simp))) ?_
    simp only [List.setIfInBounds_toArray, List.set_cons_zero, List.set_cons_succ]
    refine wpS_take (i := 8) (v := ?_) rfl rfl (by kernel_rfl) (by kernel_rfl) (by kernel_rfl) (fun _ _ _ h => h) (Steady.value (by rfl) ?_) ?_
    rotate_left
    · (intro w hS; (try dsimp only at hS); go_simp; try with_reducible rfl)
    simp only [List.setIfInBounds_toArray, List.set_cons_zero, List.set_cons_succ]
    refine wpS_take (i := 9) (v := ?_) rfl rfl (by kernel_rfl) (by kernel_rfl) (by kernel_rfl) (fun _ _ _ h => h) (Steady.value (by rfl) ?_) ?_
    rotate_left
    · (intro w hS; (try dsimp only at hS); go_simp; try with_reducible rfl)
    simp only [List.setIfInBounds_toArray, List.set_cons_zero, List.set_cons_succ]
    refine wpS_take (i := 10) (v := ?_) rfl rfl (by kernel_rfl) (by kernel_rfl) (by kernel_rfl) (fun _ _ _ h => h) (Steady.value (by rfl) ?_) ?_
    rotate_left
    · (intro w hS; (try dsimp only at hS); go_simp; try with_reducible rfl)
    simp only [List.setIfInBounds_toArray, List.set_cons_zero, List.set_cons_succ]
    refine wpS_take (i := 11) (v := undef) rfl rfl (by kernel_rfl) (by kernel_rfl) (by kernel_rfl) (fun _ _ _ h => h) (Steady.off (by rfl)) ?_
    simp only [List.setIfInBounds_toArray, List.set_cons_zero, List.set_cons_succ]
    refine wpS_take (i := 12) (v := undef) rfl rfl (by kernel_rfl) (by kernel_rfl) (by kernel_rfl) (fun _ _ _ h => h) (Steady.off (by rfl)) ?_
    simp only [List.setIfInBounds_toArray, List.set_cons_zero, List.set_cons_succ]
    refine wpS_take (i := 13) (v := undef) rfl rfl (by kernel_rfl) (by kernel_rfl) (by kernel_rfl) (fun _ _ _ h => h) (Steady.off (by rfl)) ?_
    simp only [List.setIfInBounds_toArray, List.set_cons_zero, List.set_cons_succ]
    refine wpS_take (i := 14) (v := undef) rfl rfl (by kernel_rfl) (by kernel_rfl) (by kernel_rfl) (fun _ _ _ h => h) (Steady.off (by rfl)) ?_
    simp only [List.setIfInBounds_toArray, List.set_cons_zero, List.set_cons_succ]
    refine wpS_take (i := 15) (v := undef) rfl rfl (by kernel_rfl) (by kernel_rfl) (by kernel_rfl) (fun _ _ _ h => h) (Steady.off (by rfl)) ?_
    simp only [List.setIfInBounds_toArray, List.set_cons_zero, List.set_cons_succ]
    refine wpS_take (i := 16) (v := undef) rfl rfl (by kernel_rfl) (by kernel_rfl) (by kernel_rfl) (fun _ _ _ h => h) (Steady.off (by rfl)) ?_
    simp only [List.setIfInBounds_toArray, List.set_cons_zero, List.set_cons_succ]
    refine wpS_take (i := 17) (v := undef) rfl rfl (by kernel_rfl) (by kernel_rfl) (by kernel_rfl) (fun _ _ _ h => h) (Steady.off (by rfl)) ?_
    simp only [List.setIfInBounds_toArray, List.set_cons_zero, List.set_cons_succ]
    refine wpS_take (i := 18) (v := undef) rfl rfl (by kernel_rfl) (by kernel_rfl) (by kernel_rfl) (fun _ _ _ h => h) (Steady.off (by rfl)) ?_
    simp only [List.setIfInBounds_toArray, List.set_cons_zero, List.set_cons_succ]
    refine wpS_take (i := 19) (v := undef) rfl rfl (by kernel_rfl) (by kernel_rfl) (by kernel_rfl) (fun _ _ _ h => h) (Steady.off (by rfl)) ?_
    simp only [List.setIfInBounds_toArray, List.set_cons_zero, List.set_cons_succ]
    refine wpS_take (i := 20) (v := undef) rfl rfl (by kernel_rfl) (by kernel_rfl) (by kernel_rfl) (fun _ _ _ h => h) (Steady.off (by rfl)) ?_
    simp only [List.setIfInBounds_toArray, List.set_cons_zero, List.set_cons_succ]
    refine wpS_take (i := 21) (v := ?_) rfl rfl (by kernel_rfl) (by kernel_rfl) (by kernel_rfl) (fun _ _ _ h => h) (Steady.value (by rfl) ?_) ?_
    rotate_left
    · (intro w hS; (try dsimp only at hS); go_simp; try with_reducible rfl)
    simp only [List.setIfInBounds_toArray, List.set_cons_zero, List.set_cons_succ]
    refine wpS_take (i := 22) (v := ?_) rfl rfl (by kernel_rfl) (by kernel_rfl) (by kernel_rfl) (fun _ _ _ h => h) (Steady.value (by rfl) ?_) ?_
    rotate_left
    · (intro w hS; (try dsimp only at hS); go_simp; try with_reducible rfl)
    simp only [List.setIfInBounds_toArray, List.set_cons_zero, List.set_cons_succ]
    refine wpS_done (by kernel_rfl) (fun W hS => ?_) _
    go_wp2
    go_ret
    exact ⟨rfl, hS.2.2.2.2.2.2.2.2⟩
  · cases y
    · go_enter Try.func24, Try.ntmps24
      go_wp2_with fail
      refine wp_region_steady (S := (fun v : World => v.cell? ⟨w.heap.size, 0, none⟩ = some (.int .i64 ax) ∧ v.cell? ⟨w.heap.size, 1, none⟩ = some (.int .i64 ay) ∧ v.cell? ⟨w.heap.size + 1, 0, none⟩ = some (.int .i64 bx) ∧ v.cell? ⟨w.heap.size + 1, 1, none⟩ = some (.int .i64 byy) ∧ v.cell? ⟨w.heap.size + 1 + 1, 0, none⟩ = some (.int .i64 cx) ∧ v.cell? ⟨w.heap.size + 1 + 1, 1, none⟩ = some (.int .i64 cy) ∧ v.cell? ⟨w.heap.size + 1 + 1 + 1, 0, none⟩ = some (.int .i64 dx) ∧ v.cell? ⟨w.heap.size + 1 + 1 + 1, 1, none⟩ = some (.int .i64 dy) ∧ Below w.heap.size w v)) (by kernel_rfl) (HD.out _ hS0) ?_
      refine wpS_take (i := 0) (v := ?_) rfl rfl (by kernel_rfl) (by kernel_rfl) (by kernel_rfl) (fun _ _ _ h => h) (Steady.value (by rfl) ?_) ?_
      rotate_left
      · (intro w hS; (try dsimp only at hS); go_simp; try with_reducible rfl)
      simp only [List.setIfInBounds_toArray, List.set_cons_zero, List.set_cons_succ]
      refine wpS_take (i := 1) (v := ?_) rfl rfl (by kernel_rfl) (by kernel_rfl) (by kernel_rfl) (fun _ _ _ h => h) (Steady.value (by rfl) ?_) ?_
      rotate_left
      · (intro w hS; (try dsimp only at hS); go_simp; try with_reducible rfl)
      simp only [List.setIfInBounds_toArray, List.set_cons_zero, List.set_cons_succ]
      refine wpS_take (i := 2) (v := ?_) rfl rfl (by kernel_rfl) (by kernel_rfl) (by kernel_rfl) (fun _ _ _ h => h) (Steady.value (by rfl) ?_) ?_
      rotate_left
      · (intro w hS; (try dsimp only at hS); go_simp; try with_reducible rfl)
      simp only [List.setIfInBounds_toArray, List.set_cons_zero, List.set_cons_succ]
      refine wpS_take (i := 3) rfl rfl (by kernel_rfl) (by kernel_rfl) (by kernel_rfl) (fun _ _ _ h => h) (Steady.call (by rfl) (steady_below KS.out K1.out) (fun w hS => by (go_simp))) ?_
      simp only [List.setIfInBounds_toArray, List.set_cons_zero, List.set_cons_succ]
      refine wpS_take (i := 4) (v := ?_) rfl rfl (by kernel_rfl) (by kernel_rfl) (by kernel_rfl) (fun _ _ _ h => h) (Steady.value (by rfl) ?_) ?_
      rotate_left
      · (intro w hS; (try dsimp only at hS); go_simp; try with_reducible rfl)
      simp only [List.setIfInBounds_toArray, List.set_cons_zero, List.set_cons_succ]
      refine wpS_take (i := 5) (v := ?_) rfl rfl (by kernel_rfl) (by kernel_rfl) (by kernel_rfl) (fun _ _ _ h => h) (Steady.value (by rfl) ?_) ?_
      rotate_left
      · (intro w hS; (try dsimp only at hS); go_simp; try with_reducible rfl)
      simp only [List.setIfInBounds_toArray, List.set_cons_zero, List.set_cons_succ]
      refine wpS_take (i := 6) (v := ?_) rfl rfl (by kernel_rfl) (by kernel_rfl) (by kernel_rfl) (fun _ _ _ h => h) (Steady.value (by rfl) ?_) ?_
      rotate_left
      · (intro w hS; (try dsimp only at hS); go_simp; try with_reducible rfl)
      simp only [List.setIfInBounds_toArray, List.set_cons_zero, List.set_cons_succ]
      refine wpS_take (i := 7) rfl rfl (by kernel_rfl) (by kernel_rfl) (by kernel_rfl) (fun _ _ _ h => h) (Steady.call (by rfl) (steady_below KS.out K2.out) (fun w hS => by (go_simp))) ?_
      simp only [List.setIfInBounds_toArray, List.set_cons_zero, List.set_cons_succ]
      refine wpS_take (i := 8) (v := ?_) rfl rfl (by kernel_rfl) (by kernel_rfl) (by kernel_rfl) (fun _ _ _ h => h) (Steady.value (by rfl) ?_) ?_
      rotate_left
      · (intro w hS; (try dsimp only at hS); go_simp; try with_reducible rfl)
      simp only [List.setIfInBounds_toArray, List.set_cons_zero, List.set_cons_succ]
      refine wpS_take (i := 9) (v := ?_) rfl rfl (by kernel_rfl) (by kernel_rfl) (by kernel_rfl) (fun _ _ _ h => h) (Steady.value (by rfl) ?_) ?_
      rotate_left
      · (intro w hS; (try dsimp only at hS); go_simp; try with_reducible rfl)
      simp only [List.setIfInBounds_toArray, List.set_cons_zero, List.set_cons_succ]
      refine wpS_take (i := 10) (v := ?_) rfl rfl (by kernel_rfl) (by kernel_rfl) (by kernel_rfl) (fun _ _ _ h => h) (Steady.value (by rfl) ?_) ?_
      rotate_left
      · (intro w hS; (try dsimp only at hS); go_simp; try with_reducible rfl)
      simp only [List.setIfInBounds_toArray, List.set_cons_zero, List.set_cons_succ]
      refine wpS_take (i := 11) (v := ?_) rfl rfl (by kernel_rfl) (by kernel_rfl) (by kernel_rfl) (fun _ _ _ h => h) (Steady.value (by rfl) ?_) ?_
      rotate_left
      · (intro w hS; (try dsimp only at hS); go_simp; try with_reducible rfl)
      simp only [List.setIfInBounds_toArray, List.set_cons_zero, List.set_cons_succ]
      refine wpS_take (i := 12) (v := ?_) rfl rfl (by kernel_rfl) (by kernel_rfl) (by kernel_rfl) (fun _ _ _ h => h) (Steady.value (by rfl) ?_) ?_
      rotate_left
      · (intro w hS; (try dsimp only at hS); go_simp; try with_reducible rfl)
      simp only [List.setIfInBounds_toArray, List.set_cons_zero, List.set_cons_succ]
      refine wpS_take (i := 13) (v := ?_) rfl rfl (by kernel_rfl) (by kernel_rfl) (by kernel_rfl) (fun _ _ _ h => h) (Steady.value (by rfl) ?_) ?_
      rotate_left
      · (intro w hS; (try dsimp only at hS); go_simp; try with_reducible rfl)
      simp only [List.setIfInBounds_toArray, List.set_cons_zero, List.set_cons_succ]
      refine wpS_take (i := 14) rfl rfl (by kernel_rfl) (by kernel_rfl) (by kernel_rfl) (fun _ _ _ h => h) (Steady.call (by rfl) (steady_below KS.out K3.out) (fun w hS => by (go_simp))) ?_
      simp only [List.setIfInBounds_toArray, List.set_cons_zero, List.set_cons_succ]
      refine wpS_take (i := 15) (v := ?_) rfl rfl (by kernel_rfl) (by kernel_rfl) (by kernel_rfl) (fun _ _ _ h => h) (Steady.value (by rfl) ?_) ?_
      rotate_left
      · (intro w hS; (try dsimp only at hS); go_simp; try with_reducible rfl)
      simp only [List.setIfInBounds_toArray, List.set_cons_zero, List.set_cons_succ]
      refine wpS_take (i := 16) (v := ?_) rfl rfl (by kernel_rfl) (by kernel_rfl) (by kernel_rfl) (fun _ _ _ h => h) (Steady.value (by rfl) ?_) ?_
      rotate_left
      · (intro w hS; (try dsimp only at hS); go_simp; try with_reducible rfl)
      simp only [List.setIfInBounds_toArray, List.set_cons_zero, List.set_cons_succ]
      refine wpS_take (i := 17) (v := ?_) rfl rfl (by kernel_rfl) (by kernel_rfl) (by kernel_rfl) (fun _ _ _ h => h) (Steady.value (by rfl) ?_) ?_
      rotate_left
      · (intro w hS; (try dsimp only at hS); go_simp; try with_reducible rfl)
      simp only [List.setIfInBounds_toArray, List.set_cons_zero, List.set_cons_succ]
      refine wpS_take (i := 18) rfl rfl (by kernel_rfl) (by kernel_rfl) (by kernel_rfl) (fun _ _ _ h => h) (Steady.call (by rfl) (steady_below KS.out K4.out) (fun w hS => by (go_simp))) ?_
      simp only [List.setIfInBounds_toArray, List.set_cons_zero, List.set_cons_succ]
      refine wpS_take (i := 19) (v := ?_) rfl rfl (by kernel_rfl) (by kernel_rfl) (by kernel_rfl) (fun _ _ _ h => h) (Steady.value (by rfl) ?_) ?_
      rotate_left
      · (intro w hS; (try dsimp only at hS); go_simp; try with_reducible rfl)
      simp only [List.setIfInBounds_toArray, List.set_cons_zero, List.set_cons_succ]
      refine wpS_take (i := 20) (v := ?_) rfl rfl (by kernel_rfl) (by kernel_rfl) (by kernel_rfl) (fun _ _ _ h => h) (Steady.value (by rfl) ?_) ?_
      rotate_left
      · (intro w hS; (try dsimp only at hS); go_simp; try with_reducible rfl)
      simp only [List.setIfInBounds_toArray, List.set_cons_zero, List.set_cons_succ]
      refine wpS_take (i := 21) (v := ?_) rfl rfl (by kernel_rfl) (by kernel_rfl) (by kernel_rfl) (fun _ _ _ h => h) (Steady.value (by rfl) ?_) ?_
      rotate_left
      · (intro w hS; (try dsimp only at hS); go_simp; try with_reducible rfl)
      simp only [List.setIfInBounds_toArray, List.set_cons_zero, List.set_cons_succ]
      refine wpS_take (i := 22) (v := ?_) rfl rfl (by kernel_rfl) (by kernel_rfl) (by kernel_rfl) (fun _ _ _ h => h) (Steady.value (by rfl) ?_) ?_
      rotate_left
      · (intro w hS; (try dsimp only at hS); go_simp; try with_reducible rfl)
      simp only [List.setIfInBounds_toArray, List.set_cons_zero, List.set_cons_succ]
      refine wpS_done (by kernel_rfl) (fun W hS => ?_) _
      go_wp2
      go_ret
      exact ⟨rfl, hS.2.2.2.2.2.2.2.2⟩
    · go_enter Try.func24, Try.ntmps24
      go_wp2_with fail
      refine wp_region_steady (S := (fun v : World => v.cell? ⟨w.heap.size, 0, none⟩ = some (.int .i64 ax) ∧ v.cell? ⟨w.heap.size, 1, none⟩ = some (.int .i64 ay) ∧ v.cell? ⟨w.heap.size + 1, 0, none⟩ = some (.int .i64 bx) ∧ v.cell? ⟨w.heap.size + 1, 1, none⟩ = some (.int .i64 byy) ∧ v.cell? ⟨w.heap.size + 1 + 1, 0, none⟩ = some (.int .i64 cx) ∧ v.cell? ⟨w.heap.size + 1 + 1, 1, none⟩ = some (.int .i64 cy) ∧ v.cell? ⟨w.heap.size + 1 + 1 + 1, 0, none⟩ = some (.int .i64 dx) ∧ v.cell? ⟨w.heap.size + 1 + 1 + 1, 1, none⟩ = some (.int .i64 dy) ∧ Below w.heap.size w v)) (by kernel_rfl) (HD.out _ hS0) ?_
      refine wpS_take (i := 0) (v := ?_) rfl rfl (by kernel_rfl) (by kernel_rfl) (by kernel_rfl) (fun _ _ _ h => h) (Steady.value (by rfl) ?_) ?_
      rotate_left
      · (intro w hS; (try dsimp only at hS); go_simp; try with_reducible rfl)
      simp only [List.setIfInBounds_toArray, List.set_cons_zero, List.set_cons_succ]
      refine wpS_take (i := 1) (v := ?_) rfl rfl (by kernel_rfl) (by kernel_rfl) (by kernel_rfl) (fun _ _ _ h => h) (Steady.value (by rfl) ?_) ?_
      rotate_left
      · (intro w hS; (try dsimp only at hS); go_simp; try with_reducible rfl)
      simp only [List.setIfInBounds_toArray, List.set_cons_zero, List.set_cons_succ]
      refine wpS_take (i := 2) (v := ?_) rfl rfl (by kernel_rfl) (by kernel_rfl) (by kernel_rfl) (fun _ _ _ h => h) (Steady.value (by rfl) ?_) ?_
      rotate_left
      · (intro w hS; (try dsimp only at hS); go_simp; try with_reducible rfl)
      simp only [List.setIfInBounds_toArray, List.set_cons_zero, List.set_cons_succ]
      refine wpS_take (i := 3) rfl rfl (by kernel_rfl) (by kernel_rfl) (by kernel_rfl) (fun _ _ _ h => h) (Steady.call (by rfl) (steady_below KS.out K1.out) (fun w hS => by (go_simp))) ?_
      simp only [List.setIfInBounds_toArray, List.set_cons_zero, List.set_cons_succ]
      refine wpS_take (i := 4) (v := ?_) rfl rfl (by kernel_rfl) (by kernel_rfl) (by kernel_rfl) (fun _ _ _ h => h) (Steady.value (by rfl) ?_) ?_
      rotate_left
      · (intro w hS; (try dsimp only at hS); go_simp; try with_reducible rfl)
      simp only [List.setIfInBounds_toArray, List.set_cons_zero, List.set_cons_succ]
      refine wpS_take (i := 5) (v := ?_) rfl rfl (by kernel_rfl) (by kernel_rfl) (by kernel_rfl) (fun _ _ _ h => h) (Steady.value (by rfl) ?_) ?_
      rotate_left
      · (intro w hS; (try dsimp only at hS); go_simp; try with_reducible rfl)
      simp only [List.setIfInBounds_toArray, List.set_cons_zero, List.set_cons_succ]
      refine wpS_take (i := 6) (v := ?_) rfl rfl (by kernel_rfl) (by kernel_rfl) (by kernel_rfl) (fun _ _ _ h => h) (Steady.value (by rfl) ?_) ?_
      rotate_left
      · (intro w hS; (try dsimp only at hS); go_simp; try with_reducible rfl)
      simp only [List.setIfInBounds_toArray, List.set_cons_zero, List.set_cons_succ]
      refine wpS_take (i := 7) rfl rfl (by kernel_rfl) (by kernel_rfl) (by kernel_rfl) (fun _ _ _ h => h) (Steady.call (by rfl) (steady_below KS.out K2.out) (fun w hS => by (go_simp))) ?_
      simp only [List.setIfInBounds_toArray, List.set_cons_zero, List.set_cons_succ]
      refine wpS_take (i := 8) (v := ?_) rfl rfl (by kernel_rfl) (by kernel_rfl) (by kernel_rfl) (fun _ _ _ h => h) (Steady.value (by rfl) ?_) ?_
      rotate_left
      · (intro w hS; (try dsimp only at hS); go_simp; try with_reducible rfl)
      simp only [List.setIfInBounds_toArray, List.set_cons_zero, List.set_cons_succ]
      refine wpS_take (i := 9) (v := ?_) rfl rfl (by kernel_rfl) (by kernel_rfl) (by kernel_rfl) (fun _ _ _ h => h) (Steady.value (by rfl) ?_) ?_
      rotate_left
      · (intro w hS; (try dsimp only at hS); go_simp; try with_reducible rfl)
      simp only [List.setIfInBounds_toArray, List.set_cons_zero, List.set_cons_succ]
      refine wpS_take (i := 10) (v := ?_) rfl rfl (by kernel_rfl) (by kernel_rfl) (by kernel_rfl) (fun _ _ _ h => h) (Steady.value (by rfl) ?_) ?_
      rotate_left
      · (intro w hS; (try dsimp only at hS); go_simp; try with_reducible rfl)
      simp only [List.setIfInBounds_toArray, List.set_cons_zero, List.set_cons_succ]
      refine wpS_take (i := 11) (v := ?_) rfl rfl (by kernel_rfl) (by kernel_rfl) (by kernel_rfl) (fun _ _ _ h => h) (Steady.value (by rfl) ?_) ?_
      rotate_left
      · (intro w hS; (try dsimp only at hS); go_simp; try with_reducible rfl)
      simp only [List.setIfInBounds_toArray, List.set_cons_zero, List.set_cons_succ]
      refine wpS_take (i := 12) (v := ?_) rfl rfl (by kernel_rfl) (by kernel_rfl) (by kernel_rfl) (fun _ _ _ h => h) (Steady.value (by rfl) ?_) ?_
      rotate_left
      · (intro w hS; (try dsimp only at hS); go_simp; try with_reducible rfl)
      simp only [List.setIfInBounds_toArray, List.set_cons_zero, List.set_cons_succ]
      refine wpS_take (i := 13) (v := ?_) rfl rfl (by kernel_rfl) (by kernel_rfl) (by kernel_rfl) (fun _ _ _ h => h) (Steady.value (by rfl) ?_) ?_
      rotate_left
      · (intro w hS; (try dsimp only at hS); go_simp; try with_reducible rfl)
      simp only [List.setIfInBounds_toArray, List.set_cons_zero, List.set_cons_succ]
      refine wpS_take (i := 14) rfl rfl (by kernel_rfl) (by kernel_rfl) (by kernel_rfl) (fun _ _ _ h => h) (Steady.call (by rfl) (steady_below KS.out K3.out) (fun w hS => by (go_simp))) ?_
      simp only [List.setIfInBounds_toArray, List.set_cons_zero, List.set_cons_succ]
      refine wpS_take (i := 15) (v := ?_) rfl rfl (by kernel_rfl) (by kernel_rfl) (by kernel_rfl) (fun _ _ _ h => h) (Steady.value (by rfl) ?_) ?_
      rotate_left
      · (intro w hS; (try dsimp only at hS); go_simp; try with_reducible rfl)
      simp only [List.setIfInBounds_toArray, List.set_cons_zero, List.set_cons_succ]
      refine wpS_take (i := 16) (v := ?_) rfl rfl (by kernel_rfl) (by kernel_rfl) (by kernel_rfl) (fun _ _ _ h => h) (Steady.value (by rfl) ?_) ?_
      rotate_left
      · (intro w hS; (try dsimp only at hS); go_simp; try with_reducible rfl)
      simp only [List.setIfInBounds_toArray, List.set_cons_zero, List.set_cons_succ]
      refine wpS_take (i := 17) (v := ?_) rfl rfl (by kernel_rfl) (by kernel_rfl) (by kernel_rfl) (fun _ _ _ h => h) (Steady.value (by rfl) ?_) ?_
      rotate_left
      · (intro w hS; (try dsimp only at hS); go_simp; try with_reducible rfl)
      simp only [List.setIfInBounds_toArray, List.set_cons_zero, List.set_cons_succ]
      refine wpS_take (i := 18) rfl rfl (by kernel_rfl) (by kernel_rfl) (by kernel_rfl) (fun _ _ _ h => h) (Steady.call (by rfl) (steady_below KS.out K4.out) (fun w hS => by (go_simp))) ?_
      simp only [List.setIfInBounds_toArray, List.set_cons_zero, List.set_cons_succ]
      refine wpS_take (i := 19) (v := ?_) rfl rfl (by kernel_rfl) (by kernel_rfl) (by kernel_rfl) (fun _ _ _ h => h) (Steady.value (by rfl) ?_) ?_
      rotate_left
      · (intro w hS; (try dsimp only at hS); go_simp; try with_reducible rfl)
      simp only [List.setIfInBounds_toArray, List.set_cons_zero, List.set_cons_succ]
      refine wpS_take (i := 20) (v := ?_) rfl rfl (by kernel_rfl) (by kernel_rfl) (by kernel_rfl) (fun _ _ _ h => h) (Steady.value (by rfl) ?_) ?_
      rotate_left
      · (intro w hS; (try dsimp only at hS); go_simp; try with_reducible rfl)
      simp only [List.setIfInBounds_toArray, List.set_cons_zero, List.set_cons_succ]
      refine wpS_take (i := 21) (v := ?_) rfl rfl (by kernel_rfl) (by kernel_rfl) (by kernel_rfl) (fun _ _ _ h => h) (Steady.value (by rfl) ?_) ?_
      rotate_left
      · (intro w hS; (try dsimp only at hS); go_simp; try with_reducible rfl)
      simp only [List.setIfInBounds_toArray, List.set_cons_zero, List.set_cons_succ]
      refine wpS_take (i := 22) (v := ?_) rfl rfl (by kernel_rfl) (by kernel_rfl) (by kernel_rfl) (fun _ _ _ h => h) (Steady.value (by rfl) ?_) ?_
      rotate_left
      · (intro w hS; (try dsimp only at hS); go_simp; try with_reducible rfl)
      simp only [List.setIfInBounds_toArray, List.set_cons_zero, List.set_cons_succ]
      refine wpS_done (by kernel_rfl) (fun W hS => ?_) _
      go_wp2
      go_ret
      exact ⟨rfl, hS.2.2.2.2.2.2.2.2⟩

set_option maxHeartbeats 4000000 in
theorem refMeet_road (ax ay bx byy cx cy dx dy : Int) (x b1 b2 b3 b4 : Bool)
    (k0 : ∀ w, Calls Try.prog 24 #[.agg #[.int .i64 ax, .int .i64 ay], .agg #[.int .i64 bx, .int .i64 byy], .agg #[.int .i64 cx, .int .i64 cy], .agg #[.int .i64 dx, .int .i64 dy]] w fun e w' => e = .returned (.bool x) ∧ Below w.heap.size w w')
    (k1 : ∀ w, Calls Try.prog 18 #[.agg #[.int .i64 ax, .int .i64 ay], .agg #[.int .i64 bx, .int .i64 byy], .agg #[.int .i64 cx, .int .i64 cy]] w fun e w' => e = .returned (.bool b1) ∧ Below w.heap.size w w')
    (k2 : ∀ w, Calls Try.prog 18 #[.agg #[.int .i64 ax, .int .i64 ay], .agg #[.int .i64 bx, .int .i64 byy], .agg #[.int .i64 dx, .int .i64 dy]] w fun e w' => e = .returned (.bool b2) ∧ Below w.heap.size w w')
    (k3 : ∀ w, Calls Try.prog 18 #[.agg #[.int .i64 cx, .int .i64 cy], .agg #[.int .i64 dx, .int .i64 dy], .agg #[.int .i64 ax, .int .i64 ay]] w fun e w' => e = .returned (.bool b3) ∧ Below w.heap.size w w')
    (k4 : ∀ w, Calls Try.prog 18 #[.agg #[.int .i64 cx, .int .i64 cy], .agg #[.int .i64 dx, .int .i64 dy], .agg #[.int .i64 bx, .int .i64 byy]] w fun e w' => e = .returned (.bool b4) ∧ Below w.heap.size w w')
    (w : World) :
    Calls Try.prog 23 #[.agg #[.int .i64 ax, .int .i64 ay], .agg #[.int .i64 bx, .int .i64 byy], .agg #[.int .i64 cx, .int .i64 cy], .agg #[.int .i64 dx, .int .i64 dy]] w fun e w' => e = .returned (.bool (x || (b1 || (b2 || (b3 || b4))))) ∧ Below w.heap.size w w' := by
  have keep : ∀ a b : World, Below a.heap.size a b → (fun v : World => v.cell? ⟨w.heap.size, 0, none⟩ = some (.int .i64 ax) ∧ v.cell? ⟨w.heap.size, 1, none⟩ = some (.int .i64 ay) ∧ v.cell? ⟨w.heap.size + 1, 0, none⟩ = some (.int .i64 bx) ∧ v.cell? ⟨w.heap.size + 1, 1, none⟩ = some (.int .i64 byy) ∧ v.cell? ⟨w.heap.size + 1 + 1, 0, none⟩ = some (.int .i64 cx) ∧ v.cell? ⟨w.heap.size + 1 + 1, 1, none⟩ = some (.int .i64 cy) ∧ v.cell? ⟨w.heap.size + 1 + 1 + 1, 0, none⟩ = some (.int .i64 dx) ∧ v.cell? ⟨w.heap.size + 1 + 1 + 1, 1, none⟩ = some (.int .i64 dy) ∧ Below w.heap.size w v) a → (fun v : World => v.cell? ⟨w.heap.size, 0, none⟩ = some (.int .i64 ax) ∧ v.cell? ⟨w.heap.size, 1, none⟩ = some (.int .i64 ay) ∧ v.cell? ⟨w.heap.size + 1, 0, none⟩ = some (.int .i64 bx) ∧ v.cell? ⟨w.heap.size + 1, 1, none⟩ = some (.int .i64 byy) ∧ v.cell? ⟨w.heap.size + 1 + 1, 0, none⟩ = some (.int .i64 cx) ∧ v.cell? ⟨w.heap.size + 1 + 1, 1, none⟩ = some (.int .i64 cy) ∧ v.cell? ⟨w.heap.size + 1 + 1 + 1, 0, none⟩ = some (.int .i64 dx) ∧ v.cell? ⟨w.heap.size + 1 + 1 + 1, 1, none⟩ = some (.int .i64 dy) ∧ Below w.heap.size w v) b :=
    fun a b hb ⟨h0, h1, h2, h3, h4, h5, h6, h7, h8⟩ => ⟨cell_grew h0 hb, cell_grew h1 hb, cell_grew h2 hb, cell_grew h3 hb, cell_grew h4 hb, cell_grew h5 hb, cell_grew h6 hb, cell_grew h7 hb, grow h8 hb⟩
  have KS := Lib.hid keep
  clear keep
  obtain ⟨w0, hw0, p0, p1, p2, p3, g0, z0⟩ := boxes4 w #[.int .i64 ax, .int .i64 ay] #[.int .i64 bx, .int .i64 byy] #[.int .i64 cx, .int .i64 cy] #[.int .i64 dx, .int .i64 dy] 24 24 24 24
  have hS0 : (fun v : World => v.cell? ⟨w.heap.size, 0, none⟩ = some (.int .i64 ax) ∧ v.cell? ⟨w.heap.size, 1, none⟩ = some (.int .i64 ay) ∧ v.cell? ⟨w.heap.size + 1, 0, none⟩ = some (.int .i64 bx) ∧ v.cell? ⟨w.heap.size + 1, 1, none⟩ = some (.int .i64 byy) ∧ v.cell? ⟨w.heap.size + 1 + 1, 0, none⟩ = some (.int .i64 cx) ∧ v.cell? ⟨w.heap.size + 1 + 1, 1, none⟩ = some (.int .i64 cy) ∧ v.cell? ⟨w.heap.size + 1 + 1 + 1, 0, none⟩ = some (.int .i64 dx) ∧ v.cell? ⟨w.heap.size + 1 + 1 + 1, 1, none⟩ = some (.int .i64 dy) ∧ Below w.heap.size w v) w0 := ⟨p0.two.1, p0.two.2.1, p1.two.1, p1.two.2.1, p2.two.1, p2.two.2.1, p3.two.1, p3.two.2.1, g0⟩
  clear p0 p1 p2 p3 z0 g0
  have K0 := Lib.hid k0
  have K1 := Lib.hid k1
  have K2 := Lib.hid k2
  have K3 := Lib.hid k3
  have K4 := Lib.hid k4
  clear k0 k1 k2 k3 k4
  cases x
  · cases b1
    · cases b2
      · cases b3
        · cases b4
          · go_enter Try.func23, Try.ntmps23
            obtain ⟨c0, c1, c2, c3, c4, c5, c6, c7, c8⟩ := id hS0
            go_wp2_with fail
            clear hw0
            refine (K0.out _).mono ?_
            rintro e w1 ⟨rfl, hb⟩
            have hS1 := KS.out _ _ hb hS0
            clear hb hS0 c0 c1 c2 c3 c4 c5 c6 c7 c8
            obtain ⟨c0, c1, c2, c3, c4, c5, c6, c7, c8⟩ := id hS1
            have C8 := Lib.hid c8
            clear c8
            go_wp2_with fail
            refine (K1.out _).mono ?_
            rintro e w2 ⟨rfl, hb⟩
            have hS2 := KS.out _ _ hb hS1
            clear hb hS1 c0 c1 c2 c3 c4 c5 c6 c7 C8
            obtain ⟨c0, c1, c2, c3, c4, c5, c6, c7, c8⟩ := id hS2
            have C8 := Lib.hid c8
            clear c8
            go_wp2_with fail
            refine (K2.out _).mono ?_
            rintro e w3 ⟨rfl, hb⟩
            have hS3 := KS.out _ _ hb hS2
            clear hb hS2 c0 c1 c2 c3 c4 c5 c6 c7 C8
            obtain ⟨c0, c1, c2, c3, c4, c5, c6, c7, c8⟩ := id hS3
            have C8 := Lib.hid c8
            clear c8
            go_wp2_with fail
            refine (K3.out _).mono ?_
            rintro e w4 ⟨rfl, hb⟩
            have hS4 := KS.out _ _ hb hS3
            clear hb hS3 c0 c1 c2 c3 c4 c5 c6 c7 C8
            obtain ⟨c0, c1, c2, c3, c4, c5, c6, c7, c8⟩ := id hS4
            have C8 := Lib.hid c8
            clear c8
            go_wp2_with fail
            refine (K4.out _).mono ?_
            rintro e w5 ⟨rfl, hb⟩
            have hS5 := KS.out _ _ hb hS4
            clear hb hS4 c0 c1 c2 c3 c4 c5 c6 c7 C8
            obtain ⟨c0, c1, c2, c3, c4, c5, c6, c7, c8⟩ := id hS5
            have C8 := Lib.hid c8
            clear c8
            go_wp2
            go_ret
            exact ⟨rfl, C8.out⟩
          · go_enter Try.func23, Try.ntmps23
            obtain ⟨c0, c1, c2, c3, c4, c5, c6, c7, c8⟩ := id hS0
            go_wp2_with fail
            clear hw0
            refine (K0.out _).mono ?_
            rintro e w1 ⟨rfl, hb⟩
            have hS1 := KS.out _ _ hb hS0
            clear hb hS0 c0 c1 c2 c3 c4 c5 c6 c7 c8
            obtain ⟨c0, c1, c2, c3, c4, c5, c6, c7, c8⟩ := id hS1
            have C8 := Lib.hid c8
            clear c8
            go_wp2_with fail
            refine (K1.out _).mono ?_
            rintro e w2 ⟨rfl, hb⟩
            have hS2 := KS.out _ _ hb hS1
            clear hb hS1 c0 c1 c2 c3 c4 c5 c6 c7 C8
            obtain ⟨c0, c1, c2, c3, c4, c5, c6, c7, c8⟩ := id hS2
            have C8 := Lib.hid c8
            clear c8
            go_wp2_with fail
            refine (K2.out _).mono ?_
            rintro e w3 ⟨rfl, hb⟩
            have hS3 := KS.out _ _ hb hS2
            clear hb hS2 c0 c1 c2 c3 c4 c5 c6 c7 C8
            obtain ⟨c0, c1, c2, c3, c4, c5, c6, c7, c8⟩ := id hS3
            have C8 := Lib.hid c8
            clear c8
            go_wp2_with fail
            refine (K3.out _).mono ?_
            rintro e w4 ⟨rfl, hb⟩
            have hS4 := KS.out _ _ hb hS3
            clear hb hS3 c0 c1 c2 c3 c4 c5 c6 c7 C8
            obtain ⟨c0, c1, c2, c3, c4, c5, c6, c7, c8⟩ := id hS4
            have C8 := Lib.hid c8
            clear c8
            go_wp2_with fail
            refine (K4.out _).mono ?_
            rintro e w5 ⟨rfl, hb⟩
            have hS5 := KS.out _ _ hb hS4
            clear hb hS4 c0 c1 c2 c3 c4 c5 c6 c7 C8
            obtain ⟨c0, c1, c2, c3, c4, c5, c6, c7, c8⟩ := id hS5
            have C8 := Lib.hid c8
            clear c8
            go_wp2
            go_ret
            exact ⟨rfl, C8.out⟩
        · go_enter Try.func23, Try.ntmps23
          obtain ⟨c0, c1, c2, c3, c4, c5, c6, c7, c8⟩ := id hS0
          go_wp2_with fail
          clear hw0
          refine (K0.out _).mono ?_
          rintro e w1 ⟨rfl, hb⟩
          have hS1 := KS.out _ _ hb hS0
          clear hb hS0 c0 c1 c2 c3 c4 c5 c6 c7 c8
          obtain ⟨c0, c1, c2, c3, c4, c5, c6, c7, c8⟩ := id hS1
          have C8 := Lib.hid c8
          clear c8
          go_wp2_with fail
          refine (K1.out _).mono ?_
          rintro e w2 ⟨rfl, hb⟩
          have hS2 := KS.out _ _ hb hS1
          clear hb hS1 c0 c1 c2 c3 c4 c5 c6 c7 C8
          obtain ⟨c0, c1, c2, c3, c4, c5, c6, c7, c8⟩ := id hS2
          have C8 := Lib.hid c8
          clear c8
          go_wp2_with fail
          refine (K2.out _).mono ?_
          rintro e w3 ⟨rfl, hb⟩
          have hS3 := KS.out _ _ hb hS2
          clear hb hS2 c0 c1 c2 c3 c4 c5 c6 c7 C8
          obtain ⟨c0, c1, c2, c3, c4, c5, c6, c7, c8⟩ := id hS3
          have C8 := Lib.hid c8
          clear c8
          go_wp2_with fail
          refine (K3.out _).mono ?_
          rintro e w4 ⟨rfl, hb⟩
          have hS4 := KS.out _ _ hb hS3
          clear hb hS3 c0 c1 c2 c3 c4 c5 c6 c7 C8
          obtain ⟨c0, c1, c2, c3, c4, c5, c6, c7, c8⟩ := id hS4
          have C8 := Lib.hid c8
          clear c8
          go_wp2
          go_ret
          exact ⟨rfl, C8.out⟩
      · go_enter Try.func23, Try.ntmps23
        obtain ⟨c0, c1, c2, c3, c4, c5, c6, c7, c8⟩ := id hS0
        go_wp2_with fail
        clear hw0
        refine (K0.out _).mono ?_
        rintro e w1 ⟨rfl, hb⟩
        have hS1 := KS.out _ _ hb hS0
        clear hb hS0 c0 c1 c2 c3 c4 c5 c6 c7 c8
        obtain ⟨c0, c1, c2, c3, c4, c5, c6, c7, c8⟩ := id hS1
        have C8 := Lib.hid c8
        clear c8
        go_wp2_with fail
        refine (K1.out _).mono ?_
        rintro e w2 ⟨rfl, hb⟩
        have hS2 := KS.out _ _ hb hS1
        clear hb hS1 c0 c1 c2 c3 c4 c5 c6 c7 C8
        obtain ⟨c0, c1, c2, c3, c4, c5, c6, c7, c8⟩ := id hS2
        have C8 := Lib.hid c8
        clear c8
        go_wp2_with fail
        refine (K2.out _).mono ?_
        rintro e w3 ⟨rfl, hb⟩
        have hS3 := KS.out _ _ hb hS2
        clear hb hS2 c0 c1 c2 c3 c4 c5 c6 c7 C8
        obtain ⟨c0, c1, c2, c3, c4, c5, c6, c7, c8⟩ := id hS3
        have C8 := Lib.hid c8
        clear c8
        go_wp2
        go_ret
        exact ⟨rfl, C8.out⟩
    · go_enter Try.func23, Try.ntmps23
      obtain ⟨c0, c1, c2, c3, c4, c5, c6, c7, c8⟩ := id hS0
      go_wp2_with fail
      clear hw0
      refine (K0.out _).mono ?_
      rintro e w1 ⟨rfl, hb⟩
      have hS1 := KS.out _ _ hb hS0
      clear hb hS0 c0 c1 c2 c3 c4 c5 c6 c7 c8
      obtain ⟨c0, c1, c2, c3, c4, c5, c6, c7, c8⟩ := id hS1
      have C8 := Lib.hid c8
      clear c8
      go_wp2_with fail
      refine (K1.out _).mono ?_
      rintro e w2 ⟨rfl, hb⟩
      have hS2 := KS.out _ _ hb hS1
      clear hb hS1 c0 c1 c2 c3 c4 c5 c6 c7 C8
      obtain ⟨c0, c1, c2, c3, c4, c5, c6, c7, c8⟩ := id hS2
      have C8 := Lib.hid c8
      clear c8
      go_wp2
      go_ret
      exact ⟨rfl, C8.out⟩
  · go_enter Try.func23, Try.ntmps23
    obtain ⟨c0, c1, c2, c3, c4, c5, c6, c7, c8⟩ := id hS0
    go_wp2_with fail
    clear hw0
    refine (K0.out _).mono ?_
    rintro e w1 ⟨rfl, hb⟩
    have hS1 := KS.out _ _ hb hS0
    clear hb hS0 c0 c1 c2 c3 c4 c5 c6 c7 c8
    obtain ⟨c0, c1, c2, c3, c4, c5, c6, c7, c8⟩ := id hS1
    have C8 := Lib.hid c8
    clear c8
    go_wp2
    go_ret
    exact ⟨rfl, C8.out⟩

end Go.Proofs.Ytkneohngbkmlpaa
