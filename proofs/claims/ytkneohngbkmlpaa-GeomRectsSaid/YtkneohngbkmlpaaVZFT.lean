/- Walks: GeomRects, one of its cases. -/
import Derived.Test.YtkneohngbkmlpaaW35
import Derived.Test.YtkneohngbkmlpaaW28
namespace Go.Proofs.Ytkneohngbkmlpaa
open Go.RowKit

set_option maxRecDepth 20000 in
set_option maxHeartbeats 16000000 in
theorem Rects_ZFT (l : List Pt) (A : Option Addr) (n c : Nat) (rx0 ry0 rx1 ry1 sx0 sy0 sx1 sy1 : Int) (o : Bool) (w : World)
    (hn : l.length = n) (hr : Pts w w.heap.size A l) (hn0 : n = 0)
    (kapp : ∀ W : World, Below w.heap.size w W → ∃ A' c' w', (Builtin.append_ #[22, 22] 22 #[.slice (some ⟨W.heap.size, 0, none⟩) 0 0, .slice A n c]).run Try.prog (W.alloc (.cells #[] 24)) = .ok (.slice A' n c') w' ∧ Below W.heap.size W w' ∧
      Calls Try.prog 25 #[.slice A' n c'] w' fun e w'' => e = .returned (.tuple #[.agg #[.int .i64 0, .int .i64 0, .int .i64 0, .int .i64 0], .bool false]) ∧ Below w'.heap.size w' w'')
    (kx : ∀ w, Calls Try.prog 28 #[.agg #[.int .i64 rx0, .int .i64 ry0, .int .i64 rx1, .int .i64 ry1]] w fun e w' => e = .returned (.bool false) ∧ Below w.heap.size w w')
    (ky : ∀ w, Calls Try.prog 28 #[.agg #[.int .i64 sx0, .int .i64 sy0, .int .i64 sx1, .int .i64 sy1]] w fun e w' => e = .returned (.bool true) ∧ Below w.heap.size w w')
    (kx' : ∀ w, Calls Try.prog 33 #[.agg #[.int .i64 rx0, .int .i64 ry0, .int .i64 rx1, .int .i64 ry1]] w fun e w' => e = .returned (.bool false) ∧ Below w.heap.size w w')
    (ky' : ∀ w, Calls Try.prog 33 #[.agg #[.int .i64 sx0, .int .i64 sy0, .int .i64 sx1, .int .i64 sy1]] w fun e w' => e = .returned (.bool true) ∧ Below w.heap.size w w')
    (ko : ∀ w, Calls Try.prog 31 #[.agg #[.int .i64 rx0, .int .i64 ry0, .int .i64 rx1, .int .i64 ry1], .agg #[.int .i64 sx0, .int .i64 sy0, .int .i64 sx1, .int .i64 sy1]] w fun e w' => e = .returned (.bool false) ∧ Below w.heap.size w w')
    (ko' : ∀ w, Calls Try.prog 34 #[.agg #[.int .i64 rx0, .int .i64 ry0, .int .i64 rx1, .int .i64 ry1], .agg #[.int .i64 sx0, .int .i64 sy0, .int .i64 sx1, .int .i64 sy1]] w fun e w' => e = .returned (.bool o) ∧ Below w.heap.size w w')
    (kj : ∀ w, Calls Try.prog 26 #[.agg #[.int .i64 rx0, .int .i64 ry0, .int .i64 rx1, .int .i64 ry1], .agg #[.int .i64 sx0, .int .i64 sy0, .int .i64 sx1, .int .i64 sy1]] w fun e w' => e = .returned (.agg #[.int .i64 0, .int .i64 0, .int .i64 0, .int .i64 0]) ∧ Below w.heap.size w w') :
    Calls Try.prog 9 #[.slice A n c, .agg #[.int .i64 rx0, .int .i64 ry0, .int .i64 rx1, .int .i64 ry1], .agg #[.int .i64 sx0, .int .i64 sy0, .int .i64 sx1, .int .i64 sy1]] w fun e w' => e = .returned (.bool true) ∧ Below w.heap.size w w' := by
  have Hkapp := Lib.hid kapp
  have Hkx := Lib.hid kx
  have Hky := Lib.hid ky
  have Hkxq := Lib.hid kx'
  have Hkyq := Lib.hid ky'
  have Hko := Lib.hid ko
  have Hkoq := Lib.hid ko'
  have Hkj := Lib.hid kj
  have HAW := Lib.hid awake_any
  have HR := Lib.hid hr
  have HN := Lib.hid hn
  clear hr hn kapp kx ky kx' ky' ko ko' kj
  subst hn0
  obtain ⟨w0, hw0, p0, p1, g0, z0⟩ := boxes2 w #[.int .i64 rx0, .int .i64 ry0, .int .i64 rx1, .int .i64 ry1] #[.int .i64 sx0, .int .i64 sy0, .int .i64 sx1, .int .i64 sy1] 38 38
  obtain ⟨A1, c1, w1, r1, b1, kB⟩ := Hkapp.out w0 g0
  have R1 := Lib.hid r1
  have KB := Lib.hid kB
  have E0 := Lib.hid (And.intro (p0.grew b1) (And.intro (p1.grew b1) (grow g0 b1)))
  have c0 := p0.four
  have c1' := p1.four
  clear p0 p1 g0 z0 r1 b1 kB Hkapp
  go_enter Try.func9, Try.ntmps9
  go_wp2_with (first | (at_builtin; refine Lib.wpList_append_run _ rfl (.tmp 22) (.tmp 23) 22 22 rfl _ _ rfl rfl _ w1 R1.out ?_))
  refine (KB.out).mono ?_
  rintro e w2 ⟨rfl, hb⟩
  (try clear hw0)
  have E1 := Lib.hid (And.intro (E0.out.1.grew hb) (And.intro (E0.out.2.1.grew hb) (grow E0.out.2.2 hb)))
  clear hb E0 R1 KB c1'
  have c0 := E1.out.1.four
  have c1 := E1.out.2.1.four
  clear c0 c1
  obtain ⟨P1, hP1⟩ : ∃ P1, P1 = w2.heap.size := ⟨_, rfl⟩
  have F0 := Lib.hid (And.intro (E1.out.1.alloc (.cells #[.int .i64 0, .int .i64 0, .int .i64 0, .int .i64 0] 38)) (And.intro (E1.out.2.1.alloc (.cells #[.int .i64 0, .int .i64 0, .int .i64 0, .int .i64 0] 38)) (And.intro (Blk.new' w2 #[.int .i64 0, .int .i64 0, .int .i64 0, .int .i64 0] 38 hP1) (grow_alloc E1.out.2.2 (.cells #[.int .i64 0, .int .i64 0, .int .i64 0, .int .i64 0] 38)))))
  clear E1
  go_wp2_with fail
  rw [← hP1]
  clear hP1
  generalize w2.alloc (.cells #[.int .i64 0, .int .i64 0, .int .i64 0, .int .i64 0] 38) = w3 at *
  clear w2
  obtain ⟨Sa0, Sa0d⟩ : ∃ S : World → Prop, S = fun v : World => Blk v w.heap.size #[.int .i64 rx0, .int .i64 ry0, .int .i64 rx1, .int .i64 ry1] 38 ∧ Blk v (w.heap.size + 1) #[.int .i64 sx0, .int .i64 sy0, .int .i64 sx1, .int .i64 sy1] 38 ∧ Blk v P1 #[.int .i64 0, .int .i64 0, .int .i64 0, .int .i64 0] 38 ∧ Below w.heap.size w v := ⟨_, rfl⟩
  have Sa0t0 : Stands Sa0 := by rw [Sa0d]; exact ((stands_blk _ _ _).and ((stands_blk _ _ _).and ((stands_blk _ _ _).and (stands_below _))))
  have Sa0u0 : ∀ v, Sa0 v → Blk v w.heap.size #[.int .i64 rx0, .int .i64 ry0, .int .i64 rx1, .int .i64 ry1] 38 ∧ Blk v (w.heap.size + 1) #[.int .i64 sx0, .int .i64 sy0, .int .i64 sx1, .int .i64 sy1] 38 ∧ Blk v P1 #[.int .i64 0, .int .i64 0, .int .i64 0, .int .i64 0] 38 ∧ Below w.heap.size w v := fun v h => by rw [Sa0d] at h; exact h
  have Sa0m0 : ∀ v, (Blk v w.heap.size #[.int .i64 rx0, .int .i64 ry0, .int .i64 rx1, .int .i64 ry1] 38 ∧ Blk v (w.heap.size + 1) #[.int .i64 sx0, .int .i64 sy0, .int .i64 sx1, .int .i64 sy1] 38 ∧ Blk v P1 #[.int .i64 0, .int .i64 0, .int .i64 0, .int .i64 0] 38 ∧ Below w.heap.size w v) → Sa0 v := fun v h => by rw [Sa0d]; exact h
  have Sa0u := Lib.hid Sa0u0
  have Sa0m := Lib.hid Sa0m0
  have Sa0t := Lib.hid Sa0t0
  clear Sa0d Sa0u0 Sa0m0 Sa0t0
  refine wp_region_X (S := Sa0) (by kernel_rfl) (Sa0m.out _ ⟨F0.out.1.drew, F0.out.2.1.drew, F0.out.2.2.1.drew, F0.out.2.2.2.drew⟩) ?_
  clear F0
  refine wpX_take (i := 0) (v := ?_) Sa0t.out rfl rfl (by kernel_rfl) (by kernel_rfl) (by kernel_rfl) (fun _ _ _ h => h) (SteadyX.value (by rfl) ?_) ?_
  rotate_left
  · (intro w_ hS; go_simp; try with_reducible rfl)
  simp only [List.setIfInBounds_toArray, List.set_cons_zero, List.set_cons_succ]
  refine wpX_take (i := 1) (v := ?_) Sa0t.out rfl rfl (by kernel_rfl) (by kernel_rfl) (by kernel_rfl) (fun _ _ _ h => h) (SteadyX.value (by rfl) ?_) ?_
  rotate_left
  · (intro w_ hS; go_simp; try with_reducible rfl)
  simp only [List.setIfInBounds_toArray, List.set_cons_zero, List.set_cons_succ]
  refine wpX_take (i := 2) (v := ?_) Sa0t.out rfl rfl (by kernel_rfl) (by kernel_rfl) (by kernel_rfl) (fun _ _ _ h => h) (SteadyX.value (by rfl) ?_) ?_
  rotate_left
  · (intro w_ hS; go_simp; try with_reducible rfl)
  simp only [List.setIfInBounds_toArray, List.set_cons_zero, List.set_cons_succ]
  refine wpX_take (i := 3) (v := ?_) Sa0t.out rfl rfl (by kernel_rfl) (by kernel_rfl) (by kernel_rfl) (fun _ _ _ h => h) (SteadyX.value (by rfl) ?_) ?_
  rotate_left
  · (intro w_ hS; go_simp; try with_reducible rfl)
  simp only [List.setIfInBounds_toArray, List.set_cons_zero, List.set_cons_succ]
  refine wpX_take (i := 4) (v := ?_) Sa0t.out rfl rfl (by kernel_rfl) (by kernel_rfl) (by kernel_rfl) (fun _ _ _ h => h) (SteadyX.value (by rfl) ?_) ?_
  rotate_left
  · (intro w_ hS; go_simp; try with_reducible rfl)
  simp only [List.setIfInBounds_toArray, List.set_cons_zero, List.set_cons_succ]
  refine wpX_take (i := 5) (v := ?_) Sa0t.out rfl rfl (by kernel_rfl) (by kernel_rfl) (by kernel_rfl) (fun _ _ _ h => h) (SteadyX.value (by rfl) ?_) ?_
  rotate_left
  · (intro w_ hS; go_simp; try with_reducible rfl)
  simp only [List.setIfInBounds_toArray, List.set_cons_zero, List.set_cons_succ]
  refine wpX_take (i := 6) (v := undef) Sa0t.out rfl rfl (by kernel_rfl) (by kernel_rfl) (by kernel_rfl) (fun _ _ _ h => h) (SteadyX.off (by rfl)) ?_
  simp only [List.setIfInBounds_toArray, List.set_cons_zero, List.set_cons_succ]
  refine wpX_take (i := 7) (v := undef) Sa0t.out rfl rfl (by kernel_rfl) (by kernel_rfl) (by kernel_rfl) (fun _ _ _ h => h) (SteadyX.off (by rfl)) ?_
  simp only [List.setIfInBounds_toArray, List.set_cons_zero, List.set_cons_succ]
  refine wpX_take (i := 8) (v := undef) Sa0t.out rfl rfl (by kernel_rfl) (by kernel_rfl) (by kernel_rfl) (fun _ _ _ h => h) (SteadyX.off (by rfl)) ?_
  simp only [List.setIfInBounds_toArray, List.set_cons_zero, List.set_cons_succ]
  refine wpX_take (i := 9) (v := undef) Sa0t.out rfl rfl (by kernel_rfl) (by kernel_rfl) (by kernel_rfl) (fun _ _ _ h => h) (SteadyX.off (by rfl)) ?_
  simp only [List.setIfInBounds_toArray, List.set_cons_zero, List.set_cons_succ]
  refine wpX_take (i := 10) (v := ?_) Sa0t.out rfl rfl (by kernel_rfl) (by kernel_rfl) (by kernel_rfl) (fun _ _ _ h => h) (SteadyX.value (by rfl) ?_) ?_
  rotate_left
  · (intro w_ hS; go_simp; try with_reducible rfl)
  simp only [List.setIfInBounds_toArray, List.set_cons_zero, List.set_cons_succ]
  refine wpX_take (i := 11) (v := ?_) Sa0t.out rfl rfl (by kernel_rfl) (by kernel_rfl) (by kernel_rfl) (fun _ _ _ h => h) (SteadyX.value (by rfl) ?_) ?_
  rotate_left
  · (intro w_ hS; go_simp; try with_reducible rfl)
  simp only [List.setIfInBounds_toArray, List.set_cons_zero, List.set_cons_succ]
  refine wpX_take (i := 12) (v := ?_) Sa0t.out rfl rfl (by kernel_rfl) (by kernel_rfl) (by kernel_rfl) (fun _ _ _ h => h) (SteadyX.value (by rfl) ?_) ?_
  rotate_left
  · (intro w_ hS; go_simp; try with_reducible rfl)
  simp only [List.setIfInBounds_toArray, List.set_cons_zero, List.set_cons_succ]
  refine wpX_take (i := 13) (v := ?_) Sa0t.out rfl rfl (by kernel_rfl) (by kernel_rfl) (by kernel_rfl) (fun _ _ _ h => h) (SteadyX.value (by rfl) ?_) ?_
  rotate_left
  · (intro w_ hS; go_simp; try with_reducible rfl)
  simp only [List.setIfInBounds_toArray, List.set_cons_zero, List.set_cons_succ]
  refine wpX_take (i := 14) (v := ?_) Sa0t.out rfl rfl (by kernel_rfl) (by kernel_rfl) (by kernel_rfl) (fun _ _ _ h => h) (SteadyX.value (by rfl) ?_) ?_
  rotate_left
  · (intro w_ hS; go_simp; try with_reducible rfl)
  simp only [List.setIfInBounds_toArray, List.set_cons_zero, List.set_cons_succ]
  refine wpX_take (i := 15) (v := ?_) Sa0t.out rfl rfl (by kernel_rfl) (by kernel_rfl) (by kernel_rfl) (fun _ _ _ h => h) (SteadyX.value (by rfl) ?_) ?_
  rotate_left
  · (intro w_ hS; go_simp; try with_reducible rfl)
  simp only [List.setIfInBounds_toArray, List.set_cons_zero, List.set_cons_succ]
  refine wpX_take (i := 16) (v := ?_) Sa0t.out rfl rfl (by kernel_rfl) (by kernel_rfl) (by kernel_rfl) (fun _ _ _ h => h) (SteadyX.value (by rfl) ?_) ?_
  rotate_left
  · (intro w_ hS; obtain ⟨q0, q1, q2, q3⟩ := Sa0u.out _ hS; (have q0 := q0.four); (have q1 := q1.four); (have q2 := q2.four); (clear q3); go_simp; try with_reducible rfl)
  simp only [List.setIfInBounds_toArray, List.set_cons_zero, List.set_cons_succ]
  refine wpX_take (i := 17) (v := ?_) Sa0t.out rfl rfl (by kernel_rfl) (by kernel_rfl) (by kernel_rfl) (fun _ _ _ h => h) (SteadyX.value (by rfl) ?_) ?_
  rotate_left
  · (intro w_ hS; go_simp; try with_reducible rfl)
  simp only [List.setIfInBounds_toArray, List.set_cons_zero, List.set_cons_succ]
  refine wpX_take (i := 18) (v := ?_) Sa0t.out rfl rfl (by kernel_rfl) (by kernel_rfl) (by kernel_rfl) (fun _ _ _ h => h) (SteadyX.value (by rfl) ?_) ?_
  rotate_left
  · (intro w_ hS; go_simp; try with_reducible rfl)
  simp only [List.setIfInBounds_toArray, List.set_cons_zero, List.set_cons_succ]
  refine wpX_take (i := 19) (v := ?_) Sa0t.out rfl rfl (by kernel_rfl) (by kernel_rfl) (by kernel_rfl) (fun _ _ _ h => h) (SteadyX.value (by rfl) ?_) ?_
  rotate_left
  · (intro w_ hS; go_simp; try with_reducible rfl)
  simp only [List.setIfInBounds_toArray, List.set_cons_zero, List.set_cons_succ]
  refine wpX_take (i := 20) (v := ?_) Sa0t.out rfl rfl (by kernel_rfl) (by kernel_rfl) (by kernel_rfl) (fun _ _ _ h => h) (SteadyX.value (by rfl) ?_) ?_
  rotate_left
  · (intro w_ hS; go_simp; try with_reducible rfl)
  simp only [List.setIfInBounds_toArray, List.set_cons_zero, List.set_cons_succ]
  refine wpX_done (by kernel_rfl) (fun w4 hS => ?_) _
  obtain ⟨q0, q1, q2, q3⟩ := Sa0u.out _ hS
  clear hS Sa0u Sa0m Sa0t
  clear Sa0
  have F1 := Lib.hid (And.intro q0 (And.intro q1 (And.intro q2 (q3))))
  clear q0 q1 q2 q3
  have c0 := F1.out.1.four
  have c1 := F1.out.2.1.four
  have c2 := F1.out.2.2.1.four
  clear c0 c1 c2
  go_wp2_with fail
  obtain ⟨Sb0, Sb0d⟩ : ∃ S : World → Prop, S = fun v : World => Blk v w.heap.size #[.int .i64 rx0, .int .i64 ry0, .int .i64 rx1, .int .i64 ry1] 38 ∧ Blk v (w.heap.size + 1) #[.int .i64 sx0, .int .i64 sy0, .int .i64 sx1, .int .i64 sy1] 38 ∧ Blk v P1 #[.int .i64 0, .int .i64 0, .int .i64 0, .int .i64 0] 38 ∧ Below w.heap.size w v := ⟨_, rfl⟩
  have Sb0t0 : Stands Sb0 := by rw [Sb0d]; exact ((stands_blk _ _ _).and ((stands_blk _ _ _).and ((stands_blk _ _ _).and (stands_below _))))
  have Sb0u0 : ∀ v, Sb0 v → Blk v w.heap.size #[.int .i64 rx0, .int .i64 ry0, .int .i64 rx1, .int .i64 ry1] 38 ∧ Blk v (w.heap.size + 1) #[.int .i64 sx0, .int .i64 sy0, .int .i64 sx1, .int .i64 sy1] 38 ∧ Blk v P1 #[.int .i64 0, .int .i64 0, .int .i64 0, .int .i64 0] 38 ∧ Below w.heap.size w v := fun v h => by rw [Sb0d] at h; exact h
  have Sb0m0 : ∀ v, (Blk v w.heap.size #[.int .i64 rx0, .int .i64 ry0, .int .i64 rx1, .int .i64 ry1] 38 ∧ Blk v (w.heap.size + 1) #[.int .i64 sx0, .int .i64 sy0, .int .i64 sx1, .int .i64 sy1] 38 ∧ Blk v P1 #[.int .i64 0, .int .i64 0, .int .i64 0, .int .i64 0] 38 ∧ Below w.heap.size w v) → Sb0 v := fun v h => by rw [Sb0d]; exact h
  have Sb0u := Lib.hid Sb0u0
  have Sb0m := Lib.hid Sb0m0
  have Sb0t := Lib.hid Sb0t0
  clear Sb0d Sb0u0 Sb0m0 Sb0t0
  refine wp_region_X (S := Sb0) (by kernel_rfl) (Sb0m.out _ ⟨F1.out.1.drew, F1.out.2.1.drew, F1.out.2.2.1.drew, F1.out.2.2.2.drew⟩) ?_
  clear F1
  refine wpX_take (i := 0) (v := ?_) Sb0t.out rfl rfl (by kernel_rfl) (by kernel_rfl) (by kernel_rfl) (fun _ _ _ h => h) (SteadyX.value (by rfl) ?_) ?_
  rotate_left
  · (intro w_ hS; obtain ⟨q0, q1, q2, q3⟩ := Sb0u.out _ hS; (have q0 := q0.four); (have q1 := q1.four); (have q2 := q2.four); (clear q3); go_simp; try with_reducible rfl)
  simp only [List.setIfInBounds_toArray, List.set_cons_zero, List.set_cons_succ]
  refine wpX_take (i := 1) Sb0t.out rfl rfl (by kernel_rfl) (by kernel_rfl) (by kernel_rfl) (fun _ _ _ h => h) (SteadyX.call (by rfl) (fun w_ hS => Hkxq.out w_) (fun w_ hS => by (go_simp))) ?_
  simp only [List.setIfInBounds_toArray, List.set_cons_zero, List.set_cons_succ]
  refine wpX_take (i := 2) (v := ?_) Sb0t.out rfl rfl (by kernel_rfl) (by kernel_rfl) (by kernel_rfl) (fun _ _ _ h => h) (SteadyX.value (by rfl) ?_) ?_
  rotate_left
  · (intro w_ hS; obtain ⟨q0, q1, q2, q3⟩ := Sb0u.out _ hS; (have q0 := q0.four); (have q1 := q1.four); (have q2 := q2.four); (clear q3); go_simp; try with_reducible rfl)
  simp only [List.setIfInBounds_toArray, List.set_cons_zero, List.set_cons_succ]
  refine wpX_take (i := 3) Sb0t.out rfl rfl (by kernel_rfl) (by kernel_rfl) (by kernel_rfl) (fun _ _ _ h => h) (SteadyX.call (by rfl) (fun w_ hS => Hkyq.out w_) (fun w_ hS => by (go_simp))) ?_
  simp only [List.setIfInBounds_toArray, List.set_cons_zero, List.set_cons_succ]
  refine wpX_take (i := 4) (v := ?_) Sb0t.out rfl rfl (by kernel_rfl) (by kernel_rfl) (by kernel_rfl) (fun _ _ _ h => h) (SteadyX.value (by rfl) ?_) ?_
  rotate_left
  · (intro w_ hS; go_simp; try with_reducible rfl)
  simp only [List.setIfInBounds_toArray, List.set_cons_zero, List.set_cons_succ]
  refine wpX_take (i := 5) (v := ?_) Sb0t.out rfl rfl (by kernel_rfl) (by kernel_rfl) (by kernel_rfl) (fun _ _ _ h => h) (SteadyX.value (by rfl) ?_) ?_
  rotate_left
  · (intro w_ hS; go_simp; try with_reducible rfl)
  simp only [List.setIfInBounds_toArray, List.set_cons_zero, List.set_cons_succ]
  refine wpX_done (by kernel_rfl) (fun w5 hS => ?_) _
  obtain ⟨q0, q1, q2, q3⟩ := Sb0u.out _ hS
  clear hS Sb0u Sb0m Sb0t
  clear Sb0
  have F2 := Lib.hid (And.intro q0 (And.intro q1 (And.intro q2 (q3))))
  clear q0 q1 q2 q3
  have c0 := F2.out.1.four
  have c1 := F2.out.2.1.four
  have c2 := F2.out.2.2.1.four
  go_wp2_with fail
  refine (Hkx.out _).mono ?_
  rintro e w6 ⟨rfl, hb⟩
  have F3 := Lib.hid (And.intro (F2.out.1.grew hb) (And.intro (F2.out.2.1.grew hb) (And.intro (F2.out.2.2.1.grew hb) (grow F2.out.2.2.2 hb))))
  clear c0 c1 c2
  clear hb F2
  have c0 := F3.out.1.four
  have c1 := F3.out.2.1.four
  have c2 := F3.out.2.2.1.four
  go_wp2_with fail
  refine (Hky.out _).mono ?_
  rintro e w7 ⟨rfl, hb⟩
  have F4 := Lib.hid (And.intro (F3.out.1.grew hb) (And.intro (F3.out.2.1.grew hb) (And.intro (F3.out.2.2.1.grew hb) (grow F3.out.2.2.2 hb))))
  clear c0 c1 c2
  clear hb F3
  have c0 := F4.out.1.four
  have c1 := F4.out.2.1.four
  have c2 := F4.out.2.2.1.four
  go_wp2_with fail
  refine (Hko.out _).mono ?_
  rintro e w8 ⟨rfl, hb⟩
  have F5 := Lib.hid (And.intro (F4.out.1.grew hb) (And.intro (F4.out.2.1.grew hb) (And.intro (F4.out.2.2.1.grew hb) (grow F4.out.2.2.2 hb))))
  clear c0 c1 c2
  clear hb F4
  have c0 := F5.out.1.four
  have c1 := F5.out.2.1.four
  have c2 := F5.out.2.2.1.four
  go_wp2_with fail
  refine (Hkj.out _).mono ?_
  rintro e w10 ⟨rfl, hb⟩
  have F6 := Lib.hid (And.intro (F5.out.1.grew hb) (And.intro (F5.out.2.1.grew hb) (And.intro (F5.out.2.2.1.grew hb) (grow F5.out.2.2.2 hb))))
  clear c0 c1 c2
  clear hb F5
  have c0 := F6.out.1.four
  have c1 := F6.out.2.1.four
  have c2 := F6.out.2.2.1.four
  clear c0 c1 c2
  go_wp2_with fail
  obtain ⟨P2, hP2⟩ : ∃ P2, P2 = w10.heap.size := ⟨_, rfl⟩
  have G0 := Lib.hid (And.intro (F6.out.1.alloc (.cells #[.int .i64 0, .int .i64 0, .int .i64 0, .int .i64 0] 38)) (And.intro (F6.out.2.1.alloc (.cells #[.int .i64 0, .int .i64 0, .int .i64 0, .int .i64 0] 38)) (And.intro (Blk.new' w10 #[.int .i64 0, .int .i64 0, .int .i64 0, .int .i64 0] 38 hP2) (grow_alloc F6.out.2.2.2 (.cells #[.int .i64 0, .int .i64 0, .int .i64 0, .int .i64 0] 38)))))
  clear F6
  rw [← hP2]
  clear hP2
  generalize w10.alloc (.cells #[.int .i64 0, .int .i64 0, .int .i64 0, .int .i64 0] 38) = w11 at *
  clear w10
  obtain ⟨Sc0, Sc0d⟩ : ∃ S : World → Prop, S = fun v : World => Blk v w.heap.size #[.int .i64 rx0, .int .i64 ry0, .int .i64 rx1, .int .i64 ry1] 38 ∧ Blk v (w.heap.size + 1) #[.int .i64 sx0, .int .i64 sy0, .int .i64 sx1, .int .i64 sy1] 38 ∧ Blk v P2 #[.int .i64 0, .int .i64 0, .int .i64 0, .int .i64 0] 38 ∧ Below w.heap.size w v := ⟨_, rfl⟩
  have Sc0t0 : Stands Sc0 := by rw [Sc0d]; exact ((stands_blk _ _ _).and ((stands_blk _ _ _).and ((stands_blk _ _ _).and (stands_below _))))
  have Sc0u0 : ∀ v, Sc0 v → Blk v w.heap.size #[.int .i64 rx0, .int .i64 ry0, .int .i64 rx1, .int .i64 ry1] 38 ∧ Blk v (w.heap.size + 1) #[.int .i64 sx0, .int .i64 sy0, .int .i64 sx1, .int .i64 sy1] 38 ∧ Blk v P2 #[.int .i64 0, .int .i64 0, .int .i64 0, .int .i64 0] 38 ∧ Below w.heap.size w v := fun v h => by rw [Sc0d] at h; exact h
  have Sc0m0 : ∀ v, (Blk v w.heap.size #[.int .i64 rx0, .int .i64 ry0, .int .i64 rx1, .int .i64 ry1] 38 ∧ Blk v (w.heap.size + 1) #[.int .i64 sx0, .int .i64 sy0, .int .i64 sx1, .int .i64 sy1] 38 ∧ Blk v P2 #[.int .i64 0, .int .i64 0, .int .i64 0, .int .i64 0] 38 ∧ Below w.heap.size w v) → Sc0 v := fun v h => by rw [Sc0d]; exact h
  have Sc0u := Lib.hid Sc0u0
  have Sc0m := Lib.hid Sc0m0
  have Sc0t := Lib.hid Sc0t0
  clear Sc0d Sc0u0 Sc0m0 Sc0t0
  refine wp_region_X (S := Sc0) (by kernel_rfl) (Sc0m.out _ ⟨G0.out.1.drew, G0.out.2.1.drew, G0.out.2.2.1.drew, G0.out.2.2.2.drew⟩) ?_
  clear G0
  refine wpX_take (i := 0) (v := ?_) Sc0t.out rfl rfl (by kernel_rfl) (by kernel_rfl) (by kernel_rfl) (fun _ _ _ h => h) (SteadyX.value (by rfl) ?_) ?_
  rotate_left
  · (intro w_ hS; go_simp; try with_reducible rfl)
  simp only [List.setIfInBounds_toArray, List.set_cons_zero, List.set_cons_succ]
  refine wpX_take (i := 1) (v := ?_) Sc0t.out rfl rfl (by kernel_rfl) (by kernel_rfl) (by kernel_rfl) (fun _ _ _ h => h) (SteadyX.value (by rfl) ?_) ?_
  rotate_left
  · (intro w_ hS; go_simp; try with_reducible rfl)
  simp only [List.setIfInBounds_toArray, List.set_cons_zero, List.set_cons_succ]
  refine wpX_take (i := 2) (v := undef) Sc0t.out rfl rfl (by kernel_rfl) (by kernel_rfl) (by kernel_rfl) (fun _ _ _ h => h) (SteadyX.off (by rfl)) ?_
  simp only [List.setIfInBounds_toArray, List.set_cons_zero, List.set_cons_succ]
  refine wpX_take (i := 3) (v := ?_) Sc0t.out rfl rfl (by kernel_rfl) (by kernel_rfl) (by kernel_rfl) (fun _ _ _ h => h) (SteadyX.value (by rfl) ?_) ?_
  rotate_left
  · (intro w_ hS; go_simp; try with_reducible rfl)
  simp only [List.setIfInBounds_toArray, List.set_cons_zero, List.set_cons_succ]
  refine wpX_take (i := 4) (v := ?_) Sc0t.out rfl rfl (by kernel_rfl) (by kernel_rfl) (by kernel_rfl) (fun _ _ _ h => h) (SteadyX.value (by rfl) ?_) ?_
  rotate_left
  · (intro w_ hS; go_simp; try with_reducible rfl)
  simp only [List.setIfInBounds_toArray, List.set_cons_zero, List.set_cons_succ]
  refine wpX_take (i := 5) (v := undef) Sc0t.out rfl rfl (by kernel_rfl) (by kernel_rfl) (by kernel_rfl) (fun _ _ _ h => h) (SteadyX.off (by rfl)) ?_
  simp only [List.setIfInBounds_toArray, List.set_cons_zero, List.set_cons_succ]
  refine wpX_take (i := 6) (v := undef) Sc0t.out rfl rfl (by kernel_rfl) (by kernel_rfl) (by kernel_rfl) (fun _ _ _ h => h) (SteadyX.off (by rfl)) ?_
  simp only [List.setIfInBounds_toArray, List.set_cons_zero, List.set_cons_succ]
  refine wpX_take (i := 7) (v := undef) Sc0t.out rfl rfl (by kernel_rfl) (by kernel_rfl) (by kernel_rfl) (fun _ _ _ h => h) (SteadyX.off (by rfl)) ?_
  simp only [List.setIfInBounds_toArray, List.set_cons_zero, List.set_cons_succ]
  refine wpX_take (i := 8) (v := undef) Sc0t.out rfl rfl (by kernel_rfl) (by kernel_rfl) (by kernel_rfl) (fun _ _ _ h => h) (SteadyX.off (by rfl)) ?_
  simp only [List.setIfInBounds_toArray, List.set_cons_zero, List.set_cons_succ]
  refine wpX_take (i := 9) (v := undef) Sc0t.out rfl rfl (by kernel_rfl) (by kernel_rfl) (by kernel_rfl) (fun _ _ _ h => h) (SteadyX.off (by rfl)) ?_
  simp only [List.setIfInBounds_toArray, List.set_cons_zero, List.set_cons_succ]
  refine wpX_take (i := 10) (v := ?_) Sc0t.out rfl rfl (by kernel_rfl) (by kernel_rfl) (by kernel_rfl) (fun _ _ _ h => h) (SteadyX.value (by rfl) ?_) ?_
  rotate_left
  · (intro w_ hS; go_simp; try with_reducible rfl)
  simp only [List.setIfInBounds_toArray, List.set_cons_zero, List.set_cons_succ]
  refine wpX_take (i := 11) (v := ?_) Sc0t.out rfl rfl (by kernel_rfl) (by kernel_rfl) (by kernel_rfl) (fun _ _ _ h => h) (SteadyX.value (by rfl) ?_) ?_
  rotate_left
  · (intro w_ hS; go_simp; try with_reducible rfl)
  simp only [List.setIfInBounds_toArray, List.set_cons_zero, List.set_cons_succ]
  refine wpX_take (i := 12) (v := ?_) Sc0t.out rfl rfl (by kernel_rfl) (by kernel_rfl) (by kernel_rfl) (fun _ _ _ h => h) (SteadyX.value (by rfl) ?_) ?_
  rotate_left
  · (intro w_ hS; go_simp; try with_reducible rfl)
  simp only [List.setIfInBounds_toArray, List.set_cons_zero, List.set_cons_succ]
  refine wpX_take (i := 13) (v := ?_) Sc0t.out rfl rfl (by kernel_rfl) (by kernel_rfl) (by kernel_rfl) (fun _ _ _ h => h) (SteadyX.value (by rfl) ?_) ?_
  rotate_left
  · (intro w_ hS; go_simp; try with_reducible rfl)
  simp only [List.setIfInBounds_toArray, List.set_cons_zero, List.set_cons_succ]
  refine wpX_take (i := 14) (v := undef) Sc0t.out rfl rfl (by kernel_rfl) (by kernel_rfl) (by kernel_rfl) (fun _ _ _ h => h) (SteadyX.off (by rfl)) ?_
  simp only [List.setIfInBounds_toArray, List.set_cons_zero, List.set_cons_succ]
  refine wpX_take (i := 15) (v := ?_) Sc0t.out rfl rfl (by kernel_rfl) (by kernel_rfl) (by kernel_rfl) (fun _ _ _ h => h) (SteadyX.value (by rfl) ?_) ?_
  rotate_left
  · (intro w_ hS; go_simp; try with_reducible rfl)
  simp only [List.setIfInBounds_toArray, List.set_cons_zero, List.set_cons_succ]
  refine wpX_take (i := 16) (v := ?_) Sc0t.out rfl rfl (by kernel_rfl) (by kernel_rfl) (by kernel_rfl) (fun _ _ _ h => h) (SteadyX.value (by rfl) ?_) ?_
  rotate_left
  · (intro w_ hS; go_simp; try with_reducible rfl)
  simp only [List.setIfInBounds_toArray, List.set_cons_zero, List.set_cons_succ]
  refine wpX_take (i := 17) (v := ?_) Sc0t.out rfl rfl (by kernel_rfl) (by kernel_rfl) (by kernel_rfl) (fun _ _ _ h => h) (SteadyX.value (by rfl) ?_) ?_
  rotate_left
  · (intro w_ hS; go_simp; try with_reducible rfl)
  simp only [List.setIfInBounds_toArray, List.set_cons_zero, List.set_cons_succ]
  refine wpX_take (i := 18) (v := ?_) Sc0t.out rfl rfl (by kernel_rfl) (by kernel_rfl) (by kernel_rfl) (fun _ _ _ h => h) (SteadyX.value (by rfl) ?_) ?_
  rotate_left
  · (intro w_ hS; obtain ⟨q0, q1, q2, q3⟩ := Sc0u.out _ hS; (have q0 := q0.four); (have q1 := q1.four); (have q2 := q2.four); (clear q3); go_simp; try with_reducible rfl)
  simp only [List.setIfInBounds_toArray, List.set_cons_zero, List.set_cons_succ]
  refine wpX_take (i := 19) (v := ?_) Sc0t.out rfl rfl (by kernel_rfl) (by kernel_rfl) (by kernel_rfl) (fun _ _ _ h => h) (SteadyX.value (by rfl) ?_) ?_
  rotate_left
  · (intro w_ hS; go_simp; try with_reducible rfl)
  simp only [List.setIfInBounds_toArray, List.set_cons_zero, List.set_cons_succ]
  refine wpX_take (i := 20) (v := ?_) Sc0t.out rfl rfl (by kernel_rfl) (by kernel_rfl) (by kernel_rfl) (fun _ _ _ h => h) (SteadyX.value (by rfl) ?_) ?_
  rotate_left
  · (intro w_ hS; go_simp; try with_reducible rfl)
  simp only [List.setIfInBounds_toArray, List.set_cons_zero, List.set_cons_succ]
  refine wpX_take (i := 21) (v := ?_) Sc0t.out rfl rfl (by kernel_rfl) (by kernel_rfl) (by kernel_rfl) (fun _ _ _ h => h) (SteadyX.value (by rfl) ?_) ?_
  rotate_left
  · (intro w_ hS; go_simp; try with_reducible rfl)
  simp only [List.setIfInBounds_toArray, List.set_cons_zero, List.set_cons_succ]
  refine wpX_take (i := 22) (v := ?_) Sc0t.out rfl rfl (by kernel_rfl) (by kernel_rfl) (by kernel_rfl) (fun _ _ _ h => h) (SteadyX.value (by rfl) ?_) ?_
  rotate_left
  · (intro w_ hS; go_simp; try with_reducible rfl)
  simp only [List.setIfInBounds_toArray, List.set_cons_zero, List.set_cons_succ]
  refine wpX_done (by kernel_rfl) (fun w12 hS => ?_) _
  obtain ⟨q0, q1, q2, q3⟩ := Sc0u.out _ hS
  clear hS Sc0u Sc0m Sc0t
  clear Sc0
  have G1 := Lib.hid (And.intro q0 (And.intro q1 (And.intro q2 (q3))))
  clear q0 q1 q2 q3
  have c0 := G1.out.1.four
  have c1 := G1.out.2.1.four
  have c2 := G1.out.2.2.1.four
  clear c0 c1 c2
  go_wp2
  go_loopw [13] (fun i wr => i = .int .i64 0 ∧ Hid (Below w.heap.size w wr)) (fun i _ => 0)
  case atStart => exact ⟨rfl, Lib.hid G1.out.2.2.2⟩
  case round =>
    obtain ⟨rfl, HB⟩ := hrel
    clear G1
    go_wp2_with fail
    refine (HAW.out _).mono ?_
    rintro e w13 ⟨rfl, hb⟩
    have HE := Lib.hid (grow HB.out hb)
    clear hb
    go_wp2
    go_ret
    exact ⟨rfl, HE.out⟩

end Go.Proofs.Ytkneohngbkmlpaa
