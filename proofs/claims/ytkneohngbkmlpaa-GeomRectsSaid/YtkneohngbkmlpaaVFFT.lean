/- Walks: GeomRects, one of its cases. -/
import Derived.Test.YtkneohngbkmlpaaW35
import Derived.Test.YtkneohngbkmlpaaW28
namespace Go.Proofs.Ytkneohngbkmlpaa
open Go.RowKit

set_option maxRecDepth 20000 in
set_option maxHeartbeats 16000000 in
theorem Rects_FFT (l : List Pt) (A : Option Addr) (n c : Nat) (rx0 ry0 rx1 ry1 sx0 sy0 sx1 sy1 : Int) (o m0 : Bool) (mq hq : Nat → Bool) (nq dq : Nat → Int) (w : World)
    (hn : l.length = n) (hr : Pts w w.heap.size A l) (hn0 : 0 < n) (hn1 : (n : Int) ≤ 100)
    (kapp : ∀ W : World, Below w.heap.size w W → ∃ A' c' w', (Builtin.append_ #[22, 22] 22 #[.slice (some ⟨W.heap.size, 0, none⟩) 0 0, .slice A n c]).run Try.prog (W.alloc (.cells #[] 24)) = .ok (.slice A' n c') w' ∧ Below W.heap.size W w' ∧
      Calls Try.prog 25 #[.slice A' n c'] w' fun e w'' => e = .returned (.tuple #[.agg #[.int .i64 0, .int .i64 0, .int .i64 0, .int .i64 0], .bool false]) ∧ Below w'.heap.size w' w'')
    (kall : ∀ w', Below w.heap.size w w' → Calls Try.prog 10 #[.slice A n c] w' fun e w'' => e = .returned (.bool false) ∧ Below w'.heap.size w' w'')
    (kx : ∀ w, Calls Try.prog 28 #[.agg #[.int .i64 rx0, .int .i64 ry0, .int .i64 rx1, .int .i64 ry1]] w fun e w' => e = .returned (.bool false) ∧ Below w.heap.size w w')
    (ky : ∀ w, Calls Try.prog 28 #[.agg #[.int .i64 sx0, .int .i64 sy0, .int .i64 sx1, .int .i64 sy1]] w fun e w' => e = .returned (.bool true) ∧ Below w.heap.size w w')
    (kx' : ∀ w, Calls Try.prog 33 #[.agg #[.int .i64 rx0, .int .i64 ry0, .int .i64 rx1, .int .i64 ry1]] w fun e w' => e = .returned (.bool false) ∧ Below w.heap.size w w')
    (ky' : ∀ w, Calls Try.prog 33 #[.agg #[.int .i64 sx0, .int .i64 sy0, .int .i64 sx1, .int .i64 sy1]] w fun e w' => e = .returned (.bool true) ∧ Below w.heap.size w w')
    (ko : ∀ w, Calls Try.prog 31 #[.agg #[.int .i64 rx0, .int .i64 ry0, .int .i64 rx1, .int .i64 ry1], .agg #[.int .i64 sx0, .int .i64 sy0, .int .i64 sx1, .int .i64 sy1]] w fun e w' => e = .returned (.bool false) ∧ Below w.heap.size w w')
    (ko' : ∀ w, Calls Try.prog 34 #[.agg #[.int .i64 rx0, .int .i64 ry0, .int .i64 rx1, .int .i64 ry1], .agg #[.int .i64 sx0, .int .i64 sy0, .int .i64 sx1, .int .i64 sy1]] w fun e w' => e = .returned (.bool o) ∧ Below w.heap.size w w')
    (kj : ∀ w, Calls Try.prog 26 #[.agg #[.int .i64 rx0, .int .i64 ry0, .int .i64 rx1, .int .i64 ry1], .agg #[.int .i64 sx0, .int .i64 sy0, .int .i64 sx1, .int .i64 sy1]] w fun e w' => e = .returned (.agg #[.int .i64 0, .int .i64 0, .int .i64 0, .int .i64 0]) ∧ Below w.heap.size w w')
    (k1 : ∀ k (h : k < l.length) w, Calls Try.prog 11 #[pt l[k]] w fun e w' => e = .returned (.bool (mq k)) ∧ Below w.heap.size w w')
    (k0 : ∀ (h : 0 < l.length) w, Calls Try.prog 11 #[pt l[0]] w fun e w' => e = .returned (.bool m0) ∧ Below w.heap.size w w')
    (k2 : ∀ k (h : k < l.length), mq k = true → false = true → ∀ w, Calls Try.prog 36 #[.agg #[.int .i64 rx0, .int .i64 ry0, .int .i64 rx1, .int .i64 ry1], pt l[k]] w fun e w' => e = .returned (.int .u64 (nq k)) ∧ Below w.heap.size w w')
    (k3 : ∀ k (h : k < l.length), mq k = true → m0 = true → ∀ w, Calls Try.prog 37 #[pt l[k], pt (l[0]'(Nat.lt_of_le_of_lt (Nat.zero_le k) h))] w fun e w' => e = .returned (.int .u64 (dq k)) ∧ Below w.heap.size w w')
    (k4 : ∀ k (h : k < l.length) w, Calls Try.prog 27 #[.agg #[.int .i64 rx0, .int .i64 ry0, .int .i64 rx1, .int .i64 ry1], pt l[k]] w fun e w' => e = .returned (.bool (mq k && false && hq k)) ∧ Below w.heap.size w w')
    (k5 : ∀ k (h : k < l.length) w, Calls Try.prog 38 #[.agg #[.int .i64 rx0, .int .i64 ry0, .int .i64 rx1, .int .i64 ry1], pt l[k]] w fun e w' => e = .returned (.bool (hq k)) ∧ Below w.heap.size w w')
    (k6 : ∀ k (h : k < l.length) w, Calls Try.prog 29 #[.agg #[.int .i64 rx0, .int .i64 ry0, .int .i64 rx1, .int .i64 ry1], pt l[k]] w fun e w' => e = .returned (.int .u64 (if mq k && false then nq k else 0)) ∧ Below w.heap.size w w')
    (k7 : ∀ k (h : k < l.length) w, Calls Try.prog 30 #[pt l[k], pt (l[0]'(Nat.lt_of_le_of_lt (Nat.zero_le k) h))] w fun e w' => e = .returned (.int .u64 (if mq k && m0 then dq k else 0)) ∧ Below w.heap.size w w') :
    Calls Try.prog 9 #[.slice A n c, .agg #[.int .i64 rx0, .int .i64 ry0, .int .i64 rx1, .int .i64 ry1], .agg #[.int .i64 sx0, .int .i64 sy0, .int .i64 sx1, .int .i64 sy1]] w fun e w' => e = .returned (.bool true) ∧ Below w.heap.size w w' := by
  have Hkapp := Lib.hid kapp
  have Hkall := Lib.hid kall
  have Hkx := Lib.hid kx
  have Hky := Lib.hid ky
  have Hkxq := Lib.hid kx'
  have Hkyq := Lib.hid ky'
  have Hko := Lib.hid ko
  have Hkoq := Lib.hid ko'
  have Hkj := Lib.hid kj
  have Hk0 := Lib.hid k0
  have Hk1 := Lib.hid k1
  have Hk2 := Lib.hid k2
  have Hk3 := Lib.hid k3
  have Hk4 := Lib.hid k4
  have Hk5 := Lib.hid k5
  have Hk6 := Lib.hid k6
  have Hk7 := Lib.hid k7
  have HAW := Lib.hid awake_any
  have HR := Lib.hid hr
  have HN := Lib.hid hn
  clear hr hn kapp kall kx ky kx' ky' ko ko' kj k0 k1 k2 k3 k4 k5 k6 k7
  have hpos : (0 : Int) < (n : Int) := by omega
  obtain ⟨w0, hw0, p0, p1, g0, z0⟩ := boxes2 w #[.int .i64 rx0, .int .i64 ry0, .int .i64 rx1, .int .i64 ry1] #[.int .i64 sx0, .int .i64 sy0, .int .i64 sx1, .int .i64 sy1] 38 38
  obtain ⟨A1, c1, w1, r1, b1, kB⟩ := Hkapp.out w0 g0
  have R1 := Lib.hid r1
  have KB := Lib.hid kB
  have E0 := Lib.hid (And.intro (p0.grew b1) (And.intro (p1.grew b1) (grow g0 b1)))
  have c0 := p0.four
  have c1' := p1.four
  clear p0 p1 g0 z0 r1 b1 kB Hkapp
  go_enter Try.func9, Try.ntmps9
  go_wp2_with (first | (at_builtin; refine Lib.wpList_append_run _ rfl (.tmp 22) (.tmp 23) 22 22 rfl _ _ rfl rfl _ w1 R1.out ?_))
  refine (KB.out).mono ?_
  rintro e w2 ⟨rfl, hb⟩
  (try clear hw0)
  have E1 := Lib.hid (And.intro (E0.out.1.grew hb) (And.intro (E0.out.2.1.grew hb) (grow E0.out.2.2 hb)))
  clear hb E0 R1 KB c1'
  have c0 := E1.out.1.four
  have c1 := E1.out.2.1.four
  clear c0 c1
  obtain ⟨P1, hP1⟩ : ∃ P1, P1 = w2.heap.size := ⟨_, rfl⟩
  have F0 := Lib.hid (And.intro (E1.out.1.alloc (.cells #[.int .i64 0, .int .i64 0, .int .i64 0, .int .i64 0] 38)) (And.intro (E1.out.2.1.alloc (.cells #[.int .i64 0, .int .i64 0, .int .i64 0, .int .i64 0] 38)) (And.intro (Blk.new' w2 #[.int .i64 0, .int .i64 0, .int .i64 0, .int .i64 0] 38 hP1) (grow_alloc E1.out.2.2 (.cells #[.int .i64 0, .int .i64 0, .int .i64 0, .int .i64 0] 38)))))
  clear E1
  go_wp2_with fail
  refine (Hkall.out _ F0.out.2.2.2).mono ?_
  rintro e w3 ⟨rfl, hb⟩
  have F1 := Lib.hid (And.intro (F0.out.1.grew hb) (And.intro (F0.out.2.1.grew hb) (And.intro (F0.out.2.2.1.grew hb) (grow F0.out.2.2.2 hb))))
  clear hb F0
  rw [← hP1]
  clear hP1 w2
  go_wp2_with fail
  obtain ⟨Sa0, Sa0d⟩ : ∃ S : World → Prop, S = fun v : World => Blk v w.heap.size #[.int .i64 rx0, .int .i64 ry0, .int .i64 rx1, .int .i64 ry1] 38 ∧ Blk v (w.heap.size + 1) #[.int .i64 sx0, .int .i64 sy0, .int .i64 sx1, .int .i64 sy1] 38 ∧ Blk v P1 #[.int .i64 0, .int .i64 0, .int .i64 0, .int .i64 0] 38 ∧ Below w.heap.size w v := ⟨_, rfl⟩
  have Sa0t0 : Stands Sa0 := by rw [Sa0d]; exact ((stands_blk _ _ _).and ((stands_blk _ _ _).and ((stands_blk _ _ _).and (stands_below _))))
  have Sa0u0 : ∀ v, Sa0 v → Blk v w.heap.size #[.int .i64 rx0, .int .i64 ry0, .int .i64 rx1, .int .i64 ry1] 38 ∧ Blk v (w.heap.size + 1) #[.int .i64 sx0, .int .i64 sy0, .int .i64 sx1, .int .i64 sy1] 38 ∧ Blk v P1 #[.int .i64 0, .int .i64 0, .int .i64 0, .int .i64 0] 38 ∧ Below w.heap.size w v := fun v h => by rw [Sa0d] at h; exact h
  have Sa0m0 : ∀ v, (Blk v w.heap.size #[.int .i64 rx0, .int .i64 ry0, .int .i64 rx1, .int .i64 ry1] 38 ∧ Blk v (w.heap.size + 1) #[.int .i64 sx0, .int .i64 sy0, .int .i64 sx1, .int .i64 sy1] 38 ∧ Blk v P1 #[.int .i64 0, .int .i64 0, .int .i64 0, .int .i64 0] 38 ∧ Below w.heap.size w v) → Sa0 v := fun v h => by rw [Sa0d]; exact h
  have Sa0u := Lib.hid Sa0u0
  have Sa0m := Lib.hid Sa0m0
  have Sa0t := Lib.hid Sa0t0
  clear Sa0d Sa0u0 Sa0m0 Sa0t0
  refine wp_region_X (S := Sa0) (by kernel_rfl) (Sa0m.out _ ⟨F1.out.1.drew, F1.out.2.1.drew, F1.out.2.2.1.drew, F1.out.2.2.2.drew⟩) ?_
  clear F1
  refine wpX_take (i := 0) (v := ?_) Sa0t.out rfl rfl (by kernel_rfl) (by kernel_rfl) (by kernel_rfl) (fun _ _ _ h => h) (SteadyX.value (by rfl) ?_) ?_
  rotate_left
  · (intro w_ hS; go_simp; try with_reducible rfl)
  simp only [List.setIfInBounds_toArray, List.set_cons_zero, List.set_cons_succ]
  refine wpX_take (i := 1) (v := ?_) Sa0t.out rfl rfl (by kernel_rfl) (by kernel_rfl) (by kernel_rfl) (fun _ _ _ h => h) (SteadyX.value (by rfl) ?_) ?_
  rotate_left
  · (intro w_ hS; go_simp; try with_reducible rfl)
  simp only [List.setIfInBounds_toArray, List.set_cons_zero, List.set_cons_succ]
  refine wpX_take (i := 2) (v := ?_) Sa0t.out rfl rfl (by kernel_rfl) (by kernel_rfl) (by kernel_rfl) (fun _ _ _ h => h) (SteadyX.value (by rfl) ?_) ?_
  rotate_left
  · (intro w_ hS; go_simp; try with_reducible rfl)
  simp only [List.setIfInBounds_toArray, List.set_cons_zero, List.set_cons_succ]
  refine wpX_take (i := 3) (v := ?_) Sa0t.out rfl rfl (by kernel_rfl) (by kernel_rfl) (by kernel_rfl) (fun _ _ _ h => h) (SteadyX.value (by rfl) ?_) ?_
  rotate_left
  · (intro w_ hS; go_simp; try with_reducible rfl)
  simp only [List.setIfInBounds_toArray, List.set_cons_zero, List.set_cons_succ]
  refine wpX_take (i := 4) (v := ?_) Sa0t.out rfl rfl (by kernel_rfl) (by kernel_rfl) (by kernel_rfl) (fun _ _ _ h => h) (SteadyX.value (by rfl) ?_) ?_
  rotate_left
  · (intro w_ hS; go_simp; try with_reducible rfl)
  simp only [List.setIfInBounds_toArray, List.set_cons_zero, List.set_cons_succ]
  refine wpX_take (i := 5) (v := ?_) Sa0t.out rfl rfl (by kernel_rfl) (by kernel_rfl) (by kernel_rfl) (fun _ _ _ h => h) (SteadyX.value (by rfl) ?_) ?_
  rotate_left
  · (intro w_ hS; go_simp; try with_reducible rfl)
  simp only [List.setIfInBounds_toArray, List.set_cons_zero, List.set_cons_succ]
  refine wpX_take (i := 6) (v := undef) Sa0t.out rfl rfl (by kernel_rfl) (by kernel_rfl) (by kernel_rfl) (fun _ _ _ h => h) (SteadyX.off (by rfl)) ?_
  simp only [List.setIfInBounds_toArray, List.set_cons_zero, List.set_cons_succ]
  refine wpX_take (i := 7) (v := undef) Sa0t.out rfl rfl (by kernel_rfl) (by kernel_rfl) (by kernel_rfl) (fun _ _ _ h => h) (SteadyX.off (by rfl)) ?_
  simp only [List.setIfInBounds_toArray, List.set_cons_zero, List.set_cons_succ]
  refine wpX_take (i := 8) (v := undef) Sa0t.out rfl rfl (by kernel_rfl) (by kernel_rfl) (by kernel_rfl) (fun _ _ _ h => h) (SteadyX.off (by rfl)) ?_
  simp only [List.setIfInBounds_toArray, List.set_cons_zero, List.set_cons_succ]
  refine wpX_take (i := 9) (v := undef) Sa0t.out rfl rfl (by kernel_rfl) (by kernel_rfl) (by kernel_rfl) (fun _ _ _ h => h) (SteadyX.off (by rfl)) ?_
  simp only [List.setIfInBounds_toArray, List.set_cons_zero, List.set_cons_succ]
  refine wpX_take (i := 10) (v := ?_) Sa0t.out rfl rfl (by kernel_rfl) (by kernel_rfl) (by kernel_rfl) (fun _ _ _ h => h) (SteadyX.value (by rfl) ?_) ?_
  rotate_left
  · (intro w_ hS; go_simp; try with_reducible rfl)
  simp only [List.setIfInBounds_toArray, List.set_cons_zero, List.set_cons_succ]
  refine wpX_take (i := 11) (v := ?_) Sa0t.out rfl rfl (by kernel_rfl) (by kernel_rfl) (by kernel_rfl) (fun _ _ _ h => h) (SteadyX.value (by rfl) ?_) ?_
  rotate_left
  · (intro w_ hS; go_simp; try with_reducible rfl)
  simp only [List.setIfInBounds_toArray, List.set_cons_zero, List.set_cons_succ]
  refine wpX_take (i := 12) (v := ?_) Sa0t.out rfl rfl (by kernel_rfl) (by kernel_rfl) (by kernel_rfl) (fun _ _ _ h => h) (SteadyX.value (by rfl) ?_) ?_
  rotate_left
  · (intro w_ hS; go_simp; try with_reducible rfl)
  simp only [List.setIfInBounds_toArray, List.set_cons_zero, List.set_cons_succ]
  refine wpX_take (i := 13) (v := ?_) Sa0t.out rfl rfl (by kernel_rfl) (by kernel_rfl) (by kernel_rfl) (fun _ _ _ h => h) (SteadyX.value (by rfl) ?_) ?_
  rotate_left
  · (intro w_ hS; go_simp; try with_reducible rfl)
  simp only [List.setIfInBounds_toArray, List.set_cons_zero, List.set_cons_succ]
  refine wpX_take (i := 14) (v := ?_) Sa0t.out rfl rfl (by kernel_rfl) (by kernel_rfl) (by kernel_rfl) (fun _ _ _ h => h) (SteadyX.value (by rfl) ?_) ?_
  rotate_left
  · (intro w_ hS; go_simp; try with_reducible rfl)
  simp only [List.setIfInBounds_toArray, List.set_cons_zero, List.set_cons_succ]
  refine wpX_take (i := 15) (v := ?_) Sa0t.out rfl rfl (by kernel_rfl) (by kernel_rfl) (by kernel_rfl) (fun _ _ _ h => h) (SteadyX.value (by rfl) ?_) ?_
  rotate_left
  · (intro w_ hS; go_simp; try with_reducible rfl)
  simp only [List.setIfInBounds_toArray, List.set_cons_zero, List.set_cons_succ]
  refine wpX_take (i := 16) (v := ?_) Sa0t.out rfl rfl (by kernel_rfl) (by kernel_rfl) (by kernel_rfl) (fun _ _ _ h => h) (SteadyX.value (by rfl) ?_) ?_
  rotate_left
  · (intro w_ hS; obtain ⟨q0, q1, q2, q3⟩ := Sa0u.out _ hS; (have q0 := q0.four); (have q1 := q1.four); (have q2 := q2.four); (clear q3); go_simp; try with_reducible rfl)
  simp only [List.setIfInBounds_toArray, List.set_cons_zero, List.set_cons_succ]
  refine wpX_take (i := 17) (v := ?_) Sa0t.out rfl rfl (by kernel_rfl) (by kernel_rfl) (by kernel_rfl) (fun _ _ _ h => h) (SteadyX.value (by rfl) ?_) ?_
  rotate_left
  · (intro w_ hS; go_simp; try with_reducible rfl)
  simp only [List.setIfInBounds_toArray, List.set_cons_zero, List.set_cons_succ]
  refine wpX_take (i := 18) (v := ?_) Sa0t.out rfl rfl (by kernel_rfl) (by kernel_rfl) (by kernel_rfl) (fun _ _ _ h => h) (SteadyX.value (by rfl) ?_) ?_
  rotate_left
  · (intro w_ hS; go_simp; try with_reducible rfl)
  simp only [List.setIfInBounds_toArray, List.set_cons_zero, List.set_cons_succ]
  refine wpX_take (i := 19) (v := ?_) Sa0t.out rfl rfl (by kernel_rfl) (by kernel_rfl) (by kernel_rfl) (fun _ _ _ h => h) (SteadyX.value (by rfl) ?_) ?_
  rotate_left
  · (intro w_ hS; go_simp; try with_reducible rfl)
  simp only [List.setIfInBounds_toArray, List.set_cons_zero, List.set_cons_succ]
  refine wpX_take (i := 20) (v := ?_) Sa0t.out rfl rfl (by kernel_rfl) (by kernel_rfl) (by kernel_rfl) (fun _ _ _ h => h) (SteadyX.value (by rfl) ?_) ?_
  rotate_left
  · (intro w_ hS; go_simp; try with_reducible rfl)
  simp only [List.setIfInBounds_toArray, List.set_cons_zero, List.set_cons_succ]
  refine wpX_done (by kernel_rfl) (fun w4 hS => ?_) _
  obtain ⟨q0, q1, q2, q3⟩ := Sa0u.out _ hS
  clear hS Sa0u Sa0m Sa0t
  clear Sa0
  have F2 := Lib.hid (And.intro q0 (And.intro q1 (And.intro q2 (q3))))
  clear q0 q1 q2 q3
  have c0 := F2.out.1.four
  have c1 := F2.out.2.1.four
  have c2 := F2.out.2.2.1.four
  clear c0 c1 c2
  go_wp2_with fail
  obtain ⟨Sb0, Sb0d⟩ : ∃ S : World → Prop, S = fun v : World => Blk v w.heap.size #[.int .i64 rx0, .int .i64 ry0, .int .i64 rx1, .int .i64 ry1] 38 ∧ Blk v (w.heap.size + 1) #[.int .i64 sx0, .int .i64 sy0, .int .i64 sx1, .int .i64 sy1] 38 ∧ Blk v P1 #[.int .i64 0, .int .i64 0, .int .i64 0, .int .i64 0] 38 ∧ Below w.heap.size w v := ⟨_, rfl⟩
  have Sb0t0 : Stands Sb0 := by rw [Sb0d]; exact ((stands_blk _ _ _).and ((stands_blk _ _ _).and ((stands_blk _ _ _).and (stands_below _))))
  have Sb0u0 : ∀ v, Sb0 v → Blk v w.heap.size #[.int .i64 rx0, .int .i64 ry0, .int .i64 rx1, .int .i64 ry1] 38 ∧ Blk v (w.heap.size + 1) #[.int .i64 sx0, .int .i64 sy0, .int .i64 sx1, .int .i64 sy1] 38 ∧ Blk v P1 #[.int .i64 0, .int .i64 0, .int .i64 0, .int .i64 0] 38 ∧ Below w.heap.size w v := fun v h => by rw [Sb0d] at h; exact h
  have Sb0m0 : ∀ v, (Blk v w.heap.size #[.int .i64 rx0, .int .i64 ry0, .int .i64 rx1, .int .i64 ry1] 38 ∧ Blk v (w.heap.size + 1) #[.int .i64 sx0, .int .i64 sy0, .int .i64 sx1, .int .i64 sy1] 38 ∧ Blk v P1 #[.int .i64 0, .int .i64 0, .int .i64 0, .int .i64 0] 38 ∧ Below w.heap.size w v) → Sb0 v := fun v h => by rw [Sb0d]; exact h
  have Sb0u := Lib.hid Sb0u0
  have Sb0m := Lib.hid Sb0m0
  have Sb0t := Lib.hid Sb0t0
  clear Sb0d Sb0u0 Sb0m0 Sb0t0
  refine wp_region_X (S := Sb0) (by kernel_rfl) (Sb0m.out _ ⟨F2.out.1.drew, F2.out.2.1.drew, F2.out.2.2.1.drew, F2.out.2.2.2.drew⟩) ?_
  clear F2
  refine wpX_take (i := 0) (v := ?_) Sb0t.out rfl rfl (by kernel_rfl) (by kernel_rfl) (by kernel_rfl) (fun _ _ _ h => h) (SteadyX.value (by rfl) ?_) ?_
  rotate_left
  · (intro w_ hS; obtain ⟨q0, q1, q2, q3⟩ := Sb0u.out _ hS; (have q0 := q0.four); (have q1 := q1.four); (have q2 := q2.four); (clear q3); go_simp; try with_reducible rfl)
  simp only [List.setIfInBounds_toArray, List.set_cons_zero, List.set_cons_succ]
  refine wpX_take (i := 1) Sb0t.out rfl rfl (by kernel_rfl) (by kernel_rfl) (by kernel_rfl) (fun _ _ _ h => h) (SteadyX.call (by rfl) (fun w_ hS => Hkxq.out w_) (fun w_ hS => by (go_simp))) ?_
  simp only [List.setIfInBounds_toArray, List.set_cons_zero, List.set_cons_succ]
  refine wpX_take (i := 2) (v := ?_) Sb0t.out rfl rfl (by kernel_rfl) (by kernel_rfl) (by kernel_rfl) (fun _ _ _ h => h) (SteadyX.value (by rfl) ?_) ?_
  rotate_left
  · (intro w_ hS; obtain ⟨q0, q1, q2, q3⟩ := Sb0u.out _ hS; (have q0 := q0.four); (have q1 := q1.four); (have q2 := q2.four); (clear q3); go_simp; try with_reducible rfl)
  simp only [List.setIfInBounds_toArray, List.set_cons_zero, List.set_cons_succ]
  refine wpX_take (i := 3) Sb0t.out rfl rfl (by kernel_rfl) (by kernel_rfl) (by kernel_rfl) (fun _ _ _ h => h) (SteadyX.call (by rfl) (fun w_ hS => Hkyq.out w_) (fun w_ hS => by (go_simp))) ?_
  simp only [List.setIfInBounds_toArray, List.set_cons_zero, List.set_cons_succ]
  refine wpX_take (i := 4) (v := ?_) Sb0t.out rfl rfl (by kernel_rfl) (by kernel_rfl) (by kernel_rfl) (fun _ _ _ h => h) (SteadyX.value (by rfl) ?_) ?_
  rotate_left
  · (intro w_ hS; go_simp; try with_reducible rfl)
  simp only [List.setIfInBounds_toArray, List.set_cons_zero, List.set_cons_succ]
  refine wpX_take (i := 5) (v := ?_) Sb0t.out rfl rfl (by kernel_rfl) (by kernel_rfl) (by kernel_rfl) (fun _ _ _ h => h) (SteadyX.value (by rfl) ?_) ?_
  rotate_left
  · (intro w_ hS; go_simp; try with_reducible rfl)
  simp only [List.setIfInBounds_toArray, List.set_cons_zero, List.set_cons_succ]
  refine wpX_done (by kernel_rfl) (fun w5 hS => ?_) _
  obtain ⟨q0, q1, q2, q3⟩ := Sb0u.out _ hS
  clear hS Sb0u Sb0m Sb0t
  clear Sb0
  have F3 := Lib.hid (And.intro q0 (And.intro q1 (And.intro q2 (q3))))
  clear q0 q1 q2 q3
  have c0 := F3.out.1.four
  have c1 := F3.out.2.1.four
  have c2 := F3.out.2.2.1.four
  go_wp2_with fail
  refine (Hkx.out _).mono ?_
  rintro e w6 ⟨rfl, hb⟩
  have F4 := Lib.hid (And.intro (F3.out.1.grew hb) (And.intro (F3.out.2.1.grew hb) (And.intro (F3.out.2.2.1.grew hb) (grow F3.out.2.2.2 hb))))
  clear c0 c1 c2
  clear hb F3
  have c0 := F4.out.1.four
  have c1 := F4.out.2.1.four
  have c2 := F4.out.2.2.1.four
  go_wp2_with fail
  refine (Hky.out _).mono ?_
  rintro e w7 ⟨rfl, hb⟩
  have F5 := Lib.hid (And.intro (F4.out.1.grew hb) (And.intro (F4.out.2.1.grew hb) (And.intro (F4.out.2.2.1.grew hb) (grow F4.out.2.2.2 hb))))
  clear c0 c1 c2
  clear hb F4
  have c0 := F5.out.1.four
  have c1 := F5.out.2.1.four
  have c2 := F5.out.2.2.1.four
  go_wp2_with fail
  refine (Hko.out _).mono ?_
  rintro e w8 ⟨rfl, hb⟩
  have F6 := Lib.hid (And.intro (F5.out.1.grew hb) (And.intro (F5.out.2.1.grew hb) (And.intro (F5.out.2.2.1.grew hb) (grow F5.out.2.2.2 hb))))
  clear c0 c1 c2
  clear hb F5
  have c0 := F6.out.1.four
  have c1 := F6.out.2.1.four
  have c2 := F6.out.2.2.1.four
  go_wp2_with fail
  refine (Hkj.out _).mono ?_
  rintro e w10 ⟨rfl, hb⟩
  have F7 := Lib.hid (And.intro (F6.out.1.grew hb) (And.intro (F6.out.2.1.grew hb) (And.intro (F6.out.2.2.1.grew hb) (grow F6.out.2.2.2 hb))))
  clear c0 c1 c2
  clear hb F6
  have c0 := F7.out.1.four
  have c1 := F7.out.2.1.four
  have c2 := F7.out.2.2.1.four
  clear c0 c1 c2
  go_wp2_with fail
  obtain ⟨P2, hP2⟩ : ∃ P2, P2 = w10.heap.size := ⟨_, rfl⟩
  have G0 := Lib.hid (And.intro (F7.out.1.alloc (.cells #[.int .i64 0, .int .i64 0, .int .i64 0, .int .i64 0] 38)) (And.intro (F7.out.2.1.alloc (.cells #[.int .i64 0, .int .i64 0, .int .i64 0, .int .i64 0] 38)) (And.intro (Blk.new' w10 #[.int .i64 0, .int .i64 0, .int .i64 0, .int .i64 0] 38 hP2) (grow_alloc F7.out.2.2.2 (.cells #[.int .i64 0, .int .i64 0, .int .i64 0, .int .i64 0] 38)))))
  clear F7
  rw [← hP2]
  clear hP2
  generalize w10.alloc (.cells #[.int .i64 0, .int .i64 0, .int .i64 0, .int .i64 0] 38) = w11 at *
  clear w10
  obtain ⟨Sc0, Sc0d⟩ : ∃ S : World → Prop, S = fun v : World => Blk v w.heap.size #[.int .i64 rx0, .int .i64 ry0, .int .i64 rx1, .int .i64 ry1] 38 ∧ Blk v (w.heap.size + 1) #[.int .i64 sx0, .int .i64 sy0, .int .i64 sx1, .int .i64 sy1] 38 ∧ Blk v P2 #[.int .i64 0, .int .i64 0, .int .i64 0, .int .i64 0] 38 ∧ Below w.heap.size w v := ⟨_, rfl⟩
  have Sc0t0 : Stands Sc0 := by rw [Sc0d]; exact ((stands_blk _ _ _).and ((stands_blk _ _ _).and ((stands_blk _ _ _).and (stands_below _))))
  have Sc0u0 : ∀ v, Sc0 v → Blk v w.heap.size #[.int .i64 rx0, .int .i64 ry0, .int .i64 rx1, .int .i64 ry1] 38 ∧ Blk v (w.heap.size + 1) #[.int .i64 sx0, .int .i64 sy0, .int .i64 sx1, .int .i64 sy1] 38 ∧ Blk v P2 #[.int .i64 0, .int .i64 0, .int .i64 0, .int .i64 0] 38 ∧ Below w.heap.size w v := fun v h => by rw [Sc0d] at h; exact h
  have Sc0m0 : ∀ v, (Blk v w.heap.size #[.int .i64 rx0, .int .i64 ry0, .int .i64 rx1, .int .i64 ry1] 38 ∧ Blk v (w.heap.size + 1) #[.int .i64 sx0, .int .i64 sy0, .int .i64 sx1, .int .i64 sy1] 38 ∧ Blk v P2 #[.int .i64 0, .int .i64 0, .int .i64 0, .int .i64 0] 38 ∧ Below w.heap.size w v) → Sc0 v := fun v h => by rw [Sc0d]; exact h
  have Sc0u := Lib.hid Sc0u0
  have Sc0m := Lib.hid Sc0m0
  have Sc0t := Lib.hid Sc0t0
  clear Sc0d Sc0u0 Sc0m0 Sc0t0
  refine wp_region_X (S := Sc0) (by kernel_rfl) (Sc0m.out _ ⟨G0.out.1.drew, G0.out.2.1.drew, G0.out.2.2.1.drew, G0.out.2.2.2.drew⟩) ?_
  clear G0
  refine wpX_take (i := 0) (v := ?_) Sc0t.out rfl rfl (by kernel_rfl) (by kernel_rfl) (by kernel_rfl) (fun _ _ _ h => h) (SteadyX.value (by rfl) ?_) ?_
  rotate_left
  · (intro w_ hS; go_simp; try with_reducible rfl)
  simp only [List.setIfInBounds_toArray, List.set_cons_zero, List.set_cons_succ]
  refine wpX_take (i := 1) (v := ?_) Sc0t.out rfl rfl (by kernel_rfl) (by kernel_rfl) (by kernel_rfl) (fun _ _ _ h => h) (SteadyX.value (by rfl) ?_) ?_
  rotate_left
  · (intro w_ hS; go_simp; try with_reducible rfl)
  simp only [List.setIfInBounds_toArray, List.set_cons_zero, List.set_cons_succ]
  refine wpX_take (i := 2) (v := undef) Sc0t.out rfl rfl (by kernel_rfl) (by kernel_rfl) (by kernel_rfl) (fun _ _ _ h => h) (SteadyX.off (by rfl)) ?_
  simp only [List.setIfInBounds_toArray, List.set_cons_zero, List.set_cons_succ]
  refine wpX_take (i := 3) (v := ?_) Sc0t.out rfl rfl (by kernel_rfl) (by kernel_rfl) (by kernel_rfl) (fun _ _ _ h => h) (SteadyX.value (by rfl) ?_) ?_
  rotate_left
  · (intro w_ hS; go_simp; try with_reducible rfl)
  simp only [List.setIfInBounds_toArray, List.set_cons_zero, List.set_cons_succ]
  refine wpX_take (i := 4) (v := ?_) Sc0t.out rfl rfl (by kernel_rfl) (by kernel_rfl) (by kernel_rfl) (fun _ _ _ h => h) (SteadyX.value (by rfl) ?_) ?_
  rotate_left
  · (intro w_ hS; go_simp; try with_reducible rfl)
  simp only [List.setIfInBounds_toArray, List.set_cons_zero, List.set_cons_succ]
  refine wpX_take (i := 5) (v := undef) Sc0t.out rfl rfl (by kernel_rfl) (by kernel_rfl) (by kernel_rfl) (fun _ _ _ h => h) (SteadyX.off (by rfl)) ?_
  simp only [List.setIfInBounds_toArray, List.set_cons_zero, List.set_cons_succ]
  refine wpX_take (i := 6) (v := undef) Sc0t.out rfl rfl (by kernel_rfl) (by kernel_rfl) (by kernel_rfl) (fun _ _ _ h => h) (SteadyX.off (by rfl)) ?_
  simp only [List.setIfInBounds_toArray, List.set_cons_zero, List.set_cons_succ]
  refine wpX_take (i := 7) (v := undef) Sc0t.out rfl rfl (by kernel_rfl) (by kernel_rfl) (by kernel_rfl) (fun _ _ _ h => h) (SteadyX.off (by rfl)) ?_
  simp only [List.setIfInBounds_toArray, List.set_cons_zero, List.set_cons_succ]
  refine wpX_take (i := 8) (v := undef) Sc0t.out rfl rfl (by kernel_rfl) (by kernel_rfl) (by kernel_rfl) (fun _ _ _ h => h) (SteadyX.off (by rfl)) ?_
  simp only [List.setIfInBounds_toArray, List.set_cons_zero, List.set_cons_succ]
  refine wpX_take (i := 9) (v := undef) Sc0t.out rfl rfl (by kernel_rfl) (by kernel_rfl) (by kernel_rfl) (fun _ _ _ h => h) (SteadyX.off (by rfl)) ?_
  simp only [List.setIfInBounds_toArray, List.set_cons_zero, List.set_cons_succ]
  refine wpX_take (i := 10) (v := ?_) Sc0t.out rfl rfl (by kernel_rfl) (by kernel_rfl) (by kernel_rfl) (fun _ _ _ h => h) (SteadyX.value (by rfl) ?_) ?_
  rotate_left
  · (intro w_ hS; go_simp; try with_reducible rfl)
  simp only [List.setIfInBounds_toArray, List.set_cons_zero, List.set_cons_succ]
  refine wpX_take (i := 11) (v := ?_) Sc0t.out rfl rfl (by kernel_rfl) (by kernel_rfl) (by kernel_rfl) (fun _ _ _ h => h) (SteadyX.value (by rfl) ?_) ?_
  rotate_left
  · (intro w_ hS; go_simp; try with_reducible rfl)
  simp only [List.setIfInBounds_toArray, List.set_cons_zero, List.set_cons_succ]
  refine wpX_take (i := 12) (v := ?_) Sc0t.out rfl rfl (by kernel_rfl) (by kernel_rfl) (by kernel_rfl) (fun _ _ _ h => h) (SteadyX.value (by rfl) ?_) ?_
  rotate_left
  · (intro w_ hS; go_simp; try with_reducible rfl)
  simp only [List.setIfInBounds_toArray, List.set_cons_zero, List.set_cons_succ]
  refine wpX_take (i := 13) (v := ?_) Sc0t.out rfl rfl (by kernel_rfl) (by kernel_rfl) (by kernel_rfl) (fun _ _ _ h => h) (SteadyX.value (by rfl) ?_) ?_
  rotate_left
  · (intro w_ hS; go_simp; try with_reducible rfl)
  simp only [List.setIfInBounds_toArray, List.set_cons_zero, List.set_cons_succ]
  refine wpX_take (i := 14) (v := undef) Sc0t.out rfl rfl (by kernel_rfl) (by kernel_rfl) (by kernel_rfl) (fun _ _ _ h => h) (SteadyX.off (by rfl)) ?_
  simp only [List.setIfInBounds_toArray, List.set_cons_zero, List.set_cons_succ]
  refine wpX_take (i := 15) (v := ?_) Sc0t.out rfl rfl (by kernel_rfl) (by kernel_rfl) (by kernel_rfl) (fun _ _ _ h => h) (SteadyX.value (by rfl) ?_) ?_
  rotate_left
  · (intro w_ hS; go_simp; try with_reducible rfl)
  simp only [List.setIfInBounds_toArray, List.set_cons_zero, List.set_cons_succ]
  refine wpX_take (i := 16) (v := ?_) Sc0t.out rfl rfl (by kernel_rfl) (by kernel_rfl) (by kernel_rfl) (fun _ _ _ h => h) (SteadyX.value (by rfl) ?_) ?_
  rotate_left
  · (intro w_ hS; go_simp; try with_reducible rfl)
  simp only [List.setIfInBounds_toArray, List.set_cons_zero, List.set_cons_succ]
  refine wpX_take (i := 17) (v := ?_) Sc0t.out rfl rfl (by kernel_rfl) (by kernel_rfl) (by kernel_rfl) (fun _ _ _ h => h) (SteadyX.value (by rfl) ?_) ?_
  rotate_left
  · (intro w_ hS; go_simp; try with_reducible rfl)
  simp only [List.setIfInBounds_toArray, List.set_cons_zero, List.set_cons_succ]
  refine wpX_take (i := 18) (v := ?_) Sc0t.out rfl rfl (by kernel_rfl) (by kernel_rfl) (by kernel_rfl) (fun _ _ _ h => h) (SteadyX.value (by rfl) ?_) ?_
  rotate_left
  · (intro w_ hS; obtain ⟨q0, q1, q2, q3⟩ := Sc0u.out _ hS; (have q0 := q0.four); (have q1 := q1.four); (have q2 := q2.four); (clear q3); go_simp; try with_reducible rfl)
  simp only [List.setIfInBounds_toArray, List.set_cons_zero, List.set_cons_succ]
  refine wpX_take (i := 19) (v := ?_) Sc0t.out rfl rfl (by kernel_rfl) (by kernel_rfl) (by kernel_rfl) (fun _ _ _ h => h) (SteadyX.value (by rfl) ?_) ?_
  rotate_left
  · (intro w_ hS; go_simp; try with_reducible rfl)
  simp only [List.setIfInBounds_toArray, List.set_cons_zero, List.set_cons_succ]
  refine wpX_take (i := 20) (v := ?_) Sc0t.out rfl rfl (by kernel_rfl) (by kernel_rfl) (by kernel_rfl) (fun _ _ _ h => h) (SteadyX.value (by rfl) ?_) ?_
  rotate_left
  · (intro w_ hS; go_simp; try with_reducible rfl)
  simp only [List.setIfInBounds_toArray, List.set_cons_zero, List.set_cons_succ]
  refine wpX_take (i := 21) (v := ?_) Sc0t.out rfl rfl (by kernel_rfl) (by kernel_rfl) (by kernel_rfl) (fun _ _ _ h => h) (SteadyX.value (by rfl) ?_) ?_
  rotate_left
  · (intro w_ hS; go_simp; try with_reducible rfl)
  simp only [List.setIfInBounds_toArray, List.set_cons_zero, List.set_cons_succ]
  refine wpX_take (i := 22) (v := ?_) Sc0t.out rfl rfl (by kernel_rfl) (by kernel_rfl) (by kernel_rfl) (fun _ _ _ h => h) (SteadyX.value (by rfl) ?_) ?_
  rotate_left
  · (intro w_ hS; go_simp; try with_reducible rfl)
  simp only [List.setIfInBounds_toArray, List.set_cons_zero, List.set_cons_succ]
  refine wpX_done (by kernel_rfl) (fun w12 hS => ?_) _
  obtain ⟨q0, q1, q2, q3⟩ := Sc0u.out _ hS
  clear hS Sc0u Sc0m Sc0t
  clear Sc0
  have G1 := Lib.hid (And.intro q0 (And.intro q1 (And.intro q2 (q3))))
  clear q0 q1 q2 q3
  have c0 := G1.out.1.four
  have c1 := G1.out.2.1.four
  have c2 := G1.out.2.2.1.four
  clear c0 c1 c2
  go_wp2
  go_loopw [13] (fun i wr => ∃ k : Nat, k ≤ n ∧ i = .int .i64 k ∧ Hid (Blk wr w.heap.size #[.int .i64 rx0, .int .i64 ry0, .int .i64 rx1, .int .i64 ry1] 38 ∧ Below w.heap.size w wr)) (fun i _ => n - (intOf i).toNat)
  case atStart => exact ⟨0, by omega, rfl, Lib.hid (And.intro G1.out.1 G1.out.2.2.2)⟩
  case round =>
    obtain ⟨k, hk, rfl, B⟩ := hrel
    clear G1
    by_cases hlt : k < n
    · have hkl : k < l.length := by rw [HN.out]; exact hlt
      have h0l : 0 < l.length := by omega
      obtain ⟨p, e, hpl, h1, h2⟩ := (HR.out.below B.out.2 (Nat.le_refl _)).get hkl
      cases e
      obtain ⟨p', e, _, h3, h4⟩ := (HR.out.below B.out.2 (Nat.le_refl _)).get h0l
      cases e
      have l1 := Lib.hid (Hk1.out k hkl)
      have l0 := Lib.hid (Hk0.out h0l)
      have l2 := Lib.hid (Hk2.out k hkl)
      have l3 := Lib.hid (Hk3.out k hkl)
      have l4 := Lib.hid (Hk4.out k hkl)
      have l5 := Lib.hid (Hk5.out k hkl)
      have l6 := Lib.hid (Hk6.out k hkl)
      have l7 := Lib.hid (Hk7.out k hkl)
      rw [add_one] at h2 h4
      simp only [Nat.zero_mul] at h3 h4
      have e0 : p.add 0 = p := by unfold Addr.add; simp
      rw [e0] at h3 h4
      generalize l[k] = q at *
      generalize l[0] = q0 at *
      generalize mq k = mk at *
      generalize hq k = hk' at *
      generalize nq k = nk at *
      generalize dq k = dk at *
      obtain ⟨qx, qy⟩ := q
      obtain ⟨fx, fy⟩ := q0
      dsimp only at h1 h2 h3 h4
      have HC := Lib.hid (And.intro h3 h4)
      clear e0 h3 h4
      have E0 : Hid (Blk (wr.alloc (.cells #[.int .i64 qx, .int .i64 qy] 24)) w.heap.size #[.int .i64 rx0, .int .i64 ry0, .int .i64 rx1, .int .i64 ry1] 38 ∧ Below w.heap.size w (wr.alloc (.cells #[.int .i64 qx, .int .i64 qy] 24))) := Lib.hid ⟨B.out.1.alloc _, grow_alloc B.out.2 _⟩
      obtain ⟨Q, hQ⟩ : ∃ Q, Q = wr.heap.size := ⟨_, rfl⟩
      have D0 := Lib.hid (And.intro E0.out.1 (And.intro (Blk.new' wr #[.int .i64 qx, .int .i64 qy] 24 hQ) (And.intro (cell_grew HC.out.1 ((Below.refl _ wr).alloc (Nat.le_refl _) (.cells #[.int .i64 qx, .int .i64 qy] 24))) (And.intro (cell_grew HC.out.2 ((Below.refl _ wr).alloc (Nat.le_refl _) (.cells #[.int .i64 qx, .int .i64 qy] 24))) E0.out.2))))
      clear E0 HC B
      have hnn : 0 < n := by omega
      cases mk
      · go_wp2_with fail
        (try rw [← hQ])
        clear hQ h1 h2
        generalize wr.alloc (.cells #[.int .i64 qx, .int .i64 qy] 24) = wq at *
        clear wr
        refine (l1.out _).mono ?_
        rintro e x1 ⟨rfl, hb⟩
        have D1 := Lib.hid (And.intro (D0.out.1.grew hb) (And.intro (D0.out.2.1.grew hb) (And.intro (cell_grew D0.out.2.2.1 hb) (And.intro (cell_grew D0.out.2.2.2.1 hb) (grow D0.out.2.2.2.2 hb)))))
        clear hb D0
        have c0 := D1.out.1.four
        have c1 := D1.out.2.1.two
        have c2 := D1.out.2.2.1
        have c3 := D1.out.2.2.2.1
        clear c0 c1 c2 c3
        go_wp2_with fail
        obtain ⟨Se0, Se0d⟩ : ∃ S : World → Prop, S = fun v : World => Blk v w.heap.size #[.int .i64 rx0, .int .i64 ry0, .int .i64 rx1, .int .i64 ry1] 38 ∧ Blk v Q #[.int .i64 qx, .int .i64 qy] 24 ∧ v.cell? p = some (.int .i64 fx) ∧ v.cell? ⟨p.block, p.off + 1, none⟩ = some (.int .i64 fy) ∧ Below w.heap.size w v := ⟨_, rfl⟩
        have Se0t0 : Stands Se0 := by rw [Se0d]; exact ((stands_blk _ _ _).and ((stands_blk _ _ _).and ((stands_cell _ _).and ((stands_cell _ _).and (stands_below _)))))
        have Se0u0 : ∀ v, Se0 v → Blk v w.heap.size #[.int .i64 rx0, .int .i64 ry0, .int .i64 rx1, .int .i64 ry1] 38 ∧ Blk v Q #[.int .i64 qx, .int .i64 qy] 24 ∧ v.cell? p = some (.int .i64 fx) ∧ v.cell? ⟨p.block, p.off + 1, none⟩ = some (.int .i64 fy) ∧ Below w.heap.size w v := fun v h => by rw [Se0d] at h; exact h
        have Se0m0 : ∀ v, (Blk v w.heap.size #[.int .i64 rx0, .int .i64 ry0, .int .i64 rx1, .int .i64 ry1] 38 ∧ Blk v Q #[.int .i64 qx, .int .i64 qy] 24 ∧ v.cell? p = some (.int .i64 fx) ∧ v.cell? ⟨p.block, p.off + 1, none⟩ = some (.int .i64 fy) ∧ Below w.heap.size w v) → Se0 v := fun v h => by rw [Se0d]; exact h
        have Se0u := Lib.hid Se0u0
        have Se0m := Lib.hid Se0m0
        have Se0t := Lib.hid Se0t0
        clear Se0d Se0u0 Se0m0 Se0t0
        refine wp_region_X (S := Se0) (by kernel_rfl) (Se0m.out _ ⟨D1.out.1.drew, D1.out.2.1.drew, D1.out.2.2.1, D1.out.2.2.2.1, D1.out.2.2.2.2.drew⟩) ?_
        clear D1
        refine wpX_take (i := 0) (v := ?_) Se0t.out rfl rfl (by kernel_rfl) (by kernel_rfl) (by kernel_rfl) (fun _ _ _ h => h) (SteadyX.value (by rfl) ?_) ?_
        rotate_left
        · (intro w_ hS; obtain ⟨q0, q1, q2, q3, q4⟩ := Se0u.out _ hS; (have q0 := q0.four); (have q1 := q1.two); (clear q4); go_simp; try with_reducible rfl)
        simp only [List.setIfInBounds_toArray, List.set_cons_zero, List.set_cons_succ]
        refine wpX_take (i := 1) (v := ?_) Se0t.out rfl rfl (by kernel_rfl) (by kernel_rfl) (by kernel_rfl) (fun _ _ _ h => h) (SteadyX.value (by rfl) ?_) ?_
        rotate_left
        · (intro w_ hS; obtain ⟨q0, q1, q2, q3, q4⟩ := Se0u.out _ hS; (have q0 := q0.four); (have q1 := q1.two); (clear q4); go_simp; try with_reducible rfl)
        simp only [List.setIfInBounds_toArray, List.set_cons_zero, List.set_cons_succ]
        refine wpX_take (i := 2) Se0t.out rfl rfl (by kernel_rfl) (by kernel_rfl) (by kernel_rfl) (fun _ _ _ h => h) (SteadyX.call (by rfl) (fun w_ hS => l4.out w_) (fun w_ hS => by (go_simp))) ?_
        simp only [List.setIfInBounds_toArray, List.set_cons_zero, List.set_cons_succ]
        refine wpX_take (i := 3) (v := ?_) Se0t.out rfl rfl (by kernel_rfl) (by kernel_rfl) (by kernel_rfl) (fun _ _ _ h => h) (SteadyX.value (by rfl) ?_) ?_
        rotate_left
        · (intro w_ hS; go_simp; try with_reducible rfl)
        simp only [List.setIfInBounds_toArray, List.set_cons_zero, List.set_cons_succ]
        refine wpX_take (i := 4) (v := ?_) Se0t.out rfl rfl (by kernel_rfl) (by kernel_rfl) (by kernel_rfl) (fun _ _ _ h => h) (SteadyX.value (by rfl) ?_) ?_
        rotate_left
        · (intro w_ hS; go_simp; try with_reducible rfl)
        simp only [List.setIfInBounds_toArray, List.set_cons_zero, List.set_cons_succ]
        refine wpX_take (i := 5) (v := undef) Se0t.out rfl rfl (by kernel_rfl) (by kernel_rfl) (by kernel_rfl) (fun _ _ _ h => h) (SteadyX.off (by rfl)) ?_
        simp only [List.setIfInBounds_toArray, List.set_cons_zero, List.set_cons_succ]
        refine wpX_take (i := 6) (v := ?_) Se0t.out rfl rfl (by kernel_rfl) (by kernel_rfl) (by kernel_rfl) (fun _ _ _ h => h) (SteadyX.value (by rfl) ?_) ?_
        rotate_left
        · (intro w_ hS; go_simp; try with_reducible rfl)
        simp only [List.setIfInBounds_toArray, List.set_cons_zero, List.set_cons_succ]
        refine wpX_take (i := 7) (v := ?_) Se0t.out rfl rfl (by kernel_rfl) (by kernel_rfl) (by kernel_rfl) (fun _ _ _ h => h) (SteadyX.value (by rfl) ?_) ?_
        rotate_left
        · (intro w_ hS; go_simp; try with_reducible rfl)
        simp only [List.setIfInBounds_toArray, List.set_cons_zero, List.set_cons_succ]
        refine wpX_take (i := 8) (v := undef) Se0t.out rfl rfl (by kernel_rfl) (by kernel_rfl) (by kernel_rfl) (fun _ _ _ h => h) (SteadyX.off (by rfl)) ?_
        simp only [List.setIfInBounds_toArray, List.set_cons_zero, List.set_cons_succ]
        refine wpX_take (i := 9) (v := undef) Se0t.out rfl rfl (by kernel_rfl) (by kernel_rfl) (by kernel_rfl) (fun _ _ _ h => h) (SteadyX.off (by rfl)) ?_
        simp only [List.setIfInBounds_toArray, List.set_cons_zero, List.set_cons_succ]
        refine wpX_take (i := 10) (v := undef) Se0t.out rfl rfl (by kernel_rfl) (by kernel_rfl) (by kernel_rfl) (fun _ _ _ h => h) (SteadyX.off (by rfl)) ?_
        simp only [List.setIfInBounds_toArray, List.set_cons_zero, List.set_cons_succ]
        refine wpX_take (i := 11) (v := ?_) Se0t.out rfl rfl (by kernel_rfl) (by kernel_rfl) (by kernel_rfl) (fun _ _ _ h => h) (SteadyX.value (by rfl) ?_) ?_
        rotate_left
        · (intro w_ hS; go_simp; try with_reducible rfl)
        simp only [List.setIfInBounds_toArray, List.set_cons_zero, List.set_cons_succ]
        refine wpX_take (i := 12) (v := ?_) Se0t.out rfl rfl (by kernel_rfl) (by kernel_rfl) (by kernel_rfl) (fun _ _ _ h => h) (SteadyX.value (by rfl) ?_) ?_
        rotate_left
        · (intro w_ hS; go_simp; try with_reducible rfl)
        simp only [List.setIfInBounds_toArray, List.set_cons_zero, List.set_cons_succ]
        refine wpX_take (i := 13) (v := ?_) Se0t.out rfl rfl (by kernel_rfl) (by kernel_rfl) (by kernel_rfl) (fun _ _ _ h => h) (SteadyX.value (by rfl) ?_) ?_
        rotate_left
        · (intro w_ hS; go_simp; try with_reducible rfl)
        simp only [List.setIfInBounds_toArray, List.set_cons_zero, List.set_cons_succ]
        refine wpX_take (i := 14) (v := ?_) Se0t.out rfl rfl (by kernel_rfl) (by kernel_rfl) (by kernel_rfl) (fun _ _ _ h => h) (SteadyX.value (by rfl) ?_) ?_
        rotate_left
        · (intro w_ hS; obtain ⟨q0, q1, q2, q3, q4⟩ := Se0u.out _ hS; (have q0 := q0.four); (have q1 := q1.two); (clear q4); go_simp; try with_reducible rfl)
        simp only [List.setIfInBounds_toArray, List.set_cons_zero, List.set_cons_succ]
        refine wpX_take (i := 15) (v := ?_) Se0t.out rfl rfl (by kernel_rfl) (by kernel_rfl) (by kernel_rfl) (fun _ _ _ h => h) (SteadyX.value (by rfl) ?_) ?_
        rotate_left
        · (intro w_ hS; obtain ⟨q0, q1, q2, q3, q4⟩ := Se0u.out _ hS; (have q0 := q0.four); (have q1 := q1.two); (clear q4); go_simp; try with_reducible rfl)
        simp only [List.setIfInBounds_toArray, List.set_cons_zero, List.set_cons_succ]
        refine wpX_take (i := 16) Se0t.out rfl rfl (by kernel_rfl) (by kernel_rfl) (by kernel_rfl) (fun _ _ _ h => h) (SteadyX.call (by rfl) (fun w_ hS => l6.out w_) (fun w_ hS => by (go_simp))) ?_
        simp only [List.setIfInBounds_toArray, List.set_cons_zero, List.set_cons_succ]
        refine wpX_take (i := 17) (v := ?_) Se0t.out rfl rfl (by kernel_rfl) (by kernel_rfl) (by kernel_rfl) (fun _ _ _ h => h) (SteadyX.value (by rfl) ?_) ?_
        rotate_left
        · (intro w_ hS; go_simp; try with_reducible rfl)
        simp only [List.setIfInBounds_toArray, List.set_cons_zero, List.set_cons_succ]
        refine wpX_take (i := 18) (v := ?_) Se0t.out rfl rfl (by kernel_rfl) (by kernel_rfl) (by kernel_rfl) (fun _ _ _ h => h) (SteadyX.value (by rfl) ?_) ?_
        rotate_left
        · (intro w_ hS; go_simp; try with_reducible rfl)
        simp only [List.setIfInBounds_toArray, List.set_cons_zero, List.set_cons_succ]
        refine wpX_take (i := 19) (v := ?_) Se0t.out rfl rfl (by kernel_rfl) (by kernel_rfl) (by kernel_rfl) (fun _ _ _ h => h) (SteadyX.value (by rfl) ?_) ?_
        rotate_left
        · (intro w_ hS; go_simp; try with_reducible rfl)
        simp only [List.setIfInBounds_toArray, List.set_cons_zero, List.set_cons_succ]
        refine wpX_take (i := 20) (v := ?_) Se0t.out rfl rfl (by kernel_rfl) (by kernel_rfl) (by kernel_rfl) (fun _ _ _ h => h) (SteadyX.value (by rfl) ?_) ?_
        rotate_left
        · (intro w_ hS; go_simp; try with_reducible rfl)
        simp only [List.setIfInBounds_toArray, List.set_cons_zero, List.set_cons_succ]
        refine wpX_take (i := 21) (v := ?_) Se0t.out rfl rfl (by kernel_rfl) (by kernel_rfl) (by kernel_rfl) (fun _ _ _ h => h) (SteadyX.value (by rfl) ?_) ?_
        rotate_left
        · (intro w_ hS; obtain ⟨q0, q1, q2, q3, q4⟩ := Se0u.out _ hS; (have q0 := q0.four); (have q1 := q1.two); (clear q4); go_simp; try with_reducible rfl)
        simp only [List.setIfInBounds_toArray, List.set_cons_zero, List.set_cons_succ]
        refine wpX_take (i := 22) (v := ?_) Se0t.out rfl rfl (by kernel_rfl) (by kernel_rfl) (by kernel_rfl) (fun _ _ _ h => h) (SteadyX.value (by rfl) ?_) ?_
        rotate_left
        · (intro w_ hS; go_simp; try with_reducible rfl)
        simp only [List.setIfInBounds_toArray, List.set_cons_zero, List.set_cons_succ]
        refine wpX_take (i := 23) (v := ?_) Se0t.out rfl rfl (by kernel_rfl) (by kernel_rfl) (by kernel_rfl) (fun _ _ _ h => h) (SteadyX.value (by rfl) ?_) ?_
        rotate_left
        · (intro w_ hS; go_simp; try with_reducible rfl)
        simp only [List.setIfInBounds_toArray, List.set_cons_zero, List.set_cons_succ]
        refine wpX_take (i := 24) (v := ?_) Se0t.out rfl rfl (by kernel_rfl) (by kernel_rfl) (by kernel_rfl) (fun _ _ _ h => h) (SteadyX.value (by rfl) ?_) ?_
        rotate_left
        · (intro w_ hS; obtain ⟨q0, q1, q2, q3, q4⟩ := Se0u.out _ hS; (have q0 := q0.four); (have q1 := q1.two); (clear q4); go_simp; try with_reducible rfl)
        simp only [List.setIfInBounds_toArray, List.set_cons_zero, List.set_cons_succ]
        refine wpX_take (i := 25) Se0t.out rfl rfl (by kernel_rfl) (by kernel_rfl) (by kernel_rfl) (fun _ _ _ h => h) (SteadyX.call (by rfl) (fun w_ hS => l7.out w_) (fun w_ hS => by (go_simp))) ?_
        simp only [List.setIfInBounds_toArray, List.set_cons_zero, List.set_cons_succ]
        refine wpX_take (i := 26) (v := ?_) Se0t.out rfl rfl (by kernel_rfl) (by kernel_rfl) (by kernel_rfl) (fun _ _ _ h => h) (SteadyX.value (by rfl) ?_) ?_
        rotate_left
        · (intro w_ hS; go_simp; try with_reducible rfl)
        simp only [List.setIfInBounds_toArray, List.set_cons_zero, List.set_cons_succ]
        refine wpX_take (i := 27) (v := ?_) Se0t.out rfl rfl (by kernel_rfl) (by kernel_rfl) (by kernel_rfl) (fun _ _ _ h => h) (SteadyX.value (by rfl) ?_) ?_
        rotate_left
        · (intro w_ hS; go_simp; try with_reducible rfl)
        simp only [List.setIfInBounds_toArray, List.set_cons_zero, List.set_cons_succ]
        refine wpX_take (i := 28) (v := ?_) Se0t.out rfl rfl (by kernel_rfl) (by kernel_rfl) (by kernel_rfl) (fun _ _ _ h => h) (SteadyX.value (by rfl) ?_) ?_
        rotate_left
        · (intro w_ hS; go_simp; try with_reducible rfl)
        simp only [List.setIfInBounds_toArray, List.set_cons_zero, List.set_cons_succ]
        refine wpX_done (by kernel_rfl) (fun y2 hS => ?_) _
        obtain ⟨q0, q1, q2, q3, q4⟩ := Se0u.out _ hS
        clear hS Se0u Se0m Se0t
        clear Se0
        have D2 := Lib.hid (And.intro q0 (And.intro q1 (And.intro q2 (And.intro q3 (q4)))))
        clear q0 q1 q2 q3 q4
        have c0 := D2.out.1.four
        have c1 := D2.out.2.1.two
        have c2 := D2.out.2.2.1
        have c3 := D2.out.2.2.2.1
        clear c0 c1 c2 c3
        have B2 := Lib.hid (And.intro D2.out.1 D2.out.2.2.2.2)
        clear D2
        go_wp2
        go_round
        case rel => exact ⟨k + 1, by omega, val_int rfl, B2⟩
        case measure => simp only [intOf]; omega
      · cases m0
        · go_wp2_with fail
          (try rw [← hQ])
          clear hQ h1 h2
          generalize wr.alloc (.cells #[.int .i64 qx, .int .i64 qy] 24) = wq at *
          clear wr
          refine (l1.out _).mono ?_
          rintro e x1 ⟨rfl, hb⟩
          have D1 := Lib.hid (And.intro (D0.out.1.grew hb) (And.intro (D0.out.2.1.grew hb) (And.intro (cell_grew D0.out.2.2.1 hb) (And.intro (cell_grew D0.out.2.2.2.1 hb) (grow D0.out.2.2.2.2 hb)))))
          clear hb D0
          have c0 := D1.out.1.four
          have c1 := D1.out.2.1.two
          have c2 := D1.out.2.2.1
          have c3 := D1.out.2.2.2.1
          go_wp2_with fail
          refine (l0.out _).mono ?_
          rintro e x2 ⟨rfl, hb⟩
          have D2 := Lib.hid (And.intro (D1.out.1.grew hb) (And.intro (D1.out.2.1.grew hb) (And.intro (cell_grew D1.out.2.2.1 hb) (And.intro (cell_grew D1.out.2.2.2.1 hb) (grow D1.out.2.2.2.2 hb)))))
          clear c0 c1 c2 c3
          clear hb D1
          have c0 := D2.out.1.four
          have c1 := D2.out.2.1.two
          have c2 := D2.out.2.2.1
          have c3 := D2.out.2.2.2.1
          clear c0 c1 c2 c3
          go_wp2_with fail
          obtain ⟨Se0, Se0d⟩ : ∃ S : World → Prop, S = fun v : World => Blk v w.heap.size #[.int .i64 rx0, .int .i64 ry0, .int .i64 rx1, .int .i64 ry1] 38 ∧ Blk v Q #[.int .i64 qx, .int .i64 qy] 24 ∧ v.cell? p = some (.int .i64 fx) ∧ v.cell? ⟨p.block, p.off + 1, none⟩ = some (.int .i64 fy) ∧ Below w.heap.size w v := ⟨_, rfl⟩
          have Se0t0 : Stands Se0 := by rw [Se0d]; exact ((stands_blk _ _ _).and ((stands_blk _ _ _).and ((stands_cell _ _).and ((stands_cell _ _).and (stands_below _)))))
          have Se0u0 : ∀ v, Se0 v → Blk v w.heap.size #[.int .i64 rx0, .int .i64 ry0, .int .i64 rx1, .int .i64 ry1] 38 ∧ Blk v Q #[.int .i64 qx, .int .i64 qy] 24 ∧ v.cell? p = some (.int .i64 fx) ∧ v.cell? ⟨p.block, p.off + 1, none⟩ = some (.int .i64 fy) ∧ Below w.heap.size w v := fun v h => by rw [Se0d] at h; exact h
          have Se0m0 : ∀ v, (Blk v w.heap.size #[.int .i64 rx0, .int .i64 ry0, .int .i64 rx1, .int .i64 ry1] 38 ∧ Blk v Q #[.int .i64 qx, .int .i64 qy] 24 ∧ v.cell? p = some (.int .i64 fx) ∧ v.cell? ⟨p.block, p.off + 1, none⟩ = some (.int .i64 fy) ∧ Below w.heap.size w v) → Se0 v := fun v h => by rw [Se0d]; exact h
          have Se0u := Lib.hid Se0u0
          have Se0m := Lib.hid Se0m0
          have Se0t := Lib.hid Se0t0
          clear Se0d Se0u0 Se0m0 Se0t0
          refine wp_region_X (S := Se0) (by kernel_rfl) (Se0m.out _ ⟨D2.out.1.drew, D2.out.2.1.drew, D2.out.2.2.1, D2.out.2.2.2.1, D2.out.2.2.2.2.drew⟩) ?_
          clear D2
          refine wpX_take (i := 0) (v := ?_) Se0t.out rfl rfl (by kernel_rfl) (by kernel_rfl) (by kernel_rfl) (fun _ _ _ h => h) (SteadyX.value (by rfl) ?_) ?_
          rotate_left
          · (intro w_ hS; obtain ⟨q0, q1, q2, q3, q4⟩ := Se0u.out _ hS; (have q0 := q0.four); (have q1 := q1.two); (clear q4); go_simp; try with_reducible rfl)
          simp only [List.setIfInBounds_toArray, List.set_cons_zero, List.set_cons_succ]
          refine wpX_take (i := 1) (v := ?_) Se0t.out rfl rfl (by kernel_rfl) (by kernel_rfl) (by kernel_rfl) (fun _ _ _ h => h) (SteadyX.value (by rfl) ?_) ?_
          rotate_left
          · (intro w_ hS; obtain ⟨q0, q1, q2, q3, q4⟩ := Se0u.out _ hS; (have q0 := q0.four); (have q1 := q1.two); (clear q4); go_simp; try with_reducible rfl)
          simp only [List.setIfInBounds_toArray, List.set_cons_zero, List.set_cons_succ]
          refine wpX_take (i := 2) Se0t.out rfl rfl (by kernel_rfl) (by kernel_rfl) (by kernel_rfl) (fun _ _ _ h => h) (SteadyX.call (by rfl) (fun w_ hS => l4.out w_) (fun w_ hS => by (go_simp))) ?_
          simp only [List.setIfInBounds_toArray, List.set_cons_zero, List.set_cons_succ]
          refine wpX_take (i := 3) (v := ?_) Se0t.out rfl rfl (by kernel_rfl) (by kernel_rfl) (by kernel_rfl) (fun _ _ _ h => h) (SteadyX.value (by rfl) ?_) ?_
          rotate_left
          · (intro w_ hS; go_simp; try with_reducible rfl)
          simp only [List.setIfInBounds_toArray, List.set_cons_zero, List.set_cons_succ]
          refine wpX_take (i := 4) (v := ?_) Se0t.out rfl rfl (by kernel_rfl) (by kernel_rfl) (by kernel_rfl) (fun _ _ _ h => h) (SteadyX.value (by rfl) ?_) ?_
          rotate_left
          · (intro w_ hS; go_simp; try with_reducible rfl)
          simp only [List.setIfInBounds_toArray, List.set_cons_zero, List.set_cons_succ]
          refine wpX_take (i := 5) (v := ?_) Se0t.out rfl rfl (by kernel_rfl) (by kernel_rfl) (by kernel_rfl) (fun _ _ _ h => h) (SteadyX.value (by rfl) ?_) ?_
          rotate_left
          · (intro w_ hS; go_simp; try with_reducible rfl)
          simp only [List.setIfInBounds_toArray, List.set_cons_zero, List.set_cons_succ]
          refine wpX_take (i := 6) (v := ?_) Se0t.out rfl rfl (by kernel_rfl) (by kernel_rfl) (by kernel_rfl) (fun _ _ _ h => h) (SteadyX.value (by rfl) ?_) ?_
          rotate_left
          · (intro w_ hS; go_simp; try with_reducible rfl)
          simp only [List.setIfInBounds_toArray, List.set_cons_zero, List.set_cons_succ]
          refine wpX_take (i := 7) (v := ?_) Se0t.out rfl rfl (by kernel_rfl) (by kernel_rfl) (by kernel_rfl) (fun _ _ _ h => h) (SteadyX.value (by rfl) ?_) ?_
          rotate_left
          · (intro w_ hS; go_simp; try with_reducible rfl)
          simp only [List.setIfInBounds_toArray, List.set_cons_zero, List.set_cons_succ]
          refine wpX_take (i := 8) (v := undef) Se0t.out rfl rfl (by kernel_rfl) (by kernel_rfl) (by kernel_rfl) (fun _ _ _ h => h) (SteadyX.off (by rfl)) ?_
          simp only [List.setIfInBounds_toArray, List.set_cons_zero, List.set_cons_succ]
          refine wpX_take (i := 9) (v := undef) Se0t.out rfl rfl (by kernel_rfl) (by kernel_rfl) (by kernel_rfl) (fun _ _ _ h => h) (SteadyX.off (by rfl)) ?_
          simp only [List.setIfInBounds_toArray, List.set_cons_zero, List.set_cons_succ]
          refine wpX_take (i := 10) (v := undef) Se0t.out rfl rfl (by kernel_rfl) (by kernel_rfl) (by kernel_rfl) (fun _ _ _ h => h) (SteadyX.off (by rfl)) ?_
          simp only [List.setIfInBounds_toArray, List.set_cons_zero, List.set_cons_succ]
          refine wpX_take (i := 11) (v := ?_) Se0t.out rfl rfl (by kernel_rfl) (by kernel_rfl) (by kernel_rfl) (fun _ _ _ h => h) (SteadyX.value (by rfl) ?_) ?_
          rotate_left
          · (intro w_ hS; go_simp; try with_reducible rfl)
          simp only [List.setIfInBounds_toArray, List.set_cons_zero, List.set_cons_succ]
          refine wpX_take (i := 12) (v := ?_) Se0t.out rfl rfl (by kernel_rfl) (by kernel_rfl) (by kernel_rfl) (fun _ _ _ h => h) (SteadyX.value (by rfl) ?_) ?_
          rotate_left
          · (intro w_ hS; go_simp; try with_reducible rfl)
          simp only [List.setIfInBounds_toArray, List.set_cons_zero, List.set_cons_succ]
          refine wpX_take (i := 13) (v := ?_) Se0t.out rfl rfl (by kernel_rfl) (by kernel_rfl) (by kernel_rfl) (fun _ _ _ h => h) (SteadyX.value (by rfl) ?_) ?_
          rotate_left
          · (intro w_ hS; go_simp; try with_reducible rfl)
          simp only [List.setIfInBounds_toArray, List.set_cons_zero, List.set_cons_succ]
          refine wpX_take (i := 14) (v := ?_) Se0t.out rfl rfl (by kernel_rfl) (by kernel_rfl) (by kernel_rfl) (fun _ _ _ h => h) (SteadyX.value (by rfl) ?_) ?_
          rotate_left
          · (intro w_ hS; obtain ⟨q0, q1, q2, q3, q4⟩ := Se0u.out _ hS; (have q0 := q0.four); (have q1 := q1.two); (clear q4); go_simp; try with_reducible rfl)
          simp only [List.setIfInBounds_toArray, List.set_cons_zero, List.set_cons_succ]
          refine wpX_take (i := 15) (v := ?_) Se0t.out rfl rfl (by kernel_rfl) (by kernel_rfl) (by kernel_rfl) (fun _ _ _ h => h) (SteadyX.value (by rfl) ?_) ?_
          rotate_left
          · (intro w_ hS; obtain ⟨q0, q1, q2, q3, q4⟩ := Se0u.out _ hS; (have q0 := q0.four); (have q1 := q1.two); (clear q4); go_simp; try with_reducible rfl)
          simp only [List.setIfInBounds_toArray, List.set_cons_zero, List.set_cons_succ]
          refine wpX_take (i := 16) Se0t.out rfl rfl (by kernel_rfl) (by kernel_rfl) (by kernel_rfl) (fun _ _ _ h => h) (SteadyX.call (by rfl) (fun w_ hS => l6.out w_) (fun w_ hS => by (go_simp))) ?_
          simp only [List.setIfInBounds_toArray, List.set_cons_zero, List.set_cons_succ]
          refine wpX_take (i := 17) (v := ?_) Se0t.out rfl rfl (by kernel_rfl) (by kernel_rfl) (by kernel_rfl) (fun _ _ _ h => h) (SteadyX.value (by rfl) ?_) ?_
          rotate_left
          · (intro w_ hS; go_simp; try with_reducible rfl)
          simp only [List.setIfInBounds_toArray, List.set_cons_zero, List.set_cons_succ]
          refine wpX_take (i := 18) (v := ?_) Se0t.out rfl rfl (by kernel_rfl) (by kernel_rfl) (by kernel_rfl) (fun _ _ _ h => h) (SteadyX.value (by rfl) ?_) ?_
          rotate_left
          · (intro w_ hS; go_simp; try with_reducible rfl)
          simp only [List.setIfInBounds_toArray, List.set_cons_zero, List.set_cons_succ]
          refine wpX_take (i := 19) (v := ?_) Se0t.out rfl rfl (by kernel_rfl) (by kernel_rfl) (by kernel_rfl) (fun _ _ _ h => h) (SteadyX.value (by rfl) ?_) ?_
          rotate_left
          · (intro w_ hS; go_simp; try with_reducible rfl)
          simp only [List.setIfInBounds_toArray, List.set_cons_zero, List.set_cons_succ]
          refine wpX_take (i := 20) (v := ?_) Se0t.out rfl rfl (by kernel_rfl) (by kernel_rfl) (by kernel_rfl) (fun _ _ _ h => h) (SteadyX.value (by rfl) ?_) ?_
          rotate_left
          · (intro w_ hS; go_simp; try with_reducible rfl)
          simp only [List.setIfInBounds_toArray, List.set_cons_zero, List.set_cons_succ]
          refine wpX_take (i := 21) (v := ?_) Se0t.out rfl rfl (by kernel_rfl) (by kernel_rfl) (by kernel_rfl) (fun _ _ _ h => h) (SteadyX.value (by rfl) ?_) ?_
          rotate_left
          · (intro w_ hS; obtain ⟨q0, q1, q2, q3, q4⟩ := Se0u.out _ hS; (have q0 := q0.four); (have q1 := q1.two); (clear q4); go_simp; try with_reducible rfl)
          simp only [List.setIfInBounds_toArray, List.set_cons_zero, List.set_cons_succ]
          refine wpX_take (i := 22) (v := ?_) Se0t.out rfl rfl (by kernel_rfl) (by kernel_rfl) (by kernel_rfl) (fun _ _ _ h => h) (SteadyX.value (by rfl) ?_) ?_
          rotate_left
          · (intro w_ hS; go_simp; try with_reducible rfl)
          simp only [List.setIfInBounds_toArray, List.set_cons_zero, List.set_cons_succ]
          refine wpX_take (i := 23) (v := ?_) Se0t.out rfl rfl (by kernel_rfl) (by kernel_rfl) (by kernel_rfl) (fun _ _ _ h => h) (SteadyX.value (by rfl) ?_) ?_
          rotate_left
          · (intro w_ hS; go_simp; try with_reducible rfl)
          simp only [List.setIfInBounds_toArray, List.set_cons_zero, List.set_cons_succ]
          refine wpX_take (i := 24) (v := ?_) Se0t.out rfl rfl (by kernel_rfl) (by kernel_rfl) (by kernel_rfl) (fun _ _ _ h => h) (SteadyX.value (by rfl) ?_) ?_
          rotate_left
          · (intro w_ hS; obtain ⟨q0, q1, q2, q3, q4⟩ := Se0u.out _ hS; (have q0 := q0.four); (have q1 := q1.two); (clear q4); go_simp; try with_reducible rfl)
          simp only [List.setIfInBounds_toArray, List.set_cons_zero, List.set_cons_succ]
          refine wpX_take (i := 25) Se0t.out rfl rfl (by kernel_rfl) (by kernel_rfl) (by kernel_rfl) (fun _ _ _ h => h) (SteadyX.call (by rfl) (fun w_ hS => l7.out w_) (fun w_ hS => by (go_simp))) ?_
          simp only [List.setIfInBounds_toArray, List.set_cons_zero, List.set_cons_succ]
          refine wpX_take (i := 26) (v := ?_) Se0t.out rfl rfl (by kernel_rfl) (by kernel_rfl) (by kernel_rfl) (fun _ _ _ h => h) (SteadyX.value (by rfl) ?_) ?_
          rotate_left
          · (intro w_ hS; go_simp; try with_reducible rfl)
          simp only [List.setIfInBounds_toArray, List.set_cons_zero, List.set_cons_succ]
          refine wpX_take (i := 27) (v := ?_) Se0t.out rfl rfl (by kernel_rfl) (by kernel_rfl) (by kernel_rfl) (fun _ _ _ h => h) (SteadyX.value (by rfl) ?_) ?_
          rotate_left
          · (intro w_ hS; go_simp; try with_reducible rfl)
          simp only [List.setIfInBounds_toArray, List.set_cons_zero, List.set_cons_succ]
          refine wpX_take (i := 28) (v := ?_) Se0t.out rfl rfl (by kernel_rfl) (by kernel_rfl) (by kernel_rfl) (fun _ _ _ h => h) (SteadyX.value (by rfl) ?_) ?_
          rotate_left
          · (intro w_ hS; go_simp; try with_reducible rfl)
          simp only [List.setIfInBounds_toArray, List.set_cons_zero, List.set_cons_succ]
          refine wpX_done (by kernel_rfl) (fun y2 hS => ?_) _
          obtain ⟨q0, q1, q2, q3, q4⟩ := Se0u.out _ hS
          clear hS Se0u Se0m Se0t
          clear Se0
          have D3 := Lib.hid (And.intro q0 (And.intro q1 (And.intro q2 (And.intro q3 (q4)))))
          clear q0 q1 q2 q3 q4
          have c0 := D3.out.1.four
          have c1 := D3.out.2.1.two
          have c2 := D3.out.2.2.1
          have c3 := D3.out.2.2.2.1
          clear c0 c1 c2 c3
          have B2 := Lib.hid (And.intro D3.out.1 D3.out.2.2.2.2)
          clear D3
          go_wp2
          go_round
          case rel => exact ⟨k + 1, by omega, val_int rfl, B2⟩
          case measure => simp only [intOf]; omega
        · go_wp2_with fail
          (try rw [← hQ])
          clear hQ h1 h2
          generalize wr.alloc (.cells #[.int .i64 qx, .int .i64 qy] 24) = wq at *
          clear wr
          refine (l1.out _).mono ?_
          rintro e x1 ⟨rfl, hb⟩
          have D1 := Lib.hid (And.intro (D0.out.1.grew hb) (And.intro (D0.out.2.1.grew hb) (And.intro (cell_grew D0.out.2.2.1 hb) (And.intro (cell_grew D0.out.2.2.2.1 hb) (grow D0.out.2.2.2.2 hb)))))
          clear hb D0
          have c0 := D1.out.1.four
          have c1 := D1.out.2.1.two
          have c2 := D1.out.2.2.1
          have c3 := D1.out.2.2.2.1
          go_wp2_with fail
          refine (l0.out _).mono ?_
          rintro e x2 ⟨rfl, hb⟩
          have D2 := Lib.hid (And.intro (D1.out.1.grew hb) (And.intro (D1.out.2.1.grew hb) (And.intro (cell_grew D1.out.2.2.1 hb) (And.intro (cell_grew D1.out.2.2.2.1 hb) (grow D1.out.2.2.2.2 hb)))))
          clear c0 c1 c2 c3
          clear hb D1
          have c0 := D2.out.1.four
          have c1 := D2.out.2.1.two
          have c2 := D2.out.2.2.1
          have c3 := D2.out.2.2.2.1
          clear c0 c1 c2 c3
          go_wp2_with fail
          obtain ⟨Sd0, Sd0d⟩ : ∃ S : World → Prop, S = fun v : World => Blk v w.heap.size #[.int .i64 rx0, .int .i64 ry0, .int .i64 rx1, .int .i64 ry1] 38 ∧ Blk v Q #[.int .i64 qx, .int .i64 qy] 24 ∧ v.cell? p = some (.int .i64 fx) ∧ v.cell? ⟨p.block, p.off + 1, none⟩ = some (.int .i64 fy) ∧ Below w.heap.size w v := ⟨_, rfl⟩
          have Sd0t0 : Stands Sd0 := by rw [Sd0d]; exact ((stands_blk _ _ _).and ((stands_blk _ _ _).and ((stands_cell _ _).and ((stands_cell _ _).and (stands_below _)))))
          have Sd0u0 : ∀ v, Sd0 v → Blk v w.heap.size #[.int .i64 rx0, .int .i64 ry0, .int .i64 rx1, .int .i64 ry1] 38 ∧ Blk v Q #[.int .i64 qx, .int .i64 qy] 24 ∧ v.cell? p = some (.int .i64 fx) ∧ v.cell? ⟨p.block, p.off + 1, none⟩ = some (.int .i64 fy) ∧ Below w.heap.size w v := fun v h => by rw [Sd0d] at h; exact h
          have Sd0m0 : ∀ v, (Blk v w.heap.size #[.int .i64 rx0, .int .i64 ry0, .int .i64 rx1, .int .i64 ry1] 38 ∧ Blk v Q #[.int .i64 qx, .int .i64 qy] 24 ∧ v.cell? p = some (.int .i64 fx) ∧ v.cell? ⟨p.block, p.off + 1, none⟩ = some (.int .i64 fy) ∧ Below w.heap.size w v) → Sd0 v := fun v h => by rw [Sd0d]; exact h
          have Sd0u := Lib.hid Sd0u0
          have Sd0m := Lib.hid Sd0m0
          have Sd0t := Lib.hid Sd0t0
          clear Sd0d Sd0u0 Sd0m0 Sd0t0
          refine wp_region_X (S := Sd0) (by kernel_rfl) (Sd0m.out _ ⟨D2.out.1.drew, D2.out.2.1.drew, D2.out.2.2.1, D2.out.2.2.2.1, D2.out.2.2.2.2.drew⟩) ?_
          clear D2
          refine wpX_take (i := 0) (v := ?_) Sd0t.out rfl rfl (by kernel_rfl) (by kernel_rfl) (by kernel_rfl) (fun _ _ _ h => h) (SteadyX.value (by rfl) ?_) ?_
          rotate_left
          · (intro w_ hS; obtain ⟨q0, q1, q2, q3, q4⟩ := Sd0u.out _ hS; (have q0 := q0.four); (have q1 := q1.two); (clear q4); go_simp; try with_reducible rfl)
          simp only [List.setIfInBounds_toArray, List.set_cons_zero, List.set_cons_succ]
          refine wpX_take (i := 1) (v := ?_) Sd0t.out rfl rfl (by kernel_rfl) (by kernel_rfl) (by kernel_rfl) (fun _ _ _ h => h) (SteadyX.value (by rfl) ?_) ?_
          rotate_left
          · (intro w_ hS; go_simp; try with_reducible rfl)
          simp only [List.setIfInBounds_toArray, List.set_cons_zero, List.set_cons_succ]
          refine wpX_take (i := 2) (v := ?_) Sd0t.out rfl rfl (by kernel_rfl) (by kernel_rfl) (by kernel_rfl) (fun _ _ _ h => h) (SteadyX.value (by rfl) ?_) ?_
          rotate_left
          · (intro w_ hS; go_simp; try with_reducible rfl)
          simp only [List.setIfInBounds_toArray, List.set_cons_zero, List.set_cons_succ]
          refine wpX_take (i := 3) (v := ?_) Sd0t.out rfl rfl (by kernel_rfl) (by kernel_rfl) (by kernel_rfl) (fun _ _ _ h => h) (SteadyX.value (by rfl) ?_) ?_
          rotate_left
          · (intro w_ hS; obtain ⟨q0, q1, q2, q3, q4⟩ := Sd0u.out _ hS; (have q0 := q0.four); (have q1 := q1.two); (clear q4); go_simp; try with_reducible rfl)
          simp only [List.setIfInBounds_toArray, List.set_cons_zero, List.set_cons_succ]
          refine wpX_take (i := 4) Sd0t.out rfl rfl (by kernel_rfl) (by kernel_rfl) (by kernel_rfl) (fun _ _ _ h => h) (SteadyX.call (by rfl) (fun w_ hS => l3.out (by simp) (by simp) w_) (fun w_ hS => by (go_simp))) ?_
          simp only [List.setIfInBounds_toArray, List.set_cons_zero, List.set_cons_succ]
          refine wpX_take (i := 5) (v := ?_) Sd0t.out rfl rfl (by kernel_rfl) (by kernel_rfl) (by kernel_rfl) (fun _ _ _ h => h) (SteadyX.value (by rfl) ?_) ?_
          rotate_left
          · (intro w_ hS; go_simp; try with_reducible rfl)
          simp only [List.setIfInBounds_toArray, List.set_cons_zero, List.set_cons_succ]
          refine wpX_done (by kernel_rfl) (fun y1 hS => ?_) _
          obtain ⟨q0, q1, q2, q3, q4⟩ := Sd0u.out _ hS
          clear hS Sd0u Sd0m Sd0t
          clear Sd0
          have D3 := Lib.hid (And.intro q0 (And.intro q1 (And.intro q2 (And.intro q3 (q4)))))
          clear q0 q1 q2 q3 q4
          have c0 := D3.out.1.four
          have c1 := D3.out.2.1.two
          have c2 := D3.out.2.2.1
          have c3 := D3.out.2.2.2.1
          clear c0 c1 c2 c3
          go_wp2_with fail
          obtain ⟨Se0, Se0d⟩ : ∃ S : World → Prop, S = fun v : World => Blk v w.heap.size #[.int .i64 rx0, .int .i64 ry0, .int .i64 rx1, .int .i64 ry1] 38 ∧ Blk v Q #[.int .i64 qx, .int .i64 qy] 24 ∧ v.cell? p = some (.int .i64 fx) ∧ v.cell? ⟨p.block, p.off + 1, none⟩ = some (.int .i64 fy) ∧ Below w.heap.size w v := ⟨_, rfl⟩
          have Se0t0 : Stands Se0 := by rw [Se0d]; exact ((stands_blk _ _ _).and ((stands_blk _ _ _).and ((stands_cell _ _).and ((stands_cell _ _).and (stands_below _)))))
          have Se0u0 : ∀ v, Se0 v → Blk v w.heap.size #[.int .i64 rx0, .int .i64 ry0, .int .i64 rx1, .int .i64 ry1] 38 ∧ Blk v Q #[.int .i64 qx, .int .i64 qy] 24 ∧ v.cell? p = some (.int .i64 fx) ∧ v.cell? ⟨p.block, p.off + 1, none⟩ = some (.int .i64 fy) ∧ Below w.heap.size w v := fun v h => by rw [Se0d] at h; exact h
          have Se0m0 : ∀ v, (Blk v w.heap.size #[.int .i64 rx0, .int .i64 ry0, .int .i64 rx1, .int .i64 ry1] 38 ∧ Blk v Q #[.int .i64 qx, .int .i64 qy] 24 ∧ v.cell? p = some (.int .i64 fx) ∧ v.cell? ⟨p.block, p.off + 1, none⟩ = some (.int .i64 fy) ∧ Below w.heap.size w v) → Se0 v := fun v h => by rw [Se0d]; exact h
          have Se0u := Lib.hid Se0u0
          have Se0m := Lib.hid Se0m0
          have Se0t := Lib.hid Se0t0
          clear Se0d Se0u0 Se0m0 Se0t0
          refine wp_region_X (S := Se0) (by kernel_rfl) (Se0m.out _ ⟨D3.out.1.drew, D3.out.2.1.drew, D3.out.2.2.1, D3.out.2.2.2.1, D3.out.2.2.2.2.drew⟩) ?_
          clear D3
          refine wpX_take (i := 0) (v := ?_) Se0t.out rfl rfl (by kernel_rfl) (by kernel_rfl) (by kernel_rfl) (fun _ _ _ h => h) (SteadyX.value (by rfl) ?_) ?_
          rotate_left
          · (intro w_ hS; obtain ⟨q0, q1, q2, q3, q4⟩ := Se0u.out _ hS; (have q0 := q0.four); (have q1 := q1.two); (clear q4); go_simp; try with_reducible rfl)
          simp only [List.setIfInBounds_toArray, List.set_cons_zero, List.set_cons_succ]
          refine wpX_take (i := 1) (v := ?_) Se0t.out rfl rfl (by kernel_rfl) (by kernel_rfl) (by kernel_rfl) (fun _ _ _ h => h) (SteadyX.value (by rfl) ?_) ?_
          rotate_left
          · (intro w_ hS; obtain ⟨q0, q1, q2, q3, q4⟩ := Se0u.out _ hS; (have q0 := q0.four); (have q1 := q1.two); (clear q4); go_simp; try with_reducible rfl)
          simp only [List.setIfInBounds_toArray, List.set_cons_zero, List.set_cons_succ]
          refine wpX_take (i := 2) Se0t.out rfl rfl (by kernel_rfl) (by kernel_rfl) (by kernel_rfl) (fun _ _ _ h => h) (SteadyX.call (by rfl) (fun w_ hS => l4.out w_) (fun w_ hS => by (go_simp))) ?_
          simp only [List.setIfInBounds_toArray, List.set_cons_zero, List.set_cons_succ]
          refine wpX_take (i := 3) (v := ?_) Se0t.out rfl rfl (by kernel_rfl) (by kernel_rfl) (by kernel_rfl) (fun _ _ _ h => h) (SteadyX.value (by rfl) ?_) ?_
          rotate_left
          · (intro w_ hS; go_simp; try with_reducible rfl)
          simp only [List.setIfInBounds_toArray, List.set_cons_zero, List.set_cons_succ]
          refine wpX_take (i := 4) (v := ?_) Se0t.out rfl rfl (by kernel_rfl) (by kernel_rfl) (by kernel_rfl) (fun _ _ _ h => h) (SteadyX.value (by rfl) ?_) ?_
          rotate_left
          · (intro w_ hS; go_simp; try with_reducible rfl)
          simp only [List.setIfInBounds_toArray, List.set_cons_zero, List.set_cons_succ]
          refine wpX_take (i := 5) (v := ?_) Se0t.out rfl rfl (by kernel_rfl) (by kernel_rfl) (by kernel_rfl) (fun _ _ _ h => h) (SteadyX.value (by rfl) ?_) ?_
          rotate_left
          · (intro w_ hS; go_simp; try with_reducible rfl)
          simp only [List.setIfInBounds_toArray, List.set_cons_zero, List.set_cons_succ]
          refine wpX_take (i := 6) (v := ?_) Se0t.out rfl rfl (by kernel_rfl) (by kernel_rfl) (by kernel_rfl) (fun _ _ _ h => h) (SteadyX.value (by rfl) ?_) ?_
          rotate_left
          · (intro w_ hS; go_simp; try with_reducible rfl)
          simp only [List.setIfInBounds_toArray, List.set_cons_zero, List.set_cons_succ]
          refine wpX_take (i := 7) (v := ?_) Se0t.out rfl rfl (by kernel_rfl) (by kernel_rfl) (by kernel_rfl) (fun _ _ _ h => h) (SteadyX.value (by rfl) ?_) ?_
          rotate_left
          · (intro w_ hS; go_simp; try with_reducible rfl)
          simp only [List.setIfInBounds_toArray, List.set_cons_zero, List.set_cons_succ]
          refine wpX_take (i := 8) (v := undef) Se0t.out rfl rfl (by kernel_rfl) (by kernel_rfl) (by kernel_rfl) (fun _ _ _ h => h) (SteadyX.off (by rfl)) ?_
          simp only [List.setIfInBounds_toArray, List.set_cons_zero, List.set_cons_succ]
          refine wpX_take (i := 9) (v := undef) Se0t.out rfl rfl (by kernel_rfl) (by kernel_rfl) (by kernel_rfl) (fun _ _ _ h => h) (SteadyX.off (by rfl)) ?_
          simp only [List.setIfInBounds_toArray, List.set_cons_zero, List.set_cons_succ]
          refine wpX_take (i := 10) (v := undef) Se0t.out rfl rfl (by kernel_rfl) (by kernel_rfl) (by kernel_rfl) (fun _ _ _ h => h) (SteadyX.off (by rfl)) ?_
          simp only [List.setIfInBounds_toArray, List.set_cons_zero, List.set_cons_succ]
          refine wpX_take (i := 11) (v := ?_) Se0t.out rfl rfl (by kernel_rfl) (by kernel_rfl) (by kernel_rfl) (fun _ _ _ h => h) (SteadyX.value (by rfl) ?_) ?_
          rotate_left
          · (intro w_ hS; go_simp; try with_reducible rfl)
          simp only [List.setIfInBounds_toArray, List.set_cons_zero, List.set_cons_succ]
          refine wpX_take (i := 12) (v := ?_) Se0t.out rfl rfl (by kernel_rfl) (by kernel_rfl) (by kernel_rfl) (fun _ _ _ h => h) (SteadyX.value (by rfl) ?_) ?_
          rotate_left
          · (intro w_ hS; go_simp; try with_reducible rfl)
          simp only [List.setIfInBounds_toArray, List.set_cons_zero, List.set_cons_succ]
          refine wpX_take (i := 13) (v := ?_) Se0t.out rfl rfl (by kernel_rfl) (by kernel_rfl) (by kernel_rfl) (fun _ _ _ h => h) (SteadyX.value (by rfl) ?_) ?_
          rotate_left
          · (intro w_ hS; go_simp; try with_reducible rfl)
          simp only [List.setIfInBounds_toArray, List.set_cons_zero, List.set_cons_succ]
          refine wpX_take (i := 14) (v := ?_) Se0t.out rfl rfl (by kernel_rfl) (by kernel_rfl) (by kernel_rfl) (fun _ _ _ h => h) (SteadyX.value (by rfl) ?_) ?_
          rotate_left
          · (intro w_ hS; obtain ⟨q0, q1, q2, q3, q4⟩ := Se0u.out _ hS; (have q0 := q0.four); (have q1 := q1.two); (clear q4); go_simp; try with_reducible rfl)
          simp only [List.setIfInBounds_toArray, List.set_cons_zero, List.set_cons_succ]
          refine wpX_take (i := 15) (v := ?_) Se0t.out rfl rfl (by kernel_rfl) (by kernel_rfl) (by kernel_rfl) (fun _ _ _ h => h) (SteadyX.value (by rfl) ?_) ?_
          rotate_left
          · (intro w_ hS; obtain ⟨q0, q1, q2, q3, q4⟩ := Se0u.out _ hS; (have q0 := q0.four); (have q1 := q1.two); (clear q4); go_simp; try with_reducible rfl)
          simp only [List.setIfInBounds_toArray, List.set_cons_zero, List.set_cons_succ]
          refine wpX_take (i := 16) Se0t.out rfl rfl (by kernel_rfl) (by kernel_rfl) (by kernel_rfl) (fun _ _ _ h => h) (SteadyX.call (by rfl) (fun w_ hS => l6.out w_) (fun w_ hS => by (go_simp))) ?_
          simp only [List.setIfInBounds_toArray, List.set_cons_zero, List.set_cons_succ]
          refine wpX_take (i := 17) (v := ?_) Se0t.out rfl rfl (by kernel_rfl) (by kernel_rfl) (by kernel_rfl) (fun _ _ _ h => h) (SteadyX.value (by rfl) ?_) ?_
          rotate_left
          · (intro w_ hS; go_simp; try with_reducible rfl)
          simp only [List.setIfInBounds_toArray, List.set_cons_zero, List.set_cons_succ]
          refine wpX_take (i := 18) (v := ?_) Se0t.out rfl rfl (by kernel_rfl) (by kernel_rfl) (by kernel_rfl) (fun _ _ _ h => h) (SteadyX.value (by rfl) ?_) ?_
          rotate_left
          · (intro w_ hS; go_simp; try with_reducible rfl)
          simp only [List.setIfInBounds_toArray, List.set_cons_zero, List.set_cons_succ]
          refine wpX_take (i := 19) (v := ?_) Se0t.out rfl rfl (by kernel_rfl) (by kernel_rfl) (by kernel_rfl) (fun _ _ _ h => h) (SteadyX.value (by rfl) ?_) ?_
          rotate_left
          · (intro w_ hS; go_simp; try with_reducible rfl)
          simp only [List.setIfInBounds_toArray, List.set_cons_zero, List.set_cons_succ]
          refine wpX_take (i := 20) (v := ?_) Se0t.out rfl rfl (by kernel_rfl) (by kernel_rfl) (by kernel_rfl) (fun _ _ _ h => h) (SteadyX.value (by rfl) ?_) ?_
          rotate_left
          · (intro w_ hS; go_simp; try with_reducible rfl)
          simp only [List.setIfInBounds_toArray, List.set_cons_zero, List.set_cons_succ]
          refine wpX_take (i := 21) (v := ?_) Se0t.out rfl rfl (by kernel_rfl) (by kernel_rfl) (by kernel_rfl) (fun _ _ _ h => h) (SteadyX.value (by rfl) ?_) ?_
          rotate_left
          · (intro w_ hS; obtain ⟨q0, q1, q2, q3, q4⟩ := Se0u.out _ hS; (have q0 := q0.four); (have q1 := q1.two); (clear q4); go_simp; try with_reducible rfl)
          simp only [List.setIfInBounds_toArray, List.set_cons_zero, List.set_cons_succ]
          refine wpX_take (i := 22) (v := ?_) Se0t.out rfl rfl (by kernel_rfl) (by kernel_rfl) (by kernel_rfl) (fun _ _ _ h => h) (SteadyX.value (by rfl) ?_) ?_
          rotate_left
          · (intro w_ hS; go_simp; try with_reducible rfl)
          simp only [List.setIfInBounds_toArray, List.set_cons_zero, List.set_cons_succ]
          refine wpX_take (i := 23) (v := ?_) Se0t.out rfl rfl (by kernel_rfl) (by kernel_rfl) (by kernel_rfl) (fun _ _ _ h => h) (SteadyX.value (by rfl) ?_) ?_
          rotate_left
          · (intro w_ hS; go_simp; try with_reducible rfl)
          simp only [List.setIfInBounds_toArray, List.set_cons_zero, List.set_cons_succ]
          refine wpX_take (i := 24) (v := ?_) Se0t.out rfl rfl (by kernel_rfl) (by kernel_rfl) (by kernel_rfl) (fun _ _ _ h => h) (SteadyX.value (by rfl) ?_) ?_
          rotate_left
          · (intro w_ hS; obtain ⟨q0, q1, q2, q3, q4⟩ := Se0u.out _ hS; (have q0 := q0.four); (have q1 := q1.two); (clear q4); go_simp; try with_reducible rfl)
          simp only [List.setIfInBounds_toArray, List.set_cons_zero, List.set_cons_succ]
          refine wpX_take (i := 25) Se0t.out rfl rfl (by kernel_rfl) (by kernel_rfl) (by kernel_rfl) (fun _ _ _ h => h) (SteadyX.call (by rfl) (fun w_ hS => l7.out w_) (fun w_ hS => by (go_simp))) ?_
          simp only [List.setIfInBounds_toArray, List.set_cons_zero, List.set_cons_succ]
          refine wpX_take (i := 26) (v := ?_) Se0t.out rfl rfl (by kernel_rfl) (by kernel_rfl) (by kernel_rfl) (fun _ _ _ h => h) (SteadyX.value (by rfl) ?_) ?_
          rotate_left
          · (intro w_ hS; go_simp; try with_reducible rfl)
          simp only [List.setIfInBounds_toArray, List.set_cons_zero, List.set_cons_succ]
          refine wpX_take (i := 27) (v := ?_) Se0t.out rfl rfl (by kernel_rfl) (by kernel_rfl) (by kernel_rfl) (fun _ _ _ h => h) (SteadyX.value (by rfl) ?_) ?_
          rotate_left
          · (intro w_ hS; go_simp; try with_reducible rfl)
          simp only [List.setIfInBounds_toArray, List.set_cons_zero, List.set_cons_succ]
          refine wpX_take (i := 28) (v := ?_) Se0t.out rfl rfl (by kernel_rfl) (by kernel_rfl) (by kernel_rfl) (fun _ _ _ h => h) (SteadyX.value (by rfl) ?_) ?_
          rotate_left
          · (intro w_ hS; go_simp; try with_reducible rfl)
          simp only [List.setIfInBounds_toArray, List.set_cons_zero, List.set_cons_succ]
          refine wpX_done (by kernel_rfl) (fun y2 hS => ?_) _
          obtain ⟨q0, q1, q2, q3, q4⟩ := Se0u.out _ hS
          clear hS Se0u Se0m Se0t
          clear Se0
          have D4 := Lib.hid (And.intro q0 (And.intro q1 (And.intro q2 (And.intro q3 (q4)))))
          clear q0 q1 q2 q3 q4
          have c0 := D4.out.1.four
          have c1 := D4.out.2.1.two
          have c2 := D4.out.2.2.1
          have c3 := D4.out.2.2.2.1
          clear c0 c1 c2 c3
          have B2 := Lib.hid (And.intro D4.out.1 D4.out.2.2.2.2)
          clear D4
          go_wp2
          go_round
          case rel => exact ⟨k + 1, by omega, val_int rfl, B2⟩
          case measure => simp only [intOf]; omega
    · go_wp2_with fail
      refine (HAW.out _).mono ?_
      rintro e w13 ⟨rfl, hb⟩
      have HE := Lib.hid (grow B.out.2 hb)
      clear hb
      go_wp2
      go_ret
      exact ⟨rfl, HE.out⟩

end Go.Proofs.Ytkneohngbkmlpaa
