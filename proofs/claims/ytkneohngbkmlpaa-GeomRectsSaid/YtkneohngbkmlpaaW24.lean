/- Walks: Join, Nearest, Bounds, the reference's rects. -/
import Derived.Test.YtkneohngbkmlpaaW23
namespace Go.Proofs.Ytkneohngbkmlpaa
open Go.RowKit

set_option maxHeartbeats 2000000 in
theorem Join_road (rx0 ry0 rx1 ry1 sx0 sy0 sx1 sy1 jx0 jy0 jx1 jy1 : Int) (m y : Bool)
    (k1 : ∀ w, Calls Try.prog 28 #[.agg #[.int .i64 rx0, .int .i64 ry0, .int .i64 rx1, .int .i64 ry1]] w fun e w' => e = .returned (.bool m) ∧ Below w.heap.size w w')
    (k2 : ∀ w, Calls Try.prog 28 #[.agg #[.int .i64 sx0, .int .i64 sy0, .int .i64 sx1, .int .i64 sy1]] w fun e w' => e = .returned (.bool y) ∧ Below w.heap.size w w')
    (k3 : ∀ w, Calls Try.prog 49 #[.agg #[.int .i64 rx0, .int .i64 ry0, .int .i64 rx1, .int .i64 ry1], .agg #[.int .i64 sx0, .int .i64 sy0, .int .i64 sx1, .int .i64 sy1]] w fun e w' => e = .returned (.agg #[.int .i64 jx0, .int .i64 jy0, .int .i64 jx1, .int .i64 jy1]) ∧ Below w.heap.size w w') (w : World) :
    Calls Try.prog 26 #[.agg #[.int .i64 rx0, .int .i64 ry0, .int .i64 rx1, .int .i64 ry1], .agg #[.int .i64 sx0, .int .i64 sy0, .int .i64 sx1, .int .i64 sy1]] w fun e w' => e = .returned (.agg (if m && y then #[.int .i64 jx0, .int .i64 jy0, .int .i64 jx1, .int .i64 jy1] else #[.int .i64 0, .int .i64 0, .int .i64 0, .int .i64 0])) ∧ Below w.heap.size w w' := by
  obtain ⟨w0, hw0, p0, p1, p2, g0, z0⟩ := boxes3 w #[.int .i64 rx0, .int .i64 ry0, .int .i64 rx1, .int .i64 ry1] #[.int .i64 sx0, .int .i64 sy0, .int .i64 sx1, .int .i64 sy1] #[.int .i64 0, .int .i64 0, .int .i64 0, .int .i64 0] 38 38 38
  have HB0 := Lib.hid (And.intro p0 (And.intro p1 (And.intro p2 (g0))))
  clear p0 p1 p2 g0 z0
  have K1 := Lib.hid k1
  have K2 := Lib.hid k2
  have K3 := Lib.hid k3
  clear k1 k2 k3
  cases m
  · go_enter Try.func26, Try.ntmps26
    have c0 := HB0.out.1.four
    have c1 := HB0.out.2.1.four
    have c2 := HB0.out.2.2.1.four
    go_wp2_with fail
    (try clear hw0)
    refine (K1.out _).mono ?_
    rintro e w1 ⟨rfl, hb⟩
    have HB1 := Lib.hid (And.intro (HB0.out.1.grew hb) (And.intro (HB0.out.2.1.grew hb) (And.intro (HB0.out.2.2.1.grew hb) (grow HB0.out.2.2.2 hb))))
    clear c0 c1 c2
    clear hb HB0
    have c0 := HB1.out.1.four
    have c1 := HB1.out.2.1.four
    have c2 := HB1.out.2.2.1.four
    have r2 := ((((HB1.out.2.2.1.set 0 (.int .i64 0)).set 1 (.int .i64 0)).set 2 (.int .i64 0)).set 3 (.int .i64 0)).four
    try simp only [List.setIfInBounds_toArray, List.set_cons_zero, List.set_cons_succ] at r2
    go_wp2
    refine bodyPost_ret (v := .agg #[.int .i64 0, .int .i64 0, .int .i64 0, .int .i64 0]) ?_ rfl ⟨rfl, ?_⟩
    · simp [results, Try.results26, go_sem, r2]
    · exact (((HB1.out.2.2.2.setCell (by show _ ≤ w.heap.size + 1 + 1; omega) _).setCell (by show _ ≤ w.heap.size + 1 + 1; omega) _).setCell (by show _ ≤ w.heap.size + 1 + 1; omega) _).setCell (by show _ ≤ w.heap.size + 1 + 1; omega) _
  · cases y
    · go_enter Try.func26, Try.ntmps26
      have c0 := HB0.out.1.four
      have c1 := HB0.out.2.1.four
      have c2 := HB0.out.2.2.1.four
      go_wp2_with fail
      (try clear hw0)
      refine (K1.out _).mono ?_
      rintro e w1 ⟨rfl, hb⟩
      have HB1 := Lib.hid (And.intro (HB0.out.1.grew hb) (And.intro (HB0.out.2.1.grew hb) (And.intro (HB0.out.2.2.1.grew hb) (grow HB0.out.2.2.2 hb))))
      clear c0 c1 c2
      clear hb HB0
      have c0 := HB1.out.1.four
      have c1 := HB1.out.2.1.four
      have c2 := HB1.out.2.2.1.four
      go_wp2_with fail
      refine (K2.out _).mono ?_
      rintro e w2 ⟨rfl, hb⟩
      have HB2 := Lib.hid (And.intro (HB1.out.1.grew hb) (And.intro (HB1.out.2.1.grew hb) (And.intro (HB1.out.2.2.1.grew hb) (grow HB1.out.2.2.2 hb))))
      clear c0 c1 c2
      clear hb HB1
      have c0 := HB2.out.1.four
      have c1 := HB2.out.2.1.four
      have c2 := HB2.out.2.2.1.four
      have r2 := ((((HB2.out.2.2.1.set 0 (.int .i64 0)).set 1 (.int .i64 0)).set 2 (.int .i64 0)).set 3 (.int .i64 0)).four
      try simp only [List.setIfInBounds_toArray, List.set_cons_zero, List.set_cons_succ] at r2
      go_wp2
      refine bodyPost_ret (v := .agg #[.int .i64 0, .int .i64 0, .int .i64 0, .int .i64 0]) ?_ rfl ⟨rfl, ?_⟩
      · simp [results, Try.results26, go_sem, r2]
      · exact (((HB2.out.2.2.2.setCell (by show _ ≤ w.heap.size + 1 + 1; omega) _).setCell (by show _ ≤ w.heap.size + 1 + 1; omega) _).setCell (by show _ ≤ w.heap.size + 1 + 1; omega) _).setCell (by show _ ≤ w.heap.size + 1 + 1; omega) _
    · go_enter Try.func26, Try.ntmps26
      have c0 := HB0.out.1.four
      have c1 := HB0.out.2.1.four
      have c2 := HB0.out.2.2.1.four
      go_wp2_with fail
      (try clear hw0)
      refine (K1.out _).mono ?_
      rintro e w1 ⟨rfl, hb⟩
      have HB1 := Lib.hid (And.intro (HB0.out.1.grew hb) (And.intro (HB0.out.2.1.grew hb) (And.intro (HB0.out.2.2.1.grew hb) (grow HB0.out.2.2.2 hb))))
      clear c0 c1 c2
      clear hb HB0
      have c0 := HB1.out.1.four
      have c1 := HB1.out.2.1.four
      have c2 := HB1.out.2.2.1.four
      go_wp2_with fail
      refine (K2.out _).mono ?_
      rintro e w2 ⟨rfl, hb⟩
      have HB2 := Lib.hid (And.intro (HB1.out.1.grew hb) (And.intro (HB1.out.2.1.grew hb) (And.intro (HB1.out.2.2.1.grew hb) (grow HB1.out.2.2.2 hb))))
      clear c0 c1 c2
      clear hb HB1
      have c0 := HB2.out.1.four
      have c1 := HB2.out.2.1.four
      have c2 := HB2.out.2.2.1.four
      go_wp2_with fail
      refine (K3.out _).mono ?_
      rintro e w3 ⟨rfl, hb⟩
      have HB3 := Lib.hid (And.intro (HB2.out.1.grew hb) (And.intro (HB2.out.2.1.grew hb) (And.intro (HB2.out.2.2.1.grew hb) (grow HB2.out.2.2.2 hb))))
      clear c0 c1 c2
      clear hb HB2
      have c0 := HB3.out.1.four
      have c1 := HB3.out.2.1.four
      have c2 := HB3.out.2.2.1.four
      have r2 := ((((HB3.out.2.2.1.set 0 (.int .i64 jx0)).set 1 (.int .i64 jy0)).set 2 (.int .i64 jx1)).set 3 (.int .i64 jy1)).four
      try simp only [List.setIfInBounds_toArray, List.set_cons_zero, List.set_cons_succ] at r2
      go_wp2
      refine bodyPost_ret (v := .agg #[.int .i64 jx0, .int .i64 jy0, .int .i64 jx1, .int .i64 jy1]) ?_ rfl ⟨rfl, ?_⟩
      · simp [results, Try.results26, go_sem, r2]
      · exact (((HB3.out.2.2.2.setCell (by show _ ≤ w.heap.size + 1 + 1; omega) _).setCell (by show _ ≤ w.heap.size + 1 + 1; omega) _).setCell (by show _ ≤ w.heap.size + 1 + 1; omega) _).setCell (by show _ ≤ w.heap.size + 1 + 1; omega) _

theorem Join_any (r s : Rc) (w : World) : Calls Try.prog 26 #[rc r, rc s] w fun e w' => e = .returned (rc (JoinF r s)) ∧ Below w.heap.size w w' := by
  have h := Join_road r.x0 r.y0 r.x1 r.y1 s.x0 s.y0 s.x1 s.y1 _ _ _ _ _ _ (MayR_any r) (MayR_any s) (join_any r s) w
  rw [← Bool.decide_and] at h
  unfold JoinF
  by_cases hm : MayR r ∧ MayR s
  · rw [if_pos hm]; rw [decide_eq_true hm] at h; exact h
  · rw [if_neg hm]; rw [decide_eq_false hm] at h; exact h

set_option maxHeartbeats 4000000 in
theorem Near_road (rx0 ry0 rx1 ry1 px py nx ny d : Int) (m y : Bool)
    (hx : min (max px rx0) rx1 = nx) (hy : min (max py ry0) ry1 = ny)
    (k1 : ∀ w, Calls Try.prog 28 #[.agg #[.int .i64 rx0, .int .i64 ry0, .int .i64 rx1, .int .i64 ry1]] w fun e w' => e = .returned (.bool m) ∧ Below w.heap.size w w')
    (k2 : ∀ w, Calls Try.prog 15 #[.agg #[.int .i64 px, .int .i64 py]] w fun e w' => e = .returned (.bool y) ∧ Below w.heap.size w w')
    (k3 : ∀ x y, x = nx → y = ny → ∀ w, Calls Try.prog 30 #[.agg #[.int .i64 x, .int .i64 y], .agg #[.int .i64 px, .int .i64 py]] w fun e w' => e = .returned (.int .u64 d) ∧ Below w.heap.size w w') (w : World) :
    Calls Try.prog 29 #[.agg #[.int .i64 rx0, .int .i64 ry0, .int .i64 rx1, .int .i64 ry1], .agg #[.int .i64 px, .int .i64 py]] w fun e w' => e = .returned (.int .u64 (if m && y then d else 0)) ∧ Below w.heap.size w w' := by
  obtain ⟨w0, hw0, p0, p1, g0, z0⟩ := boxes2 w #[.int .i64 rx0, .int .i64 ry0, .int .i64 rx1, .int .i64 ry1] #[.int .i64 px, .int .i64 py] 38 24
  have HB0 := Lib.hid (And.intro p0 (And.intro p1 (g0)))
  clear p0 p1 g0 z0
  have K1 := Lib.hid k1
  have K2 := Lib.hid k2
  have K3 := Lib.hid k3
  clear k1 k2 k3
  cases m
  · go_enter Try.func29, Try.ntmps29
    have c0 := HB0.out.1.four
    have c1 := HB0.out.2.1.two
    go_wp2_with fail
    (try clear hw0)
    refine (K1.out _).mono ?_
    rintro e w1 ⟨rfl, hb⟩
    have HB1 := Lib.hid (And.intro (HB0.out.1.grew hb) (And.intro (HB0.out.2.1.grew hb) (grow HB0.out.2.2 hb)))
    clear c0 c1
    clear hb HB0
    have c0 := HB1.out.1.four
    have c1 := HB1.out.2.1.two
    go_wp2
    go_ret
    exact ⟨rfl, HB1.out.2.2⟩
  · cases y
    · go_enter Try.func29, Try.ntmps29
      have c0 := HB0.out.1.four
      have c1 := HB0.out.2.1.two
      go_wp2_with fail
      (try clear hw0)
      refine (K1.out _).mono ?_
      rintro e w1 ⟨rfl, hb⟩
      have HB1 := Lib.hid (And.intro (HB0.out.1.grew hb) (And.intro (HB0.out.2.1.grew hb) (grow HB0.out.2.2 hb)))
      clear c0 c1
      clear hb HB0
      have c0 := HB1.out.1.four
      have c1 := HB1.out.2.1.two
      go_wp2_with fail
      refine (K2.out _).mono ?_
      rintro e w2 ⟨rfl, hb⟩
      have HB2 := Lib.hid (And.intro (HB1.out.1.grew hb) (And.intro (HB1.out.2.1.grew hb) (grow HB1.out.2.2 hb)))
      clear c0 c1
      clear hb HB1
      have c0 := HB2.out.1.four
      have c1 := HB2.out.2.1.two
      go_wp2
      go_ret
      exact ⟨rfl, HB2.out.2.2⟩
    · go_enter Try.func29, Try.ntmps29
      have c0 := HB0.out.1.four
      have c1 := HB0.out.2.1.two
      go_wp2_with fail
      (try clear hw0)
      refine (K1.out _).mono ?_
      rintro e w1 ⟨rfl, hb⟩
      have HB1 := Lib.hid (And.intro (HB0.out.1.grew hb) (And.intro (HB0.out.2.1.grew hb) (grow HB0.out.2.2 hb)))
      clear c0 c1
      clear hb HB0
      have c0 := HB1.out.1.four
      have c1 := HB1.out.2.1.two
      go_wp2_with fail
      refine (K2.out _).mono ?_
      rintro e w2 ⟨rfl, hb⟩
      have HB2 := Lib.hid (And.intro (HB1.out.1.grew hb) (And.intro (HB1.out.2.1.grew hb) (grow HB1.out.2.2 hb)))
      clear c0 c1
      clear hb HB1
      have c0 := HB2.out.1.four
      have c1 := HB2.out.2.1.two
      have l1 : w.heap.size + 1 < w2.heap.size := HB2.out.2.1.lt
      go_wp2_with fail
      all_goals
        refine (K3.out _ _ (by omega) (by omega) _).mono ?_
        rintro e w3 ⟨rfl, hb⟩
        have HB3 := Lib.hid (grow (w1 := _) (grow_alloc HB2.out.2.2 _) hb)
        clear hb
        go_wp2
        go_ret
        exact ⟨rfl, HB3.out⟩

end Go.Proofs.Ytkneohngbkmlpaa
