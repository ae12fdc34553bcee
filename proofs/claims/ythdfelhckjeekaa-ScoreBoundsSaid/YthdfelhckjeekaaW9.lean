/- Walk: ScoreBounds. -/
import Derived.Test.YthdfelhckjeekaaW7
namespace Go.Proofs.Ythdfelhckjeekaa
open Go.RowKit

theorem weight_falls (T d e : Int) (h : knownB T d = true) (hde : d ≤ e) : weightZ T e ≤ weightZ T d := by
  have hp := weightZ_pos T d h
  cases he : knownB T e
  · unfold weightZ at hp ⊢; rw [h] at hp ⊢; rw [he]; simp only [if_true] at hp ⊢; simp; omega
  · have q1 := quoN_spec T d h
    have q2 := quoN_spec T e he
    obtain ⟨⟨a, b⟩, c, f⟩ := knownB_iff.1 h
    obtain ⟨⟨a', b'⟩, c', f'⟩ := knownB_iff.1 he
    have hq : (T + e) / e ≤ (T + d) / d := by
      rw [show T + e = T + 1 * e by omega, show T + d = T + 1 * d by omega, Int.add_mul_ediv_right _ _ (by omega), Int.add_mul_ediv_right _ _ (by omega)]
      have : T / e ≤ T / d := by
        refine (Int.le_ediv_iff_mul_le (by omega)).2 ?_
        have h1 : T / e * e ≤ T := Int.ediv_mul_le _ (by omega)
        have h2 : 0 ≤ T / e := Int.ediv_nonneg (by omega) (by omega)
        exact Int.le_trans (Int.mul_le_mul_of_nonneg_left hde h2) h1
      omega
    have := M.logN_mono (quoN T e) (quoN T d) (by omega) (by omega)
    unfold weightZ
    rw [h, he]
    simp only [if_true]
    omega

theorem share_grows (T N tf len more less : Int) (h1 : countedB T N tf len = true) (h2 : countedB T N more less = true) (ha : tf ≤ more) (hb : less ≤ len) :
    shareZ T N tf len ≤ shareZ T N more less := by
  unfold shareZ
  rw [h1, h2]
  simp only [if_true]
  obtain ⟨⟨⟨⟨a1, a2⟩, a3, a4⟩, a5, a6⟩, a7, a8⟩ := countedB_iff.1 h1
  obtain ⟨⟨⟨⟨b1, b2⟩, b3, b4⟩, b5, b6⟩, b7, b8⟩ := countedB_iff.1 h2
  have := M.share_mono tf more len less T (max N 1) (by omega) a5 ha (by omega) hb (by omega)
  omega

theorem score_grows (T N d tf len more less : Int) (h1 : rightB T N d tf len = true) (h2 : rightB T N d more less = true) (ha : tf ≤ more) (hb : less ≤ len) :
    scoreZ T N d tf len ≤ scoreZ T N d more less := by
  unfold scoreZ
  rw [h1, h2]
  simp only [if_true]
  unfold rightB at h1 h2
  rw [Bool.and_eq_true] at h1 h2
  have hs := share_grows T N tf len more less h1.2 h2.2 ha hb
  exact Int.mul_le_mul_of_nonneg_left hs (weightZ_bd T d).1

theorem score_bd (T N d tf len : Int) : 0 ≤ scoreZ T N d tf len ∧ scoreZ T N d tf len ≤ 40000000000000000 := by
  unfold scoreZ
  cases h : rightB T N d tf len
  · simp
  · obtain ⟨a, b⟩ := weightZ_bd T d
    obtain ⟨c, e⟩ := shareZ_bd T N tf len
    have := mul_bd _ _ _ _ a b c e
    simp only [if_true]
    omega

set_option maxHeartbeats 4000000 in
theorem ScoreBounds_road (T N d0 d1 tf len more less A B V0 V1 : Int) (r1 r2 : Bool) (w : World)
    (c1 : ∀ w, Calls Try.prog 18 #[.agg #[.int .i64 T, .int .i64 N], .int .i64 d0, .int .i64 tf, .int .i64 len] w fun e w' => e = .returned (.bool r1) ∧ Below w.heap.size w w')
    (c2 : ∀ w, Calls Try.prog 18 #[.agg #[.int .i64 T, .int .i64 N], .int .i64 d0, .int .i64 more, .int .i64 less] w fun e w' => e = .returned (.bool r2) ∧ Below w.heap.size w w')
    (c3 : ∀ w, Calls Try.prog 17 #[.agg #[.int .i64 T, .int .i64 N], .int .i64 d0, .int .i64 tf, .int .i64 len] w fun e w' => e = .returned (.int .i64 A) ∧ Below w.heap.size w w')
    (c4 : ∀ w, Calls Try.prog 17 #[.agg #[.int .i64 T, .int .i64 N], .int .i64 d0, .int .i64 more, .int .i64 less] w fun e w' => e = .returned (.int .i64 B) ∧ Below w.heap.size w w')
    (c5 : ∀ w, Calls Try.prog 15 #[.agg #[.int .i64 T, .int .i64 N], .int .i64 d0] w fun e w' => e = .returned (.int .i64 V0) ∧ Below w.heap.size w w')
    (c6 : ∀ w, Calls Try.prog 15 #[.agg #[.int .i64 T, .int .i64 N], .int .i64 d1] w fun e w' => e = .returned (.int .i64 V1) ∧ Below w.heap.size w w')
    (h : (r1 = false ∧ A = 0) ∨ (r1 = true ∧ r2 = false ∧ B = 0) ∨
      (r1 = true ∧ r2 = true ∧ 0 ≤ A ∧ 0 ≤ B ∧ (tf ≤ more → less ≤ len → A ≤ B) ∧ (d0 ≤ d1 → V1 ≤ V0) ∧ 1 ≤ V0)) :
    Calls Try.prog 6 #[.agg #[.int .i64 T, .int .i64 N], .agg #[.int .i64 d0, .int .i64 d1], .agg #[.int .i64 tf, .int .i64 len, .int .i64 more, .int .i64 less]] w fun e w' => e = .returned (.bool true) ∧ Below w.heap.size w w' := by
  have C1 := Lib.hid c1
  have C2 := Lib.hid c2
  have C3 := Lib.hid c3
  have C4 := Lib.hid c4
  have C5 := Lib.hid c5
  have C6 := Lib.hid c6
  clear c1 c2 c3 c4 c5 c6
  have ks : ∀ a b : World, Below a.heap.size a b → (a.cell? ⟨w.heap.size, 0, none⟩ = some (.int .i64 T) ∧ a.cell? ⟨w.heap.size, 1, none⟩ = some (.int .i64 N) ∧ a.cell? ⟨w.heap.size + 1, 0, none⟩ = some (.int .i64 d0) ∧ a.cell? ⟨w.heap.size + 1, 1, none⟩ = some (.int .i64 d1) ∧ Below w.heap.size w a) →
      (b.cell? ⟨w.heap.size, 0, none⟩ = some (.int .i64 T) ∧ b.cell? ⟨w.heap.size, 1, none⟩ = some (.int .i64 N) ∧ b.cell? ⟨w.heap.size + 1, 0, none⟩ = some (.int .i64 d0) ∧ b.cell? ⟨w.heap.size + 1, 1, none⟩ = some (.int .i64 d1) ∧ Below w.heap.size w b) :=
    fun a b hb hs => ⟨cell_grew hs.1 hb, cell_grew hs.2.1 hb, cell_grew hs.2.2.1 hb, cell_grew hs.2.2.2.1 hb, grow hs.2.2.2.2 hb⟩
  have KS := Lib.hid ks
  clear ks
  rcases h with ⟨rfl, rfl⟩ | ⟨rfl, rfl, rfl⟩ | ⟨rfl, rfl, hA, hB, hm, hv, h1⟩
  · go_enter Try.func6, Try.ntmps6
    go_wp2
    go_quiet (fail)
    have k0 := (((Blk.new w #[.int .i64 T, .int .i64 N] 28).alloc (.cells #[.int .i64 d0, .int .i64 d1] 29)).alloc (.cells #[.int .i64 tf, .int .i64 len, .int .i64 more, .int .i64 less] 40)).drewN nq
    have l0 := ((Blk.new' (b := w.heap.size + 1) (w.alloc (.cells #[.int .i64 T, .int .i64 N] 28)) #[.int .i64 d0, .int .i64 d1] 29 (by simp)).alloc (.cells #[.int .i64 tf, .int .i64 len, .int .i64 more, .int .i64 less] 40)).drewN nq
    have g0 : Below w.heap.size w ((((w.alloc (.cells #[.int .i64 T, .int .i64 N] 28)).alloc (.cells #[.int .i64 d0, .int .i64 d1] 29)).alloc (.cells #[.int .i64 tf, .int .i64 len, .int .i64 more, .int .i64 less] 40)).drewN nq) :=
      below_drewN (grow_alloc (grow_alloc (grow_alloc (Below.refl _ w) _) _) _) _
    go_wp2_with fail
    refine (C1.out _).mono ?_
    rintro e w1 ⟨rfl, hb1⟩
    have k1 := k0.grew hb1
    have l1 := l0.grew hb1
    have g1 := grow g0 hb1
    clear k0 l0 g0 hb1
    have kf := k1.two
    have lf := l1.two
    go_wp2_with fail
    go_region_held3 (fun w' => w'.cell? ⟨w.heap.size, 0, none⟩ = some (.int .i64 T) ∧ w'.cell? ⟨w.heap.size, 1, none⟩ = some (.int .i64 N) ∧ w'.cell? ⟨w.heap.size + 1, 0, none⟩ = some (.int .i64 d0) ∧ w'.cell? ⟨w.heap.size + 1, 1, none⟩ = some (.int .i64 d1) ∧ Below w.heap.size w w')
      (first | exact ⟨kf.1, kf.2.1, lf.1, lf.2.1, g1.drew⟩ | exact KS.out _ _ (by assumption) (by assumption))
      (first | (go_at_call 17; (first | (with_reducible refine (C3.out _).mono ?_) | (with_reducible refine (C4.out _).mono ?_)); rintro e w' ⟨rfl, hb⟩) | (go_at_call 15; (first | (with_reducible refine (C5.out _).mono ?_) | (with_reducible refine (C6.out _).mono ?_)); rintro e w' ⟨rfl, hb⟩) | (go_at_call 10; refine (awake_any _).mono ?_; rintro e w' ⟨rfl, hb⟩))
    go_wp2
    go_ret
    exact ⟨rfl, (‹_ ∧ _ ∧ _ ∧ _ ∧ Below w.heap.size w _›).2.2.2.2⟩
  · go_enter Try.func6, Try.ntmps6
    go_wp2
    go_quiet (fail)
    have k0 := (((Blk.new w #[.int .i64 T, .int .i64 N] 28).alloc (.cells #[.int .i64 d0, .int .i64 d1] 29)).alloc (.cells #[.int .i64 tf, .int .i64 len, .int .i64 more, .int .i64 less] 40)).drewN nq
    have l0 := ((Blk.new' (b := w.heap.size + 1) (w.alloc (.cells #[.int .i64 T, .int .i64 N] 28)) #[.int .i64 d0, .int .i64 d1] 29 (by simp)).alloc (.cells #[.int .i64 tf, .int .i64 len, .int .i64 more, .int .i64 less] 40)).drewN nq
    have g0 : Below w.heap.size w ((((w.alloc (.cells #[.int .i64 T, .int .i64 N] 28)).alloc (.cells #[.int .i64 d0, .int .i64 d1] 29)).alloc (.cells #[.int .i64 tf, .int .i64 len, .int .i64 more, .int .i64 less] 40)).drewN nq) :=
      below_drewN (grow_alloc (grow_alloc (grow_alloc (Below.refl _ w) _) _) _) _
    go_wp2_with fail
    refine (C1.out _).mono ?_
    rintro e w1 ⟨rfl, hb1⟩
    have k1 := k0.grew hb1
    have l1 := l0.grew hb1
    have g1 := grow g0 hb1
    clear k0 l0 g0 hb1
    have kf := k1.two
    have lf := l1.two
    go_wp2_with fail
    refine (C2.out _).mono ?_
    rintro e w2 ⟨rfl, hb2⟩
    have k2 := k1.grew hb2
    have l2 := l1.grew hb2
    have g2 := grow g1 hb2
    clear hb2
    have kf := k2.two
    have lf := l2.two
    go_wp2_with fail
    go_region_held3 (fun w' => w'.cell? ⟨w.heap.size, 0, none⟩ = some (.int .i64 T) ∧ w'.cell? ⟨w.heap.size, 1, none⟩ = some (.int .i64 N) ∧ w'.cell? ⟨w.heap.size + 1, 0, none⟩ = some (.int .i64 d0) ∧ w'.cell? ⟨w.heap.size + 1, 1, none⟩ = some (.int .i64 d1) ∧ Below w.heap.size w w')
      (first | exact ⟨kf.1, kf.2.1, lf.1, lf.2.1, g2.drew⟩ | exact KS.out _ _ (by assumption) (by assumption))
      (first | (go_at_call 17; (first | (with_reducible refine (C3.out _).mono ?_) | (with_reducible refine (C4.out _).mono ?_)); rintro e w' ⟨rfl, hb⟩) | (go_at_call 15; (first | (with_reducible refine (C5.out _).mono ?_) | (with_reducible refine (C6.out _).mono ?_)); rintro e w' ⟨rfl, hb⟩) | (go_at_call 10; refine (awake_any _).mono ?_; rintro e w' ⟨rfl, hb⟩))
    go_wp2
    go_ret
    exact ⟨rfl, (‹_ ∧ _ ∧ _ ∧ _ ∧ Below w.heap.size w _›).2.2.2.2⟩
  · go_enter Try.func6, Try.ntmps6
    go_wp2
    go_quiet (fail)
    have k0 := (((Blk.new w #[.int .i64 T, .int .i64 N] 28).alloc (.cells #[.int .i64 d0, .int .i64 d1] 29)).alloc (.cells #[.int .i64 tf, .int .i64 len, .int .i64 more, .int .i64 less] 40)).drewN nq
    have l0 := ((Blk.new' (b := w.heap.size + 1) (w.alloc (.cells #[.int .i64 T, .int .i64 N] 28)) #[.int .i64 d0, .int .i64 d1] 29 (by simp)).alloc (.cells #[.int .i64 tf, .int .i64 len, .int .i64 more, .int .i64 less] 40)).drewN nq
    have g0 : Below w.heap.size w ((((w.alloc (.cells #[.int .i64 T, .int .i64 N] 28)).alloc (.cells #[.int .i64 d0, .int .i64 d1] 29)).alloc (.cells #[.int .i64 tf, .int .i64 len, .int .i64 more, .int .i64 less] 40)).drewN nq) :=
      below_drewN (grow_alloc (grow_alloc (grow_alloc (Below.refl _ w) _) _) _) _
    go_wp2_with fail
    refine (C1.out _).mono ?_
    rintro e w1 ⟨rfl, hb1⟩
    have k1 := k0.grew hb1
    have l1 := l0.grew hb1
    have g1 := grow g0 hb1
    clear k0 l0 g0 hb1
    have kf := k1.two
    have lf := l1.two
    go_wp2_with fail
    refine (C2.out _).mono ?_
    rintro e w2 ⟨rfl, hb2⟩
    have k2 := k1.grew hb2
    have l2 := l1.grew hb2
    have g2 := grow g1 hb2
    clear hb2
    have kf := k2.two
    have lf := l2.two
    go_wp2_with fail
    go_region_held3 (fun w' => w'.cell? ⟨w.heap.size, 0, none⟩ = some (.int .i64 T) ∧ w'.cell? ⟨w.heap.size, 1, none⟩ = some (.int .i64 N) ∧ w'.cell? ⟨w.heap.size + 1, 0, none⟩ = some (.int .i64 d0) ∧ w'.cell? ⟨w.heap.size + 1, 1, none⟩ = some (.int .i64 d1) ∧ Below w.heap.size w w')
      (first | exact ⟨kf.1, kf.2.1, lf.1, lf.2.1, g2.drew⟩ | exact KS.out _ _ (by assumption) (by assumption))
      (first | (go_at_call 17; (first | (with_reducible refine (C3.out _).mono ?_) | (with_reducible refine (C4.out _).mono ?_)); rintro e w' ⟨rfl, hb⟩) | (go_at_call 15; (first | (with_reducible refine (C5.out _).mono ?_) | (with_reducible refine (C6.out _).mono ?_)); rintro e w' ⟨rfl, hb⟩) | (go_at_call 10; refine (awake_any _).mono ?_; rintro e w' ⟨rfl, hb⟩))
    have h5 := (‹_ ∧ _ ∧ _ ∧ _ ∧ Below w.heap.size w _›)
    clear kf lf k1 l1 k2 l2 g1 g2
    have n1 : decide (A < 0) = false := by simp; omega
    have n2 : decide (B < 0) = false := by simp; omega
    have n3 : decide (1 ≤ V0) = true := by simp; omega
    have ways : (tf ≤ more ∧ less ≤ len ∧ ¬ B < A) ∨ (tf ≤ more ∧ ¬ less ≤ len) ∨ ¬ tf ≤ more := by
      by_cases m1 : tf ≤ more
      · by_cases m2 : less ≤ len
        · exact .inl ⟨m1, m2, by have := hm m1 m2; omega⟩
        · exact .inr (.inl ⟨m1, m2⟩)
      · exact .inr (.inr m1)
    have wv : (decide (d0 ≤ d1) = true ∧ decide (V0 < V1) = false) ∨ decide (d0 ≤ d1) = false := by
      by_cases m1 : d0 ≤ d1
      · exact .inl ⟨by simpa using m1, by have := hv m1; simp; omega⟩
      · exact .inr (by simpa using m1)
    clear hm hv hA hB h1
    rcases wv with ⟨v1, v2⟩ | v1
    · rcases ways with ⟨m1, m2, m3⟩ | ⟨m1, m2⟩ | m1
      all_goals
        go_wp2_with fail
        go_region_held3 (fun w' => w'.cell? ⟨w.heap.size, 0, none⟩ = some (.int .i64 T) ∧ w'.cell? ⟨w.heap.size, 1, none⟩ = some (.int .i64 N) ∧ w'.cell? ⟨w.heap.size + 1, 0, none⟩ = some (.int .i64 d0) ∧ w'.cell? ⟨w.heap.size + 1, 1, none⟩ = some (.int .i64 d1) ∧ Below w.heap.size w w')
          (first | exact ⟨h5.1, h5.2.1, h5.2.2.1, h5.2.2.2.1, h5.2.2.2.2.drew⟩ | exact KS.out _ _ (by assumption) (by assumption))
          (first | (go_at_call 17; (first | (with_reducible refine (C3.out _).mono ?_) | (with_reducible refine (C4.out _).mono ?_)); rintro e w' ⟨rfl, hb⟩) | (go_at_call 15; (first | (with_reducible refine (C5.out _).mono ?_) | (with_reducible refine (C6.out _).mono ?_)); rintro e w' ⟨rfl, hb⟩) | (go_at_call 10; refine (awake_any _).mono ?_; rintro e w' ⟨rfl, hb⟩))
        have h6 := (‹_ ∧ _ ∧ _ ∧ _ ∧ Below w.heap.size w _›)
        clear h5
        obtain ⟨q0, q1, q2, q3, q4⟩ := h6
        go_wp2_with fail
        refine (C5.out _).mono ?_
        rintro e w7 ⟨rfl, hb7⟩
        have g7 := grow q4 hb7
        go_wp2_with fail
        refine (awake_any _).mono ?_
        rintro e w8 ⟨rfl, hb8⟩
        have g8 := grow g7 hb8
        go_wp2_with fail
        go_ret
        exact ⟨rfl, g8⟩
    · obtain ⟨q0, q1, q2, q3, q4⟩ := h5
      rcases ways with ⟨m1, m2, m3⟩ | ⟨m1, m2⟩ | m1
      all_goals
        go_wp2_with fail
        go_quiet (fail)
        go_wp2_with fail
        refine (C5.out _).mono ?_
        rintro e w7 ⟨rfl, hb7⟩
        have g7 := grow (below_drewN q4 _) hb7
        go_wp2_with fail
        refine (awake_any _).mono ?_
        rintro e w8 ⟨rfl, hb8⟩
        have g8 := grow g7 hb8
        go_wp2_with fail
        go_ret
        exact ⟨rfl, g8⟩

theorem ScoreBounds_walk (T N d0 d1 tf len more less : Int) (w : World) :
    Calls Try.prog 6 #[.agg #[.int .i64 T, .int .i64 N], .agg #[.int .i64 d0, .int .i64 d1], .agg #[.int .i64 tf, .int .i64 len, .int .i64 more, .int .i64 less]] w fun e w' => e = .returned (.bool true) ∧ Below w.heap.size w w' := by
  refine ScoreBounds_road T N d0 d1 tf len more less _ _ _ _ _ _ w (right_any T N d0 tf len) (right_any T N d0 more less) (score_any T N d0 tf len) (score_any T N d0 more less) (weight_any T N d0) (weight_any T N d1) ?_
  rcases scoreZ_sign T N d0 tf len with ⟨a, a'⟩ | ⟨a, a'⟩
  · rcases scoreZ_sign T N d0 more less with ⟨b, b'⟩ | ⟨b, b'⟩
    · have hk : knownB T d0 = true := by
        unfold rightB at a
        rw [Bool.and_eq_true] at a
        exact a.1
      exact .inr (.inr ⟨a, b, by omega, by omega, score_grows T N d0 tf len more less a b, weight_falls T d0 d1 hk, weightZ_pos T d0 hk⟩)
    · exact .inr (.inl ⟨a, b, b'⟩)
  · exact .inl ⟨a, a'⟩

end Go.Proofs.Ythdfelhckjeekaa
