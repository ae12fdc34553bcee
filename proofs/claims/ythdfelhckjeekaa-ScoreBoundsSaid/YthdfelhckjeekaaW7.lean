/- Walk: ScoreAlways. -/
import Derived.Test.YthdfelhckjeekaaW5
namespace Go.Proofs.Ythdfelhckjeekaa
open Go.RowKit

theorem weightZ_pos (T df : Int) (h : knownB T df = true) : 1 ≤ weightZ T df := by
  unfold weightZ; rw [h]; simp only [if_true]; omega
theorem shareZ_pos (T N tf len : Int) (h : countedB T N tf len = true) : 1 ≤ shareZ T N tf len := by
  obtain ⟨b1, b2, b3, b4⟩ := share_bds T N tf len h
  obtain ⟨⟨⟨⟨a1, a2⟩, a3, a4⟩, a5, a6⟩, a7, a8⟩ := countedB_iff.1 h
  have := quo_le (2200000 * tf) (1000 * tf + 300 + 900 * len * T / max N 1) (by omega) (by omega)
  unfold shareZ; rw [h]; simp only [if_true]; omega
theorem scoreZ_sign (T N df tf len : Int) : (rightB T N df tf len = true ∧ 0 < scoreZ T N df tf len) ∨ (rightB T N df tf len = false ∧ scoreZ T N df tf len = 0) := by
  cases h : rightB T N df tf len
  · right; simp [scoreZ, h]
  · left
    refine ⟨rfl, ?_⟩
    unfold rightB at h
    rw [Bool.and_eq_true] at h
    have h1 := weightZ_pos T df h.1
    have h2 := shareZ_pos T N tf len h.2
    unfold scoreZ
    rw [show rightB T N df tf len = true by unfold rightB; rw [h.1, h.2]; rfl]
    simp only [if_true]
    exact Int.mul_pos (by omega) (by omega)
theorem weight_all (T : Int) (h0 : 1 ≤ T) (h1 : T ≤ 4294967296) : weightZ T T = 257 := by
  unfold weightZ
  rw [show knownB T T = true by rw [knownB_iff]; omega]
  have : quoN T T = 2 := by
    unfold quoN
    rw [show T + T = 2 * T by omega, Int.mul_ediv_cancel _ (by omega)]
    rfl
  rw [this]
  decide

theorem ScoreAlways_walk (T N df tf len : Int) (w : World) :
    Calls Try.prog 7 #[.agg #[.int .i64 T, .int .i64 N], .int .i64 df, .agg #[.int .i64 tf, .int .i64 len]] w fun e w' => e = .returned (.bool true) ∧ Below w.heap.size w w' := by
  have c1 := fun w => score_any T N df tf len w
  have c2 := fun w => right_any T N df tf len w
  have c3 := fun w => weight_any T N T w
  have hs := scoreZ_sign T N df tf len
  have hw := weight_all T
  generalize scoreZ T N df tf len = S at *
  generalize rightB T N df tf len = r at *
  generalize weightZ T T = V at *
  have C1 := Lib.hid c1
  have C2 := Lib.hid c2
  have C3 := Lib.hid c3
  have HW := Lib.hid hw
  clear c1 c2 c3 hw
  have ways : (1 ≤ T ∧ T ≤ 4294967296 ∧ V = 257) ∨ (1 ≤ T ∧ ¬ T ≤ 4294967296) ∨ ¬ 1 ≤ T := by
    by_cases h1 : 1 ≤ T
    · by_cases h2 : T ≤ 4294967296
      · exact .inl ⟨h1, h2, HW.out h1 h2⟩
      · exact .inr (.inl ⟨h1, h2⟩)
    · exact .inr (.inr h1)
  clear HW
  have hs2 : (r = true ∧ decide (0 < S) = true ∧ decide (S < 0) = false) ∨ (r = false ∧ S = 0) := by
    rcases hs with ⟨a, b⟩ | ⟨a, b⟩
    · exact .inl ⟨a, by simpa using b, by simp; omega⟩
    · exact .inr ⟨a, b⟩
  clear hs
  rcases hs2 with ⟨rfl, p1, p2⟩ | ⟨rfl, rfl⟩
  all_goals
    rcases ways with ⟨t1, t2, rfl⟩ | ⟨t1, t2⟩ | t1
    all_goals
      go_enter Try.func7, Try.ntmps7
      go_wp2
      go_quiet (fail)
      go_wp2_with fail
      have k0 := ((Blk.new w #[.int .i64 T, .int .i64 N] 28).alloc (.cells #[.int .i64 tf, .int .i64 len] 29)).drewN nq
      have g0 : Below w.heap.size w (((w.alloc (.cells #[.int .i64 T, .int .i64 N] 28)).alloc (.cells #[.int .i64 tf, .int .i64 len] 29)).drewN nq) :=
        below_drewN (grow_alloc (grow_alloc (Below.refl _ w) _) _) _
      refine (C1.out _).mono ?_
      rintro e w1 ⟨rfl, hb1⟩
      have k1 := k0.grew hb1
      have g1 := grow g0 hb1
      have kf := k1.two
      clear k0 g0 hb1
      go_wp2_with fail
      refine (C2.out _).mono ?_
      rintro e w2 ⟨rfl, hb2⟩
      have k2 := k1.grew hb2
      have g2 := grow g1 hb2
      have kf := k2.two
      clear k1 g1 hb2
      go_wp2_with fail
      first
        | (refine (C3.out _).mono ?_
           rintro e w3 ⟨rfl, hb3⟩
           have g3 := grow g2 hb3
           clear g2 hb3
           go_wp2_with fail
           refine (awake_any _).mono ?_
           rintro e w4 ⟨rfl, hb4⟩
           have g4 := grow g3 hb4
           go_wp2_with fail
           go_ret
           exact ⟨rfl, g4⟩)
        | (refine (awake_any _).mono ?_
           rintro e w4 ⟨rfl, hb4⟩
           have g4 := grow g2 hb4
           go_wp2_with fail
           go_ret
           exact ⟨rfl, g4⟩)

end Go.Proofs.Ythdfelhckjeekaa
