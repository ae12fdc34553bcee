/- Walks: the reference's Log and Weight, awake, ScoreLogs, ScoreGrows. -/
import Derived.Test.YthdfelhckjeekaaW3
import Derived.Test.YthdfelhckjeekaaW4
import Derived.Test.YthdfelhckjeekaaMath2
namespace Go.Proofs.Ythdfelhckjeekaa
open Go.RowKit

theorem rLog_any (n : Nat) (h1 : n < 18446744073709551616) (w : World) :
    Calls Try.prog 9 #[.int .u64 n] w fun e w' => e = .returned (.int .i64 (M.logN n)) ∧ w = w' := by
  by_cases h0 : n = 0
  · subst h0
    go_enter Try.func9, Try.ntmps9
    go_wp2
    go_ret
    exact ⟨rfl, rfl⟩
  · obtain ⟨a1, a2, a3⟩ := M.expo_spec n h1 (by omega)
    obtain ⟨b1, b2⟩ := M.normE_rng _ n a1 a2
    have hl := M.logN_pos n (by omega)
    generalize M.expo n = E at *
    by_cases h30 : 30 < E
    · have hn : n / 2 ^ (E - 30) = M.normE E n := by unfold M.normE; rw [if_pos h30]
      have hv : ((M.logN n : Nat) : Int) = (E : Int) * 256 + ((M.sqr 8 (M.normE E n)).2 : Nat) := by rw [hl]; simp
      rw [hv]
      exact rLog_hi n E _ (by omega) h1 h30 a3 a1 a2 hn b1 b2 w
    · have hn : n * 2 ^ (30 - E) = M.normE E n := by
        unfold M.normE
        rw [if_neg h30, show (1073741824 : Nat) = 2 ^ (30 - E) * 2 ^ E by rw [← Nat.pow_add, Nat.sub_add_cancel (by omega)], ← Nat.mul_assoc, Nat.mul_div_cancel _ (Nat.two_pow_pos _)]
      have hv : ((M.logN n : Nat) : Int) = (30 - ((30 - E : Nat) : Int)) * 256 + ((M.sqr 8 (M.normE E n)).2 : Nat) := by rw [hl]; omega
      rw [hv]
      exact rLog_lo n (30 - E) _ (by omega) (by omega) hn b1 b2 w

theorem rLog_of (n : Int) (m : Nat) (e : n = m) (hm : m < 18446744073709551616) (L : Nat) (hL : M.logN m = L) (w : World) :
    Calls Try.prog 9 #[.int .u64 n] w fun e w' => e = .returned (.int .i64 L) ∧ Below w.heap.size w w' := by
  subst e; subst hL; exact (rLog_any m hm w).mono fun e w' ⟨he, hw⟩ => ⟨he, by subst hw; exact Below.refl _ _⟩

theorem rWeight_any (T N df : Int) (w : World) :
    Calls Try.prog 13 #[.agg #[.int .i64 T, .int .i64 N], .int .i64 df] w fun e w' => e = .returned (.int .i64 (weightZ T df)) ∧ Below w.heap.size w w' :=
  rWeight_of rLog_of T N df w

theorem awake_any (w : World) :
    Calls Try.prog 10 #[] w fun e w' => e = .returned (.bool true) ∧ Below w.heap.size w w' := by
  have c1 := fun w => Log_of 1 1 rfl (by decide) 0 (by decide) w
  have c2 := fun w => Log_of 2 2 rfl (by decide) 256 (by decide) w
  have c3 := fun w => Log_of 3 3 rfl (by decide) 405 (by decide) w
  have c4 := fun w => Log_of 1024 1024 rfl (by decide) 2560 (by decide) w
  have c5 := fun w => weight_any 1 1 1 w
  have c6 := fun w => share_any 1 1 1 1 w
  rw [show weightZ 1 1 = 257 by decide] at c5
  rw [show shareZ 1 1 1 1 = 1001 by decide] at c6
  have C1 := Lib.hid c1
  have C2 := Lib.hid c2
  have C3 := Lib.hid c3
  have C4 := Lib.hid c4
  have C5 := Lib.hid c5
  have C6 := Lib.hid c6
  clear c1 c2 c3 c4 c5 c6
  go_enter Try.func10, Try.ntmps10
  go_wp2_with fail
  refine (C1.out _).mono ?_
  rintro e w1 ⟨rfl, hb1⟩
  have k1 := (Blk.new w #[.int .i64 1, .int .i64 1] 28).grew hb1
  have g1 := grow (grow_alloc (Below.refl _ w) _) hb1
  go_wp2_with fail
  refine (C2.out _).mono ?_
  rintro e w2 ⟨rfl, hb2⟩
  have k2 := k1.grew hb2
  have g2 := grow g1 hb2
  go_wp2_with fail
  refine (C3.out _).mono ?_
  rintro e w3 ⟨rfl, hb3⟩
  have k3 := k2.grew hb3
  have g3 := grow g2 hb3
  go_wp2_with fail
  refine (C4.out _).mono ?_
  rintro e w4 ⟨rfl, hb4⟩
  have k4 := k3.grew hb4
  have g4 := grow g3 hb4
  have kf := k4.two
  go_wp2_with fail
  refine (C5.out _).mono ?_
  rintro e w5 ⟨rfl, hb5⟩
  have k5 := k4.grew hb5
  have g5 := grow g4 hb5
  have kf := k5.two
  go_wp2_with fail
  refine (C6.out _).mono ?_
  rintro e w6 ⟨rfl, hb6⟩
  have g6 := grow g5 hb6
  go_wp2_with fail
  go_ret
  exact ⟨rfl, g6⟩

theorem ScoreLogs_walk (n : Nat) (h1 : n < 18446744073709551616) (w : World) :
    Calls Try.prog 3 #[.int .u64 n] w fun e w' => e = .returned (.bool true) ∧ Below w.heap.size w w' := by
  have c1 := fun w => Log_any n h1 w
  have c2 := fun w => rLog_any n h1 w
  generalize M.logN n = L at c1 c2
  have C1 := Lib.hid c1
  have C2 := Lib.hid c2
  clear c1 c2
  go_enter Try.func3, Try.ntmps3
  go_wp2_with fail
  refine (C1.out _).mono ?_
  rintro e w1 ⟨rfl, hb1⟩
  go_wp2_with fail
  refine (C2.out _).mono ?_
  rintro e w2 ⟨rfl, rfl⟩
  go_wp2_with fail
  refine (awake_any _).mono ?_
  rintro e w3 ⟨rfl, hb3⟩
  go_wp2_with fail
  go_ret
  exact ⟨rfl, grow hb1 hb3⟩

end Go.Proofs.Ythdfelhckjeekaa
