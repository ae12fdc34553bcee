/- Walk: ScoreGrows. -/
import Derived.Test.YthdfelhckjeekaaW5
namespace Go.Proofs.Ythdfelhckjeekaa
open Go.RowKit

/-- The road, every test decided: R: n at most m; P: n at least 1; S: n below 2^63. -/
theorem Grows_road (n m a b : Nat) (w : World)
    (c1 : ∀ w, Calls Try.prog 8 #[.int .u64 n] w fun e w' => e = .returned (.int .i64 a) ∧ Below w.heap.size w w')
    (c2 : ∀ w, Calls Try.prog 8 #[.int .u64 m] w fun e w' => e = .returned (.int .i64 b) ∧ Below w.heap.size w w')
    (c3 : 0 < n → (n : Int) ≤ 9223372036854775807 → ∀ w, Calls Try.prog 8 #[.int .u64 (2 * (n : Int))] w fun e w' => e = .returned (.int .i64 ((a : Int) + 256)) ∧ Below w.heap.size w w')
    (la : (a : Int) ≤ 16383)
    (hab : (n ≤ m ∧ ¬ m < n ∧ ¬ b < a) ∨ (¬ n ≤ m ∧ m < n ∧ ¬ a < b)) :
    Calls Try.prog 4 #[.int .u64 n, .int .u64 m] w fun e w' => e = .returned (.bool true) ∧ Below w.heap.size w w' := by
  have C1 := Lib.hid c1
  have C2 := Lib.hid c2
  have C3 := Lib.hid c3
  clear c1 c2 c3
  have l1 : decide ((a : Int) < 16384) = true := by simp; omega
  rcases hab with ⟨e1, e2, e3⟩ | ⟨e1, e2, e3⟩
  · by_cases h0 : 0 < n
    · have p1 : decide ((1 : Int) ≤ (n : Int)) = true := by simp; omega
      by_cases hs : (n : Int) ≤ 9223372036854775807
      · have p2 : decide ((n : Int) < 9223372036854775808) = true := by simp; omega
        have C4 := Lib.hid (C3.out h0 hs)
        have hs2 : 2 * (n : Int) ≤ 18446744073709551615 := by omega
        clear C3 hs
        go_enter Try.func4, Try.ntmps4
        go_wp2_with fail
        refine (C1.out _).mono ?_
        rintro e w1 ⟨rfl, hb1⟩
        go_wp2_with fail
        refine (C2.out _).mono ?_
        rintro e w2 ⟨rfl, hb2⟩
        have g2 := grow hb1 hb2
        go_wp2_with fail
        refine (C4.out _).mono ?_
        rintro e w3 ⟨rfl, hb3⟩
        have g3 := grow g2 hb3
        go_wp2_with fail
        refine (awake_any _).mono ?_
        rintro e w4 ⟨rfl, hb4⟩
        go_wp2_with fail
        go_ret
        exact ⟨rfl, grow g3 hb4⟩
      · have p2 : decide ((n : Int) < 9223372036854775808) = false := by simp; omega
        clear C3 hs
        go_enter Try.func4, Try.ntmps4
        go_wp2_with fail
        refine (C1.out _).mono ?_
        rintro e w1 ⟨rfl, hb1⟩
        go_wp2_with fail
        refine (C2.out _).mono ?_
        rintro e w2 ⟨rfl, hb2⟩
        have g2 := grow hb1 hb2
        go_wp2_with fail
        refine (awake_any _).mono ?_
        rintro e w3 ⟨rfl, hb3⟩
        go_wp2_with fail
        go_ret
        exact ⟨rfl, grow g2 hb3⟩
    · have p1 : decide ((1 : Int) ≤ (n : Int)) = false := by simp; omega
      clear C3
      go_enter Try.func4, Try.ntmps4
      go_wp2_with fail
      refine (C1.out _).mono ?_
      rintro e w1 ⟨rfl, hb1⟩
      go_wp2_with fail
      refine (C2.out _).mono ?_
      rintro e w2 ⟨rfl, hb2⟩
      have g2 := grow hb1 hb2
      go_wp2_with fail
      refine (awake_any _).mono ?_
      rintro e w3 ⟨rfl, hb3⟩
      go_wp2_with fail
      go_ret
      exact ⟨rfl, grow g2 hb3⟩
  · by_cases h0 : 0 < n
    · have p1 : decide ((1 : Int) ≤ (n : Int)) = true := by simp; omega
      by_cases hs : (n : Int) ≤ 9223372036854775807
      · have p2 : decide ((n : Int) < 9223372036854775808) = true := by simp; omega
        have C4 := Lib.hid (C3.out h0 hs)
        have hs2 : 2 * (n : Int) ≤ 18446744073709551615 := by omega
        clear C3 hs
        go_enter Try.func4, Try.ntmps4
        go_wp2_with fail
        refine (C1.out _).mono ?_
        rintro e w1 ⟨rfl, hb1⟩
        go_wp2_with fail
        refine (C2.out _).mono ?_
        rintro e w2 ⟨rfl, hb2⟩
        have g2 := grow hb1 hb2
        go_wp2_with fail
        refine (C4.out _).mono ?_
        rintro e w3 ⟨rfl, hb3⟩
        have g3 := grow g2 hb3
        go_wp2_with fail
        refine (awake_any _).mono ?_
        rintro e w4 ⟨rfl, hb4⟩
        go_wp2_with fail
        go_ret
        exact ⟨rfl, grow g3 hb4⟩
      · have p2 : decide ((n : Int) < 9223372036854775808) = false := by simp; omega
        clear C3 hs
        go_enter Try.func4, Try.ntmps4
        go_wp2_with fail
        refine (C1.out _).mono ?_
        rintro e w1 ⟨rfl, hb1⟩
        go_wp2_with fail
        refine (C2.out _).mono ?_
        rintro e w2 ⟨rfl, hb2⟩
        have g2 := grow hb1 hb2
        go_wp2_with fail
        refine (awake_any _).mono ?_
        rintro e w3 ⟨rfl, hb3⟩
        go_wp2_with fail
        go_ret
        exact ⟨rfl, grow g2 hb3⟩
    · have p1 : decide ((1 : Int) ≤ (n : Int)) = false := by simp; omega
      clear C3
      go_enter Try.func4, Try.ntmps4
      go_wp2_with fail
      refine (C1.out _).mono ?_
      rintro e w1 ⟨rfl, hb1⟩
      go_wp2_with fail
      refine (C2.out _).mono ?_
      rintro e w2 ⟨rfl, hb2⟩
      have g2 := grow hb1 hb2
      go_wp2_with fail
      refine (awake_any _).mono ?_
      rintro e w3 ⟨rfl, hb3⟩
      go_wp2_with fail
      go_ret
      exact ⟨rfl, grow g2 hb3⟩

end Go.Proofs.Ythdfelhckjeekaa
