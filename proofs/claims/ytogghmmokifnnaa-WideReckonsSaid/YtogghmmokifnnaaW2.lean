/- Walks: turned numbers, Of, Sign, Compare. -/
import Derived.Test.YtogghmmokifnnaaW1
namespace Go.Proofs.Ytogghmmokifnnaa
open Go.RowKit

theorem W0 : W 0 = .agg #[.int .i64 0, .int .u64 0] := rfl

theorem Turned_any (a : Nat) (w : World) :
    Calls Try.prog 10 #[W a] w fun e w' => e = .returned (W (M.subN 0 a)) ∧ Below w.heap.size w w' := by
  have c1 := fun w => Less_any 0 a w
  rw [W0] at c1
  unfold W at c1 ⊢
  generalize M.hiZ (M.subN 0 a) = h at *
  generalize M.loZ (M.subN 0 a) = l at *
  generalize M.hiZ a = ha at *
  generalize M.loZ a = la at *
  have C1 := Lib.hid c1
  clear c1
  go_enter Try.func10, Try.ntmps10
  go_wp2_with fail
  refine (C1.out _).mono ?_
  rintro e w1 ⟨rfl, hb1⟩
  have k1 := (Blk.new' (b := w.heap.size + 1) (w.alloc (.cells #[.int .i64 ha, .int .u64 la] 24)) #[.int .i64 0, .int .u64 0] 24 (by simp)).grew hb1
  have g1 := grow (grow_alloc (grow_alloc (Below.refl _ w) _) _) hb1
  have kf := k1.two
  go_wp2_with fail
  refine bodyPost_ret (v := .agg #[.int .i64 h, .int .u64 l]) ?_ rfl ⟨rfl, ?_⟩
  · simp [results, Try.results10, go_sem, kf]
  · exact (g1.setCell (by simp) _).setCell (by simp) _

/-- The wide number of one of 64 bits. -/
def ofN (n : Int) : Nat := (n % 340282366920938463463374607431768211456).toNat
theorem ofN_hi (n : Int) (h0 : -9223372036854775808 ≤ n) (h1 : n ≤ 9223372036854775807) : M.hiZ (ofN n) = n / 9223372036854775808 ∧ M.loZ (ofN n) = n % 18446744073709551616 := by
  unfold M.hiZ M.sgn M.loZ M.loN M.hiN ofN
  constructor
  · split <;> omega
  · omega

theorem Of_any (n : Int) (h0 : -9223372036854775808 ≤ n) (h1 : n ≤ 9223372036854775807) (w : World) :
    Calls Try.prog 12 #[.int .i64 n] w fun e w' => e = .returned (W (ofN n)) ∧ Below w.heap.size w w' := by
  obtain ⟨e1, e2⟩ := ofN_hi n h0 h1
  unfold W
  rw [e1, e2]
  clear e1 e2
  go_enter Try.func12, Try.ntmps12
  go_wp2
  refine bodyPost_ret (v := .agg #[.int .i64 (n / 9223372036854775808), .int .u64 (n % 18446744073709551616)]) ?_ rfl ⟨rfl, ?_⟩
  · simp [results, Try.results12, go_sem]
    try rw [IntKind.wrap_u64]
  · go_grown

theorem cmpI_any (x y : Int) (w : World) :
    Calls Try.prog 29 #[.int .i64 x, .int .i64 y] w fun e w' => e = .returned (.int .i64 (M.cmpZ x y)) ∧ w = w' := by
  rcases Int.lt_trichotomy x y with h | h | h
  · rw [M.cmpZ_lt h]
    go_enter Try.func29, Try.ntmps29
    go_wp2
    go_ret
    exact ⟨rfl, rfl⟩
  · subst h
    rw [M.cmpZ_eq rfl]
    go_enter Try.func29, Try.ntmps29
    go_wp2
    go_ret
    exact ⟨rfl, rfl⟩
  · rw [M.cmpZ_gt h]
    have h' : ¬ x < y := by omega
    go_enter Try.func29, Try.ntmps29
    go_wp2
    go_ret
    exact ⟨rfl, rfl⟩
theorem cmpU_any (x y : Int) (w : World) :
    Calls Try.prog 30 #[.int .u64 x, .int .u64 y] w fun e w' => e = .returned (.int .i64 (M.cmpZ x y)) ∧ w = w' := by
  rcases Int.lt_trichotomy x y with h | h | h
  · rw [M.cmpZ_lt h]
    go_enter Try.func30, Try.ntmps30
    go_wp2
    go_ret
    exact ⟨rfl, rfl⟩
  · subst h
    rw [M.cmpZ_eq rfl]
    go_enter Try.func30, Try.ntmps30
    go_wp2
    go_ret
    exact ⟨rfl, rfl⟩
  · rw [M.cmpZ_gt h]
    have h' : ¬ x < y := by omega
    go_enter Try.func30, Try.ntmps30
    go_wp2
    go_ret
    exact ⟨rfl, rfl⟩

theorem sign_any (x : Int) (w : World) :
    Calls Try.prog 31 #[.int .i64 x] w fun e w' => e = .returned (.int .i64 (M.cmpZ x 0)) ∧ w = w' := by
  go_enter Try.func31, Try.ntmps31
  go_wp2_with fail
  refine (cmpI_any _ _ _).mono ?_
  rintro e w1 ⟨rfl, rfl⟩
  go_wp2_with fail
  go_ret
  exact ⟨rfl, rfl⟩

end Go.Proofs.Ytogghmmokifnnaa
