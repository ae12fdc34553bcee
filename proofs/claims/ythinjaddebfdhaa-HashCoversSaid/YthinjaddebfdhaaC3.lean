/- Cover at any rect and any number; Holds. -/
import Derived.Test.YthinjaddebfdhaaC2
namespace Go.Proofs.Ythinjaddebfdhaa
open Go.RowKit
set_option maxRecDepth 20000

def coverA (a b c e m : Int) : List M.Rg := if mayR a b c e && decide (1 ≤ m ∧ m ≤ 64) then coverL a b c e m.toNat else []

set_option maxHeartbeats 4000000 in
theorem Cover_no (a b c e m : Int) (h : (mayR a b c e && decide (1 ≤ m ∧ m ≤ 64)) = false) (w : World) :
    Calls Try.prog 14 #[.agg #[.int .i64 a, .int .i64 b, .int .i64 c, .int .i64 e], .int .i64 m] w fun r w' => r = .returned (.slice none 0 0) ∧ Below w.heap.size w w' := by
  have hmay := fun w => MayRect_any a b c e w
  have g0 := grow_alloc (Below.refl w.heap.size w) (.cells #[.int .i64 a, .int .i64 b, .int .i64 c, .int .i64 e] 34)
  have HG := Lib.hid g0
  cases hm : mayR a b c e with
  | false =>
    rw [hm] at hmay
    have HMAY := Lib.hid hmay
    clear hm hmay h g0
    go_enter Try.func14, Try.ntmps14
    go_wp2_with fail
    refine (HMAY.out _).mono ?_
    rintro r w1 ⟨rfl, hb⟩
    have HB := Lib.hid (grow HG.out hb)
    clear hb
    go_wp2
    go_ret
    exact ⟨rfl, HB.out⟩
  | true =>
    rw [hm] at hmay h
    have HMAY := Lib.hid hmay
    have h2 : m < 1 ∨ 64 < m := by simp at h; omega
    clear hm hmay h g0
    by_cases h1 : m < 1
    · have d1 : decide (m < 1) = true := decide_eq_true h1
      clear h2
      go_enter Try.func14, Try.ntmps14
      go_wp2_with fail
      refine (HMAY.out _).mono ?_
      rintro r w1 ⟨rfl, hb⟩
      have HB := Lib.hid (grow HG.out hb)
      clear hb
      go_wp2
      go_ret
      exact ⟨rfl, HB.out⟩
    · have d1 : decide (m < 1) = false := decide_eq_false h1
      have d2 : decide (64 < m) = true := by simp; omega
      have d3 : 64 < m := by omega
      clear h2 h1
      go_enter Try.func14, Try.ntmps14
      go_wp2_with fail
      refine (HMAY.out _).mono ?_
      rintro r w1 ⟨rfl, hb⟩
      have HB := Lib.hid (grow HG.out hb)
      clear hb
      go_wp2
      go_ret
      exact ⟨rfl, HB.out⟩

theorem Cover_any (a b c e m : Int) (w : World) :
    Calls Try.prog 14 #[.agg #[.int .i64 a, .int .i64 b, .int .i64 c, .int .i64 e], .int .i64 m] w fun r w' => ∃ v, r = .returned v ∧ OwnR 40 w' w.heap.size v (coverA a b c e m) ∧ Below w.heap.size w w' := by
  unfold coverA
  cases h : (mayR a b c e && decide (1 ≤ m ∧ m ≤ 64)) with
  | false =>
    refine (Cover_no a b c e m h w).mono ?_
    rintro r w' ⟨rfl, hb⟩
    exact ⟨_, rfl, OwnR.none_ _ _, hb⟩
  | true =>
    rw [Bool.and_eq_true, decide_eq_true_eq] at h
    obtain ⟨n, rfl⟩ := Int.eq_ofNat_of_zero_le (show 0 ≤ m by omega)
    exact Cover_road a b c e n (mayR_iff.1 h.1) (by omega) (by omega) w

/-! ### Holds -/
def holdsB (a b c e x y : Int) : Bool := inB x a c && inB y b e
end Go.Proofs.Ythinjaddebfdhaa
