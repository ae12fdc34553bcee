/- Walks: the reference's May, Turn, between. -/
import Derived.Test.YtkneohngbkmlpaaW9
import Derived.Test.YtkneohngbkmlpaaSteady
namespace Go.Proofs.Ytkneohngbkmlpaa
open Go.RowKit

theorem refMay_any (p : Pt) (w : World) : Calls Try.prog 11 #[pt p] w fun e w' => e = .returned (.bool (decide (May p))) ∧ Below w.heap.size w w' := by
  obtain ⟨x, y⟩ := p
  by_cases h1 : -1800000000 ≤ x
  · by_cases h2 : x ≤ 1800000000
    · by_cases h3 : -900000000 ≤ y
      · by_cases h4 : y ≤ 900000000
        · rw [decide_eq_true (show May ⟨x, y⟩ from ⟨h1, h2, h3, h4⟩)]
          go_enter Try.func11, Try.ntmps11
          go_wp2
          go_ret
          exact ⟨rfl, by go_grown⟩
        · rw [decide_eq_false (show ¬ May ⟨x, y⟩ from fun h => h4 h.2.2.2)]
          go_enter Try.func11, Try.ntmps11
          go_wp2
          go_ret
          exact ⟨rfl, by go_grown⟩
      · rw [decide_eq_false (show ¬ May ⟨x, y⟩ from fun h => h3 h.2.2.1)]
        go_enter Try.func11, Try.ntmps11
        go_wp2
        go_ret
        exact ⟨rfl, by go_grown⟩
    · rw [decide_eq_false (show ¬ May ⟨x, y⟩ from fun h => h2 h.2.1)]
      go_enter Try.func11, Try.ntmps11
      go_wp2
      go_ret
      exact ⟨rfl, by go_grown⟩
  · rw [decide_eq_false (show ¬ May ⟨x, y⟩ from fun h => h1 h.1)]
    go_enter Try.func11, Try.ntmps11
    go_wp2
    go_ret
    exact ⟨rfl, by go_grown⟩

def btw (a n b : Int) : Prop := a ≤ n ∧ n ≤ b ∨ b ≤ n ∧ n ≤ a
instance (a n b : Int) : Decidable (btw a n b) := inferInstanceAs (Decidable (_ ∨ _))
theorem between_any (a n b : Int) (w : World) : Calls Try.prog 44 #[.int .i64 a, .int .i64 n, .int .i64 b] w fun e w' => e = .returned (.bool (decide (btw a n b))) ∧ w = w' := by
  by_cases h1 : a ≤ n
  · by_cases h2 : n ≤ b
    · rw [decide_eq_true (show btw a n b from .inl ⟨h1, h2⟩)]
      go_enter Try.func44, Try.ntmps44
      go_wp2
      go_ret
      exact ⟨rfl, rfl⟩
    · by_cases h3 : b ≤ n
      · by_cases h4 : n ≤ a
        · rw [decide_eq_true (show btw a n b from .inr ⟨h3, h4⟩)]
          go_enter Try.func44, Try.ntmps44
          go_wp2
          go_ret
          exact ⟨rfl, rfl⟩
        · rw [decide_eq_false (show ¬ btw a n b from fun h => h.elim (fun q => h2 q.2) (fun q => h4 q.2))]
          go_enter Try.func44, Try.ntmps44
          go_wp2
          go_ret
          exact ⟨rfl, rfl⟩
      · rw [decide_eq_false (show ¬ btw a n b from fun h => h.elim (fun q => h2 q.2) (fun q => h3 q.1))]
        go_enter Try.func44, Try.ntmps44
        go_wp2
        go_ret
        exact ⟨rfl, rfl⟩
  · by_cases h3 : b ≤ n
    · by_cases h4 : n ≤ a
      · rw [decide_eq_true (show btw a n b from .inr ⟨h3, h4⟩)]
        go_enter Try.func44, Try.ntmps44
        go_wp2
        go_ret
        exact ⟨rfl, rfl⟩
      · rw [decide_eq_false (show ¬ btw a n b from fun h => h.elim (fun q => h1 q.1) (fun q => h4 q.2))]
        go_enter Try.func44, Try.ntmps44
        go_wp2
        go_ret
        exact ⟨rfl, rfl⟩
    · rw [decide_eq_false (show ¬ btw a n b from fun h => h.elim (fun q => h1 q.1) (fun q => h3 q.1))]
      go_enter Try.func44, Try.ntmps44
      go_wp2
      go_ret
      exact ⟨rfl, rfl⟩

theorem grow_drewN {B : Nat} {a w : World} (h : Below B a w) (n : Nat) : Below B a (w.drewN n) := ⟨h.os, h.tape, h.output, h.size, h.block⟩

theorem mul_bd {x y m n : Int} (x0 : -m ≤ x) (x1 : x ≤ m) (y0 : -n ≤ y) (y1 : y ≤ n) : -(m * n) ≤ x * y ∧ x * y ≤ m * n := by
  have h1 : 0 ≤ (m - x) * (n + y) := Int.mul_nonneg (by omega) (by omega)
  have h2 : 0 ≤ (m + x) * (n - y) := Int.mul_nonneg (by omega) (by omega)
  have h3 : 0 ≤ (m - x) * (n - y) := Int.mul_nonneg (by omega) (by omega)
  have h4 : 0 ≤ (m + x) * (n + y) := Int.mul_nonneg (by omega) (by omega)
  simp only [Int.sub_mul, Int.mul_sub, Int.add_mul, Int.mul_add] at h1 h2 h3 h4
  generalize x * y = p at *
  generalize m * n = q at *
  generalize m * y = r at *
  generalize x * n = s at *
  omega

set_option maxHeartbeats 1000000 in
theorem refTurn_road (ax ay bx byy cx cy X Y : Int) (A B C D : Int)
    (a1 : IntKind.i64.wrap (bx - ax) = A) (a2 : IntKind.i64.wrap (cy - ay) = B) (a3 : IntKind.i64.wrap (byy - ay) = C) (a4 : IntKind.i64.wrap (cx - ax) = D)
    (a5 : IntKind.i64.wrap (A * B) = X) (a6 : IntKind.i64.wrap (C * D) = Y) (w : World) :
    Calls Try.prog 17 #[.agg #[.int .i64 ax, .int .i64 ay], .agg #[.int .i64 bx, .int .i64 byy], .agg #[.int .i64 cx, .int .i64 cy]] w fun e w' => e = .returned (.int .i64 (cmpZ X Y)) ∧ Below w.heap.size w w' := by
  rcases Int.lt_trichotomy X Y with h | h | h
  · rw [cmpZ_lt h]
    have h' : ¬ Y < X := by omega
    go_enter Try.func17, Try.ntmps17
    go_wp2
    go_quiet (fail)
    go_wp2
    go_ret
    exact ⟨rfl, grow_drewN (grow_alloc (grow_alloc (grow_alloc (Below.refl _ _) _) _) _) _⟩
  · rw [cmpZ_eq h]
    have h' : ¬ Y < X := by omega
    have h2 : ¬ X < Y := by omega
    clear h
    go_enter Try.func17, Try.ntmps17
    go_wp2
    go_quiet (fail)
    go_wp2
    go_ret
    exact ⟨rfl, grow_drewN (grow_alloc (grow_alloc (grow_alloc (Below.refl _ _) _) _) _) _⟩
  · rw [cmpZ_gt h]
    go_enter Try.func17, Try.ntmps17
    go_wp2
    go_quiet (fail)
    go_wp2
    go_ret
    exact ⟨rfl, grow_drewN (grow_alloc (grow_alloc (grow_alloc (Below.refl _ _) _) _) _) _⟩

theorem refTurn_any (a b c : Pt) (ha : May a) (hb : May b) (hc : May c) (w : World) :
    Calls Try.prog 17 #[pt a, pt b, pt c] w fun e w' => e = .returned (.int .i64 (turnZ a b c)) ∧ Below w.heap.size w w' := by
  obtain ⟨a0, a1, a2, a3⟩ := ha
  obtain ⟨b0, b1, b2, b3⟩ := hb
  obtain ⟨c0, c1, c2, c3⟩ := hc
  refine refTurn_road a.x a.y b.x b.y c.x c.y _ _ (b.x - a.x) (c.y - a.y) (b.y - a.y) (c.x - a.x) ?_ ?_ ?_ ?_ ?_ ?_ w
  · rw [IntKind.wrap_i64]; omega
  · rw [IntKind.wrap_i64]; omega
  · rw [IntKind.wrap_i64]; omega
  · rw [IntKind.wrap_i64]; omega
  · have := mul_bd (x := b.x - a.x) (y := c.y - a.y) (m := 3600000000) (n := 1800000000) (by omega) (by omega) (by omega) (by omega)
    rw [IntKind.wrap_i64]; omega
  · have := mul_bd (x := b.y - a.y) (y := c.x - a.x) (m := 1800000000) (n := 3600000000) (by omega) (by omega) (by omega) (by omega)
    rw [IntKind.wrap_i64]; omega
end Go.Proofs.Ytkneohngbkmlpaa
