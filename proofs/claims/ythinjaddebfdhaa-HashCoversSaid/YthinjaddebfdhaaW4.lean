/- Walks: Code, Place, the reference's. -/
import Derived.Test.YthinjaddebfdhaaW3
namespace Go.Proofs.Ythinjaddebfdhaa
open Go.RowKit

theorem inB_iff {n lo hi : Int} : inB n lo hi = true ↔ lo ≤ n ∧ n ≤ hi := by simp [inB]
theorem mayB_iff {x y : Int} : mayB x y = true ↔ (-1800000000 ≤ x ∧ x ≤ 1800000000) ∧ (-900000000 ≤ y ∧ y ≤ 900000000) := by
  simp [mayB, inB_iff]

/-- The number of a place that may be. -/
def codeN (x y : Int) : Nat := 2 * M.spr 32 (x + 1800000000).toNat + M.spr 32 (y + 900000000).toNat

theorem Code_yes (x y : Int) (w : World) (h : mayB x y = true) :
    Calls Try.prog 8 #[.agg #[.int .i64 x, .int .i64 y]] w fun e w' => e = .returned (.tuple #[.int .u64 (codeN x y), .bool true]) ∧ Below w.heap.size w w' := by
  obtain ⟨⟨a1, a2⟩, a3, a4⟩ := mayB_iff.1 h
  have H := Lib.hid h
  clear h
  go_enter Try.func8, Try.ntmps8
  go_wp2_with fail
  refine (may_any _ _ _).mono ?_
  rintro e w1 ⟨rfl, hb1⟩
  rw [H.out]
  obtain ⟨hc, hf⟩ := bcell hb1
  go_wp2_with fail
  refine (code_any _ _ (by omega) (by omega) (by omega) (by omega) _).mono ?_
  rintro e w2 ⟨rfl, hb2⟩
  go_wp2_with fail
  go_ret2
  refine ⟨rfl, ?_⟩
  have h0 : Below w.heap.size w w1 := ((Below.refl _ w).alloc (Nat.le_refl _) _).trans (hb1.mono (by simp))
  exact h0.trans (hb2.mono h0.size)

theorem Code_no (x y : Int) (w : World) (h : mayB x y = false) :
    Calls Try.prog 8 #[.agg #[.int .i64 x, .int .i64 y]] w fun e w' => e = .returned (.tuple #[.int .u64 0, .bool false]) ∧ Below w.heap.size w w' := by
  have H := Lib.hid h
  clear h
  go_enter Try.func8, Try.ntmps8
  go_wp2_with fail
  refine (may_any _ _ _).mono ?_
  rintro e w1 ⟨rfl, hb1⟩
  rw [H.out]
  go_wp2_with fail
  go_ret2
  exact ⟨rfl, ((Below.refl _ w).alloc (Nat.le_refl _) _).trans (hb1.mono (by simp))⟩

theorem refMay_any (x y : Int) (w : World) :
    Calls Try.prog 19 #[.agg #[.int .i64 x, .int .i64 y]] w fun e w' => e = .returned (.bool (mayB x y)) ∧ Below w.heap.size w w' := by
  by_cases c1 : -1800000000 ≤ x
  · by_cases c2 : x ≤ 1800000000
    · by_cases c3 : -900000000 ≤ y
      · have e : mayB x y = decide (y ≤ 900000000) := by simp [mayB, inB, c1, c2, c3]
        rw [e]
        go_enter Try.func19, Try.ntmps19
        go_wp2
        go_ret
        exact ⟨rfl, by go_grown⟩
      · have e : mayB x y = false := by simp [mayB, inB, c1, c2, c3]
        rw [e]
        go_enter Try.func19, Try.ntmps19
        go_wp2
        go_ret
        exact ⟨rfl, by go_grown⟩
    · have e : mayB x y = false := by simp [mayB, inB, c1, c2]
      rw [e]
      go_enter Try.func19, Try.ntmps19
      go_wp2
      go_ret
      exact ⟨rfl, by go_grown⟩
  · have e : mayB x y = false := by simp [mayB, inB, c1]
    rw [e]
    go_enter Try.func19, Try.ntmps19
    go_wp2
    go_ret
    exact ⟨rfl, by go_grown⟩

end Go.Proofs.Ythinjaddebfdhaa
