/- Walks of the small functions of layer 10. -/
import Derived.Test.YthinjaddebfdhaaChecked
import Derived.Test.YthinjaddebfdhaaMath
import Derived.Test.YthinjaddebfdhaaAid
namespace Go.Proofs.Ythinjaddebfdhaa
open Go.RowKit

def inB (n lo hi : Int) : Bool := decide (lo ≤ n ∧ n ≤ hi)

theorem within_yes (n lo hi : Int) (w : World) (h1 : lo ≤ n) (h2 : n ≤ hi) :
    Calls Try.prog 22 #[.int .i64 n, .int .i64 lo, .int .i64 hi] w fun e w' => e = .returned (.bool true) ∧ w = w' := by
  go_enter Try.func22, Try.ntmps22
  go_wp2
  go_ret
  exact ⟨rfl, rfl⟩
theorem within_no (n lo hi : Int) (w : World) (h : n < lo ∨ hi < n) :
    Calls Try.prog 22 #[.int .i64 n, .int .i64 lo, .int .i64 hi] w fun e w' => e = .returned (.bool false) ∧ w = w' := by
  by_cases h1 : lo ≤ n
  · have h2 : decide (n ≤ hi) = false := by simp; omega
    go_enter Try.func22, Try.ntmps22
    go_wp2
    go_ret
    exact ⟨rfl, rfl⟩
  · have h2 : n < lo := by omega
    go_enter Try.func22, Try.ntmps22
    go_wp2
    go_ret
    exact ⟨rfl, rfl⟩
theorem within_any (n lo hi : Int) (w : World) :
    Calls Try.prog 22 #[.int .i64 n, .int .i64 lo, .int .i64 hi] w fun e w' => e = .returned (.bool (inB n lo hi)) ∧ w = w' := by
  by_cases h : lo ≤ n ∧ n ≤ hi
  · have e : inB n lo hi = true := by simp [inB, h]
    rw [e]; exact within_yes n lo hi w h.1 h.2
  · have e : inB n lo hi = false := by simp only [inB, decide_eq_false_iff_not]; exact h
    rw [e]; exact within_no n lo hi w (by omega)

def mayB (x y : Int) : Bool := inB x (-1800000000) 1800000000 && inB y (-900000000) 900000000

theorem may_any (x y : Int) (w : World) :
    Calls Try.prog 13 #[.agg #[.int .i64 x, .int .i64 y]] w fun e w' => e = .returned (.bool (mayB x y)) ∧ Below w.heap.size w w' := by
  rcases h1 : inB x (-1800000000) 1800000000 with _ | _
  · have hf : mayB x y = false := by simp [mayB, h1]
    have HF := Lib.hid hf
    have H1 := Lib.hid h1
    clear hf h1
    go_enter Try.func13, Try.ntmps13
    go_wp2_with (go_at_call 22; refine (within_any _ _ _ _).mono ?_; rintro e w' ⟨rfl, rfl⟩; rw [H1.out])
    go_ret
    exact ⟨by rw [HF.out]; rfl, by go_grown⟩
  · have hf : mayB x y = inB y (-900000000) 900000000 := by simp [mayB, h1]
    have HF := Lib.hid hf
    have H1 := Lib.hid h1
    clear hf h1
    go_enter Try.func13, Try.ntmps13
    go_wp2_with (go_at_call 22; refine (within_any _ _ _ _).mono ?_; rintro e w' ⟨rfl, rfl⟩; try rw [H1.out])
    go_ret
    exact ⟨by rw [HF.out]; rfl, by go_grown⟩

end Go.Proofs.Ythinjaddebfdhaa
