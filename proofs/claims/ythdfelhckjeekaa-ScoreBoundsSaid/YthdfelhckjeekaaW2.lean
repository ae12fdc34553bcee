/- Walks: the small functions of score and of its reference. -/
import Derived.Test.YthdfelhckjeekaaChecked
import Derived.Test.YthdfelhckjeekaaAid
import Derived.Test.YthdfelhckjeekaaMath
import Derived.Deep.RegionHeld3
namespace Go.Proofs.Ythdfelhckjeekaa
open Go.RowKit

def inB (n lo hi : Int) : Bool := decide (lo ≤ n ∧ n ≤ hi)
theorem inB_iff {n lo hi : Int} : inB n lo hi = true ↔ lo ≤ n ∧ n ≤ hi := by simp [inB]
theorem within_any (n lo hi : Int) (w : World) :
    Calls Try.prog 24 #[.int .i64 n, .int .i64 lo, .int .i64 hi] w fun e w' => e = .returned (.bool (inB n lo hi)) ∧ w = w' := by
  by_cases h1 : lo ≤ n
  · have e : inB n lo hi = decide (n ≤ hi) := by simp [inB, h1]
    rw [e]
    go_enter Try.func24, Try.ntmps24
    go_wp2
    go_ret
    exact ⟨rfl, rfl⟩
  · have e : inB n lo hi = false := by simp [inB, h1]
    rw [e]
    go_enter Try.func24, Try.ntmps24
    go_wp2
    go_ret
    exact ⟨rfl, rfl⟩

def knownB (T df : Int) : Bool := inB T 1 4294967296 && inB df 1 T
theorem known_any (T N df : Int) (w : World) :
    Calls Try.prog 21 #[.agg #[.int .i64 T, .int .i64 N], .int .i64 df] w fun e w' => e = .returned (.bool (knownB T df)) ∧ Below w.heap.size w w' := by
  go_enter Try.func21, Try.ntmps21
  go_wp2_with (go_at_call 24; refine (within_any _ _ _ _).mono ?_; rintro e w' ⟨rfl, rfl⟩)
  all_goals
    go_ret
    exact ⟨by simp [knownB, *], by go_grown⟩

def countedB (T N tf len : Int) : Bool := inB T 1 4294967296 && inB N 0 4503599627370496 && inB tf 1 1048576 && inB len tf 1048576
theorem counted_any (T N tf len : Int) (w : World) :
    Calls Try.prog 22 #[.agg #[.int .i64 T, .int .i64 N], .int .i64 tf, .int .i64 len] w fun e w' => e = .returned (.bool (countedB T N tf len)) ∧ Below w.heap.size w w' := by
  go_enter Try.func22, Try.ntmps22
  go_wp2_with (go_at_call 24; refine (within_any _ _ _ _).mono ?_; rintro e w' ⟨rfl, rfl⟩)
  all_goals
    go_ret
    exact ⟨by simp [countedB, *], by go_grown⟩

theorem rKnown_any (T N df : Int) (w : World) :
    Calls Try.prog 11 #[.agg #[.int .i64 T, .int .i64 N], .int .i64 df] w fun e w' => e = .returned (.bool (knownB T df)) ∧ Below w.heap.size w w' := by
  go_enter Try.func11, Try.ntmps11
  go_wp2
  all_goals
    go_ret
    refine ⟨ret_bool ?_, by go_grown⟩
    rw [Bool.eq_iff_iff]
    simp [knownB, inB]
    try omega

theorem rCounted_any (T N tf len : Int) (w : World) :
    Calls Try.prog 12 #[.agg #[.int .i64 T, .int .i64 N], .int .i64 tf, .int .i64 len] w fun e w' => e = .returned (.bool (countedB T N tf len)) ∧ Below w.heap.size w w' := by
  go_enter Try.func12, Try.ntmps12
  go_wp2
  all_goals
    go_ret
    refine ⟨ret_bool ?_, by go_grown⟩
    rw [Bool.eq_iff_iff]
    simp [countedB, inB]
    try omega

def rightB (T N df tf len : Int) : Bool := knownB T df && countedB T N tf len
theorem right_any (T N df tf len : Int) (w : World) :
    Calls Try.prog 18 #[.agg #[.int .i64 T, .int .i64 N], .int .i64 df, .int .i64 tf, .int .i64 len] w fun e w' => e = .returned (.bool (rightB T N df tf len)) ∧ Below w.heap.size w w' := by
  go_enter Try.func18, Try.ntmps18
  go_wp2_with fail
  refine (known_any _ _ _ _).mono ?_
  rintro e w1 ⟨rfl, hb1⟩
  have k1 := (Blk.new w #[.int .i64 T, .int .i64 N] 28).grew hb1
  have g1 := grow (grow_alloc (Below.refl _ w) _) hb1
  have kf := k1.two
  go_wp2_with fail
  · refine (counted_any _ _ _ _ _).mono ?_
    rintro e w2 ⟨rfl, hb2⟩
    go_wp2_with fail
    go_ret
    exact ⟨by simp [rightB, *], grow g1 hb2⟩
  · go_ret
    exact ⟨by simp [rightB, *], g1⟩

end Go.Proofs.Ythdfelhckjeekaa
