/- Walks: few (has a span few cells?). -/
import Derived.Test.YthinjaddebfdhaaW12
namespace Go.Proofs.Ythinjaddebfdhaa
open Go.RowKit
set_option maxRecDepth 8000

def fewB (x0 x1 y0 y1 m : Nat) : Bool := decide (x1 - x0 + 1 ≤ m ∧ y1 - y0 + 1 ≤ m ∧ (x1 - x0 + 1) * (y1 - y0 + 1) ≤ m)

set_option maxHeartbeats 2000000 in
theorem few_any (x0 x1 y0 y1 m : Nat) (hx : x0 ≤ x1) (hx1 : (x1 : Int) ≤ 3600000000) (hy : y0 ≤ y1) (hy1 : (y1 : Int) ≤ 3600000000) (hm : (m : Int) ≤ 64) (w : World) :
    Calls Try.prog 24 #[.agg #[.int .u64 x0, .int .u64 x1, .int .u64 y0, .int .u64 y1], .int .u64 m] w fun e w' => e = .returned (.bool (fewB x0 x1 y0 y1 m)) ∧ Below w.heap.size w w' := by
  obtain ⟨p, rfl⟩ : ∃ p, x1 = x0 + p := ⟨x1 - x0, by omega⟩
  obtain ⟨q, rfl⟩ : ∃ q, y1 = y0 + q := ⟨y1 - y0, by omega⟩
  have e1 : ((x0 + p : Nat) : Int) - x0 = p := by omega
  have e2 : ((y0 + q : Nat) : Int) - y0 = q := by omega
  have e3 : fewB x0 (x0 + p) y0 (y0 + q) m = decide (p + 1 ≤ m ∧ q + 1 ≤ m ∧ (p + 1) * (q + 1) ≤ m) := by
    unfold fewB; rw [Nat.add_sub_cancel_left, Nat.add_sub_cancel_left]
  have k1 := (Blk.new w #[.int .u64 x0, .int .u64 ((x0 + p : Nat) : Int), .int .u64 y0, .int .u64 ((y0 + q : Nat) : Int)] 53)
  have k2 := grow_alloc (Below.refl w.heap.size w) (.cells #[.int .u64 x0, .int .u64 ((x0 + p : Nat) : Int), .int .u64 y0, .int .u64 ((y0 + q : Nat) : Int)] 53)
  generalize fewB x0 (x0 + p) y0 (y0 + q) m = F at e3 ⊢
  have E1 := Lib.hid e1
  have E2 := Lib.hid e2
  have E3 := Lib.hid e3
  have p1 : (p : Int) ≤ 3600000000 := by omega
  have q1 : (q : Int) ≤ 3600000000 := by omega
  generalize ((x0 + p : Nat) : Int) = X at *
  generalize ((y0 + q : Nat) : Int) = Y at *
  have hb := k1.four
  have HB := Lib.hid k2
  clear e1 e2 e3 k1 k2 hx hx1 hy hy1
  go_enter Try.func24, Try.ntmps24
  go_wp2_with fail
  go_quiet (fail)
  rw [E1.out, E2.out]
  by_cases h1 : p + 1 ≤ m
  · by_cases h2 : q + 1 ≤ m
    · have hp : (p : Int) + 1 ≤ 64 := by omega
      have hq : (q : Int) + 1 ≤ 64 := by omega
      obtain ⟨r, hr, hr2, hr3⟩ : ∃ r : Nat, ((p : Int) + 1) * ((q : Int) + 1) = r ∧ (r : Int) ≤ 4096 ∧ (p + 1) * (q + 1) = r := by
        refine ⟨(p + 1) * (q + 1), by simp, ?_, rfl⟩
        have := Nat.mul_le_mul (show p + 1 ≤ 64 by omega) (show q + 1 ≤ 64 by omega)
        omega
      have HR := Lib.hid hr
      have e4 : F = decide (r ≤ m) := by rw [E3.out, hr3]; simp [h1, h2]
      have HE := Lib.hid e4
      have d1 : decide ((p : Int) + 1 ≤ (m : Int)) = true := by simp; omega
      have d2 : decide ((q : Int) + 1 ≤ (m : Int)) = true := by simp; omega
      clear e4 hr hr3 h1 h2
      have w1 : IntKind.u64.wrap ((p : Int) + 1) = (p : Int) + 1 := by rw [IntKind.wrap_u64]; omega
      have w2 : IntKind.u64.wrap ((q : Int) + 1) = (q : Int) + 1 := by rw [IntKind.wrap_u64]; omega
      (try rw [w1]); (try rw [w2])
      clear w1 w2
      go_wp2_with fail
      go_ret
      refine ⟨ret_bool ?_, below_drewN HB.out _⟩
      show decide (IntKind.u64.wrap (((p : Int) + 1) * ((q : Int) + 1)) ≤ (m : Int)) = F
      rw [HE.out, HR.out, show IntKind.u64.wrap (r : Int) = r by rw [IntKind.wrap_u64]; omega]
      simp
    · have e4 : F = false := by rw [E3.out]; simp [h2]
      have HE := Lib.hid e4
      have hp : (p : Int) + 1 ≤ 64 := by omega
      have d1 : decide ((p : Int) + 1 ≤ (m : Int)) = true := by simp; omega
      have d2 : decide ((q : Int) + 1 ≤ (m : Int)) = false := by simp; omega
      clear e4 h1 h2
      have w1 : IntKind.u64.wrap ((p : Int) + 1) = (p : Int) + 1 := by rw [IntKind.wrap_u64]; omega
      have w2 : IntKind.u64.wrap ((q : Int) + 1) = (q : Int) + 1 := by rw [IntKind.wrap_u64]; omega
      (try rw [w1]); (try rw [w2])
      clear w1 w2
      go_wp2_with fail
      go_ret
      exact ⟨ret_bool HE.out.symm, below_drewN HB.out _⟩
  · have e4 : F = false := by rw [E3.out]; simp [h1]
    have HE := Lib.hid e4
    have d1 : decide ((p : Int) + 1 ≤ (m : Int)) = false := by simp; omega
    clear e4 h1
    have w1 : IntKind.u64.wrap ((p : Int) + 1) = (p : Int) + 1 := by rw [IntKind.wrap_u64]; omega
    have w2 : IntKind.u64.wrap ((q : Int) + 1) = (q : Int) + 1 := by rw [IntKind.wrap_u64]; omega
    (try rw [w1]); (try rw [w2])
    clear w1 w2
    go_wp2_with fail
    go_ret
    exact ⟨ret_bool HE.out.symm, below_drewN HB.out _⟩

end Go.Proofs.Ythinjaddebfdhaa
