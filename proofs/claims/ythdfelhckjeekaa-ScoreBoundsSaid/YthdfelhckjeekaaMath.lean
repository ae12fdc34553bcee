/- Plain numbers: the logarithm by squares. -/
import Derived.WalkKit
import Derived.Lib.BitFns
namespace Go.Proofs.Ythdfelhckjeekaa.M

theorem bitLenAux_spec : ∀ (f x : Nat), x < 2 ^ f → 0 < x → ∃ e, Lib.bitLenAux f x = e + 1 ∧ 2 ^ e ≤ x ∧ x < 2 ^ (e + 1)
  | 0, x, h, h0 => by simp at h; omega
  | f + 1, x, h, h0 => by
    unfold Lib.bitLenAux
    rw [if_neg (by omega)]
    by_cases h1 : x / 2 = 0
    · refine ⟨0, ?_, by simp; omega, by simp; omega⟩
      rw [h1]
      cases f <;> simp [Lib.bitLenAux]
    · obtain ⟨e, he, hl, hu⟩ := bitLenAux_spec f (x / 2) (by rw [Nat.pow_succ] at h; omega) (by omega)
      exact ⟨e + 1, by omega, by rw [Nat.pow_succ]; omega, by rw [Nat.pow_succ]; omega⟩
theorem bitLen_spec (x : Nat) (h : x < 18446744073709551616) (h0 : 0 < x) : ∃ e, Lib.bitLen x = e + 1 ∧ 2 ^ e ≤ x ∧ x < 2 ^ (e + 1) ∧ e < 64 := by
  obtain ⟨e, he, hl, hu⟩ := bitLenAux_spec 64 x h h0
  refine ⟨e, he, hl, hu, ?_⟩
  by_cases hlt : e < 64
  · exact hlt
  · have : 2 ^ 64 ≤ 2 ^ e := Nat.pow_le_pow_right (by decide) (by omega)
    omega

/-- One bit: the square, and whether it passes 2. -/
def bitOf (x : Nat) : Nat := x * x / 1073741824 / 2147483648
def nextOf (x : Nat) : Nat := x * x / 1073741824 / 2 ^ bitOf x
/-- After k bits: the number, and the bits. -/
def sqr : Nat → Nat → Nat × Nat
  | 0, x => (x, 0)
  | k + 1, x => (nextOf (sqr k x).1, 2 * (sqr k x).2 + bitOf (sqr k x).1)

theorem sq_lt (x : Nat) (h : x < 2147483648) : x * x < 4611686018427387904 := by
  have h1 : x ≤ 2147483647 := by omega
  have := Nat.mul_le_mul h1 h1
  omega
theorem sq_ge (x : Nat) (h : 1073741824 ≤ x) : 1152921504606846976 ≤ x * x := by
  have := Nat.mul_le_mul h h
  omega
theorem bitOf_le (x : Nat) (h : x < 2147483648) : bitOf x = 0 ∨ bitOf x = 1 := by
  have := sq_lt x h
  unfold bitOf; omega
theorem nextOf_rng (x : Nat) (h0 : 1073741824 ≤ x) (h : x < 2147483648) : 1073741824 ≤ nextOf x ∧ nextOf x < 2147483648 := by
  have h1 := sq_lt x h
  have h2 := sq_ge x h0
  have hb : bitOf x = x * x / 1073741824 / 2147483648 := rfl
  unfold nextOf
  rcases bitOf_le x h with e | e <;> rw [e] at hb ⊢ <;> omega
theorem sqr_rng : ∀ (k x : Nat), 1073741824 ≤ x → x < 2147483648 → 1073741824 ≤ (sqr k x).1 ∧ (sqr k x).1 < 2147483648 ∧ (sqr k x).2 < 2 ^ k
  | 0, x, h0, h => ⟨h0, h, by simp [sqr]⟩
  | k + 1, x, h0, h => by
    obtain ⟨a, b, c⟩ := sqr_rng k x h0 h
    obtain ⟨d, e⟩ := nextOf_rng _ a b
    refine ⟨d, e, ?_⟩
    have := bitOf_le _ b
    simp only [sqr, Nat.pow_succ]
    omega

/-- The number brought to 30 places. -/
def normE (e n : Nat) : Nat := if 30 < e then n / 2 ^ (e - 30) else n * 1073741824 / 2 ^ e
theorem normE_rng (e n : Nat) (hl : 2 ^ e ≤ n) (hu : n < 2 ^ (e + 1)) : 1073741824 ≤ normE e n ∧ normE e n < 2147483648 := by
  unfold normE
  by_cases h : 30 < e
  · rw [if_pos h]
    have hp : 2 ^ e = 2 ^ (e - 30) * 1073741824 := by
      rw [show (1073741824 : Nat) = 2 ^ 30 from rfl, ← Nat.pow_add]; congr 1; omega
    have hp' : 2 ^ (e + 1) = 2 ^ (e - 30) * 2147483648 := by rw [Nat.pow_succ, hp]; omega
    have hpos : 0 < 2 ^ (e - 30) := Nat.two_pow_pos _
    exact ⟨(Nat.le_div_iff_mul_le hpos).2 (by rw [Nat.mul_comm]; omega), (Nat.div_lt_iff_lt_mul hpos).2 (by rw [Nat.mul_comm]; omega)⟩
  · rw [if_neg h]
    have hpos : 0 < 2 ^ e := Nat.two_pow_pos _
    rw [Nat.pow_succ] at hu
    exact ⟨(Nat.le_div_iff_mul_le hpos).2 (by rw [Nat.mul_comm]; exact Nat.mul_le_mul_right _ hl), (Nat.div_lt_iff_lt_mul hpos).2 (by
      calc n * 1073741824 < (2 ^ e * 2) * 1073741824 := Nat.mul_lt_mul_of_pos_right hu (by decide)
        _ = 2147483648 * 2 ^ e := by omega)⟩

def expo (n : Nat) : Nat := Lib.bitLen n - 1
/-- The logarithm. -/
def logN (n : Nat) : Nat := if n = 0 then 0 else expo n * 256 + (sqr 8 (normE (expo n) n)).2

theorem expo_spec (n : Nat) (h : n < 18446744073709551616) (h0 : 0 < n) : 2 ^ expo n ≤ n ∧ n < 2 ^ (expo n + 1) ∧ expo n < 64 := by
  obtain ⟨e, he, hl, hu, h64⟩ := bitLen_spec n h h0
  have : expo n = e := by unfold expo; omega
  rw [this]; exact ⟨hl, hu, h64⟩
theorem logN_lt (n : Nat) (h : n < 18446744073709551616) : logN n < 16384 := by
  unfold logN
  by_cases h0 : n = 0
  · rw [if_pos h0]; decide
  · rw [if_neg h0]
    obtain ⟨hl, hu, h64⟩ := expo_spec n h (by omega)
    obtain ⟨a, b⟩ := normE_rng _ n hl hu
    have := (sqr_rng 8 _ a b).2.2
    omega

end Go.Proofs.Ythdfelhckjeekaa.M
