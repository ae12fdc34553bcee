/- Plain numbers: 128 bits as one number below 2^128, its halves. -/
import Derived.WalkKit
namespace Go.Proofs.Ytogghmmokifnnaa.M
open Go.RowKit

def M64 : Nat := 18446744073709551616
def M128 : Nat := 340282366920938463463374607431768211456

/-- The halves. -/
def loN (v : Nat) : Nat := v % 18446744073709551616
def hiN (v : Nat) : Nat := v / 18446744073709551616 % 18446744073709551616
def sgn (h : Nat) : Int := if h < 9223372036854775808 then (h : Int) else (h : Int) - 18446744073709551616
def loZ (v : Nat) : Int := loN v
def hiZ (v : Nat) : Int := sgn (hiN v)

theorem loN_lt (v : Nat) : loN v < 18446744073709551616 := Nat.mod_lt _ (by decide)
theorem hiN_lt (v : Nat) : hiN v < 18446744073709551616 := Nat.mod_lt _ (by decide)
theorem hiZ_rng (v : Nat) : -9223372036854775808 ≤ hiZ v ∧ hiZ v ≤ 9223372036854775807 := by
  have := hiN_lt v
  unfold hiZ sgn; split <;> omega
theorem hiZ_u64 (v : Nat) : IntKind.u64.wrap (hiZ v) = (hiN v : Int) := by
  have := hiN_lt v
  rw [IntKind.wrap_u64]; unfold hiZ sgn; split <;> omega
theorem sgn_wrap (h : Nat) (hh : h < 18446744073709551616) : wrap64 (h : Int) = sgn h := by
  unfold wrap64 sgn; split <;> omega
theorem sgn_inj (a b : Nat) (ha : a < 18446744073709551616) (hb : b < 18446744073709551616) (h : sgn a = sgn b) : a = b := by
  unfold sgn at h; split at h <;> split at h <;> omega

/-- Every pair of halves is a number's. -/
theorem halves (h l : Int) (h0 : -9223372036854775808 ≤ h) (h1 : h ≤ 9223372036854775807) (l0 : 0 ≤ l) (l1 : l ≤ 18446744073709551615) :
    ∃ v, v < 340282366920938463463374607431768211456 ∧ hiZ v = h ∧ loZ v = l := by
  refine ⟨(h % 18446744073709551616).toNat * 18446744073709551616 + l.toNat, by omega, ?_, ?_⟩
  · have e : hiN ((h % 18446744073709551616).toNat * 18446744073709551616 + l.toNat) = (h % 18446744073709551616).toNat := by unfold hiN; omega
    unfold hiZ sgn; rw [e]; split <;> omega
  · unfold loZ loN; omega
theorem of_halves (v : Nat) (hv : v < 340282366920938463463374607431768211456) : hiN v * 18446744073709551616 + loN v = v := by unfold hiN loN; omega
theorem halves_inj (a b : Nat) (ha : a < 340282366920938463463374607431768211456) (hb : b < 340282366920938463463374607431768211456) (h1 : hiZ a = hiZ b) (h2 : loZ a = loZ b) : a = b := by
  have e1 := sgn_inj _ _ (hiN_lt a) (hiN_lt b) h1
  have e2 : loN a = loN b := by unfold loZ at h2; omega
  rw [← of_halves a ha, ← of_halves b hb, e1, e2]

def addN (a b : Nat) : Nat := (a + b) % 340282366920938463463374607431768211456
def subN (a b : Nat) : Nat := (a % 340282366920938463463374607431768211456 + 340282366920938463463374607431768211456 - b % 340282366920938463463374607431768211456) % 340282366920938463463374607431768211456
theorem addN_lo (a b : Nat) : loN (addN a b) = (loN a + loN b + 0) % 18446744073709551616 := by unfold loN addN; omega
theorem addN_hi (a b : Nat) : hiN (addN a b) = (hiN a + hiN b + (loN a + loN b + 0) / 18446744073709551616) % 18446744073709551616 := by unfold loN hiN addN; omega
theorem subN_lo (a b : Nat) : loN (subN a b) = (loN a + 18446744073709551616 - loN b - 0) % 18446744073709551616 := by unfold loN subN; omega
theorem subN_hi (a b : Nat) : hiN (subN a b) = (hiN a + 18446744073709551616 - hiN b - (if loN a < loN b + 0 then 1 else 0)) % 18446744073709551616 := by
  unfold loN hiN subN; split <;> omega

/-- The number with its sign. -/
def valZ (v : Nat) : Int := if v < 170141183460469231731687303715884105728 then (v : Int) else (v : Int) - 340282366920938463463374607431768211456
def cmpZ (x y : Int) : Int := if x < y then -1 else if y < x then 1 else 0
theorem cmpZ_lt {x y : Int} (h : x < y) : cmpZ x y = -1 := by unfold cmpZ; rw [if_pos h]
theorem cmpZ_gt {x y : Int} (h : y < x) : cmpZ x y = 1 := by unfold cmpZ; rw [if_neg (by omega), if_pos h]
theorem cmpZ_eq {x y : Int} (h : x = y) : cmpZ x y = 0 := by unfold cmpZ; rw [if_neg (by omega), if_neg (by omega)]
theorem valZ_halves (v : Nat) (hv : v < 340282366920938463463374607431768211456) : valZ v = hiZ v * 18446744073709551616 + loZ v := by
  have h1 := hiN_lt v
  have h3 := loN_lt v
  have e1 := of_halves v hv
  unfold valZ hiZ sgn loZ
  split <;> split <;> omega
theorem cmp_halves (a b : Nat) (ha : a < 340282366920938463463374607431768211456) (hb : b < 340282366920938463463374607431768211456) :
    (if cmpZ (hiZ a) (hiZ b) = 0 then cmpZ (loZ a) (loZ b) else cmpZ (hiZ a) (hiZ b)) = cmpZ (valZ a) (valZ b) := by
  have h3 := loN_lt a
  have h4 := loN_lt b
  rw [valZ_halves a ha, valZ_halves b hb]
  have l1 : loZ a = (loN a : Int) := rfl
  have l2 : loZ b = (loN b : Int) := rfl
  generalize hiZ a = x at *
  generalize hiZ b = y at *
  rcases Int.lt_trichotomy x y with h | h | h
  · rw [cmpZ_lt h, if_neg (by omega), cmpZ_lt (by omega)]
  · subst h
    rw [cmpZ_eq rfl, if_pos rfl]
    rcases Int.lt_trichotomy (loZ a) (loZ b) with g | g | g
    · rw [cmpZ_lt g, cmpZ_lt (by omega)]
    · rw [cmpZ_eq g, cmpZ_eq (by omega)]
    · rw [cmpZ_gt g, cmpZ_gt (by omega)]
  · rw [cmpZ_gt h, if_neg (by omega), cmpZ_gt (by omega)]
theorem cmpZ_neg (x y : Int) : cmpZ x y = - cmpZ y x := by
  rcases Int.lt_trichotomy x y with h | h | h
  · rw [cmpZ_lt h, cmpZ_gt h]
  · rw [cmpZ_eq h, cmpZ_eq h.symm]; rfl
  · rw [cmpZ_gt h, cmpZ_lt h]; rfl

end Go.Proofs.Ytogghmmokifnnaa.M
