/- Walks: products. -/
import Derived.Test.YtogghmmokifnnaaW4
import Derived.Lib.Mul64
import Derived.Laws.Bits64b
namespace Go.Proofs.Ytogghmmokifnnaa
open Go.RowKit

theorem maskN (a : Nat) (ha : a < 18446744073709551616) : bits .and .u64 (a : Int) 4294967295 = ((a % 4294967296 : Nat) : Int) := by
  have h := bits_and_u64_nat a 4294967295 ha (by omega)
  have e : a &&& 4294967295 = a % 4294967296 := Nat.and_two_pow_sub_one_eq_mod a 32
  rw [e] at h
  exact h
theorem divN (a : Nat) : (a : Int) / 4294967296 = ((a / 4294967296 : Nat) : Int) := by omega
theorem mulN (a b : Nat) : (a : Int) * (b : Int) = ((a * b : Nat) : Int) := (Int.natCast_mul a b).symm
theorem addN (a b : Nat) : (a : Int) + (b : Int) = ((a + b : Nat) : Int) := (Int.natCast_add a b).symm
theorem wrapN (a : Nat) (ha : a < 18446744073709551616) : IntKind.u64.wrap (a : Int) = (a : Int) := by rw [IntKind.wrap_u64]; omega
theorem wrapM (a : Nat) : IntKind.u64.wrap (a : Int) = ((a % 18446744073709551616 : Nat) : Int) := by rw [IntKind.wrap_u64]; omega

set_option maxHeartbeats 1000000 in
theorem Mul64_any (x y : Nat) (hx : x < 18446744073709551616) (hy : y < 18446744073709551616) (w : World) :
    Calls Try.prog 33 #[.int .u64 x, .int .u64 y] w fun e w' => e = .returned (.tuple #[.int .u64 ((x * y / 18446744073709551616 : Nat) : Int), .int .u64 ((x * y % 18446744073709551616 : Nat) : Int)]) ∧ w = w' := by
  obtain ⟨bd, bt, bw, hhi⟩ := Lib.mul64_hi x y hx hy
  have ba := Lib.half_mul_le (a := x / 4294967296) (b := y / 4294967296) (by omega) (by omega)
  have bb := Lib.half_mul_le (a := x / 4294967296) (b := y % 4294967296) (by omega) (by omega)
  have bc := Lib.half_mul_le (a := x % 4294967296) (b := y / 4294967296) (by omega) (by omega)
  have ba' : x / 4294967296 * (y / 4294967296) < 18446744073709551616 := by omega
  have bb' : x / 4294967296 * (y % 4294967296) < 18446744073709551616 := by omega
  have bc' : x % 4294967296 * (y / 4294967296) < 18446744073709551616 := by omega
  have bh1 : x / 4294967296 * (y / 4294967296) + (x / 4294967296 * (y % 4294967296) + x % 4294967296 * (y % 4294967296) / 4294967296) / 4294967296 < 18446744073709551616 := by omega
  have bh : x / 4294967296 * (y / 4294967296) + (x / 4294967296 * (y % 4294967296) + x % 4294967296 * (y % 4294967296) / 4294967296) / 4294967296 + ((x / 4294967296 * (y % 4294967296) + x % 4294967296 * (y % 4294967296) / 4294967296) % 4294967296 + x % 4294967296 * (y / 4294967296)) / 4294967296 < 18446744073709551616 := by omega
  go_enter Try.func33, Try.ntmps33
  go_wp2
  simp only [maskN x hx, maskN y hy, divN, mulN, addN, wrapN _ bd, wrapN _ bb', wrapN _ bt, maskN _ bt, wrapN _ bc', wrapN _ bw, wrapN _ ba', wrapN _ bh1, wrapN _ bh, wrapM (x * y)]
  rw [hhi]
  go_ret2
  exact ⟨rfl, rfl⟩

/-- The product of two numbers of 64 bits, by its halves without sign. -/
theorem mul_parts (a b : Int) (u v : Nat) (x y : Int) (ha : a = u - 18446744073709551616 * x) (hb : b = v - 18446744073709551616 * y) :
    a * b = ((u * v : Nat) : Int) - 18446744073709551616 * (x * b + y * a + 18446744073709551616 * (x * y)) := by
  have h1 : (u : Int) = a + 18446744073709551616 * x := by omega
  have h2 : (v : Int) = b + 18446744073709551616 * y := by omega
  rw [Int.natCast_mul, h1, h2, Int.add_mul, Int.mul_add, Int.mul_add]
  have e1 : a * (18446744073709551616 * y) = 18446744073709551616 * (y * a) := by rw [Int.mul_left_comm, Int.mul_comm a y]
  have e2 : 18446744073709551616 * x * b = 18446744073709551616 * (x * b) := Int.mul_assoc _ _ _
  have e3 : 18446744073709551616 * x * (18446744073709551616 * y) = 18446744073709551616 * (18446744073709551616 * (x * y)) := by
    rw [Int.mul_assoc, Int.mul_left_comm x]
  rw [e1, e2, e3]
  omega
theorem mul_small (a b : Int) (a0 : -9223372036854775808 ≤ a) (a1 : a ≤ 9223372036854775807) (b0 : -9223372036854775808 ≤ b) (b1 : b ≤ 9223372036854775807) :
    -85070591730234615865843651857942052864 ≤ a * b ∧ a * b ≤ 85070591730234615865843651857942052864 := by
  have h1 : a.natAbs ≤ 9223372036854775808 := by omega
  have h2 : b.natAbs ≤ 9223372036854775808 := by omega
  have h := Nat.mul_le_mul h1 h2
  rw [← Int.natAbs_mul] at h
  omega

theorem wrap64_at (z k : Int) (h0 : -9223372036854775808 ≤ z + 18446744073709551616 * k) (h1 : z + 18446744073709551616 * k ≤ 9223372036854775807) : wrap64 z = z + 18446744073709551616 * k := by
  unfold wrap64; omega
theorem wrap64_in (z b : Int) : wrap64 (wrap64 z - b) = wrap64 (z - b) := by
  unfold wrap64; omega
/-- The upper half of a product with its sign: what the factors below 0 have too much is taken away. -/
theorem mul_high (a b : Int) (uv : Nat) (t k : Int) (hp : a * b = (uv : Int) - 18446744073709551616 * (t + 18446744073709551616 * k))
    (h0 : -85070591730234615865843651857942052864 ≤ a * b) (h1 : a * b ≤ 85070591730234615865843651857942052864) :
    a * b / 18446744073709551616 = wrap64 (((uv / 18446744073709551616 : Nat) : Int) - t) ∧ a * b % 18446744073709551616 = ((uv % 18446744073709551616 : Nat) : Int) := by
  generalize a * b = ab at *
  have e : ab / 18446744073709551616 = ((uv / 18446744073709551616 : Nat) : Int) - t + 18446744073709551616 * (-k) := by omega
  have e2 : -4611686018427387904 ≤ ab / 18446744073709551616 ∧ ab / 18446744073709551616 ≤ 4611686018427387904 := by omega
  refine ⟨?_, by omega⟩
  rw [wrap64_at _ (-k) (by omega) (by omega), e]

set_option maxHeartbeats 1000000 in
theorem Mul_any (a b : Int) (a0 : -9223372036854775808 ≤ a) (a1 : a ≤ 9223372036854775807) (b0 : -9223372036854775808 ≤ b) (b1 : b ≤ 9223372036854775807) (w : World) :
    Calls Try.prog 17 #[.int .i64 a, .int .i64 b] w fun e w' => e = .returned (.agg #[.int .i64 (a * b / 18446744073709551616), .int .u64 (a * b % 18446744073709551616)]) ∧ Below w.heap.size w w' := by
  obtain ⟨u, hu, hu'⟩ : ∃ u : Nat, IntKind.u64.wrap a = u ∧ (u : Int) = a % 18446744073709551616 := ⟨(a % 18446744073709551616).toNat, by rw [IntKind.wrap_u64]; omega, by omega⟩
  obtain ⟨v, hv, hv'⟩ : ∃ v : Nat, IntKind.u64.wrap b = v ∧ (v : Int) = b % 18446744073709551616 := ⟨(b % 18446744073709551616).toNat, by rw [IntKind.wrap_u64]; omega, by omega⟩
  have hm := Mul64_any u v (by omega) (by omega)
  have hs := mul_small a b a0 a1 b0 b1
  have hp := fun x y => mul_parts a b u v x y
  by_cases ha : a < 0 <;> by_cases hb : b < 0
  · have hp := hp 1 1 (by omega) (by omega)
    rw [Int.one_mul, Int.one_mul, Int.one_mul] at hp
    obtain ⟨k1, k2⟩ := mul_high a b (u * v) (b + a) 1 hp hs.1 hs.2
    rw [k1, k2]
    clear k1 k2 hp hs hu' hv'
    generalize u * v / 18446744073709551616 = q at *
    generalize u * v % 18446744073709551616 = r at *
    have HM := Lib.hid hm
    clear hm
    have HE : Hid (wrap64 ((q : Int) - (b + a)) = (wrap64 (wrap64 (wrap64 q - b) - a))) := Lib.hid (by rw [wrap64_in, show wrap64 (q : Int) - b - a = wrap64 q - (b + a) by omega, wrap64_in])
    rw [HE.out]
    go_enter Try.func17, Try.ntmps17
    go_wp2_with fail
    refine (HM.out _).mono ?_
    rintro e w1 ⟨rfl, rfl⟩
    go_wp2
    refine bodyPost_ret (v := .agg #[.int .i64 (wrap64 (wrap64 (wrap64 q - b) - a)), .int .u64 r]) ?_ rfl ⟨rfl, ?_⟩
    · simp [results, Try.results17, go_sem]
    · go_grown
  · have hp := hp 1 0 (by omega) (by omega)
    rw [Int.one_mul, Int.zero_mul, Int.mul_zero] at hp
    obtain ⟨k1, k2⟩ := mul_high a b (u * v) (b + 0) 0 hp hs.1 hs.2
    rw [k1, k2]
    clear k1 k2 hp hs hu' hv'
    generalize u * v / 18446744073709551616 = q at *
    generalize u * v % 18446744073709551616 = r at *
    have HM := Lib.hid hm
    clear hm
    have HE : Hid (wrap64 ((q : Int) - (b + 0)) = (wrap64 (wrap64 q - b))) := Lib.hid (by rw [wrap64_in]; congr 1; omega)
    rw [HE.out]
    go_enter Try.func17, Try.ntmps17
    go_wp2_with fail
    refine (HM.out _).mono ?_
    rintro e w1 ⟨rfl, rfl⟩
    go_wp2
    refine bodyPost_ret (v := .agg #[.int .i64 (wrap64 (wrap64 q - b)), .int .u64 r]) ?_ rfl ⟨rfl, ?_⟩
    · simp [results, Try.results17, go_sem]
    · go_grown
  · have hp := hp 0 1 (by omega) (by omega)
    rw [Int.zero_mul, Int.one_mul, Int.zero_mul] at hp
    obtain ⟨k1, k2⟩ := mul_high a b (u * v) (0 + a) 0 hp hs.1 hs.2
    rw [k1, k2]
    clear k1 k2 hp hs hu' hv'
    generalize u * v / 18446744073709551616 = q at *
    generalize u * v % 18446744073709551616 = r at *
    have HM := Lib.hid hm
    clear hm
    have HE : Hid (wrap64 ((q : Int) - (0 + a)) = (wrap64 (wrap64 q - a))) := Lib.hid (by rw [wrap64_in]; congr 1; omega)
    rw [HE.out]
    go_enter Try.func17, Try.ntmps17
    go_wp2_with fail
    refine (HM.out _).mono ?_
    rintro e w1 ⟨rfl, rfl⟩
    go_wp2
    refine bodyPost_ret (v := .agg #[.int .i64 (wrap64 (wrap64 q - a)), .int .u64 r]) ?_ rfl ⟨rfl, ?_⟩
    · simp [results, Try.results17, go_sem]
    · go_grown
  · have hp := hp 0 0 (by omega) (by omega)
    rw [Int.zero_mul, Int.zero_mul, Int.zero_mul] at hp
    obtain ⟨k1, k2⟩ := mul_high a b (u * v) (0 + 0) 0 hp hs.1 hs.2
    rw [k1, k2]
    clear k1 k2 hp hs hu' hv'
    generalize u * v / 18446744073709551616 = q at *
    generalize u * v % 18446744073709551616 = r at *
    have HM := Lib.hid hm
    clear hm
    have HE : Hid (wrap64 ((q : Int) - (0 + 0)) = (wrap64 q)) := Lib.hid (by congr 1)
    rw [HE.out]
    go_enter Try.func17, Try.ntmps17
    go_wp2_with fail
    refine (HM.out _).mono ?_
    rintro e w1 ⟨rfl, rfl⟩
    go_wp2
    refine bodyPost_ret (v := .agg #[.int .i64 (wrap64 q), .int .u64 r]) ?_ rfl ⟨rfl, ?_⟩
    · simp [results, Try.results17, go_sem]
    · go_grown

end Go.Proofs.Ytogghmmokifnnaa
