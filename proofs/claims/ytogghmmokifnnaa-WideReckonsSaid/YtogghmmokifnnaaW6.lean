/- Walks: bits.Div64 by 10^8. -/
import Derived.Test.YtogghmmokifnnaaW5
import Derived.Test.YtogghmmokifnnaaFree
namespace Go.Proofs.Ytogghmmokifnnaa
open Go.RowKit

set_option maxRecDepth 20000 in
theorem Len64_c (w : World) : Calls Try.prog 40 #[.int .u64 100000000] w fun e w' => e = .returned (.int .i64 27) ∧ w = w' := by
  go_enter Try.func40, Try.ntmps40
  go_wp2
  go_ret
  exact ⟨by kernel_rfl, rfl⟩
theorem Lead_c (w : World) : Calls Try.prog 39 #[.int .u64 100000000] w fun e w' => e = .returned (.int .i64 37) ∧ w = w' := by
  go_enter Try.func39, Try.ntmps39
  go_wp2_with fail
  refine (Len64_c _).mono ?_
  rintro e w1 ⟨rfl, rfl⟩
  go_wp2
  go_ret
  exact ⟨rfl, rfl⟩
set_option maxRecDepth 20000 in
set_option maxHeartbeats 4000000 in
theorem Div_road (h l U V V1 Q1 P1 R1 X1 Y1 A1 B1 C1 D Q0 P0 R0 X0 F1 q G1 G2 G3 r : Int) (h0 : 0 < h) (h1 : h < 100000000)
    (e1 : bits .and .u64 13743895347200000000 4294967295 = 0) (e2 : bits .or .u64 (h * 137438953472) (l / 134217728) = U) (e3 : IntKind.u64.wrap (l * 137438953472) = V) (e4 : V / 4294967296 = V1) (e5 : bits .and .u64 V 4294967295 = 0) (e6 : IntKind.u64.wrap (U.tdiv 3200000000) = Q1) (e7 : IntKind.u64.wrap (Q1 * 3200000000) = P1) (e8 : IntKind.u64.wrap (U - P1) = R1) (q1 : ¬ 4294967296 ≤ Q1)
    (x1 : IntKind.u64.wrap (4294967296 * R1) = X1) (y1 : IntKind.u64.wrap (X1 + V1) = Y1) (y0 : ¬ Y1 < 0)
    (a1 : IntKind.u64.wrap (U * 4294967296) = A1) (b1 : IntKind.u64.wrap (A1 + V1) = B1) (c1 : IntKind.u64.wrap (Q1 * 13743895347200000000) = C1) (d1 : IntKind.u64.wrap (B1 - C1) = D)
    (f6 : IntKind.u64.wrap (D.tdiv 3200000000) = Q0) (f7 : IntKind.u64.wrap (Q0 * 3200000000) = P0) (f8 : IntKind.u64.wrap (D - P0) = R0) (q0 : ¬ 4294967296 ≤ Q0)
    (x0 : IntKind.u64.wrap (4294967296 * R0) = X0) (wx : IntKind.u64.wrap X0 = X0) (z0 : ¬ X0 < 0)
    (g1 : IntKind.u64.wrap (Q1 * 4294967296) = F1) (g2 : IntKind.u64.wrap (F1 + Q0) = q) (g3 : IntKind.u64.wrap (D * 4294967296) = G1) (wg : IntKind.u64.wrap G1 = G1) (g4 : IntKind.u64.wrap (Q0 * 13743895347200000000) = G2) (g5 : IntKind.u64.wrap (G1 - G2) = G3) (g6 : G3 / 137438953472 = r)
    (w : World) :
    Calls Try.prog 35 #[.int .u64 h, .int .u64 l, .int .u64 100000000] w fun e w' => e = .returned (.tuple #[.int .u64 q, .int .u64 r]) ∧ w = w' := by
  have hne : (h == 0) = false := by simp; omega
  have hle : ¬ (100000000 : Int) ≤ h := by omega
  go_enter Try.func35, Try.ntmps35
  go_wp2_with fail
  refine (Lead_c _).mono ?_
  rintro e w1 ⟨rfl, rfl⟩
  go_wp2
  go_loopw [15, 16] (fun a b wr => a = .int .u64 Q1 ∧ b = .int .u64 R1 ∧ wr = w) (fun _ _ _ => 0)
  case atStart => exact ⟨rfl, rfl, rfl⟩
  case round =>
    obtain ⟨rfl, rfl, rfl⟩ := hrel
    go_wp2
    go_loopw [18, 16] (fun a b w' => a = .int .u64 Q0 ∧ b = .int .u64 R0 ∧ w' = wr) (fun _ _ _ => 0)
    case atStart => exact ⟨rfl, rfl, rfl⟩
    case round =>
      obtain ⟨rfl, rfl, rfl⟩ := hrel
      go_wp2
      go_ret2
      exact ⟨rfl, rfl⟩

theorem Div64_0 (lo : Nat) (hl : lo < 18446744073709551616) (w : World) :
    Calls Try.prog 35 #[.int .u64 0, .int .u64 lo, .int .u64 100000000] w fun e w' => e = .returned (.tuple #[.int .u64 ((lo / 100000000 : Nat) : Int), .int .u64 ((lo % 100000000 : Nat) : Int)]) ∧ Below w.heap.size w w' := by
  have d1 : IntKind.u64.wrap ((lo : Int) / 100000000) = ((lo / 100000000 : Nat) : Int) := by
    rw [IntKind.wrap_u64]; omega
  have d2 : IntKind.u64.wrap ((lo : Int).tmod 100000000) = ((lo % 100000000 : Nat) : Int) := by
    rw [Int.tmod_eq_emod_of_nonneg (by omega), IntKind.wrap_u64]; omega
  have d3 : (lo : Int).tmod 100000000 = ((lo % 100000000 : Nat) : Int) := by
    rw [Int.tmod_eq_emod_of_nonneg (by omega)]; omega
  generalize ((lo / 100000000 : Nat) : Int) = q at *
  generalize ((lo % 100000000 : Nat) : Int) = r at *
  go_enter Try.func35, Try.ntmps35
  go_wp2_with fail
  obtain ⟨S0, S0d⟩ : ∃ S : World → Prop, S = fun v : World => Below w.heap.size w v := ⟨_, rfl⟩
  have S0t0 : Stands S0 := by rw [S0d]; exact (stands_below _)
  have S0u0 : ∀ v, S0 v → Below w.heap.size w v := fun v h => by rw [S0d] at h; exact h
  have S0m0 : ∀ v, (Below w.heap.size w v) → S0 v := fun v h => by rw [S0d]; exact h
  have S0u := Lib.hid S0u0
  have S0m := Lib.hid S0m0
  have S0t := Lib.hid S0t0
  clear S0d S0u0 S0m0 S0t0
  refine wp_region_X (S := S0) (by kernel_rfl) (S0m.out _ ((Below.refl _ w).drew)) ?_
  refine wpX_take (i := 0) (v := ?_) S0t.out rfl rfl (by kernel_rfl) (by kernel_rfl) (by kernel_rfl) (fun _ _ _ h => h) (SteadyX.value (by rfl) ?_) ?_
  rotate_left
  · (intro w_ hS; go_simp; try with_reducible rfl)
  simp only [List.setIfInBounds_toArray, List.set_cons_zero, List.set_cons_succ]
  refine wpX_take (i := 1) (v := ?_) S0t.out rfl rfl (by kernel_rfl) (by kernel_rfl) (by kernel_rfl) (fun _ _ _ h => h) (SteadyX.value (by rfl) ?_) ?_
  rotate_left
  · (intro w_ hS; go_simp; try with_reducible rfl)
  simp only [List.setIfInBounds_toArray, List.set_cons_zero, List.set_cons_succ]
  refine wpX_take (i := 2) (v := ?_) S0t.out rfl rfl (by kernel_rfl) (by kernel_rfl) (by kernel_rfl) (fun _ _ _ h => h) (SteadyX.value (by rfl) ?_) ?_
  rotate_left
  · (intro w_ hS; go_simp; try with_reducible rfl)
  simp only [List.setIfInBounds_toArray, List.set_cons_zero, List.set_cons_succ]
  refine wpX_take (i := 3) (v := ?_) S0t.out rfl rfl (by kernel_rfl) (by kernel_rfl) (by kernel_rfl) (fun _ _ _ h => h) (SteadyX.value (by rfl) ?_) ?_
  rotate_left
  · (intro w_ hS; go_simp; try with_reducible rfl)
  simp only [List.setIfInBounds_toArray, List.set_cons_zero, List.set_cons_succ]
  refine wpX_take (i := 4) (v := ?_) S0t.out rfl rfl (by kernel_rfl) (by kernel_rfl) (by kernel_rfl) (fun _ _ _ h => h) (SteadyX.value (by rfl) ?_) ?_
  rotate_left
  · (intro w_ hS; go_simp; try with_reducible rfl)
  simp only [List.setIfInBounds_toArray, List.set_cons_zero, List.set_cons_succ]
  refine wpX_take (i := 5) (v := ?_) S0t.out rfl rfl (by kernel_rfl) (by kernel_rfl) (by kernel_rfl) (fun _ _ _ h => h) (SteadyX.value (by rfl) ?_) ?_
  rotate_left
  · (intro w_ hS; go_simp; try with_reducible rfl)
  simp only [List.setIfInBounds_toArray, List.set_cons_zero, List.set_cons_succ]
  refine wpX_take (i := 6) (v := ?_) S0t.out rfl rfl (by kernel_rfl) (by kernel_rfl) (by kernel_rfl) (fun _ _ _ h => h) (SteadyX.value (by rfl) ?_) ?_
  rotate_left
  · (intro w_ hS; go_simp; try with_reducible rfl)
  simp only [List.setIfInBounds_toArray, List.set_cons_zero, List.set_cons_succ]
  refine wpX_take (i := 7) (v := ?_) S0t.out rfl rfl (by kernel_rfl) (by kernel_rfl) (by kernel_rfl) (fun _ _ _ h => h) (SteadyX.value (by rfl) ?_) ?_
  rotate_left
  · (intro w_ hS; go_simp; try with_reducible rfl)
  simp only [List.setIfInBounds_toArray, List.set_cons_zero, List.set_cons_succ]
  refine wpX_done (by kernel_rfl) (fun W hS => ?_) _
  have q0 := S0u.out _ hS
  clear hS S0u S0m S0t
  clear S0
  go_wp2
  go_ret2
  exact ⟨rfl, q0⟩

theorem orN (hi lo : Nat) (hh : hi < 134217728) (hl : lo < 18446744073709551616) : bits .or .u64 ((hi : Int) * 137438953472) ((lo : Int) / 134217728) = (((hi * 18446744073709551616 + lo) / 134217728 : Nat) : Int) := by
  have h := bits_or_u64_nat (hi * 137438953472) (lo / 134217728) (by omega) (by omega)
  have e : hi * 137438953472 ||| lo / 134217728 = (hi * 18446744073709551616 + lo) / 134217728 := by
    have h2 := Nat.two_pow_add_eq_or_of_lt (i := 37) (b := lo / 134217728) (by omega) hi
    rw [Nat.mul_comm] at h2
    rw [show (137438953472 : Nat) = 2 ^ 37 from rfl, ← h2]
    omega
  rw [e] at h
  rw [← h, Int.natCast_mul, Int.natCast_ediv]; rfl

theorem u64_of (x : Nat) (h : x < 18446744073709551616) : IntKind.u64.wrap (x : Int) = (x : Int) := by rw [IntKind.wrap_u64]; omega
theorem u64_mod (x : Nat) : IntKind.u64.wrap (x : Int) = ((x % 18446744073709551616 : Nat) : Int) := by rw [IntKind.wrap_u64]; omega
theorem u64_sub (x y z : Nat) (h : x = y + z) (hz : z < 18446744073709551616) : IntKind.u64.wrap (((x % 18446744073709551616 : Nat) : Int) - ((y % 18446744073709551616 : Nat) : Int)) = (z : Int) := by
  rw [IntKind.wrap_u64]; omega
theorem u64_less (x y z : Nat) (h : x = y + z) (hz : z < 18446744073709551616) : IntKind.u64.wrap ((x : Int) - (y : Int)) = (z : Int) := by
  rw [IntKind.wrap_u64]; omega
theorem u64_mul (a k : Nat) (h : a * k < 18446744073709551616) : IntKind.u64.wrap ((a : Int) * (k : Int)) = ((a * k : Nat) : Int) := by
  rw [← Int.natCast_mul]; exact u64_of _ h
theorem u64_mul' (a k : Nat) (h : a * k < 18446744073709551616) : IntKind.u64.wrap ((k : Int) * (a : Int)) = ((a * k : Nat) : Int) := by
  rw [← Int.natCast_mul, Nat.mul_comm]; exact u64_of _ h
theorem u64_mulmod (a k : Nat) : IntKind.u64.wrap ((a : Int) * (k : Int)) = ((a * k % 18446744073709551616 : Nat) : Int) := by
  rw [← Int.natCast_mul]; exact u64_mod _
theorem u64_plus (a b c : Nat) (h : a + b = c) (hc : c < 18446744073709551616) : IntKind.u64.wrap ((a : Int) + (b : Int)) = (c : Int) := by
  rw [← Int.natCast_add, h]; exact u64_of _ hc
theorem u64_plusmod (a b : Nat) : IntKind.u64.wrap (((a % 18446744073709551616 : Nat) : Int) + (b : Int)) = (((a + b) % 18446744073709551616 : Nat) : Int) := by
  rw [← Int.natCast_add, u64_mod, Nat.mod_add_mod]
theorem u64_quo (a k q : Nat) (h : a / k = q) (hq : q < 18446744073709551616) : IntKind.u64.wrap ((a : Int).tdiv (k : Int)) = (q : Int) := by
  rw [← Int.ofNat_tdiv, h]; exact u64_of _ hq

theorem div_plain (n u v q1 r1 d q0 r0 : Nat) (hn : n < 1844674407370955161600000000) (h1 : n = u * 134217728 + v) (hv : v < 134217728) (h2 : u = 3200000000 * q1 + r1) (h3 : r1 < 3200000000) (h4 : d = r1 * 4294967296 + v * 32)
    (h5 : d = 3200000000 * q0 + r0) (h6 : r0 < 3200000000) : q1 * 4294967296 + q0 = n / 100000000 ∧ r0 / 32 = n % 100000000 ∧ u < 13743895347200000000 ∧ q1 < 4294967296 ∧ q0 < 4294967296 ∧ d < 13743895347200000000 := by
  have hk : n * 32 = 3200000000 * (q1 * 4294967296 + q0) + r0 := by omega
  have hu : u < 13743895347200000000 := by omega
  have hd : d < 13743895347200000000 := by omega
  have hq1 : q1 < 4294967296 := by omega
  have hq0 : q0 < 4294967296 := by omega
  clear h1 h2 h4 h5
  refine ⟨?_, ?_, hu, hq1, hq0, hd⟩ <;> omega
theorem div_sizes (u v q1 r1 d q0 r0 : Nat) (hv : v < 134217728) (h2 : u = 3200000000 * q1 + r1) (h3 : r1 < 3200000000) (h4 : d = r1 * 4294967296 + v * 32) (h5 : d = 3200000000 * q0 + r0) (h6 : r0 < 3200000000) (hq1 : q1 < 4294967296) (hq0 : q0 < 4294967296) :
    v * 137438953472 < 18446744073709551616 ∧ v * 137438953472 % 4294967296 = 0 ∧ q1 * 3200000000 < 18446744073709551616 ∧ u = q1 * 3200000000 + r1 ∧ r1 * 4294967296 < 18446744073709551616 ∧ u * 4294967296 + v * 32 = q1 * 13743895347200000000 + d ∧
    q0 * 3200000000 < 18446744073709551616 ∧ d = q0 * 3200000000 + r0 ∧ r0 * 4294967296 < 18446744073709551616 ∧ q1 * 4294967296 < 18446744073709551616 ∧ q1 * 4294967296 + q0 < 18446744073709551616 ∧ d * 4294967296 = q0 * 13743895347200000000 + r0 * 4294967296 ∧
    v * 137438953472 / 4294967296 = v * 32 ∧ r0 * 4294967296 / 137438953472 = r0 / 32 := by
  have y1 : v * 137438953472 < 18446744073709551616 := Nat.lt_of_lt_of_le (Nat.mul_lt_mul_of_pos_right hv (by decide : 0 < 137438953472)) (by decide)
  have y2 : v * 137438953472 % 4294967296 = 0 := by rw [show (137438953472 : Nat) = 32 * 4294967296 from rfl, ← Nat.mul_assoc]; exact Nat.mul_mod_left _ _
  have y3 : q1 * 3200000000 < 18446744073709551616 := Nat.lt_of_lt_of_le (Nat.mul_lt_mul_of_pos_right hq1 (by decide : 0 < 3200000000)) (by decide)
  have y4 : u = q1 * 3200000000 + r1 := by rw [h2, Nat.mul_comm]
  have y5 : r1 * 4294967296 < 18446744073709551616 := Nat.lt_of_lt_of_le (Nat.mul_lt_mul_of_pos_right h3 (by decide : 0 < 4294967296)) (by decide)
  have y7 : q0 * 3200000000 < 18446744073709551616 := Nat.lt_of_lt_of_le (Nat.mul_lt_mul_of_pos_right hq0 (by decide : 0 < 3200000000)) (by decide)
  have y8 : d = q0 * 3200000000 + r0 := by rw [h5, Nat.mul_comm]
  have y9 : r0 * 4294967296 < 18446744073709551616 := Nat.lt_of_lt_of_le (Nat.mul_lt_mul_of_pos_right h6 (by decide : 0 < 4294967296)) (by decide)
  have y10 : q1 * 4294967296 < 18446744073709551616 := Nat.lt_of_lt_of_le (Nat.mul_lt_mul_of_pos_right hq1 (by decide : 0 < 4294967296)) (by decide)
  have y11 : q1 * 4294967296 + q0 < 18446744073709551616 := by
    have h : q1 * 4294967296 + q0 < (q1 + 1) * 4294967296 := by rw [Nat.add_mul, Nat.one_mul]; exact Nat.add_lt_add_left hq0 _
    exact Nat.lt_of_lt_of_le h (Nat.le_trans (Nat.mul_le_mul_right _ hq1) (by decide))
  have y13 : v * 137438953472 / 4294967296 = v * 32 := by rw [show (137438953472 : Nat) = 32 * 4294967296 from rfl, ← Nat.mul_assoc]; exact Nat.mul_div_cancel _ (by decide)
  have y14 : r0 * 4294967296 / 137438953472 = r0 / 32 := by rw [show (137438953472 : Nat) = 32 * 4294967296 from rfl]; exact Nat.mul_div_mul_right _ _ (by decide)
  have x6 : u * 4294967296 + v * 32 = q1 * 13743895347200000000 + d := by
    rw [h4, h2, Nat.add_mul, Nat.mul_comm 3200000000 q1, Nat.mul_assoc, Nat.add_assoc]
  have x12 : d * 4294967296 = q0 * 13743895347200000000 + r0 * 4294967296 := by
    rw [h5, Nat.add_mul, Nat.mul_comm 3200000000 q0, Nat.mul_assoc]
  exact ⟨y1, y2, y3, y4, y5, x6, y7, y8, y9, y10, y11, x12, y13, y14⟩

set_option maxHeartbeats 4000000 in
theorem Div64_pos (hi lo n u v q1 r1 d q0 r0 : Nat) (h0 : (0 : Int) < hi) (hh : (hi : Int) < 100000000) (e2 : bits .or .u64 ((hi : Int) * 137438953472) ((lo : Int) / 134217728) = (u : Int)) (hV : IntKind.u64.wrap ((lo : Int) * 137438953472) = ((v * 137438953472 : Nat) : Int))
    (hv : v < 134217728) (hq1 : u / 3200000000 = q1) (hr1 : u % 3200000000 = r1) (hd : d = r1 * 4294967296 + v * 32) (hq0 : d / 3200000000 = q0) (hr0 : d % 3200000000 = r0) (hn : n < 1844674407370955161600000000) (h1 : n = u * 134217728 + v) (w : World) :
    Calls Try.prog 35 #[.int .u64 hi, .int .u64 lo, .int .u64 100000000] w fun e w' => e = .returned (.tuple #[.int .u64 ((n / 100000000 : Nat) : Int), .int .u64 ((n % 100000000 : Nat) : Int)]) ∧ Below w.heap.size w w' := by
  have h2 : u = 3200000000 * q1 + r1 := by rw [← hq1, ← hr1]; exact (Nat.div_add_mod _ _).symm
  have h3 : r1 < 3200000000 := by rw [← hr1]; exact Nat.mod_lt _ (by decide)
  have h5 : d = 3200000000 * q0 + r0 := by rw [← hq0, ← hr0]; exact (Nat.div_add_mod _ _).symm
  have h6 : r0 < 3200000000 := by rw [← hr0]; exact Nat.mod_lt _ (by decide)
  obtain ⟨k1, k2, k3, k4, k5, k6⟩ := div_plain n u v q1 r1 d q0 r0 hn h1 hv h2 h3 hd h5 h6
  obtain ⟨z1, z2, z3, z4, z5, z6, z7, z8, z9, z10, z11, z12, z13, z14⟩ := div_sizes u v q1 r1 d q0 r0 hv h2 h3 hd h5 h6 k4 k5
  have d64 : d < 18446744073709551616 := Nat.lt_trans k6 (by decide)
  rw [← k1, ← k2]
  have hm : bits .and .u64 ((v * 137438953472 : Nat) : Int) 4294967295 = 0 := by
    have h := bits_and_u64_nat (v * 137438953472) 4294967295 z1 (by decide)
    have e : v * 137438953472 &&& 4294967295 = v * 137438953472 % 4294967296 := Nat.and_two_pow_sub_one_eq_mod (v * 137438953472) 32
    rw [e, z2] at h
    exact h
  have c1 : ¬ (4294967296 : Int) ≤ (q1 : Int) := by clear h5 h6 hd hq0 hr0 hn h1 k1 k2 k6 z6 z8 z12 z13 z14; omega
  have c0 : ¬ (4294967296 : Int) ≤ (q0 : Int) := by clear h5 h6 hd hq0 hr0 hn h1 k1 k2 k6 z6 z8 z12 z13 z14; omega
  have t1 : IntKind.u64.wrap ((u : Int).tdiv 3200000000) = (q1 : Int) := u64_quo u 3200000000 q1 hq1 (Nat.lt_trans k4 (by decide))
  have t2 : IntKind.u64.wrap ((q1 : Int) * 3200000000) = ((q1 * 3200000000 : Nat) : Int) := u64_mul q1 3200000000 z3
  have t3 : IntKind.u64.wrap ((u : Int) - ((q1 * 3200000000 : Nat) : Int)) = (r1 : Int) := u64_less u _ r1 z4 (Nat.lt_trans h3 (by decide))
  have t4 : IntKind.u64.wrap (4294967296 * (r1 : Int)) = ((r1 * 4294967296 : Nat) : Int) := u64_mul' r1 4294967296 z5
  have t5 : IntKind.u64.wrap (((r1 * 4294967296 : Nat) : Int) + ((v * 32 : Nat) : Int)) = (d : Int) := u64_plus _ _ d hd.symm d64
  have t6 : IntKind.u64.wrap ((u : Int) * 4294967296) = ((u * 4294967296 % 18446744073709551616 : Nat) : Int) := u64_mulmod u 4294967296
  have t7 : IntKind.u64.wrap (((u * 4294967296 % 18446744073709551616 : Nat) : Int) + ((v * 32 : Nat) : Int)) = (((u * 4294967296 + v * 32) % 18446744073709551616 : Nat) : Int) := u64_plusmod _ _
  have t8 : IntKind.u64.wrap ((q1 : Int) * 13743895347200000000) = ((q1 * 13743895347200000000 % 18446744073709551616 : Nat) : Int) := u64_mulmod q1 13743895347200000000
  have t9 := u64_sub (u * 4294967296 + v * 32) (q1 * 13743895347200000000) d z6 d64
  have s1 : IntKind.u64.wrap ((d : Int).tdiv 3200000000) = (q0 : Int) := u64_quo d 3200000000 q0 hq0 (Nat.lt_trans k5 (by decide))
  have s2 : IntKind.u64.wrap ((q0 : Int) * 3200000000) = ((q0 * 3200000000 : Nat) : Int) := u64_mul q0 3200000000 z7
  have s3 : IntKind.u64.wrap ((d : Int) - ((q0 * 3200000000 : Nat) : Int)) = (r0 : Int) := u64_less d _ r0 z8 (Nat.lt_trans h6 (by decide))
  have s4 : IntKind.u64.wrap (4294967296 * (r0 : Int)) = ((r0 * 4294967296 : Nat) : Int) := u64_mul' r0 4294967296 z9
  have s5 : IntKind.u64.wrap ((q1 : Int) * 4294967296) = ((q1 * 4294967296 : Nat) : Int) := u64_mul q1 4294967296 z10
  have s6 : IntKind.u64.wrap (((q1 * 4294967296 : Nat) : Int) + (q0 : Int)) = ((q1 * 4294967296 + q0 : Nat) : Int) := u64_plus _ _ _ rfl z11
  have s7 : IntKind.u64.wrap ((d : Int) * 4294967296) = ((d * 4294967296 % 18446744073709551616 : Nat) : Int) := u64_mulmod d 4294967296
  have s8 : IntKind.u64.wrap ((q0 : Int) * 13743895347200000000) = ((q0 * 13743895347200000000 % 18446744073709551616 : Nat) : Int) := u64_mulmod q0 13743895347200000000
  have s9 := u64_sub (d * 4294967296) (q0 * 13743895347200000000) (r0 * 4294967296) z12 z9
  have e4 : ((v * 137438953472 : Nat) : Int) / 4294967296 = ((v * 32 : Nat) : Int) := by rw [← z13]; exact (Int.natCast_ediv _ _).symm
  have s10 : ((r0 * 4294967296 : Nat) : Int) / 137438953472 = ((r0 / 32 : Nat) : Int) := by rw [← z14]; exact (Int.natCast_ediv _ _).symm
  have y0 : ¬ (d : Int) < 0 := Int.not_lt.2 (Int.natCast_nonneg d)
  have y1 : ¬ ((r0 * 4294967296 : Nat) : Int) < 0 := Int.not_lt.2 (Int.natCast_nonneg _)
  have w1 := u64_of (r0 * 4294967296) z9
  have w2 := u64_of (d * 4294967296 % 18446744073709551616) (Nat.mod_lt _ (by decide))
  clear z1 z2 z3 z4 z5 z6 z7 z8 z9 z10 z11 z12 z13 z14 k1 k2 k3 k4 k5 k6
  exact (Div_road hi lo u _ ((v * 32 : Nat) : Int) q1 _ r1 _ d _ _ _ d q0 _ r0 _ _ _ _ _ _ _ h0 hh (by kernel_rfl) e2 hV e4 hm t1 t2 t3 c1 t4 t5 y0 t6 t7 t8 t9 s1 s2 s3 c0 s4 w1 y1 s5 s6 s7 w2 s8 s9 s10 w).mono fun e w' ⟨h1, h2⟩ => ⟨h1, by rw [h2]; exact Below.refl _ _⟩

theorem Div64_any (hi lo : Nat) (hh : hi < 100000000) (hl : lo < 18446744073709551616) (w : World) :
    Calls Try.prog 35 #[.int .u64 hi, .int .u64 lo, .int .u64 100000000] w fun e w' => e = .returned (.tuple #[.int .u64 (((hi * 18446744073709551616 + lo) / 100000000 : Nat) : Int), .int .u64 (((hi * 18446744073709551616 + lo) % 100000000 : Nat) : Int)]) ∧ Below w.heap.size w w' := by
  rcases Nat.eq_zero_or_pos hi with h0 | h0
  · subst h0
    rw [Nat.zero_mul, Nat.zero_add]
    exact Div64_0 lo hl w
  · have e2 := orN hi lo (by omega) hl
    have hV : IntKind.u64.wrap ((lo : Int) * 137438953472) = ((lo % 134217728 * 137438953472 : Nat) : Int) := by rw [IntKind.wrap_u64]; omega
    exact Div64_pos hi lo _ _ (lo % 134217728) _ _ _ _ _ (by omega) (by omega) e2 hV (Nat.mod_lt _ (by decide)) rfl rfl rfl rfl rfl (by omega) (by omega) w
end Go.Proofs.Ytogghmmokifnnaa
