/- Walks: the reference's Place. -/
import Derived.Test.YthinjaddebfdhaaW5
namespace Go.Proofs.Ythinjaddebfdhaa
open Go.RowKit

/-- What the reference's Place has gathered after k rounds. -/
def plcAt (N k n : Nat) (x y b : Int) : Prop := n = N / 4 ^ k ∧ x = M.gat k (N / 2) ∧ y = M.gat k N ∧ b = ((2 ^ k : Nat) : Int)

theorem gat_top : ∀ (k n : Nat), M.gat (k + 1) n = M.gat k n + 2 ^ k * (n / 4 ^ k % 2)
  | 0, n => by simp [M.gat]
  | k + 1, n => by
    have ih := gat_top k (n / 4)
    rw [M.gat, ih]
    have e : n / 4 / 4 ^ k = n / 4 ^ (k + 1) := by rw [Nat.pow_succ, Nat.div_div_eq_div_mul, Nat.mul_comm 4]
    rw [e]
    simp only [M.gat, Nat.pow_succ, Nat.mul_add]
    rw [← Nat.mul_assoc, Nat.mul_comm 2 (2 ^ k)]
    omega
theorem pow2_le : ∀ k : Nat, k < 32 → 2 ^ k ≤ 2147483648 := by decide
theorem div4 (N k : Nat) : N / 4 ^ (k + 1) = N / 4 ^ k / 2 / 2 := by
  rw [Nat.pow_succ, Nat.div_div_eq_div_mul, Nat.div_div_eq_div_mul]

theorem pow2_dbl (k : Nat) (hk : k < 32) : 2 ^ (k + 1) ≤ 4294967296 := by
  have := pow2_le k hk
  rw [Nat.pow_succ]; omega
theorem bit_mul (b m : Nat) : (b : Int) * ((m : Int) % 2) = ((b * (m % 2) : Nat) : Int) := by
  rw [Int.natCast_mul]; simp
theorem bit_le (b m : Nat) : b * (m % 2) ≤ b := by
  rcases Nat.mod_two_eq_zero_or_one m with h | h <;> rw [h] <;> omega

/-- One round of the reference's Place. -/
theorem plc_step (N k n : Nat) (x y b : Int) (hk : k < 32) (R : plcAt N k n x y b) :
    plcAt N (k + 1) (n / 2 / 2) (wrap64 (x + wrap64 (b * ((n : Int) / 2 % 2)))) (wrap64 (y + wrap64 (b * ((n : Int) % 2)))) (b * 2) ∧
    (0 ≤ wrap64 (x + wrap64 (b * ((n : Int) / 2 % 2))) ∧ wrap64 (x + wrap64 (b * ((n : Int) / 2 % 2))) ≤ 4294967296) ∧
    (0 ≤ wrap64 (y + wrap64 (b * ((n : Int) % 2))) ∧ wrap64 (y + wrap64 (b * ((n : Int) % 2))) ≤ 4294967296) ∧ (0 ≤ b * 2 ∧ b * 2 ≤ 4294967296) := by
  obtain ⟨h1, h2, h3, h4⟩ := R
  have hp := pow2_le k hk
  have hp' := pow2_dbl k hk
  have t1 := gat_top k (N / 2)
  have t2 := gat_top k N
  have l1 := M.gat_lt (k + 1) (N / 2)
  have l2 := M.gat_lt (k + 1) N
  have d4 := div4 N k
  have e2 : N / 2 / 4 ^ k = n / 2 := by rw [h1, Nat.div_div_eq_div_mul, Nat.mul_comm, ← Nat.div_div_eq_div_mul]
  rw [e2] at t1
  rw [← h1] at t2 d4
  have m1 : b * ((n : Int) / 2 % 2) = ((2 ^ k * (n / 2 % 2) : Nat) : Int) := by
    rw [h4, ← bit_mul]; rfl
  have m2 : b * ((n : Int) % 2) = ((2 ^ k * (n % 2) : Nat) : Int) := by rw [h4, ← bit_mul]
  have b1 := bit_le (2 ^ k) (n / 2)
  have b2 := bit_le (2 ^ k) n
  have w1 : wrap64 (x + wrap64 (b * ((n : Int) / 2 % 2))) = ((M.gat (k + 1) (N / 2) : Nat) : Int) := by
    rw [m1, h2]
    generalize 2 ^ k * (n / 2 % 2) = q at *
    rw [IntWalk.wrap64_in (q : Int) (by omega), IntWalk.wrap64_in _ (by omega), t1]
    simp
  have w2 : wrap64 (y + wrap64 (b * ((n : Int) % 2))) = ((M.gat (k + 1) N : Nat) : Int) := by
    rw [m2, h3]
    generalize 2 ^ k * (n % 2) = q at *
    rw [IntWalk.wrap64_in (q : Int) (by omega), IntWalk.wrap64_in _ (by omega), t2]
    simp
  rw [w1, w2]
  refine ⟨⟨d4.symm, rfl, rfl, by rw [h4, Nat.pow_succ]; simp⟩, by omega, by omega, ?_⟩
  rw [h4]; omega

theorem refPlace_yes (N : Nat) (hn : N < 18446744073709551616) (w : World) (h : mayB (placeX N) (placeY N) = true) :
    Calls Try.prog 11 #[.int .u64 N] w fun e w' => e = .returned (.tuple #[.agg #[.int .i64 (placeX N), .int .i64 (placeY N)], .bool true]) ∧ Below w.heap.size w w' := by
  have H := Lib.hid h
  clear h
  go_enter Try.func11, Try.ntmps11
  go_wp2
  go_loop [0, 4, 5, 6, 7] (fun vn vx vy vb vi => ∃ (k n : Nat) (x y b : Int), k ≤ 32 ∧ vi = .int .i64 k ∧ vn = .int .u64 n ∧ vx = .int .i64 x ∧ vy = .int .i64 y ∧ vb = .int .i64 b ∧ plcAt N k n x y b ∧ 0 ≤ x ∧ x ≤ 4294967296 ∧ 0 ≤ y ∧ y ≤ 4294967296 ∧ 0 ≤ b ∧ b ≤ 4294967296 ∧ n ≤ 18446744073709551615) (fun _ _ _ _ i => 32 - (intOf i).toNat)
  case atStart => exact ⟨0, N, 0, 0, 1, by omega, rfl, rfl, rfl, rfl, rfl, by simp [plcAt, M.gat], by omega, by omega, by omega, by omega, by omega, by omega, by omega⟩
  case round =>
    obtain ⟨k, n, x, y, b, hk, rfl, rfl, rfl, rfl, rfl, R, x0, x1, y0, y1, b0, b1, n1⟩ := hrel
    by_cases hlt : k < 32
    · have ht : decide ((k : Int) < 32) = true := by simp; omega
      go_wp2
      go_round
      case rel =>
        obtain ⟨s1, s2, s3, s4⟩ := plc_step N k n x y b hlt R
        refine ⟨k + 1, n / 2 / 2, _, _, _, by omega, by go_num, by go_num, rfl, rfl, rfl, s1, ?_, ?_, ?_, ?_, ?_, ?_, by omega⟩
        · exact s2.1
        · exact s2.2
        · exact s3.1
        · exact s3.2
        · exact s4.1
        · exact s4.2
      case measure => simp [intOf]; omega
    · obtain rfl : k = 32 := by omega
      obtain ⟨-, r1, r2, -⟩ := R
      have hx : placeX N = x - 1800000000 := by rw [r1]; rfl
      have hy : placeY N = y - 900000000 := by rw [r2]; rfl
      rw [hx, hy] at H
      have HX := Lib.hid hx
      have HY := Lib.hid hy
      clear hx hy r1 r2
      go_wp2_with fail
      refine (refMay_any _ _ _).mono ?_
      rintro e w3 ⟨rfl, hb3⟩
      have k3 := ((Blk.new w #[.int .i64 0, .int .i64 0] 23).alloc (.cells #[.int .i64 (x - 1800000000), .int .i64 (y - 900000000)] 23)).grew hb3
      have l3 := (Blk.new (w.alloc (.cells #[.int .i64 0, .int .i64 0] 23)) #[.int .i64 (x - 1800000000), .int .i64 (y - 900000000)] 23).grew hb3
      have g3 := grow (grow_alloc (grow_alloc (Below.refl _ w) _) _) hb3
      rw [World.size_alloc] at l3
      have kf := k3.two
      have lf := l3.two
      rw [H.out]
      go_wp2_with fail
      refine bodyPost_ret (v := .tuple #[.agg #[.int .i64 (x - 1800000000), .int .i64 (y - 900000000)], .bool true]) ?_ rfl ⟨by rw [HX.out, HY.out], ?_⟩
      · simp [results, Try.results11, go_sem, kf]
      · exact (g3.setCell (Nat.le_refl _) _).setCell (Nat.le_refl _) _

theorem refPlace_no (N : Nat) (hn : N < 18446744073709551616) (w : World) (h : mayB (placeX N) (placeY N) = false) :
    Calls Try.prog 11 #[.int .u64 N] w fun e w' => e = .returned (.tuple #[.agg #[.int .i64 0, .int .i64 0], .bool false]) ∧ Below w.heap.size w w' := by
  have H := Lib.hid h
  clear h
  go_enter Try.func11, Try.ntmps11
  go_wp2
  go_loop [0, 4, 5, 6, 7] (fun vn vx vy vb vi => ∃ (k n : Nat) (x y b : Int), k ≤ 32 ∧ vi = .int .i64 k ∧ vn = .int .u64 n ∧ vx = .int .i64 x ∧ vy = .int .i64 y ∧ vb = .int .i64 b ∧ plcAt N k n x y b ∧ 0 ≤ x ∧ x ≤ 4294967296 ∧ 0 ≤ y ∧ y ≤ 4294967296 ∧ 0 ≤ b ∧ b ≤ 4294967296 ∧ n ≤ 18446744073709551615) (fun _ _ _ _ i => 32 - (intOf i).toNat)
  case atStart => exact ⟨0, N, 0, 0, 1, by omega, rfl, rfl, rfl, rfl, rfl, by simp [plcAt, M.gat], by omega, by omega, by omega, by omega, by omega, by omega, by omega⟩
  case round =>
    obtain ⟨k, n, x, y, b, hk, rfl, rfl, rfl, rfl, rfl, R, x0, x1, y0, y1, b0, b1, n1⟩ := hrel
    by_cases hlt : k < 32
    · have ht : decide ((k : Int) < 32) = true := by simp; omega
      go_wp2
      go_round
      case rel =>
        obtain ⟨s1, s2, s3, s4⟩ := plc_step N k n x y b hlt R
        refine ⟨k + 1, n / 2 / 2, _, _, _, by omega, by go_num, by go_num, rfl, rfl, rfl, s1, ?_, ?_, ?_, ?_, ?_, ?_, by omega⟩
        · exact s2.1
        · exact s2.2
        · exact s3.1
        · exact s3.2
        · exact s4.1
        · exact s4.2
      case measure => simp [intOf]; omega
    · obtain rfl : k = 32 := by omega
      obtain ⟨-, r1, r2, -⟩ := R
      have hx : placeX N = x - 1800000000 := by rw [r1]; rfl
      have hy : placeY N = y - 900000000 := by rw [r2]; rfl
      rw [hx, hy] at H
      clear hx hy r1 r2
      go_wp2_with fail
      refine (refMay_any _ _ _).mono ?_
      rintro e w3 ⟨rfl, hb3⟩
      have k3 := ((Blk.new w #[.int .i64 0, .int .i64 0] 23).alloc (.cells #[.int .i64 (x - 1800000000), .int .i64 (y - 900000000)] 23)).grew hb3
      have g3 := grow (grow_alloc (grow_alloc (Below.refl _ w) _) _) hb3
      have kf := k3.two
      rw [H.out]
      go_wp2_with fail
      refine bodyPost_ret (v := .tuple #[.agg #[.int .i64 0, .int .i64 0], .bool false]) ?_ rfl ⟨rfl, ?_⟩
      · simp [results, Try.results11, go_sem, kf]
      · exact (g3.setCell (Nat.le_refl _) _).setCell (Nat.le_refl _) _

end Go.Proofs.Ythinjaddebfdhaa
