/- Walks: spread, gather, code, mix. -/
import Derived.Test.YthinjaddebfdhaaW1
namespace Go.Proofs.Ythinjaddebfdhaa
open Go.RowKit

abbrev maskV : Value := .agg #[.int .u64 281470681808895, .int .u64 71777214294589695, .int .u64 1085102592571150095, .int .u64 3689348814741910323, .int .u64 6148914691236517205]
theorem ix0 (w : World) : (Instr.index 65 maskV (.int .i64 0)).run Try.prog w = .ok (.int .u64 281470681808895) w := by kernel_rfl
theorem ix1 (w : World) : (Instr.index 65 maskV (.int .i64 1)).run Try.prog w = .ok (.int .u64 71777214294589695) w := by kernel_rfl
theorem ix2 (w : World) : (Instr.index 65 maskV (.int .i64 2)).run Try.prog w = .ok (.int .u64 1085102592571150095) w := by kernel_rfl
theorem ix3 (w : World) : (Instr.index 65 maskV (.int .i64 3)).run Try.prog w = .ok (.int .u64 3689348814741910323) w := by kernel_rfl
theorem ix4 (w : World) : (Instr.index 65 maskV (.int .i64 4)).run Try.prog w = .ok (.int .u64 6148914691236517205) w := by kernel_rfl

/-- One step as the walk spells it. -/
def spI (s m x : Int) : Int := bits .and .u64 (bits .or .u64 x (IntKind.u64.wrap (x * s))) m
theorem spI_nat (k m n : Nat) (hm : m < 18446744073709551616) (hn : n < 18446744073709551616) : spI ((2 ^ k : Nat) : Int) m n = ((M.stp k m n : Nat) : Int) := by
  unfold spI M.stp
  have e : IntKind.u64.wrap ((n : Int) * ((2 ^ k : Nat) : Int)) = ((n <<< k % 18446744073709551616 : Nat) : Int) := by
    rw [IntKind.wrap_u64, Nat.shiftLeft_eq]; simp
  have hlt : n <<< k % 18446744073709551616 < 18446744073709551616 := Nat.mod_lt _ (by decide)
  have ho : (n ||| n <<< k % 18446744073709551616) < 2 ^ 64 := Nat.or_lt_two_pow (by omega) (by omega)
  rw [e, bits_or_u64_nat _ _ hn hlt, bits_and_u64_nat _ _ (by omega) hm]
  congr 1
  apply Nat.eq_of_testBit_eq; intro i
  simp only [Nat.testBit_and, Nat.testBit_or]
  by_cases hi : i < 64
  · rw [show (18446744073709551616 : Nat) = 2 ^ 64 from rfl, Nat.testBit_mod_two_pow]; simp [hi]
  · have : m.testBit i = false := Nat.testBit_lt_two_pow (Nat.lt_of_lt_of_le hm (by rw [show (18446744073709551616 : Nat) = 2 ^ 64 from rfl]; exact Nat.pow_le_pow_right (by decide) (by omega)))
    simp [this]
theorem stp_lt (k m n : Nat) (hm : m < 18446744073709551616) : M.stp k m n < 18446744073709551616 := Nat.lt_of_le_of_lt Nat.and_le_right hm

theorem spread_spI (n : Nat) (hn : n < 18446744073709551616) :
    spI 2 6148914691236517205 (spI 4 3689348814741910323 (spI 16 1085102592571150095 (spI 256 71777214294589695 (spI 65536 281470681808895 n)))) = ((M.spread n : Nat) : Int) := by
  have h0 := spI_nat 16 M.m0 n (by decide) hn
  have h1 := spI_nat 8 M.m1 (M.stp 16 M.m0 n) (by decide) (stp_lt _ _ _ (by decide))
  have h2 := spI_nat 4 M.m2 (M.stp 8 M.m1 (M.stp 16 M.m0 n)) (by decide) (stp_lt _ _ _ (by decide))
  have h3 := spI_nat 2 M.m3 (M.stp 4 M.m2 (M.stp 8 M.m1 (M.stp 16 M.m0 n))) (by decide) (stp_lt _ _ _ (by decide))
  have h4 := spI_nat 1 M.m4 (M.stp 2 M.m3 (M.stp 4 M.m2 (M.stp 8 M.m1 (M.stp 16 M.m0 n)))) (by decide) (stp_lt _ _ _ (by decide))
  unfold M.spread
  rw [← h4, ← h3, ← h2, ← h1, ← h0]
  rfl


theorem spread_any (n : Int) (hn : 0 ≤ n) (hn' : n < 18446744073709551616) (w : World) :
    Calls Try.prog 34 #[.int .u64 n] w fun e w' => e = .returned (.int .u64 ((M.spread n.toNat : Nat) : Int)) ∧ Below w.heap.size w w' := by
  have hs := spread_spI n.toNat (by omega)
  rw [Int.toNat_of_nonneg hn] at hs
  have HS := Lib.hid hs
  clear hs hn hn'
  have i0 := ix0
  have i1 := ix1
  have i2 := ix2
  have i3 := ix3
  have i4 := ix4
  go_enter Try.func34, Try.ntmps34
  go_wp2
  go_rounds 6
  go_ret
  exact ⟨by rw [← HS.out]; rfl, by go_grown⟩

end Go.Proofs.Ythinjaddebfdhaa
