/- Walks: the check out of its bytes. -/
import Derived.Test.YtipijjlajhofkaaW12
namespace Go.Proofs.Ytipijjlajhofkaa
open Go.RowKit

theorem or_join32 (X b k : Nat) (hk : k < 4) (hX : X < 2 ^ (8 * k)) (hb : b < 256) :
    bits .or .u32 (X : Int) ((b * 2 ^ (8 * k) : Nat) : Int) = ((X + b * 2 ^ (8 * k) : Nat) : Int) := by
  have hs : b * 2 ^ (8 * k) + X < 4294967296 := by
    have h1 : (b + 1) * 2 ^ (8 * k) ≤ 256 * 2 ^ (8 * k) := Nat.mul_le_mul_right _ (by omega)
    have h2 : 256 * 2 ^ (8 * k) ≤ 2 ^ 32 := by
      rw [show (256 : Nat) = 2 ^ 8 from rfl, ← Nat.pow_add]
      exact Nat.pow_le_pow_right (by omega) (by omega)
    rw [Nat.add_mul, Nat.one_mul] at h1
    omega
  rw [u32_or_nat _ _ (by omega) (by omega), Nat.or_comm, Nat.mul_comm b, ← Nat.two_pow_add_eq_or_of_lt hX, Nat.add_comm]

theorem small32 (b k : Nat) (hk : k < 4) (hb : b < 256) : (b : Int) * 2 ^ (8 * k) % 4294967296 = ((b * 2 ^ (8 * k) : Nat) : Int) := by
  have hs : b * 2 ^ (8 * k) < 4294967296 := by
    have h1 : (b + 1) * 2 ^ (8 * k) ≤ 256 * 2 ^ (8 * k) := Nat.mul_le_mul_right _ (by omega)
    have h2 : 256 * 2 ^ (8 * k) ≤ 2 ^ 32 := by
      rw [show (256 : Nat) = 2 ^ 8 from rfl, ← Nat.pow_add]
      exact Nat.pow_le_pow_right (by omega) (by omega)
    have h3 : 0 < 2 ^ (8 * k) := Nat.pow_pos (by omega)
    rw [Nat.add_mul, Nat.one_mul] at h1
    omega
  have e : (b : Int) * 2 ^ (8 * k) = ((b * 2 ^ (8 * k) : Nat) : Int) := by rw [Int.natCast_mul, Int.natCast_pow]; rfl
  rw [e]
  omega

set_option maxHeartbeats 1000000 in
theorem get_u32 (p : Addr) (l : List Nat) (n c : Nat) (w : World) (hn : l.length = n) (hr : Rd w w.heap.size (some p) l) (hl : (4 : Int) ≤ n) :
    Calls Try.prog 24 #[.slice (some p) n c, .int .i64 4] w fun e w' => e = .returned (.int .u32 (num (l.take 4))) ∧ w = w' := by
  have HR := Lib.hid hr
  clear hr
  go_enter Try.func24, Try.ntmps24
  go_wp2
  go_loop [5, 8] (fun x i => ∃ k : Nat, k ≤ 4 ∧ i = .int .i64 k ∧ x = .int .u32 (num (l.take k))) (fun _ i => 4 - (intOf i).toNat)
  case atStart => exact ⟨0, by omega, rfl, val_int (by rw [List.take_zero]; rfl)⟩
  case round =>
    obtain ⟨k, hk, rfl, rfl⟩ := hrel
    by_cases hlt : k < 4
    · obtain ⟨q, e, _, hc, hb⟩ := HR.out.get (show k < l.length by omega)
      cases e
      have hj := or_join32 (num (l.take k)) l[k] k hlt (num_take_lt l k (by omega) HR.out.1) hb
      rw [← num_take l k (by omega)] at hj
      rw [← small32 l[k] k hlt hb] at hj
      have HJ := Lib.hid hj
      clear hj
      generalize l[k] = b at *
      generalize ((num (l.take k) : Nat) : Int) = x at *
      go_wp2
      go_round
      case rel => exact ⟨k + 1, by omega, by simp, val_int HJ.out⟩
      case measure => simp [intOf]; omega
    · obtain rfl : k = 4 := by omega
      go_wp2
      go_ret
      exact ⟨rfl, rfl⟩

end Go.Proofs.Ytipijjlajhofkaa
