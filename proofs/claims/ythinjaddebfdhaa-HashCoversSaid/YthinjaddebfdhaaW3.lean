/- Walks: gather, code, mix. -/
import Derived.Test.YthinjaddebfdhaaW2
namespace Go.Proofs.Ythinjaddebfdhaa
open Go.RowKit

def gsI (d m x : Int) : Int := bits .and .u64 (bits .or .u64 x (x / d)) m
theorem gsI_nat (k m n : Nat) (hm : m < 18446744073709551616) (hn : n < 18446744073709551616) : gsI ((2 ^ k : Nat) : Int) m n = ((M.gst k m n : Nat) : Int) := by
  unfold gsI M.gst
  have e : (n : Int) / ((2 ^ k : Nat) : Int) = ((n >>> k : Nat) : Int) := by
    rw [Nat.shiftRight_eq_div_pow]; simp
  have hlt : n >>> k < 18446744073709551616 := by rw [Nat.shiftRight_eq_div_pow]; exact Nat.lt_of_le_of_lt (Nat.div_le_self _ _) hn
  have ho : (n ||| n >>> k) < 2 ^ 64 := Nat.or_lt_two_pow (by omega) (by omega)
  rw [e, bits_or_u64_nat _ _ hn hlt, bits_and_u64_nat _ _ (by omega) hm]
theorem gst_lt (k m n : Nat) (hm : m < 18446744073709551616) : M.gst k m n < 18446744073709551616 := Nat.lt_of_le_of_lt Nat.and_le_right hm

theorem gather_gsI (n : Nat) (hn : n < 18446744073709551616) :
    gsI 65536 4294967295 (gsI 256 281470681808895 (gsI 16 71777214294589695 (gsI 4 1085102592571150095 (gsI 2 3689348814741910323 (bits .and .u64 n 6148914691236517205))))) = ((M.gather n : Nat) : Int) := by
  have hm : n &&& M.m4 < 18446744073709551616 := Nat.lt_of_le_of_lt Nat.and_le_right (by decide)
  have hz : bits .and .u64 n 6148914691236517205 = ((n &&& M.m4 : Nat) : Int) := bits_and_u64_nat n M.m4 hn (by decide)
  have h0 := gsI_nat 1 M.m3 (n &&& M.m4) (by decide) hm
  have h1 := gsI_nat 2 M.m2 (M.gst 1 M.m3 (n &&& M.m4)) (by decide) (gst_lt _ _ _ (by decide))
  have h2 := gsI_nat 4 M.m1 (M.gst 2 M.m2 (M.gst 1 M.m3 (n &&& M.m4))) (by decide) (gst_lt _ _ _ (by decide))
  have h3 := gsI_nat 8 M.m0 (M.gst 4 M.m1 (M.gst 2 M.m2 (M.gst 1 M.m3 (n &&& M.m4)))) (by decide) (gst_lt _ _ _ (by decide))
  have h4 := gsI_nat 16 4294967295 (M.gst 8 M.m0 (M.gst 4 M.m1 (M.gst 2 M.m2 (M.gst 1 M.m3 (n &&& M.m4))))) (by decide) (gst_lt _ _ _ (by decide))
  unfold M.gather
  rw [← h4, ← h3, ← h2, ← h1, ← h0, ← hz]
  rfl

theorem gather_any (n : Int) (hn : 0 ≤ n) (hn' : n < 18446744073709551616) (w : World) :
    Calls Try.prog 21 #[.int .u64 n] w fun e w' => e = .returned (.int .u64 ((M.gather n.toNat : Nat) : Int)) ∧ Below w.heap.size w w' := by
  have hs := gather_gsI n.toNat (by omega)
  rw [Int.toNat_of_nonneg hn] at hs
  have HS := Lib.hid hs
  clear hs hn hn'
  go_enter Try.func21, Try.ntmps21
  go_wp2
  refine wp_loop_rounds 5 ?_
  rw [rounds_succ]
  go_wp2
  go_quiet (fail)
  go_wp2
  rw [rounds_succ]
  go_wp2
  go_quiet (fail)
  go_wp2
  rw [rounds_succ]
  go_wp2
  go_quiet (fail)
  go_wp2
  rw [rounds_succ]
  go_wp2
  go_quiet (fail)
  go_wp2
  rw [rounds_succ]
  go_wp2
  go_ret
  exact ⟨by rw [← HS.out]; rfl, by refine below_drewN ?_ _; go_grown⟩

theorem pow4_le : ∀ k : Nat, k < 32 → 4 ^ k ≤ 4611686018427387904 := by decide

/-- One round's sums, with no wrap. -/
theorem mixS (x y p out : Nat) (ho : out < p) (h4 : p ≤ 4611686018427387904) :
    IntKind.u64.wrap (IntKind.u64.wrap ((out : Int) + IntKind.u64.wrap ((p : Int) * ((y : Int) % 2))) + IntKind.u64.wrap (IntKind.u64.wrap ((p : Int) * 2) * ((x : Int) % 2))) = ((out + p * (y % 2) + 2 * p * (x % 2) : Nat) : Int) := by
  simp only [IntKind.wrap_u64]
  rcases Nat.mod_two_eq_zero_or_one x with h | h <;> rcases Nat.mod_two_eq_zero_or_one y with h' | h' <;> rw [h, h'] <;>
    rw [show ((x : Int) % 2) = ((x % 2 : Nat) : Int) by omega, show ((y : Int) % 2) = ((y % 2 : Nat) : Int) by omega, h, h'] <;> omega
theorem bitS (p : Nat) : IntKind.u64.wrap (IntKind.u64.wrap ((p : Int) * 2) * 2) = ((p * 4 % 18446744073709551616 : Nat) : Int) := by
  simp only [IntKind.wrap_u64]
  omega
theorem quoS (X x k : Nat) (h : x = X / 2 ^ k) (hX : X < 18446744073709551616) : IntKind.u64.wrap ((x : Int) / 2) = ((x / 2 : Nat) : Int) := by
  have : X / 2 ^ k ≤ X := Nat.div_le_self _ _
  rw [IntKind.wrap_u64]
  omega

def mixAt (X Y k x y o b : Nat) : Prop := x = X / 2 ^ k ∧ y = Y / 2 ^ k ∧ o = M.mixG k X Y ∧ b = 4 ^ k % 18446744073709551616

theorem code_any (x y : Int) (hx : 0 ≤ x) (hx' : x < 4294967296) (hy : 0 ≤ y) (hy' : y < 4294967296) (w : World) :
    Calls Try.prog 18 #[.int .u64 x, .int .u64 y] w fun e w' => e = .returned (.int .u64 ((2 * M.spr 32 x.toNat + M.spr 32 y.toNat : Nat) : Int)) ∧ Below w.heap.size w w' := by
  go_enter Try.func18, Try.ntmps18
  go_wp2_with fail
  refine (spread_any x hx (by omega) _).mono ?_
  rintro e w1 ⟨rfl, hb1⟩
  go_wp2_with fail
  refine (spread_any y hy (by omega) _).mono ?_
  rintro e w2 ⟨rfl, hb2⟩
  go_wp2_with fail
  go_ret
  refine ⟨ret_int ?_, hb1.trans (hb2.mono hb1.size)⟩
  have h1 := M.spread_eq x.toNat (by omega)
  have h2 := M.spread_eq y.toNat (by omega)
  have l1 := M.spr_lt3 32 x.toNat
  have l2 := M.spr_lt3 32 y.toNat
  rw [h1, h2]
  have e : IntKind.u64.wrap (((M.spr 32 x.toNat : Nat) : Int) * 2) = ((2 * M.spr 32 x.toNat : Nat) : Int) := by rw [IntKind.wrap_u64]; omega
  rw [e, bits_or_u64_nat _ _ (by omega) (by omega), M.or_add]

theorem mix_any (X Y : Nat) (n : Nat) (hn : n ≤ 32) (hX : X < 18446744073709551616) (hY : Y < 18446744073709551616) (w : World) :
    Calls Try.prog 20 #[.int .u64 X, .int .u64 Y, .int .i64 n] w fun e w' => e = .returned (.int .u64 ((2 * M.spr n X + M.spr n Y : Nat) : Int)) ∧ w = w' := by
  rw [← M.mixG_eq]
  go_enter Try.func20, Try.ntmps20
  go_wp2
  go_loop [0, 1, 7, 8, 9] (fun vx vy vo vb vi => ∃ k x y o b : Nat, k ≤ n ∧ vi = .int .i64 k ∧ vx = .int .u64 x ∧ vy = .int .u64 y ∧ vo = .int .u64 o ∧ vb = .int .u64 b ∧ mixAt X Y k x y o b) (fun _ _ _ _ i => n - (intOf i).toNat)
  case atStart => exact ⟨0, X, Y, 0, 1, by omega, rfl, rfl, rfl, rfl, rfl, by simp [mixAt, M.mixG]⟩
  case round =>
    obtain ⟨k, x, y, o, b, hk, rfl, rfl, rfl, rfl, rfl, H⟩ := hrel
    by_cases hlt : k < n
    · go_wp2
      go_round
      case rel =>
        obtain ⟨h1, h2, h3, h4⟩ := H
        have hp := pow4_le k (by omega)
        rw [Nat.mod_eq_of_lt (by omega)] at h4
        have hm := M.mixG_lt k X Y
        refine ⟨k + 1, x / 2, y / 2, _, b * 4 % 18446744073709551616, by omega, by go_num, val_int ?_, val_int ?_, val_int (mixS x y b o (by omega) (by omega)), val_int (bitS b), ?_⟩
        · exact quoS X x k h1 hX
        · exact quoS Y y k h2 hY
        · refine ⟨?_, ?_, ?_, ?_⟩
          · rw [h1, Nat.div_div_eq_div_mul, Nat.pow_succ]
          · rw [h2, Nat.div_div_eq_div_mul, Nat.pow_succ]
          · rw [M.mixG, h1, h2, h3, h4]
          · rw [h4, Nat.pow_succ]
      case measure => simp [intOf]; omega
    · go_wp2
      go_ret
      obtain rfl : k = n := by omega
      exact ⟨ret_int (by rw [H.2.2.1]), rfl⟩

end Go.Proofs.Ythinjaddebfdhaa
