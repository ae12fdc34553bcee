/- Walk: the reference's Log. -/
import Derived.Test.YthdfelhckjeekaaChecked
import Derived.Test.YthdfelhckjeekaaAid
import Derived.Test.YthdfelhckjeekaaMath
namespace Go.Proofs.Ythdfelhckjeekaa
open Go.RowKit

def rsqAt (X k x o : Nat) : Prop := (M.sqr k X).1 = x ∧ (M.sqr k X).2 = o
theorem rsq_next (X k x o : Nat) (h0 : 1073741824 ≤ X) (h1 : X < 2147483648) (h : rsqAt X k x o) (hk : k < 8) :
    (IntKind.u64.wrap ((x : Int) * (x : Int)) = ((x * x : Nat) : Int) ∧ x * x ≤ 4611686018427387903 ∧ o < 256) ∧
    (x * x / 1073741824 < 2147483648 → rsqAt X (k + 1) (x * x / 1073741824) (o * 2)) ∧
    (2147483648 ≤ x * x / 1073741824 → rsqAt X (k + 1) (x * x / 1073741824 / 2) (o * 2 + 1)) := by
  obtain ⟨r1, r2, r3⟩ := M.sqr_rng k X h0 h1
  rw [h.1] at r1 r2
  rw [h.2] at r3
  have hq := M.sq_lt x r2
  have hp : 2 ^ k ≤ 2 ^ 8 := Nat.pow_le_pow_right (by decide) (by omega)
  have hb : M.bitOf x = x * x / 1073741824 / 2147483648 := rfl
  have hn : M.nextOf x = x * x / 1073741824 / 2 ^ M.bitOf x := rfl
  refine ⟨⟨by rw [IntKind.wrap_u64, ← Int.natCast_mul]; omega, by omega, by omega⟩, fun hl => ?_, fun hg => ?_⟩
  · have e : M.bitOf x = 0 := by omega
    rw [e] at hn
    refine ⟨?_, ?_⟩ <;> simp only [M.sqr, h.1, h.2, e]
    · rw [hn]; simp
    · omega
  · have e : M.bitOf x = 1 := by have := M.bitOf_le x r2; omega
    rw [e] at hn
    refine ⟨?_, ?_⟩ <;> simp only [M.sqr, h.1, h.2, e]
    · rw [hn]
    · omega

set_option maxHeartbeats 4000000 in
theorem rLog_hi (n E X : Nat) (h0 : 0 < n) (h1 : n < 18446744073709551616) (hE : 30 < E) (hE' : E < 64) (hl : 2 ^ E ≤ n) (hu : n < 2 ^ (E + 1)) (hX : n / 2 ^ (E - 30) = X) (hX0 : 1073741824 ≤ X) (hX1 : X < 2147483648) (w : World) :
    Calls Try.prog 9 #[.int .u64 n] w fun e w' => e = .returned (.int .i64 ((E : Int) * 256 + ((M.sqr 8 X).2 : Nat))) ∧ w = w' := by
  have hz : ((n : Int) == 0) = false := by simp; omega
  obtain ⟨u, rfl⟩ : ∃ u, E = u + 30 := ⟨E - 30, by omega⟩
  rw [Nat.add_sub_cancel] at hX
  have hge : ∀ k, k < u → 2147483648 ≤ n / 2 ^ k := fun k hk => by
    refine (Nat.le_div_iff_mul_le (Nat.two_pow_pos _)).2 (Nat.le_trans ?_ hl)
    rw [show (2147483648 : Nat) = 2 ^ 31 from rfl, ← Nat.pow_add]
    exact Nat.pow_le_pow_right (by decide) (by omega)
  have HG := Lib.hid hge
  have HX := Lib.hid hX
  have HL := Lib.hid hl
  have HU := Lib.hid hu
  clear hge hX hl hu
  go_enter Try.func9, Try.ntmps9
  go_wp2
  go_loop [4, 5] (fun vx vu => ∃ k x : Nat, k ≤ u ∧ vx = .int .u64 x ∧ vu = .int .i64 k ∧ x ≤ 18446744073709551615 ∧ Hid (x = n / 2 ^ k)) (fun _ vu => u - (intOf vu).toNat)
  case atStart => exact ⟨0, n, by omega, rfl, rfl, by omega, by simp [Hid]⟩
  case round =>
    obtain ⟨k, x, hk, rfl, rfl, hx, HK⟩ := hrel
    by_cases hlt : k < u
    · have hge : decide ((2147483648 : Int) ≤ (x : Int)) = true := by
        have := HG.out k hlt
        have h2 := HK.out
        simp; omega
      go_wp2
      go_round
      case rel =>
        refine ⟨k + 1, x / 2, by omega, by go_num, by go_num, by omega, ?_⟩
        have h2 := HK.out
        show x / 2 = n / 2 ^ (k + 1)
        rw [h2, Nat.div_div_eq_div_mul, Nat.pow_succ]
      case measure => simp [intOf]; omega
    · obtain rfl : k = u := by omega
      have hxx : x = X := HK.out.trans HX.out
      subst hxx
      have t1 : decide ((2147483648 : Int) ≤ (x : Int)) = false := by simp; omega
      have t2 : decide ((x : Int) < 1073741824) = false := by simp; omega
      have t3 : 0 < k := by omega
      go_wp2
      refine wp_loop_rounds 1 ?_
      rw [rounds_succ]
      go_wp2
      clear t1 t2 t3
      go_loop [6, 7] (fun vd vi => ∃ i : Nat, i ≤ k ∧ vi = .int .i64 i ∧ ∃ d : Nat, vd = .int .u64 d ∧ d ≤ 17179869184 ∧ Hid (d = 2 ^ i)) (fun _ vi => k - (intOf vi).toNat)
      case atStart => exact ⟨0, by omega, rfl, 1, rfl, by omega, rfl⟩
      case round =>
        obtain ⟨i, hi, rfl, d, rfl, hd, HD⟩ := hrel
        by_cases hik : i < k
        · go_wp2
          go_round
          case rel =>
            have hd2 : 2 ^ (i + 1) ≤ 2 ^ 34 := Nat.pow_le_pow_right (by decide) (by omega)
            have hdd := HD.out
            refine ⟨i + 1, by omega, by go_num, d * 2, by go_num, ?_, ?_⟩
            · rw [hdd, ← Nat.pow_succ]; exact hd2
            · show d * 2 = 2 ^ (i + 1)
              rw [hdd, Nat.pow_succ]
          case measure => simp [intOf]; omega
        · obtain rfl : i = k := by omega
          have hd1 : 1 ≤ d := by rw [HD.out]; exact Nat.two_pow_pos i
          have hq : (n : Int) / (d : Int) = (x : Int) := by rw [← Int.natCast_ediv, HD.out, HX.out]
          go_wp2
          go_loop [4, 8, 9] (fun vx vo vi => ∃ j x' o : Nat, j ≤ 8 ∧ vi = .int .i64 j ∧ vx = .int .u64 x' ∧ vo = .int .i64 o ∧ rsqAt x j x' o) (fun _ _ vi => 8 - (intOf vi).toNat)
          case atStart => exact ⟨0, x, 0, by omega, rfl, rfl, rfl, rfl, rfl⟩
          case round =>
            obtain ⟨j, x', o, hj, rfl, rfl, rfl, S⟩ := hrel
            by_cases hj8 : j < 8
            · have tj : decide ((j : Int) < 8) = true := by simp; omega
              obtain ⟨⟨q1, q2, q3⟩, s0, s1⟩ := rsq_next x j x' o hX0 hX1 S hj8
              generalize x' * x' = q at *
              have S0 := Lib.hid s0
              have S1 := Lib.hid s1
              clear s0 s1
              by_cases hb : q / 1073741824 < 2147483648
              · have tb : decide ((2147483648 : Int) ≤ (q : Int) / 1073741824) = false := by simp; omega
                go_wp2
                go_round
                case rel => exact ⟨j + 1, q / 1073741824, o * 2, by omega, by go_num, by go_num, by go_num, S0.out hb⟩
                case measure => simp [intOf]; omega
              · have tb : decide ((2147483648 : Int) ≤ (q : Int) / 1073741824) = true := by simp; omega
                go_wp2
                go_round
                case rel => exact ⟨j + 1, q / 1073741824 / 2, o * 2 + 1, by omega, by go_num, by go_num, by go_num, S1.out (by omega)⟩
                case measure => simp [intOf]; omega
            · obtain rfl : j = 8 := by omega
              have ho := S.2
              have HO := Lib.hid ho
              have ho8 : o < 256 := by
                have r := (M.sqr_rng 8 x hX0 hX1).2.2
                rw [ho] at r; exact r
              clear ho
              go_wp2
              go_ret
              refine ⟨ret_int ?_, rfl⟩
              rw [HO.out]
              omega

set_option maxHeartbeats 4000000 in
theorem rLog_lo (n v X : Nat) (h0 : 0 < n) (hv : v ≤ 30) (hX : n * 2 ^ v = X) (hX0 : 1073741824 ≤ X) (hX1 : X < 2147483648) (w : World) :
    Calls Try.prog 9 #[.int .u64 n] w fun e w' => e = .returned (.int .i64 ((30 - v : Int) * 256 + ((M.sqr 8 X).2 : Nat))) ∧ w = w' := by
  have hz : ((n : Int) == 0) = false := by simp; omega
  have hn : n < 2147483648 := by
    have : n * 1 ≤ n * 2 ^ v := Nat.mul_le_mul_left _ (Nat.two_pow_pos v)
    omega
  have hlt2 : ∀ k, k < v → n * 2 ^ k < 1073741824 := fun k hk => by
    have : n * 2 ^ (k + 1) ≤ n * 2 ^ v := Nat.mul_le_mul_left _ (Nat.pow_le_pow_right (by decide) (by omega))
    rw [Nat.pow_succ, ← Nat.mul_assoc] at this
    omega
  have HG := Lib.hid hlt2
  have HX := Lib.hid hX
  clear hlt2 hX
  have t1 : decide ((2147483648 : Int) ≤ (n : Int)) = false := by simp; omega
  go_enter Try.func9, Try.ntmps9
  go_wp2
  refine wp_loop_rounds 1 ?_
  rw [rounds_succ]
  go_wp2
  clear t1
  go_loop [4, 5] (fun vx vu => ∃ (k x : Nat) (z : Int), k ≤ v ∧ vx = .int .u64 x ∧ vu = .int .i64 z ∧ -30 ≤ z ∧ z ≤ 0 ∧ x ≤ 2147483647 ∧ Hid (x = n * 2 ^ k ∧ z = -(k : Int))) (fun _ vu => v - (0 - intOf vu).toNat)
  case atStart => exact ⟨0, n, 0, by omega, rfl, rfl, by omega, by omega, by omega, by simp [Hid]⟩
  case round =>
    obtain ⟨k, x, z, hk, rfl, rfl, z0, z1, hx, HK⟩ := hrel
    by_cases hlt : k < v
    · have hge : decide ((x : Int) < 1073741824) = true := by
        have := HG.out k hlt
        have h2 := HK.out.1
        simp; omega
      go_wp2
      go_round
      case rel =>
        have hx2 := HG.out k hlt
        have hx3 := HK.out.1
        have hx4 := HK.out.2
        refine ⟨k + 1, x * 2, z - 1, by omega, by go_num, rfl, by omega, by omega, by omega, ?_, by omega⟩
        · show x * 2 = n * 2 ^ (k + 1)
          rw [hx3, Nat.pow_succ, Nat.mul_assoc]
      case measure =>
        have hx4 := HK.out.2
        simp [intOf]; omega
    · obtain rfl : k = v := by omega
      have hxx : x = X := HK.out.1.trans HX.out
      subst hxx
      have t2 : decide ((x : Int) < 1073741824) = false := by simp; omega
      have t3 : decide ((0 : Int) < z) = false := by simp; omega
      go_wp2
      go_loop [4, 8, 9] (fun vx vo vi => ∃ j x' o : Nat, j ≤ 8 ∧ vi = .int .i64 j ∧ vx = .int .u64 x' ∧ vo = .int .i64 o ∧ rsqAt x j x' o) (fun _ _ vi => 8 - (intOf vi).toNat)
      case atStart => exact ⟨0, x, 0, by omega, rfl, rfl, rfl, rfl, rfl⟩
      case round =>
        obtain ⟨j, x', o, hj, rfl, rfl, rfl, S⟩ := hrel
        by_cases hj8 : j < 8
        · have tj : decide ((j : Int) < 8) = true := by simp; omega
          obtain ⟨⟨q1, q2, q3⟩, s0, s1⟩ := rsq_next x j x' o hX0 hX1 S hj8
          generalize x' * x' = q at *
          have S0 := Lib.hid s0
          have S1 := Lib.hid s1
          clear s0 s1
          by_cases hb : q / 1073741824 < 2147483648
          · have tb : decide ((2147483648 : Int) ≤ (q : Int) / 1073741824) = false := by simp; omega
            go_wp2
            go_round
            case rel => exact ⟨j + 1, q / 1073741824, o * 2, by omega, by go_num, by go_num, by go_num, S0.out hb⟩
            case measure => simp [intOf]; omega
          · have tb : decide ((2147483648 : Int) ≤ (q : Int) / 1073741824) = true := by simp; omega
            go_wp2
            go_round
            case rel => exact ⟨j + 1, q / 1073741824 / 2, o * 2 + 1, by omega, by go_num, by go_num, by go_num, S1.out (by omega)⟩
            case measure => simp [intOf]; omega
        · obtain rfl : j = 8 := by omega
          have ho := S.2
          have HO := Lib.hid ho
          have ho8 : o < 256 := by
            have r := (M.sqr_rng 8 x hX0 hX1).2.2
            rw [ho] at r; exact r
          clear ho
          go_wp2
          go_ret
          refine ⟨ret_int ?_, rfl⟩
          have hx4 := HK.out.2
          rw [HO.out]
          omega

end Go.Proofs.Ythdfelhckjeekaa
