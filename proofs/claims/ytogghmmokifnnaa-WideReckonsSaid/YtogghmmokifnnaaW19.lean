/- Walks: the reference's Text; the plain law of rows. -/
import Derived.Test.YtogghmmokifnnaaW15
import Derived.Test.YtogghmmokifnnaaW17
import Derived.Test.YtogghmmokifnnaaW18
namespace Go.Proofs.Ytogghmmokifnnaa
open Go.RowKit

theorem sum_add (f g : Nat → Int) : ∀ k, sumZ (fun j => f j + g j) k = sumZ f k + sumZ g k
  | 0 => rfl
  | k + 1 => by
    show sumZ (fun j => f j + g j) k + (f k + g k) * 65536 ^ k = sumZ f k + f k * 65536 ^ k + (sumZ g k + g k * 65536 ^ k)
    rw [sum_add f g k, Int.add_mul]; omega
theorem sum_sub (f g : Nat → Int) : ∀ k, sumZ (fun j => f j - g j) k = sumZ f k - sumZ g k
  | 0 => rfl
  | k + 1 => by
    show sumZ (fun j => f j - g j) k + (f k - g k) * 65536 ^ k = sumZ f k + f k * 65536 ^ k - (sumZ g k + g k * 65536 ^ k)
    rw [sum_sub f g k, Int.sub_mul]; omega
theorem e8 : (65536 : Int) ^ 8 = 340282366920938463463374607431768211456 := rfl
theorem sum_all (a : Nat) (ha : a < 340282366920938463463374607431768211456) : sumZ (figZ a) 8 = a := by
  rw [sum_mod, e8]; omega
theorem sum_zero : ∀ k, sumZ (fun _ => 0) k = 0
  | 0 => rfl
  | k + 1 => by
    show sumZ (fun _ => 0) k + 0 * 65536 ^ k = 0
    rw [sum_zero k, Int.zero_mul]; rfl
theorem plus_fig (a b : Nat) (ha : a < 340282366920938463463374607431768211456) (hb : b < 340282366920938463463374607431768211456) (j : Nat) (hj : j < 8) :
    figZ (sumZ (fun j => figZ a j + figZ b j) 8) j = figZ (M.addN a b : Nat) j := by
  rw [sum_add, sum_all a ha, sum_all b hb]
  refine fig_mod _ _ (((a : Int) + b) / 340282366920938463463374607431768211456) ?_ j hj
  unfold M.addN; omega
theorem less_fig (a b : Nat) (ha : a < 340282366920938463463374607431768211456) (hb : b < 340282366920938463463374607431768211456) (j : Nat) (hj : j < 8) :
    figZ (sumZ (fun j => figZ a j - figZ b j) 8) j = figZ (M.subN a b : Nat) j := by
  rw [sum_sub, sum_all a ha, sum_all b hb]
  refine fig_mod _ _ (((a : Int) - b) / 340282366920938463463374607431768211456) ?_ j hj
  unfold M.subN; omega
theorem fig_zero (j : Nat) : figZ ((0 : Nat) : Int) j = 0 := by
  unfold figZ
  show (0 : Int) / 65536 ^ j % 65536 = 0
  rw [Int.zero_ediv]; rfl
theorem lex_fig (a b : Int) : ∀ k, lexZ (figZ a) (figZ b) k = M.cmpZ (a % 65536 ^ k) (b % 65536 ^ k)
  | 0 => by
    show (0 : Int) = M.cmpZ (a % 1) (b % 1)
    rw [Int.emod_one, Int.emod_one]; rfl
  | k + 1 => by
    have ea := sum_mod a (k + 1)
    have eb := sum_mod b (k + 1)
    have ea0 := sum_mod a k
    have eb0 := sum_mod b k
    have hp : (0 : Int) < 65536 ^ k := Int.pow_pos (by decide)
    have a0 := Int.emod_nonneg a (Int.ne_of_gt hp)
    have a1 := Int.emod_lt_of_pos a hp
    have b0 := Int.emod_nonneg b (Int.ne_of_gt hp)
    have b1 := Int.emod_lt_of_pos b hp
    have ea' : a % 65536 ^ (k + 1) = a % 65536 ^ k + figZ a k * 65536 ^ k := by rw [← ea, ← ea0]; rfl
    have eb' : b % 65536 ^ (k + 1) = b % 65536 ^ k + figZ b k * 65536 ^ k := by rw [← eb, ← eb0]; rfl
    rw [ea', eb']
    unfold lexZ
    rw [lex_fig a b k]
    generalize figZ a k = x at *
    generalize figZ b k = y at *
    rcases Int.lt_trichotomy x y with h | h | h
    · rw [if_pos h]
      have hm : (x + 1) * 65536 ^ k ≤ y * 65536 ^ k := Int.mul_le_mul_of_nonneg_right (by omega) (Int.le_of_lt hp)
      rw [Int.add_mul, Int.one_mul] at hm
      exact (M.cmpZ_lt (by omega)).symm
    · subst h
      rw [if_neg (by omega), if_neg (by omega)]
      unfold M.cmpZ
      have e1 : (a % 65536 ^ k < b % 65536 ^ k) = (a % 65536 ^ k + x * 65536 ^ k < b % 65536 ^ k + x * 65536 ^ k) := by rw [eq_iff_iff]; omega
      have e2 : (b % 65536 ^ k < a % 65536 ^ k) = (b % 65536 ^ k + x * 65536 ^ k < a % 65536 ^ k + x * 65536 ^ k) := by rw [eq_iff_iff]; omega
      simp only [e1, e2]
    · rw [if_neg (by omega), if_pos h]
      have hm : (y + 1) * 65536 ^ k ≤ x * 65536 ^ k := Int.mul_le_mul_of_nonneg_right (by omega) (Int.le_of_lt hp)
      rw [Int.add_mul, Int.one_mul] at hm
      exact (M.cmpZ_gt (by omega)).symm
theorem sign_fig (a : Nat) (ha : a < 340282366920938463463374607431768211456) : signR (figZ a) = M.cmpZ (M.valZ a) 0 := by
  have h7 : figZ (a : Int) 7 = (a : Int) / 5192296858534827628530496329220096 := by
    unfold figZ
    rw [show (65536 : Int) ^ 7 = 5192296858534827628530496329220096 from rfl]; omega
  unfold signR
  rw [h7]
  by_cases h : a < 170141183460469231731687303715884105728
  · have hv : M.valZ a = a := if_pos h
    rw [if_neg (by omega), hv]
    by_cases h0 : a = 0
    · subst h0
      rw [if_pos ((zeros_iff _).2 fun j _ => fig_zero j)]; rfl
    · rw [if_neg (fun hz => h0 (by
        have e := sum_all a ha
        have e2 : sumZ (figZ (a : Int)) 8 = sumZ (fun _ => 0) 8 := by
          have z := (zeros_iff _).1 hz
          show 0 + _ + _ + _ + _ + _ + _ + _ + _ = (0 : Int) + _ + _ + _ + _ + _ + _ + _ + _
          rw [z 0 (by omega), z 1 (by omega), z 2 (by omega), z 3 (by omega), z 4 (by omega), z 5 (by omega), z 6 (by omega), z 7 (by omega)]
        rw [e2, sum_zero] at e
        omega))]
      exact (M.cmpZ_gt (by omega)).symm
  · have hv : M.valZ a = (a : Int) - 340282366920938463463374607431768211456 := if_neg h
    rw [if_pos (by omega), hv]
    exact (M.cmpZ_lt (by omega)).symm
theorem cmp_fig (a b : Nat) (ha : a < 340282366920938463463374607431768211456) (hb : b < 340282366920938463463374607431768211456) : cmpR (figZ a) (figZ b) = M.cmpZ (M.valZ a) (M.valZ b) := by
  unfold cmpR
  rw [sign_fig a ha, sign_fig b hb, lex_fig, e8, show (a : Int) % 340282366920938463463374607431768211456 = a by omega, show (b : Int) % 340282366920938463463374607431768211456 = b by omega]
  unfold M.cmpZ M.valZ
  repeat' split
  all_goals omega

set_option maxHeartbeats 4000000 in
theorem Text_ref_road (f g : Nat → Int) (x : Int) (t u : ByteArray) (ht : t.size ≤ 40)
    (k1 : ∀ w, Calls Try.prog 24 #[.agg #[.int .i64 (f 0), .int .i64 (f 1), .int .i64 (f 2), .int .i64 (f 3), .int .i64 (f 4), .int .i64 (f 5), .int .i64 (f 6), .int .i64 (f 7)]] w fun e w' => e = .returned (.int .i64 x) ∧ Below w.heap.size w w')
    (k2 : ∀ w, Calls Try.prog 22 #[.agg #[.int .i64 0, .int .i64 0, .int .i64 0, .int .i64 0, .int .i64 0, .int .i64 0, .int .i64 0, .int .i64 0], .agg #[.int .i64 (f 0), .int .i64 (f 1), .int .i64 (f 2), .int .i64 (f 3), .int .i64 (f 4), .int .i64 (f 5), .int .i64 (f 6), .int .i64 (f 7)]] w fun e w' => e = .returned (.agg #[.int .i64 (g 0), .int .i64 (g 1), .int .i64 (g 2), .int .i64 (g 3), .int .i64 (g 4), .int .i64 (g 5), .int .i64 (g 6), .int .i64 (g 7)]) ∧ Below w.heap.size w w')
    (k3 : ∀ w, Calls Try.prog 36 #[.agg #[.int .i64 (g 0), .int .i64 (g 1), .int .i64 (g 2), .int .i64 (g 3), .int .i64 (g 4), .int .i64 (g 5), .int .i64 (g 6), .int .i64 (g 7)]] w fun e w' => e = .returned (.string t) ∧ Below w.heap.size w w')
    (k4 : ∀ w, Calls Try.prog 36 #[.agg #[.int .i64 (f 0), .int .i64 (f 1), .int .i64 (f 2), .int .i64 (f 3), .int .i64 (f 4), .int .i64 (f 5), .int .i64 (f 6), .int .i64 (f 7)]] w fun e w' => e = .returned (.string u) ∧ Below w.heap.size w w') (w : World) :
    Calls Try.prog 25 #[.agg #[.int .i64 (f 0), .int .i64 (f 1), .int .i64 (f 2), .int .i64 (f 3), .int .i64 (f 4), .int .i64 (f 5), .int .i64 (f 6), .int .i64 (f 7)]] w fun e w' => e = .returned (.string (if x < 0 then ⟨#[45]⟩ ++ t else u)) ∧ Below w.heap.size w w' := by
  have K1 := Lib.hid k1
  have K2 := Lib.hid k2
  have K3 := Lib.hid k3
  have K4 := Lib.hid k4
  clear k1 k2 k3 k4
  obtain ⟨w0, hw0, p0, g0, z0⟩ := boxes1 w #[.int .i64 (f 0), .int .i64 (f 1), .int .i64 (f 2), .int .i64 (f 3), .int .i64 (f 4), .int .i64 (f 5), .int .i64 (f 6), .int .i64 (f 7)] 32
  have c0 := p0.eight
  have B0 := Lib.hid (And.intro p0 g0)
  clear p0 g0 z0
  have hs1 : ¬ 9223372036854775807 < 1 + t.size := by omega
  have hs2 : ¬ 9223372036854775807 < t.size + 1 := by omega
  by_cases hx : x < 0
  · rw [if_pos hx]
    go_enter Try.func25, Try.ntmps25
    go_wp2_with fail
    refine (K1.out _).mono ?_
    rintro e w1 ⟨rfl, hb⟩
    (try clear hw0)
    have B1 := Lib.hid (And.intro (B0.out.1.grew hb) (grow B0.out.2 hb))
    clear hb c0 B0
    have c0 := B1.out.1.eight
    go_wp2_with fail
    refine (K2.out _).mono ?_
    rintro e w2 ⟨rfl, hb⟩
    have B2 := Lib.hid (grow B1.out.2 hb)
    clear hb c0 B1
    go_wp2_with fail
    refine (K3.out _).mono ?_
    rintro e w3 ⟨rfl, hb⟩
    have B3 := Lib.hid (grow B2.out hb)
    clear hb B2
    go_wp2
    go_ret
    exact ⟨rfl, B3.out⟩
  · rw [if_neg hx]
    go_enter Try.func25, Try.ntmps25
    go_wp2_with fail
    refine (K1.out _).mono ?_
    rintro e w1 ⟨rfl, hb⟩
    (try clear hw0)
    have B1 := Lib.hid (And.intro (B0.out.1.grew hb) (grow B0.out.2 hb))
    clear hb c0 B0
    have c0 := B1.out.1.eight
    go_wp2_with fail
    refine (K4.out _).mono ?_
    rintro e w2 ⟨rfl, hb⟩
    have B2 := Lib.hid (grow B1.out.2 hb)
    clear hb c0 B1
    go_wp2
    go_ret
    exact ⟨rfl, B2.out⟩

theorem zero_fig : rowC (figZ ((0 : Nat) : Int)) = #[.int .i64 0, .int .i64 0, .int .i64 0, .int .i64 0, .int .i64 0, .int .i64 0, .int .i64 0, .int .i64 0] := by
  rw [rowC_congr (g := fun _ => 0) (fun j _ => fig_zero j)]; rfl
theorem refText_any (a : Nat) (ha : a < 340282366920938463463374607431768211456) (w : World) :
    Calls Try.prog 25 #[.agg (rowC (figZ a))] w fun e w' => e = .returned (.string (textB a)) ∧ Below w.heap.size w w' := by
  have k1 := refSign_any (figZ a)
  rw [sign_fig a ha] at k1
  have k2 := refLess_any (figZ ((0 : Nat) : Int)) (figZ a) (fun j _ => fig_rng _ j) (fun j _ => fig_rng _ j)
  rw [rowC_congr (fun j hj => less_fig 0 a (by omega) ha j hj), zero_fig] at k2
  have hm : M.subN 0 a < 340282366920938463463374607431768211456 := Nat.mod_lt _ (by decide)
  have k3 := digits_any (M.subN 0 a) hm
  have k4 := digits_any a ha
  have h := Text_ref_road (figZ a) (figZ (M.subN 0 a : Nat)) _ _ _ (text_size _) k1 k2 k3 k4 w
  have e : textB a = if M.cmpZ (M.valZ a) 0 < 0 then ⟨#[45]⟩ ++ str (trim (digL (M.subN 0 a))) else str (trim (digL a)) := by
    unfold textB
    have hv := M.valZ_halves a ha
    have hl := M.loN_lt a
    have hlz : M.loZ a = (M.loN a : Int) := rfl
    by_cases h : M.hiZ a < 0
    · rw [if_pos h, if_pos (by unfold M.cmpZ; rw [if_pos (by omega)]; omega)]
    · rw [if_neg h, if_neg (by unfold M.cmpZ; rw [if_neg (by omega)]; split <;> omega)]
      apply ByteArray.ext
      simp [ByteArray.data_append]
  rw [e]
  exact h
end Go.Proofs.Ytogghmmokifnnaa
