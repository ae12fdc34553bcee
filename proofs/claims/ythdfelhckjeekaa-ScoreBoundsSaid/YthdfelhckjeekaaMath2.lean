/- Plain numbers: the logarithm grows; of twice the number it is 256 more. -/
import Derived.Test.YthdfelhckjeekaaMath
namespace Go.Proofs.Ythdfelhckjeekaa.M

theorem pow_le_of_lt {a b : Nat} (h : 2 ^ a < 2 ^ b) : a < b := by
  rcases Nat.lt_or_ge a b with h' | h'
  · exact h'
  · have := Nat.pow_le_pow_right (n := 2) (by decide) h'; omega
theorem expo_uniq (n e f : Nat) (h1 : 2 ^ e ≤ n) (h2 : n < 2 ^ (e + 1)) (h3 : 2 ^ f ≤ n) (h4 : n < 2 ^ (f + 1)) : e = f := by
  have a := pow_le_of_lt (Nat.lt_of_le_of_lt h1 h4)
  have b := pow_le_of_lt (Nat.lt_of_le_of_lt h3 h2)
  omega
theorem expo_mono (n m : Nat) (hm : m < 18446744073709551616) (h0 : 0 < n) (h : n ≤ m) : expo n ≤ expo m := by
  obtain ⟨a1, a2, a3⟩ := expo_spec n (by omega) h0
  obtain ⟨b1, b2, b3⟩ := expo_spec m hm (by omega)
  have := pow_le_of_lt (Nat.lt_of_le_of_lt a1 (Nat.lt_of_le_of_lt h b2))
  omega

theorem normE_mono (e n m : Nat) (h : n ≤ m) : normE e n ≤ normE e m := by
  unfold normE
  by_cases h3 : 30 < e
  · rw [if_pos h3, if_pos h3]; exact Nat.div_le_div_right h
  · rw [if_neg h3, if_neg h3]; exact Nat.div_le_div_right (Nat.mul_le_mul_right _ h)

theorem sqr_mono (x y : Nat) (hx0 : 1073741824 ≤ x) (hx : x < 2147483648) (hy0 : 1073741824 ≤ y) (hy : y < 2147483648) (h : x ≤ y) :
    ∀ k, (sqr k x).2 < (sqr k y).2 ∨ ((sqr k x).2 = (sqr k y).2 ∧ (sqr k x).1 ≤ (sqr k y).1)
  | 0 => .inr ⟨rfl, h⟩
  | k + 1 => by
    obtain ⟨a1, a2, _⟩ := sqr_rng k x hx0 hx
    obtain ⟨b1, b2, _⟩ := sqr_rng k y hy0 hy
    have ih := sqr_mono x y hx0 hx hy0 hy h k
    simp only [sqr]
    have c1 := bitOf_le _ a2
    have c2 := bitOf_le _ b2
    rcases ih with ih | ⟨ih1, ih2⟩
    · exact .inl (by omega)
    · have hm := Nat.mul_le_mul ih2 ih2
      have e1 : bitOf (sqr k x).1 = (sqr k x).1 * (sqr k x).1 / 1073741824 / 2147483648 := rfl
      have e2 : bitOf (sqr k y).1 = (sqr k y).1 * (sqr k y).1 / 1073741824 / 2147483648 := rfl
      have hd : (sqr k x).1 * (sqr k x).1 / 1073741824 ≤ (sqr k y).1 * (sqr k y).1 / 1073741824 := Nat.div_le_div_right hm
      have hb : bitOf (sqr k x).1 ≤ bitOf (sqr k y).1 := by rw [e1, e2]; exact Nat.div_le_div_right hd
      rcases Nat.lt_or_ge (bitOf (sqr k x).1) (bitOf (sqr k y).1) with hl | hg
      · exact .inl (by omega)
      · have he : bitOf (sqr k x).1 = bitOf (sqr k y).1 := by omega
        refine .inr ⟨by omega, ?_⟩
        unfold nextOf
        rw [he]
        exact Nat.div_le_div_right hd

theorem logN_pos (n : Nat) (h0 : 0 < n) : logN n = expo n * 256 + (sqr 8 (normE (expo n) n)).2 := by
  unfold logN; rw [if_neg (by omega)]

theorem logN_mono (n m : Nat) (hm : m < 18446744073709551616) (h : n ≤ m) : logN n ≤ logN m := by
  by_cases h0 : n = 0
  · subst h0; unfold logN; simp
  · have h0' : 0 < n := by omega
    obtain ⟨a1, a2, a3⟩ := expo_spec n (by omega) h0'
    obtain ⟨b1, b2, b3⟩ := expo_spec m hm (by omega)
    have he := expo_mono n m hm h0' h
    rw [logN_pos n h0', logN_pos m (by omega)]
    obtain ⟨c1, c2⟩ := normE_rng _ n a1 a2
    obtain ⟨d1, d2⟩ := normE_rng _ m b1 b2
    have s1 := (sqr_rng 8 _ c1 c2).2.2
    rcases Nat.lt_or_ge (expo n) (expo m) with hl | hg
    · omega
    · have hee : expo n = expo m := by omega
      rw [hee] at c1 c2 ⊢
      have := sqr_mono _ _ c1 c2 d1 d2 (normE_mono (expo m) n m h) 8
      omega

theorem normE_dbl (e n : Nat) : normE (e + 1) (2 * n) = normE e n := by
  unfold normE
  rcases Nat.lt_trichotomy e 30 with h | h | h
  · rw [if_neg (by omega), if_neg (by omega), Nat.pow_succ, Nat.mul_comm (2 ^ e) 2, Nat.mul_assoc, Nat.mul_div_mul_left _ _ (by decide)]
  · subst h
    rw [if_pos (by omega), if_neg (by omega)]
    omega
  · rw [if_pos (by omega), if_pos h, show e + 1 - 30 = (e - 30) + 1 by omega, Nat.pow_succ, Nat.mul_comm (2 ^ (e - 30)) 2, Nat.mul_div_mul_left _ _ (by decide)]

theorem logN_dbl (n : Nat) (h0 : 0 < n) (h : n < 9223372036854775808) : logN (2 * n) = logN n + 256 := by
  obtain ⟨a1, a2, a3⟩ := expo_spec n (by omega) h0
  obtain ⟨b1, b2, b3⟩ := expo_spec (2 * n) (by omega) (by omega)
  have e : expo (2 * n) = expo n + 1 := expo_uniq (2 * n) _ _ b1 b2 (by rw [Nat.pow_succ]; omega) (by rw [Nat.pow_succ]; omega)
  rw [logN_pos _ (by omega), logN_pos _ h0, e, normE_dbl]
  omega

/-! ### Shares -/
/-- A share grows with how often a word stands there, and falls with the length. -/
theorem share_mono (tf more len less T : Int) (m : Int) (hm : 1 ≤ m) (h1 : 1 ≤ tf) (h2 : tf ≤ more) (h3 : 0 ≤ less) (h4 : less ≤ len) (hT : 0 ≤ T) :
    2200000 * tf / (1000 * tf + 300 + 900 * len * T / m) ≤ 2200000 * more / (1000 * more + 300 + 900 * less * T / m) := by
  have hb : 900 * less * T ≤ 900 * len * T := Int.mul_le_mul_of_nonneg_right (by omega) hT
  have ha0 : 0 ≤ 900 * less * T := Int.mul_nonneg (by omega) hT
  have hq : 900 * less * T / m ≤ 900 * len * T / m := Int.ediv_le_ediv (by omega) hb
  have hq0 : 0 ≤ 900 * less * T / m := Int.ediv_nonneg ha0 (by omega)
  generalize 900 * less * T / m = c at *
  generalize 900 * len * T / m = d at *
  have s1 : 2200000 * tf / (1000 * tf + 300 + d) ≤ 2200000 * tf / (1000 * tf + 300 + c) := by
    refine (Int.le_ediv_iff_mul_le (by omega)).2 ?_
    have h5 : 2200000 * tf / (1000 * tf + 300 + d) * (1000 * tf + 300 + d) ≤ 2200000 * tf := Int.ediv_mul_le _ (by omega)
    have h6 : 0 ≤ 2200000 * tf / (1000 * tf + 300 + d) := Int.ediv_nonneg (by omega) (by omega)
    exact Int.le_trans (Int.mul_le_mul_of_nonneg_left (by omega) h6) h5
  have s2 : 2200000 * tf / (1000 * tf + 300 + c) ≤ 2200000 * more / (1000 * more + 300 + c) := by
    refine (Int.le_ediv_iff_mul_le (by omega)).2 ?_
    have h5 : 2200000 * tf / (1000 * tf + 300 + c) * (1000 * tf + 300 + c) ≤ 2200000 * tf := Int.ediv_mul_le _ (by omega)
    have h6 : 0 ≤ 2200000 * tf / (1000 * tf + 300 + c) := Int.ediv_nonneg (by omega) (by omega)
    have h7 : 2200000 * tf / (1000 * tf + 300 + c) ≤ 2200 := by
      refine Int.lt_add_one_iff.1 ((Int.ediv_lt_iff_lt_mul (by omega)).2 ?_)
      omega
    generalize 2200000 * tf / (1000 * tf + 300 + c) = q at *
    have h8 : q * (1000 * more + 300 + c) = q * (1000 * tf + 300 + c) + q * (1000 * (more - tf)) := by
      rw [← Int.mul_add]; congr 1; omega
    have h9 : q * (1000 * (more - tf)) ≤ 2200 * (1000 * (more - tf)) := Int.mul_le_mul_of_nonneg_right h7 (by omega)
    omega
  exact Int.le_trans s1 s2

end Go.Proofs.Ythdfelhckjeekaa.M
