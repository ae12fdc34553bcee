/- Plain numbers: spreading bits by masks is interleaving them one by one; gathering is its inverse. -/
import Derived.WalkKit
namespace Go.Proofs.Ythinjaddebfdhaa.M

/-- Two maps that turn 'or' into 'or' and agree at the powers of two agree below 2^K. -/
theorem lin_eq (G H : Nat → Nat) (hG : ∀ a b, G (a ||| b) = G a ||| G b) (hH : ∀ a b, H (a ||| b) = H a ||| H b)
    (h0 : G 0 = H 0) : ∀ K : Nat, (∀ k, k < K → G (2 ^ k) = H (2 ^ k)) → ∀ n, n < 2 ^ K → G n = H n := by
  intro K
  induction K with
  | zero => intro _ n hn; have : n = 0 := by simpa using hn
            rw [this]; exact h0
  | succ K ih =>
    intro hb n hn
    have ih' := ih (fun k hk => hb k (by omega))
    by_cases hlt : n < 2 ^ K
    · exact ih' n hlt
    · have e : n = 2 ^ K * 1 ||| (n - 2 ^ K) := by
        rw [← Nat.two_pow_add_eq_or_of_lt (by rw [Nat.pow_succ] at hn; omega)]
        omega
      rw [e, hG, hH, ih' (n - 2 ^ K) (by rw [Nat.pow_succ] at hn; omega), Nat.mul_one, hb K (by omega)]

def stp (s m n : Nat) : Nat := (n ||| n <<< s) &&& m
theorem stp_or (s m a b : Nat) : stp s m (a ||| b) = stp s m a ||| stp s m b := by
  unfold stp
  apply Nat.eq_of_testBit_eq; intro i
  simp only [Nat.testBit_and, Nat.testBit_or, Nat.testBit_shiftLeft]
  cases a.testBit i <;> cases b.testBit i <;> cases m.testBit i <;> cases decide (i ≥ s) <;> simp

def gst (s m n : Nat) : Nat := (n ||| n >>> s) &&& m
theorem gst_or (s m a b : Nat) : gst s m (a ||| b) = gst s m a ||| gst s m b := by
  unfold gst
  apply Nat.eq_of_testBit_eq; intro i
  simp only [Nat.testBit_and, Nat.testBit_or, Nat.testBit_shiftRight]
  cases a.testBit i <;> cases b.testBit i <;> cases m.testBit i <;> simp

def m0 : Nat := 281470681808895
def m1 : Nat := 71777214294589695
def m2 : Nat := 1085102592571150095
def m3 : Nat := 3689348814741910323
def m4 : Nat := 6148914691236517205

/-- What the program's 'spread' computes. -/
def spread (n : Nat) : Nat := stp 1 m4 (stp 2 m3 (stp 4 m2 (stp 8 m1 (stp 16 m0 n))))
theorem spread_or (a b : Nat) : spread (a ||| b) = spread a ||| spread b := by unfold spread; simp only [stp_or]

/-- What the program's 'gather' computes. -/
def gather (n : Nat) : Nat := gst 16 4294967295 (gst 8 m0 (gst 4 m1 (gst 2 m2 (gst 1 m3 (n &&& m4)))))
theorem gather_or (a b : Nat) : gather (a ||| b) = gather a ||| gather b := by
  unfold gather; simp only [Nat.and_or_distrib_right, gst_or]

/-- One bit at a time: every second bit, from 'bits' bits. -/
def spr : Nat → Nat → Nat
  | 0, _ => 0
  | k + 1, n => n % 2 + 4 * spr k (n / 2)
def gat : Nat → Nat → Nat
  | 0, _ => 0
  | k + 1, n => n % 2 + 2 * gat k (n / 4)

theorem mod2_or (a b : Nat) : (a ||| b) % 2 = a % 2 ||| b % 2 := by
  have := Nat.or_mod_two_pow (a := a) (b := b) (n := 1); simpa using this
theorem div2_or (a b : Nat) : (a ||| b) / 2 = a / 2 ||| b / 2 := by
  have := Nat.or_div_two_pow (a := a) (b := b) (n := 1); simpa using this
theorem div4_or (a b : Nat) : (a ||| b) / 4 = a / 4 ||| b / 4 := by
  have := Nat.or_div_two_pow (a := a) (b := b) (n := 2); simpa using this
theorem add4_or (a c : Nat) (h : a < 2) : a + 4 * c = a ||| c <<< 2 := by
  have := Nat.two_pow_add_eq_or_of_lt (b := a) (i := 2) (by omega) c
  rw [Nat.or_comm, Nat.shiftLeft_eq, Nat.mul_comm c, ← this]; omega
theorem add2_or (a c : Nat) (h : a < 2) : a + 2 * c = a ||| c <<< 1 := by
  have := Nat.two_pow_add_eq_or_of_lt (b := a) (i := 1) (by omega) c
  rw [Nat.or_comm, Nat.shiftLeft_eq, Nat.mul_comm c, ← this]; omega

theorem spr_or : ∀ (k a b : Nat), spr k (a ||| b) = spr k a ||| spr k b
  | 0, _, _ => by simp [spr]
  | k + 1, a, b => by
    simp only [spr]
    rw [add4_or _ _ (Nat.mod_lt _ (by decide)), add4_or _ _ (Nat.mod_lt _ (by decide)), add4_or _ _ (Nat.mod_lt _ (by decide)),
      mod2_or, div2_or, spr_or k, Nat.shiftLeft_or_distrib]
    ac_rfl
theorem gat_or : ∀ (k a b : Nat), gat k (a ||| b) = gat k a ||| gat k b
  | 0, _, _ => by simp [gat]
  | k + 1, a, b => by
    simp only [gat]
    rw [add2_or _ _ (Nat.mod_lt _ (by decide)), add2_or _ _ (Nat.mod_lt _ (by decide)), add2_or _ _ (Nat.mod_lt _ (by decide)),
      mod2_or, div4_or, gat_or k, Nat.shiftLeft_or_distrib]
    ac_rfl

theorem spread_eq (n : Nat) (h : n < 2 ^ 32) : spread n = spr 32 n :=
  lin_eq spread (spr 32) spread_or (spr_or 32) (by decide) 32 (by decide) n h
theorem gather_eq (n : Nat) (h : n < 2 ^ 64) : gather n = gat 32 n :=
  lin_eq gather (gat 32) gather_or (gat_or 32) (by decide) 64 (by decide) n h

theorem spr_lt : ∀ (k n : Nat), spr k n < 4 ^ k
  | 0, _ => by simp [spr]
  | k + 1, n => by have := spr_lt k (n / 2); simp only [spr, Nat.pow_succ]; omega
theorem gat_lt : ∀ (k n : Nat), gat k n < 2 ^ k
  | 0, _ => by simp [gat]
  | k + 1, n => by have := gat_lt k (n / 4); simp only [gat, Nat.pow_succ]; omega

theorem spr_lt3 : ∀ (k n : Nat), 3 * spr k n < 4 ^ k
  | 0, _ => by simp [spr]
  | k + 1, n => by have := spr_lt3 k (n / 2); simp only [spr, Nat.pow_succ]; omega

/-- From the top. -/
theorem spr_top : ∀ (k n : Nat), spr (k + 1) n = spr k n + 4 ^ k * (n / 2 ^ k % 2)
  | 0, n => by simp [spr]
  | k + 1, n => by
    have ih := spr_top k (n / 2)
    rw [spr, ih]
    have e : n / 2 / 2 ^ k = n / 2 ^ (k + 1) := by rw [Nat.pow_succ, Nat.div_div_eq_div_mul, Nat.mul_comm 2]
    rw [e]
    simp only [spr, Nat.pow_succ, Nat.mul_add]
    rw [← Nat.mul_assoc, Nat.mul_comm 4 (4 ^ k)]
    omega

/-- What has been mixed after k rounds. -/
def mixG : Nat → Nat → Nat → Nat
  | 0, _, _ => 0
  | k + 1, X, Y => mixG k X Y + 4 ^ k * (Y / 2 ^ k % 2) + 2 * 4 ^ k * (X / 2 ^ k % 2)
theorem mixG_eq : ∀ (k X Y : Nat), mixG k X Y = 2 * spr k X + spr k Y
  | 0, _, _ => by simp [spr, mixG]
  | k + 1, X, Y => by
    rw [mixG, mixG_eq k, spr_top, spr_top, Nat.mul_add 2, Nat.mul_assoc]
    omega
theorem mixG_lt (k X Y : Nat) : mixG k X Y < 4 ^ k := by
  have := spr_lt3 k X
  have := spr_lt3 k Y
  rw [mixG_eq]; omega

/-- Gathering what was mixed. -/
theorem gat_mix : ∀ (k x y : Nat), gat k (2 * spr k x + spr k y) = y % 2 ^ k
  | 0, _, _ => by simp [gat, Nat.mod_one]
  | k + 1, x, y => by
    have ih := gat_mix k (x / 2) (y / 2)
    simp only [gat, spr]
    have e1 : (2 * (x % 2 + 4 * spr k (x / 2)) + (y % 2 + 4 * spr k (y / 2))) % 2 = y % 2 := by omega
    have e2 : (2 * (x % 2 + 4 * spr k (x / 2)) + (y % 2 + 4 * spr k (y / 2))) / 4 = 2 * spr k (x / 2) + spr k (y / 2) := by omega
    rw [e1, e2, ih, Nat.pow_succ, Nat.mul_comm (2 ^ k) 2, Nat.mod_mul]
theorem gat_mix' : ∀ (k x y : Nat), gat k ((2 * spr k x + spr k y) / 2) = x % 2 ^ k
  | 0, _, _ => by simp [gat, Nat.mod_one]
  | k + 1, x, y => by
    have ih := gat_mix' k (x / 2) (y / 2)
    simp only [gat, spr]
    have e1 : (2 * (x % 2 + 4 * spr k (x / 2)) + (y % 2 + 4 * spr k (y / 2))) / 2 % 2 = x % 2 := by omega
    have e2 : (2 * (x % 2 + 4 * spr k (x / 2)) + (y % 2 + 4 * spr k (y / 2))) / 2 / 4 = (2 * spr k (x / 2) + spr k (y / 2)) / 2 := by omega
    rw [e1, e2, ih, Nat.pow_succ, Nat.mul_comm (2 ^ k) 2, Nat.mod_mul]

/-- Mixing what was gathered. -/
theorem mix_gat : ∀ (k n : Nat), 2 * spr k (gat k (n / 2)) + spr k (gat k n) = n % 4 ^ k
  | 0, _ => by simp [spr, Nat.mod_one]
  | k + 1, n => by
    have ih := mix_gat k (n / 4)
    have e0 : n / 2 / 4 = n / 4 / 2 := by omega
    simp only [gat, spr, e0]
    have a1 : (n / 2 % 2 + 2 * gat k (n / 4 / 2)) % 2 = n / 2 % 2 := by omega
    have a2 : (n / 2 % 2 + 2 * gat k (n / 4 / 2)) / 2 = gat k (n / 4 / 2) := by omega
    have a3 : (n % 2 + 2 * gat k (n / 4)) % 2 = n % 2 := by omega
    have a4 : (n % 2 + 2 * gat k (n / 4)) / 2 = gat k (n / 4) := by omega
    rw [a1, a2, a3, a4, Nat.pow_succ, Nat.mul_comm (4 ^ k) 4, Nat.mod_mul]
    omega

theorem mod4_or (a b : Nat) : (a ||| b) % 4 = a % 4 ||| b % 4 := by
  have := Nat.or_mod_two_pow (a := a) (b := b) (n := 2); simpa using this
/-- 'or' of two numbers of which one has odd bits alone, the other even ones. -/
theorem or_add : ∀ (k x y : Nat), (2 * spr k x ||| spr k y) = 2 * spr k x + spr k y
  | 0, _, _ => by simp [spr]
  | k + 1, x, y => by
    have ih := or_add k (x / 2) (y / 2)
    simp only [spr]
    have d := div4_or (2 * (x % 2 + 4 * spr k (x / 2))) (y % 2 + 4 * spr k (y / 2))
    have m := mod4_or (2 * (x % 2 + 4 * spr k (x / 2))) (y % 2 + 4 * spr k (y / 2))
    have d1 : 2 * (x % 2 + 4 * spr k (x / 2)) / 4 = 2 * spr k (x / 2) := by omega
    have d2 : (y % 2 + 4 * spr k (y / 2)) / 4 = spr k (y / 2) := by omega
    have m1 : 2 * (x % 2 + 4 * spr k (x / 2)) % 4 = 2 * (x % 2) := by omega
    have m2 : (y % 2 + 4 * spr k (y / 2)) % 4 = y % 2 := by omega
    rw [d1, d2, ih] at d
    rw [m1, m2] at m
    have m3 : (2 * (x % 2) ||| y % 2) = 2 * (x % 2) + y % 2 := by
      rcases Nat.mod_two_eq_zero_or_one x with h | h <;> rcases Nat.mod_two_eq_zero_or_one y with h' | h' <;> rw [h, h'] <;> rfl
    rw [m3] at m
    omega

end Go.Proofs.Ythinjaddebfdhaa.M
