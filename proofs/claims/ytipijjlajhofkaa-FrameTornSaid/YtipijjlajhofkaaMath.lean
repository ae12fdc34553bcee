/- The check as plain numbers: CRC-32 by bits; what 'apart' adds up to. No program in sight. -/
import Lean.Elab.Tactic.Omega
namespace Go.Proofs.Ytipijjlajhofkaa.M

def poly : Nat := 3988292384
/-- One bit's step. -/
def bit (s : Nat) : Nat := (s / 2) ^^^ (poly * (s % 2))
/-- So many bits' steps. -/
def bits : Nat → Nat → Nat
  | 0, s => s
  | n + 1, s => bit (bits n s)
/-- A byte's step. -/
def byte (s b : Nat) : Nat := bits 8 (s ^^^ b)
def roll (s : Nat) (l : List Nat) : Nat := l.foldl byte s
def crc (l : List Nat) : Nat := 4294967295 - roll 4294967295 l

theorem xor_lt32 {a b : Nat} (ha : a < 4294967296) (hb : b < 4294967296) : a ^^^ b < 4294967296 := Nat.xor_lt_two_pow (n := 32) ha hb
theorem bit_lt {s : Nat} (h : s < 4294967296) : bit s < 4294967296 := by
  refine xor_lt32 (by omega) ?_
  unfold poly
  have : s % 2 < 2 := Nat.mod_lt _ (by omega)
  have : 3988292384 * (s % 2) ≤ 3988292384 * 1 := Nat.mul_le_mul_left _ (by omega)
  omega
theorem bits_lt {s : Nat} (h : s < 4294967296) : ∀ n, bits n s < 4294967296
  | 0 => h
  | n + 1 => bit_lt (bits_lt h n)
theorem byte_lt {s b : Nat} (h : s < 4294967296) (hb : b < 256) : byte s b < 4294967296 := bits_lt (xor_lt32 h (by omega)) 8
theorem roll_lt : ∀ (l : List Nat) {s : Nat}, s < 4294967296 → (∀ b ∈ l, b < 256) → roll s l < 4294967296
  | [], _, h, _ => h
  | b :: l, _, h, hl => roll_lt l (byte_lt h (hl b (by simp))) fun c hc => hl c (by simp [hc])
theorem roll_take (s : Nat) (l : List Nat) (k : Nat) (hk : k < l.length) : roll s (l.take (k + 1)) = byte (roll s (l.take k)) l[k] := by
  unfold roll
  rw [List.take_add_one, List.foldl_append]
  simp [List.getElem?_eq_getElem hk]
theorem crc_lt (l : List Nat) : crc l < 4294967296 := by unfold crc; omega

/-- Bits above the lowest, and the lowest. -/
theorem xor_half (a b : Nat) : (a ^^^ b) / 2 = a / 2 ^^^ b / 2 := by
  have := Nat.shiftRight_xor_distrib (a := a) (b := b) (i := 1)
  simpa [Nat.shiftRight_eq_div_pow] using this
theorem xor_low (a b : Nat) : (a ^^^ b) % 2 = (a % 2 + b % 2) % 2 := by
  have h := Nat.xor_mod_two_pow (a := a) (b := b) (n := 1)
  simp only [Nat.pow_one] at h
  rw [h]
  rcases Nat.mod_two_eq_zero_or_one a with e | e <;> rcases Nat.mod_two_eq_zero_or_one b with f | f <;> rw [e, f] <;> rfl
theorem xor_split (a b : Nat) : a ^^^ b = 2 * (a / 2 ^^^ b / 2) + (a % 2 + b % 2) % 2 := by
  rw [← xor_half, ← xor_low]; omega
theorem not32 (x : Nat) (h : x < 4294967296) : 4294967295 ^^^ x = 4294967295 - x := by
  have := congrArg BitVec.toNat (BitVec.allOnes_xor (x := BitVec.ofNat 32 x))
  rw [BitVec.toNat_xor, BitVec.toNat_not, BitVec.toNat_allOnes, BitVec.toNat_ofNat, Nat.mod_eq_of_lt (by omega)] at this
  exact this

/-- One bit of 'apart': what is found so far (o), the next bit's weight (t), what is left of the two. -/
def Apart (a b o t x y : Nat) : Prop := o + t * (x ^^^ y) = a ^^^ b ∧ t * x ≤ a ∧ t * y ≤ b ∧ o < t
theorem Apart.start (a b : Nat) : Apart a b 0 1 a b := ⟨by simp, by simp, by simp, by simp⟩
theorem Apart.small {a b o t x y : Nat} (h : Apart a b o t x y) (ha : a < 4294967296) (hb : b < 4294967296) (hp : 0 < x ∨ 0 < y) : t < 4294967296 := by
  rcases hp with hp | hp
  · have := Nat.mul_le_mul_left t hp
    have := h.2.1
    omega
  · have := Nat.mul_le_mul_left t hp
    have := h.2.2.1
    omega
theorem Apart.step {a b o t x y : Nat} (h : Apart a b o t x y) : Apart a b (o + t * ((x % 2 + y % 2) % 2)) (t * 2) (x / 2) (y / 2) := by
  obtain ⟨h1, h2, h3, h4⟩ := h
  refine ⟨?_, ?_, ?_, ?_⟩
  · rw [← h1, xor_split x y, Nat.mul_add, Nat.mul_assoc]; omega
  · rw [Nat.mul_assoc]
    exact Nat.le_trans (Nat.mul_le_mul_left t (by omega)) h2
  · rw [Nat.mul_assoc]
    exact Nat.le_trans (Nat.mul_le_mul_left t (by omega)) h3
  · have : t * ((x % 2 + y % 2) % 2) ≤ t * 1 := Nat.mul_le_mul_left t (by omega)
    omega
theorem Apart.stop {a b o t : Nat} (h : Apart a b o t 0 0) : o = a ^^^ b := by simpa using h.1

/-- The reference's step of one bit. -/
theorem bit_ref (s : Nat) : bit s = if s % 2 = 1 then s / 2 ^^^ poly else s / 2 := by
  unfold bit
  rcases Nat.mod_two_eq_zero_or_one s with e | e <;> simp [e]

end Go.Proofs.Ytipijjlajhofkaa.M
