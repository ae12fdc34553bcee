/- Plain: what a cover is; at, few, by numbers. -/
import Derived.Test.YthinjaddebfdhaaW15
import Derived.Test.YthinjaddebfdhaaR1
namespace Go.Proofs.Ythinjaddebfdhaa
open Go.RowKit

def xc (a : Int) (d : Nat) : Nat := (a + 1800000000).toNat / 2 ^ (32 - d)
def yc (b : Int) (d : Nat) : Nat := (b + 900000000).toNat / 2 ^ (32 - d)
theorem xc_le (a : Int) (d : Nat) (h : a ≤ 1800000000) : (xc a d : Int) ≤ 3600000000 := by
  have := Nat.div_le_self (a + 1800000000).toNat (2 ^ (32 - d))
  unfold xc; omega
theorem yc_le (b : Int) (d : Nat) (h : b ≤ 900000000) : (yc b d : Int) ≤ 3600000000 := by
  have := Nat.div_le_self (b + 900000000).toNat (2 ^ (32 - d))
  unfold yc; omega
theorem xc_mono {a c : Int} (d : Nat) (h : a ≤ c) : xc a d ≤ xc c d := Nat.div_le_div_right (by omega)
theorem yc_mono {a c : Int} (d : Nat) (h : a ≤ c) : yc a d ≤ yc c d := Nat.div_le_div_right (by omega)
theorem cast_div (n : Int) (k : Nat) (h : 0 ≤ n) : n / 2 ^ k = ((n.toNat / 2 ^ k : Nat) : Int) := by
  rw [Int.natCast_ediv, Int.toNat_of_nonneg h]; simp

def mayR4 (a b c e : Int) : Prop := -1800000000 ≤ a ∧ a ≤ c ∧ c ≤ 1800000000 ∧ -900000000 ≤ b ∧ b ≤ e ∧ e ≤ 900000000
theorem mayR_iff {a b c e : Int} : mayR a b c e = true ↔ mayR4 a b c e := by
  simp only [mayR, mayR4, mayB, inB, Bool.and_eq_true, decide_eq_true_eq]
  omega

theorem at_nat {a b c e : Int} (h : mayR4 a b c e) (d : Nat) (hd : (d : Int) ≤ 32) (w : World) :
    Calls Try.prog 23 #[.agg #[.int .i64 a, .int .i64 b, .int .i64 c, .int .i64 e], .int .i64 d] w fun r w' =>
      r = .returned (.agg #[.int .u64 (xc a d), .int .u64 (xc c d), .int .u64 (yc b d), .int .u64 (yc e d)]) ∧ Below w.heap.size w w' := by
  obtain ⟨h1, h2, h3, h4, h5, h6⟩ := h
  have k := at_any a b c e d h1 (by omega) (by omega) h3 h4 (by omega) (by omega) h6 hd w
  rw [cast_div _ _ (by omega), cast_div _ _ (by omega), cast_div _ _ (by omega), cast_div _ _ (by omega)] at k
  exact k

def fw (a b c e : Int) (m d : Nat) : Bool := fewB (xc a d) (xc c d) (yc b d) (yc e d) m
theorem few_nat {a b c e : Int} (h : mayR4 a b c e) (m d : Nat) (hm : (m : Int) ≤ 64) (w : World) :
    Calls Try.prog 24 #[.agg #[.int .u64 (xc a d), .int .u64 (xc c d), .int .u64 (yc b d), .int .u64 (yc e d)], .int .u64 m] w fun r w' =>
      r = .returned (.bool (fw a b c e m d)) ∧ Below w.heap.size w w' := by
  obtain ⟨h1, h2, h3, h4, h5, h6⟩ := h
  exact few_any _ _ _ _ m (xc_mono d h2) (xc_le c d h3) (yc_mono d h5) (yc_le e d h6) hm w
theorem fw_zero {a b c e : Int} (h : mayR4 a b c e) (m : Nat) (hm : 1 ≤ m) : fw a b c e m 0 = true := by
  obtain ⟨h1, h2, h3, h4, h5, h6⟩ := h
  have k1 : xc a 0 = 0 := Nat.div_eq_of_lt (by simp; omega)
  have k2 : xc c 0 = 0 := Nat.div_eq_of_lt (by simp; omega)
  have k3 : yc b 0 = 0 := Nat.div_eq_of_lt (by simp; omega)
  have k4 : yc e 0 = 0 := Nat.div_eq_of_lt (by simp; omega)
  unfold fw fewB
  rw [k1, k2, k3, k4]
  simp; omega

def dep (f : Nat → Bool) : Nat → Nat
  | 0 => 0
  | d + 1 => if f (d + 1) then d + 1 else dep f d
theorem dep_le (f : Nat → Bool) : ∀ d : Nat, dep f d ≤ d
  | 0 => Nat.le_refl _
  | d + 1 => by
    have := dep_le f d
    unfold dep; split <;> omega
theorem dep_at (f : Nat → Bool) (h0 : f 0 = true) : ∀ d : Nat, f (dep f d) = true
  | 0 => h0
  | d + 1 => by
    have := dep_at f h0 d
    unfold dep
    split
    · assumption
    · exact this
theorem dep_yes {f : Nat → Bool} {d : Nat} (h : f d = true) : dep f d = d := by
  cases d with
  | zero => rfl
  | succ d => unfold dep; rw [if_pos h]
theorem dep_no {f : Nat → Bool} {d : Nat} (h : f (d + 1) = false) : dep f (d + 1) = dep f d := by
  have : dep f (d + 1) = if f (d + 1) then d + 1 else dep f d := rfl
  rw [this, h]; rfl

def cellsAt (a b c e : Int) (d : Nat) : List Nat := M.cellsL 32 (yc b d) (yc e d + 1 - yc b d) (xc a d) (xc c d + 1 - xc a d)
def coverD (a b c e : Int) (m : Nat) : Nat := dep (fw a b c e m) 32
def coverS (a b c e : Int) (m : Nat) : List Nat := M.srt (cellsAt a b c e (coverD a b c e m))
def coverL (a b c e : Int) (m : Nat) : List M.Rg := M.ranges (4 ^ (32 - coverD a b c e m)) (coverS a b c e m)

theorem coverD_le {a b c e : Int} {m : Nat} : coverD a b c e m ≤ 32 := dep_le _ 32
theorem coverD_fw {a b c e : Int} {m : Nat} (h : mayR4 a b c e) (hm : 1 ≤ m) : fw a b c e m (coverD a b c e m) = true := dep_at _ (fw_zero h m hm) 32
theorem cells_few {a b c e : Int} {m : Nat} (h : mayR4 a b c e) (d : Nat) (hf : fw a b c e m d = true) : (cellsAt a b c e d).length ≤ m ∧ 1 ≤ (cellsAt a b c e d).length := by
  obtain ⟨h1, h2, h3, h4, h5, h6⟩ := h
  have k1 := xc_mono d h2
  have k2 := yc_mono d h5
  unfold fw fewB at hf
  rw [decide_eq_true_eq] at hf
  unfold cellsAt
  rw [M.cells_length]
  have e1 : xc c d + 1 - xc a d = xc c d - xc a d + 1 := by omega
  have e2 : yc e d + 1 - yc b d = yc e d - yc b d + 1 := by omega
  rw [e1, e2]
  refine ⟨hf.2.2, ?_⟩
  have := Nat.mul_le_mul (show 1 ≤ xc c d - xc a d + 1 by omega) (show 1 ≤ yc e d - yc b d + 1 by omega)
  omega
theorem xc_lt {a : Int} (d : Nat) (hd : d ≤ 32) (h : a ≤ 1800000000) : xc a d < 2 ^ d := by
  unfold xc
  rw [Nat.div_lt_iff_lt_mul (Nat.two_pow_pos _), ← Nat.pow_add]
  have : d + (32 - d) = 32 := by omega
  rw [this]; omega
theorem yc_lt {b : Int} (d : Nat) (hd : d ≤ 32) (h : b ≤ 900000000) : yc b d < 2 ^ d := by
  unfold yc
  rw [Nat.div_lt_iff_lt_mul (Nat.two_pow_pos _), ← Nat.pow_add]
  have : d + (32 - d) = 32 := by omega
  rw [this]; omega
theorem cells_d {a b c e : Int} (h : mayR4 a b c e) (d : Nat) (hd : d ≤ 32) : cellsAt a b c e d = M.cellsL d (yc b d) (yc e d + 1 - yc b d) (xc a d) (xc c d + 1 - xc a d) := by
  obtain ⟨h1, h2, h3, h4, h5, h6⟩ := h
  have k1 := xc_mono d h2
  have k2 := yc_mono d h5
  have k3 := xc_lt (a := c) d hd h3
  have k4 := yc_lt (b := e) d hd h6
  unfold cellsAt
  have := M.cells_small (k := d) (j := 32 - d) (y0 := yc b d) (ny := yc e d + 1 - yc b d) (by omega) (xc c d + 1 - xc a d) (xc a d) (by omega)
  rwa [show d + (32 - d) = 32 by omega] at this
theorem cells_nd {a b c e : Int} (h : mayR4 a b c e) (d : Nat) (hd : d ≤ 32) : (cellsAt a b c e d).Nodup := by
  rw [cells_d h d hd]
  obtain ⟨h1, h2, h3, h4, h5, h6⟩ := h
  have k1 := xc_mono d h2
  have k2 := yc_mono d h5
  have k3 := xc_lt (a := c) d hd h3
  have k4 := yc_lt (b := e) d hd h6
  exact M.cells_nodup (by omega) _ _ (by omega)
theorem cells_lt {a b c e : Int} (h : mayR4 a b c e) (d : Nat) (hd : d ≤ 32) : ∀ x ∈ cellsAt a b c e d, x < 4 ^ d := by
  rw [cells_d h d hd]
  intro x hx
  obtain ⟨u, v, _, _, _, _, rfl⟩ := M.mem_cells.1 hx
  exact M.cod_lt d u v

end Go.Proofs.Ythinjaddebfdhaa
