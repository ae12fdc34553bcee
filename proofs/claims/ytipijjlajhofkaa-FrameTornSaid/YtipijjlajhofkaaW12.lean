/- Walks: slices.Clone; a number out of its bytes. -/
import Derived.Test.YtipijjlajhofkaaW11
import Derived.WalkLawsBesides
namespace Go.Proofs.Ytipijjlajhofkaa
open Go.RowKit

set_option maxHeartbeats 1000000 in
theorem Clone_any (p : Addr) (l : List Nat) (c : Nat) (w : World) (hr : Rd w w.heap.size (some p) l) (hl : l.length ≤ 900000) :
    Calls Try.prog 25 #[.slice (some p) l.length c] w fun e w' => ∃ v', e = .returned v' ∧ Own w' w.heap.size v' l ∧ Below w.heap.size w w' := by
  obtain ⟨v1, w1, hrun, ho, hb⟩ := run_copy c hr hl
  have RUN := Lib.hid hrun
  have HO := Lib.hid ho
  have HB := Lib.hid hb
  clear hrun ho hb hr
  have kn : ∀ w : World, (binOp .eql 22 (.slice (some p) l.length c) (.slice none 0 0)).run Try.prog w = .ok (.bool false) w := fun w => by
    have := run_equal_slice_nil (P := Try.prog) (w := w) 22 5 (some p) l.length c Try.underlying22
    simp only [binOp, Sem.run_bind, this]; rfl
  go_enter Try.func25, Try.ntmps25
  go_wp2_with (at_builtin; refine Lib.wpList_append_run _ rfl (.tmp 5) (.tmp 6) 22 22 rfl _ _ rfl rfl _ w1 RUN.out ?_)
  go_ret
  exact ⟨_, rfl, HO.out, HB.out⟩

/-- A number out of its bytes, the lowest first. -/
def num : List Nat → Nat
  | [] => 0
  | b :: l => b + 256 * num l

theorem ofInt_wrap (x : Int) : BitVec.ofInt 64 (IntKind.i64.wrap x) = BitVec.ofInt 64 x := by
  apply BitVec.eq_of_toInt_eq
  rw [BitVec.toInt_ofInt, BitVec.toInt_ofInt, IntKind.wrap_i64]
  simp only [Int.bmod_def]
  omega
theorem or_join (X b k : Nat) (hk : k < 8) (hX : X < 2 ^ (8 * k)) (hb : b < 256) :
    bits .or .i64 (IntKind.i64.wrap (X : Int)) (IntKind.i64.wrap ((b : Int) * 2 ^ (8 * k))) = IntKind.i64.wrap ((X + b * 2 ^ (8 * k) : Nat) : Int) := by
  have hs : b * 2 ^ (8 * k) + X < 2 ^ 64 := by
    have h1 : (b + 1) * 2 ^ (8 * k) ≤ 256 * 2 ^ (8 * k) := Nat.mul_le_mul_right _ (by omega)
    have h2 : 256 * 2 ^ (8 * k) ≤ 2 ^ 64 := by
      rw [show (256 : Nat) = 2 ^ 8 from rfl, ← Nat.pow_add]
      exact Nat.pow_le_pow_right (by omega) (by omega)
    rw [Nat.add_mul, Nat.one_mul] at h1
    omega
  show IntKind.i64.wrap ((BitVec.ofInt 64 (IntKind.i64.wrap (X : Int)) ||| BitVec.ofInt 64 (IntKind.i64.wrap ((b : Int) * 2 ^ (8 * k)))).toNat : Int) = _
  have e : (b : Int) * 2 ^ (8 * k) = ((b * 2 ^ (8 * k) : Nat) : Int) := by rw [Int.natCast_mul, Int.natCast_pow]; rfl
  rw [ofInt_wrap, ofInt_wrap, e, BitVec.ofInt_natCast, BitVec.ofInt_natCast, BitVec.toNat_or, BitVec.toNat_ofNat, BitVec.toNat_ofNat,
    Nat.mod_eq_of_lt (by omega), Nat.mod_eq_of_lt (by omega), Nat.or_comm, Nat.mul_comm b, ← Nat.two_pow_add_eq_or_of_lt hX, Nat.add_comm]

theorem num_snoc : ∀ (a : List Nat) (b : Nat), num (a ++ [b]) = num a + b * 2 ^ (8 * a.length)
  | [], b => by simp [num]
  | x :: a, b => by
    have e : b * 2 ^ (8 * (a.length + 1)) = 256 * (b * 2 ^ (8 * a.length)) := by
      rw [Nat.mul_add, Nat.pow_add, ← Nat.mul_assoc, Nat.mul_comm _ (2 ^ (8 * 1))]
    simp only [List.cons_append, num, num_snoc a b, List.length_cons, e]
    omega
theorem num_lt : ∀ (l : List Nat), (∀ b ∈ l, b < 256) → num l < 2 ^ (8 * l.length)
  | [], _ => by simp [num]
  | x :: l, h => by
    have h1 := num_lt l fun b hb => h b (by simp [hb])
    have h2 := h x (by simp)
    have e : 2 ^ (8 * (l.length + 1)) = 256 * 2 ^ (8 * l.length) := by
      rw [Nat.mul_add, Nat.pow_add, Nat.mul_comm _ (2 ^ (8 * 1))]
    simp only [num, List.length_cons, e]
    omega
theorem num_take (l : List Nat) (k : Nat) (h : k < l.length) : num (l.take (k + 1)) = num (l.take k) + l[k] * 2 ^ (8 * k) := by
  have e : l.take (k + 1) = l.take k ++ [l[k]] := by rw [List.take_add_one, List.getElem?_eq_getElem h]; rfl
  rw [e, num_snoc]
  have : (l.take k).length = k := by simp; omega
  rw [this]
theorem num_take_lt (l : List Nat) (k : Nat) (h : k ≤ l.length) (hl : ∀ b ∈ l, b < 256) : num (l.take k) < 2 ^ (8 * k) := by
  have := num_lt (l.take k) fun b hb => hl b (List.mem_of_mem_take hb)
  have e : (l.take k).length = k := by simp; omega
  rw [e] at this
  exact this

set_option maxHeartbeats 1000000 in
theorem get_int (p : Addr) (l : List Nat) (n c : Nat) (w : World) (hn : l.length = n) (hr : Rd w w.heap.size (some p) l) (hl : (8 : Int) ≤ n) :
    Calls Try.prog 27 #[.slice (some p) n c, .int .i64 8] w fun e w' => e = .returned (.int .i64 (IntKind.i64.wrap (num (l.take 8)))) ∧ w = w' := by
  have HR := Lib.hid hr
  clear hr
  go_enter Try.func27, Try.ntmps27
  go_wp2
  go_loop [5, 8] (fun x i => ∃ k : Nat, k ≤ 8 ∧ i = .int .i64 k ∧ x = .int .i64 (IntKind.i64.wrap (num (l.take k)))) (fun _ i => 8 - (intOf i).toNat)
  case atStart => exact ⟨0, by omega, rfl, val_int (by rw [List.take_zero]; decide)⟩
  case round =>
    obtain ⟨k, hk, rfl, rfl⟩ := hrel
    by_cases hlt : k < 8
    · obtain ⟨q, e, _, hc, hb⟩ := HR.out.get (show k < l.length by omega)
      cases e
      have hj := or_join (num (l.take k)) l[k] k hlt (num_take_lt l k (by omega) HR.out.1) hb
      rw [← num_take l k (by omega)] at hj
      have hw : ∀ x : Int, IntKind.i64.wrap x = wrap64 x := fun x => by unfold wrap64; exact IntKind.wrap_i64 x
      rw [hw ((l[k] : Nat) * 2 ^ (8 * k))] at hj
      clear hw
      have HJ := Lib.hid hj
      clear hj
      generalize l[k] = b at *
      generalize IntKind.i64.wrap (num (l.take k)) = x at *
      go_wp2
      go_round
      case rel => exact ⟨k + 1, by omega, by simp, val_int HJ.out⟩
      case measure => simp [intOf]; omega
    · obtain rfl : k = 8 := by omega
      go_wp2
      go_ret
      exact ⟨rfl, rfl⟩

end Go.Proofs.Ytipijjlajhofkaa
