/- The plain law of rings: going to the right of a point and going upward from it tell the same. -/
import Derived.Test.YtkneohngbkmlpaaW20
import Derived.Test.YtkneohngbkmlpaaPlain
namespace Go.Proofs.Ytkneohngbkmlpaa
open Go.RowKit

theorem sgn_facts (x y : Int) : (0 < x → 0 < y → 0 < x * y) ∧ (0 < x → y < 0 → x * y < 0) ∧ (x < 0 → 0 < y → x * y < 0) ∧ (x < 0 → y < 0 → 0 < x * y) ∧ (x = 0 → x * y = 0) ∧ (y = 0 → x * y = 0) :=
  ⟨fun h k => Int.mul_pos h k, fun h k => Int.mul_neg_of_pos_of_neg h k, fun h k => Int.mul_neg_of_neg_of_pos h k, fun h k => Int.mul_pos_of_neg_of_neg h k, fun h => by rw [h, Int.zero_mul], fun h => by rw [h, Int.mul_zero]⟩

theorem flip_key (α β γ δ m n : Int)
    (hm : (0 < α → 0 < δ → 0 < m) ∧ (0 < α → δ < 0 → m < 0) ∧ (α < 0 → 0 < δ → m < 0) ∧ (α < 0 → δ < 0 → 0 < m) ∧ (α = 0 → m = 0) ∧ (δ = 0 → m = 0))
    (hk : (0 < β → 0 < γ → 0 < n) ∧ (0 < β → γ < 0 → n < 0) ∧ (β < 0 → 0 < γ → n < 0) ∧ (β < 0 → γ < 0 → 0 < n) ∧ (β = 0 → n = 0) ∧ (γ = 0 → n = 0))
    (hn : ¬ (m = n ∧ (α ≤ 0 ∨ β ≤ 0) ∧ (0 ≤ α ∨ 0 ≤ β) ∧ (γ ≤ 0 ∨ δ ≤ 0) ∧ (0 ≤ γ ∨ 0 ≤ δ))) :
    (((decide (0 < γ) != decide (0 < δ)) && (decide (n < m) == decide (0 < δ))) != ((decide (0 < α) != decide (0 < β)) && (if 0 < β then decide (m < n) else decide (n < m)))) =
      ((decide (0 < α) && decide (0 < γ)) != (decide (0 < β) && decide (0 < δ))) := by
  obtain ⟨m1, m2, m3, m4, m5, m6⟩ := hm
  obtain ⟨k1, k2, k3, k4, k5, k6⟩ := hk
  by_cases a : 0 < α <;> by_cases b : 0 < β <;> by_cases c : 0 < γ <;> by_cases d : 0 < δ <;> by_cases e : m < n <;> by_cases f : n < m <;>
    simp only [a, b, c, d, e, f, decide_true, decide_false, if_true, if_false, Bool.and_true, Bool.and_false] <;>
    first | rfl | (exfalso; omega)

def quad (q p : Pt) : Bool := decide (p.x < q.x) && decide (p.y < q.y)

theorem turn_rel (a b p : Pt) : turnZ a b p = cmpZ ((a.x - p.x) * (b.y - p.y)) ((b.x - p.x) * (a.y - p.y)) := by
  refine cmp_same ?_
  simp only [Int.sub_mul, Int.mul_sub]
  rw [Int.mul_comm b.y p.x, Int.mul_comm b.y a.x, Int.mul_comm a.y p.x, Int.mul_comm a.y a.x]
  omega
theorem turn_rel' (a b p : Pt) : turnZ b a p = cmpZ ((b.x - p.x) * (a.y - p.y)) ((a.x - p.x) * (b.y - p.y)) := turn_rel b a p

theorem cmp_pos (m n : Int) : decide (0 < cmpZ m n) = decide (n < m) := by
  rw [decide_eq_decide]; unfold cmpZ; split <;> (try split) <;> omega
theorem cmp_neg (m n : Int) : decide (cmpZ m n < 0) = decide (m < n) := by
  rw [decide_eq_decide]; unfold cmpZ; split <;> (try split) <;> omega
theorem cmp_zero (m n : Int) : cmpZ m n = 0 ↔ m = n := by
  unfold cmpZ; split <;> (try split) <;> omega

theorem edge_key (a b p : Pt) (hn : ¬ onZ a b p) : (flipB a b p != crossV a b p) = (quad a p != quad b p) := by
  have k := flip_key (a.x - p.x) (b.x - p.x) (a.y - p.y) (b.y - p.y) ((a.x - p.x) * (b.y - p.y)) ((b.x - p.x) * (a.y - p.y)) (sgn_facts _ _) (sgn_facts _ _) (by
    rintro ⟨h1, h2, h3, h4, h5⟩
    refine hn ⟨?_, ?_⟩
    · rw [turn_rel]; exact (cmp_zero _ _).2 h1
    · unfold holdsR spanR; dsimp only; omega)
  unfold flipB crossV quad
  rw [turn_rel a b p, turn_rel' a b p, cmp_pos, cmp_neg, cmp_neg]
  have e1 : decide (p.x < a.x) = decide (0 < a.x - p.x) := by rw [decide_eq_decide]; omega
  have e2 : decide (p.x < b.x) = decide (0 < b.x - p.x) := by rw [decide_eq_decide]; omega
  have e3 : decide (p.y < a.y) = decide (0 < a.y - p.y) := by rw [decide_eq_decide]; omega
  have e4 : decide (p.y < b.y) = decide (0 < b.y - p.y) := by rw [decide_eq_decide]; omega
  have e5 : (p.x < b.x) = (0 < b.x - p.x) := by rw [eq_iff_iff]; omega
  rw [e1, e2, e3, e4]
  simp only [e5]
  exact k

theorem in_same (p : Pt) (l : List Pt) (c : Bool) (h0 : 0 < l.length) (hc : c = quad l[0] p) : ∀ (n k : Nat) (_hk : k ≤ l.length) (odd : Bool), l.length - k = n →
    goIn p ((edgesOf l).drop k) (if (odd != (c != quad (l[k % l.length]'(Nat.mod_lt _ h0)) p)) then 1 else -1) = refIn p ((edgesOf l).drop k) odd := by
  intro n
  induction n with
  | zero =>
    intro k hk odd hz
    obtain rfl : k = l.length := by omega
    have he : (edgesOf l).drop l.length = [] := List.drop_eq_nil_of_le (by simp [edgesOf])
    rw [he]
    have hm : l.length % l.length = 0 := Nat.mod_self _
    unfold goIn refIn
    simp only [hm, hc]
    cases odd <;> simp
  | succ n ih =>
    intro k hk odd hz
    have hlt : k < l.length := by omega
    have hd := edges_drop l k hlt
    have hmk : k % l.length = k := Nat.mod_eq_of_lt hlt
    have hrec := ih (k + 1) (by omega)
    simp only [hmk]
    rw [hd]
    have hj : (k + 1) % l.length < l.length := Nat.mod_lt _ h0
    generalize l[(k + 1) % l.length] = b at *
    generalize l[k] = a at *
    unfold goIn refIn
    by_cases hon : onZ a b p
    · rw [if_pos hon, if_pos hon]
    · rw [if_neg hon, if_neg hon]
      have hk := edge_key a b p hon
      rw [← hrec (odd != crossV a b p) (by omega)]
      congr 1
      revert hk
      cases flipB a b p <;> cases crossV a b p <;> cases quad a p <;> cases quad b p <;> cases c <;> cases odd <;> simp

theorem In_same (p : Pt) (l : List Pt) (hl : l ≠ []) : goIn p (edgesOf l) (-1) = refIn p (edgesOf l) false := by
  have h0 : 0 < l.length := List.length_pos_iff.2 hl
  have h := in_same p l (quad l[0] p) h0 rfl l.length 0 (by omega) false (by omega)
  have hm : 0 % l.length = 0 := Nat.zero_mod _
  simpa [hm] using h
end Go.Proofs.Ytkneohngbkmlpaa
