/- GeomEdges' walk, with its callees' contracts. -/
import Derived.Test.YtkneohngbkmlpaaW18
import Derived.Test.YtkneohngbkmlpaaW17
import Derived.Test.YtkneohngbkmlpaaW16
import Derived.Test.YtkneohngbkmlpaaW14
namespace Go.Proofs.Ytkneohngbkmlpaa
open Go.RowKit

theorem refOn_any (a b p : Pt) (ha : May a) (hb : May b) (hp : May p) (w : World) :
    Calls Try.prog 18 #[pt a, pt b, pt p] w fun e w' => e = .returned (.bool (decide (onZ a b p))) ∧ Below w.heap.size w w' := by
  have e : decide (onZ a b p) = (decide (turnZ a b p = 0) && decide (btw a.x p.x b.x) && decide (btw a.y p.y b.y)) := by
    rw [← Bool.decide_and, ← Bool.decide_and, decide_eq_decide]
    unfold onZ holdsR spanR btw
    dsimp only
    omega
  rw [e]
  exact refOn_road a.x a.y b.x b.y p.x p.y _ _ _ (refTurn_any a b p ha hb hp) (between_any _ _ _) (between_any _ _ _) w

theorem small {x y : Int} (h : -1 ≤ x * y ∧ x * y ≤ 1) : IntKind.i64.wrap (x * y) = x * y := by rw [IntKind.wrap_i64]; omega
theorem eq_neg {x : Int} (h : -1 ≤ x ∧ x ≤ 1) : (x == -1) = decide (x < 0) := by
  by_cases e : x = -1
  · subst e; rfl
  · rw [decide_eq_false (by omega)]; simpa using e

theorem refCross_any (a b c d : Pt) (ha : May a) (hb : May b) (hc : May c) (hd : May d) (w : World) :
    Calls Try.prog 24 #[pt a, pt b, pt c, pt d] w fun e w' => e = .returned (.bool (crossZ a b c d)) ∧ Below w.heap.size w w' := by
  have m1 := mul_le (turnZ_le a b c) (turnZ_le a b d)
  have m2 := mul_le (turnZ_le c d a) (turnZ_le c d b)
  exact refCross_road a.x a.y b.x b.y c.x c.y d.x d.y _ _ _ _ _ _ _ _ (small m1) (small m2) (eq_neg m1) (eq_neg m2) (refTurn_any a b c ha hb hc) (refTurn_any a b d ha hb hd) (refTurn_any c d a hc hd ha) (refTurn_any c d b hc hd hb) w

theorem refMeet_any (a b c d : Pt) (ha : May a) (hb : May b) (hc : May c) (hd : May d) (w : World) :
    Calls Try.prog 23 #[pt a, pt b, pt c, pt d] w fun e w' => e = .returned (.bool (meetZ a b c d)) ∧ Below w.heap.size w w' :=
  refMeet_road a.x a.y b.x b.y c.x c.y d.x d.y _ _ _ _ _ (refCross_any a b c d ha hb hc hd) (refOn_any a b c ha hb hc) (refOn_any a b d ha hb hd) (refOn_any c d a hc hd ha) (refOn_any c d b hc hd hb) w

theorem Edges_any (a b c d : Pt) (w : World) :
    Calls Try.prog 5 #[.agg #[.int .i64 a.x, .int .i64 a.y, .int .i64 b.x, .int .i64 b.y, .int .i64 c.x, .int .i64 c.y, .int .i64 d.x, .int .i64 d.y]] w fun e w' => e = .returned (.bool true) ∧ Below w.heap.size w w' := by
  refine Edges_road a.x a.y b.x b.y c.x c.y d.x d.y (TurnF a b c) (decide (May a ∧ May b ∧ May c)) (decide (May d)) (MeetF a b c d) (CrossF a b c d) (OnF a b c) ?_ ?_
    (refAll3 _ _ _ _ _ _) (refMay_any d) ?_ ?_ (Turn_any a b c) (On_any a b c) (May_any d) (Meet_any a b c d) (Cross_any a b c d) ?_ ?_ awake_any w
  · intro h
    have h := of_decide_eq_false h
    unfold TurnF OnF
    rw [if_neg h, decide_eq_false h]
    exact ⟨rfl, rfl⟩
  · intro h
    have h : ¬ (May a ∧ May b ∧ May c ∧ May d) := fun q => by simp [q.1, q.2.1, q.2.2.1, q.2.2.2] at h
    unfold MeetF CrossF
    rw [decide_eq_false h]
    exact ⟨rfl, rfl⟩
  · intro h w
    have h := of_decide_eq_true h
    unfold TurnF
    rw [if_pos h]
    exact refTurn_any a b c h.1 h.2.1 h.2.2 w
  · intro h w
    have h := of_decide_eq_true h
    unfold OnF
    rw [decide_eq_true h]
    exact refOn_any a b c h.1 h.2.1 h.2.2 w
  · intro h w
    have h : (May a ∧ May b ∧ May c) ∧ May d := by simpa using h
    unfold MeetF
    rw [decide_eq_true ⟨h.1.1, h.1.2.1, h.1.2.2, h.2⟩]
    exact refMeet_any a b c d h.1.1 h.1.2.1 h.1.2.2 h.2 w
  · intro h w
    have h : (May a ∧ May b ∧ May c) ∧ May d := by simpa using h
    unfold CrossF
    rw [decide_eq_true ⟨h.1.1, h.1.2.1, h.1.2.2, h.2⟩]
    exact refCross_any a b c d h.1.1 h.1.2.1 h.1.2.2 h.2 w
end Go.Proofs.Ytkneohngbkmlpaa
