/- Plain law: turned round, three points turn the other way; edges meet whichever comes first, whichever end. -/
import Derived.Test.YtkneohngbkmlpaaW9
namespace Go.Proofs.Ytkneohngbkmlpaa
open Go.RowKit

theorem cmp_same {x y x' y' : Int} (h : x - y = x' - y') : cmpZ x y = cmpZ x' y' := by
  unfold cmpZ
  repeat' split
  all_goals omega
theorem cmp_turned {x y x' y' : Int} (h : x - y = y' - x') : cmpZ x y = - cmpZ x' y' := by
  unfold cmpZ
  repeat' split
  all_goals omega

theorem turn_rot (a b c : Pt) : turnZ b c a = turnZ a b c := by
  obtain ⟨ax, ay⟩ := a
  obtain ⟨bx, byy⟩ := b
  obtain ⟨cx, cy⟩ := c
  refine cmp_same ?_
  dsimp only
  simp only [Int.sub_mul, Int.mul_sub]
  have h1 := Int.mul_comm ax byy
  have h2 := Int.mul_comm ax cy
  have h3 := Int.mul_comm bx ay
  have h4 := Int.mul_comm bx cy
  have h5 := Int.mul_comm cx ay
  have h6 := Int.mul_comm cx byy
  have h7 := Int.mul_comm ax ay
  have h8 := Int.mul_comm bx byy
  have h9 := Int.mul_comm cx cy
  omega
theorem turn_swap (a b c : Pt) : turnZ b a c = - turnZ a b c := by
  obtain ⟨ax, ay⟩ := a
  obtain ⟨bx, byy⟩ := b
  obtain ⟨cx, cy⟩ := c
  refine cmp_turned ?_
  dsimp only
  simp only [Int.sub_mul, Int.mul_sub]
  have h1 := Int.mul_comm ax byy
  have h2 := Int.mul_comm ax cy
  have h3 := Int.mul_comm bx ay
  have h4 := Int.mul_comm bx cy
  have h5 := Int.mul_comm cx ay
  have h6 := Int.mul_comm cx byy
  have h7 := Int.mul_comm ax ay
  have h8 := Int.mul_comm bx byy
  have h9 := Int.mul_comm cx cy
  omega

theorem span_comm (a b : Pt) : spanR a b = spanR b a := by
  unfold spanR
  rw [Int.min_comm a.x, Int.min_comm a.y, Int.max_comm a.x, Int.max_comm a.y]
theorem on_swap (a b p : Pt) : decide (onZ a b p) = decide (onZ b a p) := by
  rw [decide_eq_decide]
  unfold onZ
  rw [turn_swap a b p, span_comm b a]
  constructor <;> rintro ⟨h1, h2⟩ <;> exact ⟨by omega, h2⟩

theorem cross_swap (a b c d : Pt) : crossZ c d a b = crossZ a b c d := by
  unfold crossZ; rw [Bool.and_comm]
theorem cross_first (a b c d : Pt) : crossZ b a c d = crossZ a b c d := by
  unfold crossZ
  rw [turn_swap a b c, turn_swap a b d, Int.neg_mul_neg, Int.mul_comm (turnZ c d b)]
theorem cross_second (a b c d : Pt) : crossZ a b d c = crossZ a b c d := by
  rw [← cross_swap, cross_first, cross_swap]

theorem meet_swap (a b c d : Pt) : meetZ c d a b = meetZ a b c d := by
  unfold meetZ
  rw [cross_swap]
  cases crossZ a b c d <;> cases decide (onZ a b c) <;> cases decide (onZ a b d) <;> cases decide (onZ c d a) <;> cases decide (onZ c d b) <;> rfl
theorem meet_first (a b c d : Pt) : meetZ b a c d = meetZ a b c d := by
  unfold meetZ
  rw [cross_first, on_swap b a c, on_swap b a d]
  cases crossZ a b c d <;> cases decide (onZ a b c) <;> cases decide (onZ a b d) <;> cases decide (onZ c d a) <;> cases decide (onZ c d b) <;> rfl
theorem meet_second (a b c d : Pt) : meetZ a b d c = meetZ a b c d := by
  rw [← meet_swap, meet_first, meet_swap]

theorem TurnF_rot (a b c : Pt) : TurnF b c a = TurnF a b c := by
  unfold TurnF
  rw [turn_rot]
  have h : (May b ∧ May c ∧ May a) ↔ (May a ∧ May b ∧ May c) := ⟨fun ⟨x, y, z⟩ => ⟨z, x, y⟩, fun ⟨x, y, z⟩ => ⟨y, z, x⟩⟩
  simp only [h]
theorem TurnF_swap (a b c : Pt) : TurnF b a c = - TurnF a b c := by
  unfold TurnF
  rw [turn_swap]
  have h : (May b ∧ May a ∧ May c) ↔ (May a ∧ May b ∧ May c) := ⟨fun ⟨x, y, z⟩ => ⟨y, x, z⟩, fun ⟨x, y, z⟩ => ⟨y, x, z⟩⟩
  simp only [h]
  split <;> simp
theorem MeetF_swap (a b c d : Pt) : MeetF c d a b = MeetF a b c d := by
  unfold MeetF
  have h : (May c ∧ May d ∧ May a ∧ May b) ↔ (May a ∧ May b ∧ May c ∧ May d) := ⟨fun ⟨x, y, z, u⟩ => ⟨z, u, x, y⟩, fun ⟨x, y, z, u⟩ => ⟨z, u, x, y⟩⟩
  rw [meet_swap, decide_eq_decide.2 h]
theorem MeetF_first (a b c d : Pt) : MeetF b a c d = MeetF a b c d := by
  unfold MeetF
  have h : (May b ∧ May a ∧ May c ∧ May d) ↔ (May a ∧ May b ∧ May c ∧ May d) := ⟨fun ⟨x, y, z, u⟩ => ⟨y, x, z, u⟩, fun ⟨x, y, z, u⟩ => ⟨y, x, z, u⟩⟩
  rw [meet_first, decide_eq_decide.2 h]
theorem MeetF_second (a b c d : Pt) : MeetF a b d c = MeetF a b c d := by
  unfold MeetF
  have h : (May a ∧ May b ∧ May d ∧ May c) ↔ (May a ∧ May b ∧ May c ∧ May d) := ⟨fun ⟨x, y, z, u⟩ => ⟨x, y, u, z⟩, fun ⟨x, y, z, u⟩ => ⟨x, y, u, z⟩⟩
  rw [meet_second, decide_eq_decide.2 h]
theorem OnF_swap (a b c : Pt) : OnF b a c = OnF a b c := by
  unfold OnF
  have h : (May b ∧ May a ∧ May c) ↔ (May a ∧ May b ∧ May c) := ⟨fun ⟨x, y, z⟩ => ⟨y, x, z⟩, fun ⟨x, y, z⟩ => ⟨y, x, z⟩⟩
  rw [on_swap, decide_eq_decide.2 h]
theorem Cross_meets (a b c d : Pt) (h : CrossF a b c d = true) : MeetF a b c d = true := by
  unfold CrossF MeetF at *
  rw [Bool.and_eq_true] at h
  rw [h.1]
  unfold meetZ
  rw [h.2]; rfl

end Go.Proofs.Ytkneohngbkmlpaa
