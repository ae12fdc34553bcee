/- GeomTurns' walk, with its callees' contracts. -/
import Derived.Test.YtkneohngbkmlpaaW13
import Derived.Test.YtkneohngbkmlpaaW12
namespace Go.Proofs.Ytkneohngbkmlpaa
open Go.RowKit

theorem TurnF_le (a b c : Pt) : -1 ≤ TurnF a b c ∧ TurnF a b c ≤ 1 := by
  unfold TurnF
  split
  · exact turnZ_le a b c
  · omega

theorem Turns_any (a b c d : Pt) (w : World) :
    Calls Try.prog 6 #[.agg #[.int .i64 a.x, .int .i64 a.y, .int .i64 b.x, .int .i64 b.y, .int .i64 c.x, .int .i64 c.y, .int .i64 d.x, .int .i64 d.y]] w fun e w' => e = .returned (.bool true) ∧ Below w.heap.size w w' :=
  Turns_road a.x a.y b.x b.y c.x c.y d.x d.y (TurnF a b c) (MeetF a b c d) (CrossF a b c d) (OnF a b c) (TurnF_le a b c).1 (TurnF_le a b c).2 (Cross_meets a b c d)
    (Turn_any a b c) (Meet_any a b c d)
    (fun w => by have h := Turn_any b c a w; rw [TurnF_rot] at h; exact h)
    (fun w => by have h := Turn_any b a c w; rw [TurnF_swap] at h; exact h)
    (fun w => by have h := Meet_any c d a b w; rw [MeetF_swap] at h; exact h)
    (fun w => by have h := Meet_any b a c d w; rw [MeetF_first] at h; exact h)
    (fun w => by have h := Meet_any a b d c w; rw [MeetF_second] at h; exact h)
    (Cross_any a b c d) (On_any a b c)
    (fun w => by have h := On_any b a c w; rw [OnF_swap] at h; exact h)
    awake_any w
end Go.Proofs.Ytkneohngbkmlpaa
