/- Walks: what points' functions tell. -/
import Derived.Test.YtkneohngbkmlpaaW8
namespace Go.Proofs.Ytkneohngbkmlpaa
open Go.RowKit

/-- .. of four points, by their sides. -/
theorem Cross_road (ax ay bx byy cx cy dx dy : Int) (s0 s1 s2 s3 : Int) (m t : Bool)
    (k1 : ∀ w0 : World, ∀ b, b = w0.heap.size → Calls Try.prog 39 #[.slice (some ⟨b, 0, none⟩) 4 4] (w0.alloc (.cells #[.int .i64 ax, .int .i64 ay, .int .i64 bx, .int .i64 byy, .int .i64 cx, .int .i64 cy, .int .i64 dx, .int .i64 dy] 24)) fun e w' => e = .returned (.bool m) ∧ Below w0.heap.size w0 w')
    (k2 : m = true → ∀ w, Calls Try.prog 47 #[.agg #[.int .i64 ax, .int .i64 ay], .agg #[.int .i64 bx, .int .i64 byy], .agg #[.int .i64 cx, .int .i64 cy], .agg #[.int .i64 dx, .int .i64 dy]] w fun e w' => e = .returned (.agg #[.int .i64 s0, .int .i64 s1, .int .i64 s2, .int .i64 s3]) ∧ Below w.heap.size w w')
    (k3 : ∀ w, Calls Try.prog 46 #[.agg #[.int .i64 s0, .int .i64 s1, .int .i64 s2, .int .i64 s3]] w fun e w' => e = .returned (.bool t) ∧ Below w.heap.size w w') (w : World) :
    Calls Try.prog 22 #[.agg #[.int .i64 ax, .int .i64 ay], .agg #[.int .i64 bx, .int .i64 byy], .agg #[.int .i64 cx, .int .i64 cy], .agg #[.int .i64 dx, .int .i64 dy]] w fun e w' => e = .returned (.bool (m && t)) ∧ Below w.heap.size w w' := by
  have K1 := Lib.hid k1
  have K2 := Lib.hid k2
  have K3 := Lib.hid k3
  clear k1 k2 k3
  obtain ⟨w0, hw0, p0, p1, p2, p3, g0, z0⟩ := boxes4 w #[.int .i64 ax, .int .i64 ay] #[.int .i64 bx, .int .i64 byy] #[.int .i64 cx, .int .i64 cy] #[.int .i64 dx, .int .i64 dy] 24 24 24 24
  have c0 := p0.two
  have c1 := p1.two
  have c2 := p2.two
  have c3 := p3.two
  have HP := Lib.hid (And.intro p0 (And.intro p1 (And.intro p2 p3)))
  have HG := Lib.hid g0
  have HZ := Lib.hid z0
  clear p0 p1 p2 p3 g0 z0
  cases m
  · go_enter Try.func22, Try.ntmps22
    go_wp2_with fail
    refine (K1.out w0 _ (by have := HZ.out; first | rfl | omega)).mono ?_
    rintro e w1 ⟨rfl, hb1⟩
    go_wp2
    go_ret
    exact ⟨rfl, grow HG.out hb1⟩
  · go_enter Try.func22, Try.ntmps22
    go_wp2_with fail
    refine (K1.out w0 _ (by have := HZ.out; first | rfl | omega)).mono ?_
    rintro e w1 ⟨rfl, hb1⟩
    have d0 := (HP.out.1.grew hb1).two
    have d1 := (HP.out.2.1.grew hb1).two
    have d2 := (HP.out.2.2.1.grew hb1).two
    have d3 := (HP.out.2.2.2.grew hb1).two
    have HB := Lib.hid (grow HG.out hb1)
    clear hb1 c0 c1 c2 c3
    go_wp2_with fail
    refine (K2.out (by trivial) _).mono ?_
    rintro e w2 ⟨rfl, hb2⟩
    go_wp2_with fail
    refine (K3.out _).mono ?_
    rintro e w3 ⟨rfl, hb3⟩
    go_wp2
    go_ret
    exact ⟨rfl, grow (grow HB.out hb2) hb3⟩



theorem turnZ_le (a b c : Pt) : -1 ≤ turnZ a b c ∧ turnZ a b c ≤ 1 := by
  unfold turnZ cmpZ
  split <;> (try split) <;> omega
theorem mul_le {x y : Int} (hx : -1 ≤ x ∧ x ≤ 1) (hy : -1 ≤ y ∧ y ≤ 1) : -1 ≤ x * y ∧ x * y ≤ 1 := by
  have h1 : x = -1 ∨ x = 0 ∨ x = 1 := by omega
  rcases h1 with rfl | rfl | rfl <;> omega

/-- Do two edges cross? -/
def crossZ (a b c d : Pt) : Bool := decide (turnZ a b c * turnZ a b d < 0) && decide (turnZ c d a * turnZ c d b < 0)
/-- Have two edges a point in common? -/
def meetZ (a b c d : Pt) : Bool := crossZ a b c d || (decide (onZ a b c) || (decide (onZ a b d) || (decide (onZ c d a) || decide (onZ c d b))))

theorem sides_any (a b c d : Pt) (ha : May a) (hb : May b) (hc : May c) (hd : May d) (w : World) :
    Calls Try.prog 47 #[pt a, pt b, pt c, pt d] w fun e w' => e = .returned (.agg #[.int .i64 (turnZ a b c), .int .i64 (turnZ a b d), .int .i64 (turnZ c d a), .int .i64 (turnZ c d b)]) ∧ Below w.heap.size w w' :=
  sides_road _ _ _ _ _ _ _ _ _ _ _ _ (turn_any a b c ha hb hc) (turn_any a b d ha hb hd) (turn_any c d a hc hd ha) (turn_any c d b hc hd hb) w
theorem crossing (a b c d : Pt) (w : World) :
    Calls Try.prog 46 #[.agg #[.int .i64 (turnZ a b c), .int .i64 (turnZ a b d), .int .i64 (turnZ c d a), .int .i64 (turnZ c d b)]] w fun e w' => e = .returned (.bool (crossZ a b c d)) ∧ Below w.heap.size w w' :=
  cross_any _ _ _ _ (mul_le (turnZ_le _ _ _) (turnZ_le _ _ _)).1 (mul_le (turnZ_le _ _ _) (turnZ_le _ _ _)).2 (mul_le (turnZ_le _ _ _) (turnZ_le _ _ _)).1 (mul_le (turnZ_le _ _ _) (turnZ_le _ _ _)).2 w
theorem meet_any (a b c d : Pt) (ha : May a) (hb : May b) (hc : May c) (hd : May d) (w : World) :
    Calls Try.prog 45 #[pt a, pt b, pt c, pt d] w fun e w' => e = .returned (.bool (meetZ a b c d)) ∧ Below w.heap.size w w' :=
  meet_road _ _ _ _ _ _ _ _ _ _ _ _ _ _ _ _ _ (sides_any a b c d ha hb hc hd) (crossing a b c d) (on_any a b c ha hb hc) (on_any a b d ha hb hd) (on_any c d a hc hd ha) (on_any c d b hc hd hb) w

/-- The functions that look first whether all points may be. -/
def TurnF (a b c : Pt) : Int := if May a ∧ May b ∧ May c then turnZ a b c else 0
def OnF (a b c : Pt) : Bool := decide (May a ∧ May b ∧ May c) && decide (onZ a b c)
def MeetF (a b c d : Pt) : Bool := decide (May a ∧ May b ∧ May c ∧ May d) && meetZ a b c d
def CrossF (a b c d : Pt) : Bool := decide (May a ∧ May b ∧ May c ∧ May d) && crossZ a b c d

theorem Turn_any (a b c : Pt) (w : World) : Calls Try.prog 19 #[pt a, pt b, pt c] w fun e w' => e = .returned (.int .i64 (TurnF a b c)) ∧ Below w.heap.size w w' := by
  have h := Turn_road a.x a.y b.x b.y c.x c.y (turnZ a b c) _ (all3 _ _ _ _ _ _) (fun h => by
    have h := of_decide_eq_true h
    exact turn_any a b c h.1 h.2.1 h.2.2) w
  have e : (if decide (May a ∧ May b ∧ May c) = true then turnZ a b c else 0) = TurnF a b c := by
    unfold TurnF
    simp only [decide_eq_true_eq]
  rw [← e]
  exact h
theorem On_any (a b c : Pt) (w : World) : Calls Try.prog 20 #[pt a, pt b, pt c] w fun e w' => e = .returned (.bool (OnF a b c)) ∧ Below w.heap.size w w' :=
  On_road a.x a.y b.x b.y c.x c.y _ _ (all3 _ _ _ _ _ _) (fun h => by
    have h := of_decide_eq_true h
    exact on_any a b c h.1 h.2.1 h.2.2) w
theorem Meet_any (a b c d : Pt) (w : World) : Calls Try.prog 21 #[pt a, pt b, pt c, pt d] w fun e w' => e = .returned (.bool (MeetF a b c d)) ∧ Below w.heap.size w w' :=
  Meet_road a.x a.y b.x b.y c.x c.y d.x d.y _ _ (all4 _ _ _ _ _ _ _ _) (fun h => by
    have h := of_decide_eq_true h
    exact meet_any a b c d h.1 h.2.1 h.2.2.1 h.2.2.2) w
theorem Cross_any (a b c d : Pt) (w : World) : Calls Try.prog 22 #[pt a, pt b, pt c, pt d] w fun e w' => e = .returned (.bool (CrossF a b c d)) ∧ Below w.heap.size w w' :=
  Cross_road a.x a.y b.x b.y c.x c.y d.x d.y _ _ _ _ _ _ (all4 _ _ _ _ _ _ _ _) (fun h => by
    have h := of_decide_eq_true h
    exact sides_any a b c d h.1 h.2.1 h.2.2.1 h.2.2.2) (crossing a b c d) w

end Go.Proofs.Ytkneohngbkmlpaa
