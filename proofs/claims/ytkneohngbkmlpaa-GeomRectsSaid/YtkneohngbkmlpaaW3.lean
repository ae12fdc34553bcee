/- Walks: the turn of three points. -/
import Derived.Test.YtkneohngbkmlpaaW2
namespace Go.Proofs.Ytkneohngbkmlpaa
open Go.RowKit

structure Pt where
  x : Int
  y : Int
deriving DecidableEq
/-- A point as a value. -/
abbrev pt (p : Pt) : Value := .agg #[.int .i64 p.x, .int .i64 p.y]
/-- A point that may be. -/
def May (p : Pt) : Prop := -1800000000 ≤ p.x ∧ p.x ≤ 1800000000 ∧ -900000000 ≤ p.y ∧ p.y ≤ 900000000
instance (p : Pt) : Decidable (May p) := inferInstanceAs (Decidable (_ ∧ _))
/-- How three points turn. -/
def turnZ (a b c : Pt) : Int := cmpZ ((b.x - a.x) * (c.y - a.y)) ((b.y - a.y) * (c.x - a.x))

theorem cmp_parts (x y : Int) : orZ (cmpZ (x / 18446744073709551616) (y / 18446744073709551616)) (cmpZ (x % 18446744073709551616) (y % 18446744073709551616)) = cmpZ x y := by
  unfold orZ cmpZ
  repeat' split
  all_goals omega

theorem Comp_any (x y : Int) (w : World) :
    Calls Try.prog 56 #[.agg #[.int .i64 (x / 18446744073709551616), .int .u64 (x % 18446744073709551616)], .agg #[.int .i64 (y / 18446744073709551616), .int .u64 (y % 18446744073709551616)]] w fun e w' => e = .returned (.int .i64 (cmpZ x y)) ∧ Below w.heap.size w w' := by
  rw [← cmp_parts]
  exact Compare_road _ _ _ _ _ _ (cmpI_any _ _) (cmpU_any _ _) w

/-- Boxes laid one upon the other. -/
theorem boxes1 (w : World) (c0 : Array Value) (t0 : TypeId) : ∃ w0, w.alloc (.cells c0 t0) = w0 ∧ Blk w0 w.heap.size c0 t0 ∧ Below w.heap.size w w0 ∧ w0.heap.size = w.heap.size + 1 :=
  ⟨_, rfl, Blk.new w c0 t0, grow_alloc (Below.refl _ w) _, by simp⟩
theorem boxes2 (w : World) (c0 c1 : Array Value) (t0 t1 : TypeId) : ∃ w0, (w.alloc (.cells c0 t0)).alloc (.cells c1 t1) = w0 ∧ Blk w0 w.heap.size c0 t0 ∧ Blk w0 (w.heap.size + 1) c1 t1 ∧ Below w.heap.size w w0 ∧ w0.heap.size = w.heap.size + 2 := by
  obtain ⟨w1, e1, p0, g, z⟩ := boxes1 w c0 t0
  refine ⟨_, rfl, ?_⟩
  rw [e1]
  exact ⟨p0.alloc _, Blk.new' w1 c1 t1 (by omega), grow_alloc g _, by simp [z]⟩
theorem boxes3 (w : World) (c0 c1 c2 : Array Value) (t0 t1 t2 : TypeId) : ∃ w0, ((w.alloc (.cells c0 t0)).alloc (.cells c1 t1)).alloc (.cells c2 t2) = w0 ∧ Blk w0 w.heap.size c0 t0 ∧ Blk w0 (w.heap.size + 1) c1 t1 ∧ Blk w0 (w.heap.size + 1 + 1) c2 t2 ∧
    Below w.heap.size w w0 ∧ w0.heap.size = w.heap.size + 3 := by
  obtain ⟨w1, e1, p0, p1, g, z⟩ := boxes2 w c0 c1 t0 t1
  refine ⟨_, rfl, ?_⟩
  rw [e1]
  exact ⟨p0.alloc _, p1.alloc _, Blk.new' w1 c2 t2 (by omega), grow_alloc g _, by simp [z]⟩
theorem boxes4 (w : World) (c0 c1 c2 c3 : Array Value) (t0 t1 t2 t3 : TypeId) : ∃ w0, (((w.alloc (.cells c0 t0)).alloc (.cells c1 t1)).alloc (.cells c2 t2)).alloc (.cells c3 t3) = w0 ∧ Blk w0 w.heap.size c0 t0 ∧ Blk w0 (w.heap.size + 1) c1 t1 ∧
    Blk w0 (w.heap.size + 1 + 1) c2 t2 ∧ Blk w0 (w.heap.size + 1 + 1 + 1) c3 t3 ∧ Below w.heap.size w w0 ∧ w0.heap.size = w.heap.size + 4 := by
  obtain ⟨w1, e1, p0, p1, p2, g, z⟩ := boxes3 w c0 c1 c2 t0 t1 t2
  refine ⟨_, rfl, ?_⟩
  rw [e1]
  exact ⟨p0.alloc _, p1.alloc _, p2.alloc _, Blk.new' w1 c3 t3 (by omega), grow_alloc g _, by simp [z]⟩

set_option maxHeartbeats 1000000 in
theorem turn_road (ax ay bx byy cx cy : Int) (x1 x2 y1 y2 t : Int)
    (a0 : -1800000000 ≤ ax) (a1 : ax ≤ 1800000000) (a2 : -900000000 ≤ ay) (a3 : ay ≤ 900000000)
    (b0 : -1800000000 ≤ bx) (b1 : bx ≤ 1800000000) (b2 : -900000000 ≤ byy) (b3 : byy ≤ 900000000)
    (c0 : -1800000000 ≤ cx) (c1 : cx ≤ 1800000000) (c2 : -900000000 ≤ cy) (c3 : cy ≤ 900000000)
    (k1 : ∀ w, Calls Try.prog 55 #[.int .i64 (bx - ax), .int .i64 (cy - ay)] w fun e w' => e = .returned (.agg #[.int .i64 x1, .int .u64 x2]) ∧ Below w.heap.size w w')
    (k2 : ∀ w, Calls Try.prog 55 #[.int .i64 (byy - ay), .int .i64 (cx - ax)] w fun e w' => e = .returned (.agg #[.int .i64 y1, .int .u64 y2]) ∧ Below w.heap.size w w')
    (k3 : ∀ w, Calls Try.prog 56 #[.agg #[.int .i64 x1, .int .u64 x2], .agg #[.int .i64 y1, .int .u64 y2]] w fun e w' => e = .returned (.int .i64 t) ∧ Below w.heap.size w w')
    (w : World) :
    Calls Try.prog 42 #[.agg #[.int .i64 ax, .int .i64 ay], .agg #[.int .i64 bx, .int .i64 byy], .agg #[.int .i64 cx, .int .i64 cy]] w fun e w' => e = .returned (.int .i64 t) ∧ Below w.heap.size w w' := by
  have K1 := Lib.hid k1
  have K2 := Lib.hid k2
  have K3 := Lib.hid k3
  clear k1 k2 k3
  go_enter Try.func42, Try.ntmps42
  go_wp2_with fail
  obtain ⟨w0, hw0, p0, p1, p2, g0, z0⟩ := boxes3 w #[.int .i64 ax, .int .i64 ay] #[.int .i64 bx, .int .i64 byy] #[.int .i64 cx, .int .i64 cy] 24 24 24
  rw [hw0]
  clear hw0
  refine (K1.out _).mono ?_
  rintro e w1 ⟨rfl, hb1⟩
  have q0 := (p0.grew hb1).two
  have q1 := (p1.grew hb1).two
  have q2 := (p2.grew hb1).two
  have HP := Lib.hid (And.intro (p0.grew hb1) (And.intro (p1.grew hb1) (p2.grew hb1)))
  have HG := Lib.hid (grow g0 hb1)
  have r0 := ((p0.grew hb1).alloc (.cells #[.int .i64 x1, .int .u64 x2] 65)).two
  have r1 := ((p1.grew hb1).alloc (.cells #[.int .i64 x1, .int .u64 x2] 65)).two
  have r2 := ((p2.grew hb1).alloc (.cells #[.int .i64 x1, .int .u64 x2] 65)).two
  clear p0 p1 p2 g0 hb1 z0 q0 q1 q2
  go_wp2_with fail
  have s0 := Blk.new w1 #[.int .i64 x1, .int .u64 x2] 65
  have g1 := grow_alloc HG.out (.cells #[.int .i64 x1, .int .u64 x2] 65)
  generalize hw1 : w1.alloc (.cells #[.int .i64 x1, .int .u64 x2] 65) = w2 at *
  clear hw1
  refine (K2.out _).mono ?_
  rintro e w3 ⟨rfl, hb3⟩
  have s1 := (s0.grew hb3).two
  have s2 := ((s0.grew hb3).alloc (.cells #[.int .i64 y1, .int .u64 y2] 65)).two
  have HG3 := Lib.hid (grow g1 hb3)
  clear r0 r1 r2 s0 g1 hb3
  go_wp2_with fail
  refine (K3.out _).mono ?_
  rintro e w4 ⟨rfl, hb4⟩
  go_wp2
  go_ret
  exact ⟨rfl, grow (grow_alloc HG3.out _) hb4⟩

theorem turn_any (a b c : Pt) (ha : May a) (hb : May b) (hc : May c) (w : World) :
    Calls Try.prog 42 #[pt a, pt b, pt c] w fun e w' => e = .returned (.int .i64 (turnZ a b c)) ∧ Below w.heap.size w w' := by
  obtain ⟨a0, a1, a2, a3⟩ := ha
  obtain ⟨b0, b1, b2, b3⟩ := hb
  obtain ⟨c0, c1, c2, c3⟩ := hc
  exact turn_road _ _ _ _ _ _ _ _ _ _ _ a0 a1 a2 a3 b0 b1 b2 b3 c0 c1 c2 c3 (Mul_any _ _ (by omega) (by omega) (by omega) (by omega)) (Mul_any _ _ (by omega) (by omega) (by omega) (by omega)) (Comp_any _ _) w

end Go.Proofs.Ytkneohngbkmlpaa
