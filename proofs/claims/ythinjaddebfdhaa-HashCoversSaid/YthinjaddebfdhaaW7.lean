/- Walks: awake, HashCodes. -/
import Derived.Test.YthinjaddebfdhaaW6
namespace Go.Proofs.Ythinjaddebfdhaa
open Go.RowKit

theorem awake_any (w : World) :
    Calls Try.prog 12 #[] w fun e w' => e = .returned (.bool true) ∧ Below w.heap.size w w' := by
  have c1 := fun w => Code_yes (-1800000000) (-900000000) w (by decide)
  have c2 := fun w => Code_yes (-1799999999) (-900000000) w (by decide)
  have c3 := fun w => Code_yes (-1800000000) (-899999999) w (by decide)
  rw [show codeN (-1800000000) (-900000000) = 0 by decide] at c1
  rw [show codeN (-1799999999) (-900000000) = 2 by decide] at c2
  rw [show codeN (-1800000000) (-899999999) = 1 by decide] at c3
  have C1 := Lib.hid c1
  have C2 := Lib.hid c2
  have C3 := Lib.hid c3
  clear c1 c2 c3
  go_enter Try.func12, Try.ntmps12
  go_wp2_with fail
  refine (C1.out _).mono ?_
  rintro e w1 ⟨rfl, hb1⟩
  go_wp2_with fail
  refine (C2.out _).mono ?_
  rintro e w2 ⟨rfl, hb2⟩
  go_wp2_with fail
  refine (C3.out _).mono ?_
  rintro e w3 ⟨rfl, hb3⟩
  go_wp2_with fail
  go_ret
  exact ⟨rfl, grow (grow hb1 hb2) hb3⟩

/-- What Code answers at any place. -/
def codeV (x y : Int) : Int := if mayB x y then codeN x y else 0
def plcX (n : Nat) : Int := if mayB (placeX n) (placeY n) then placeX n else 0
def plcY (n : Nat) : Int := if mayB (placeX n) (placeY n) then placeY n else 0
def plcB (n : Nat) : Bool := mayB (placeX n) (placeY n)

theorem Code_any (x y : Int) (w : World) :
    Calls Try.prog 8 #[.agg #[.int .i64 x, .int .i64 y]] w fun e w' => e = .returned (.tuple #[.int .u64 (codeV x y), .bool (mayB x y)]) ∧ Below w.heap.size w w' := by
  unfold codeV
  cases h : mayB x y
  · exact Code_no x y w h
  · exact Code_yes x y w h
theorem refCode_any (x y : Int) (w : World) :
    Calls Try.prog 9 #[.agg #[.int .i64 x, .int .i64 y]] w fun e w' => e = .returned (.tuple #[.int .u64 (codeV x y), .bool (mayB x y)]) ∧ Below w.heap.size w w' := by
  unfold codeV
  cases h : mayB x y
  · exact refCode_no x y w h
  · exact refCode_yes x y w h
theorem Place_any (n : Nat) (hn : n < 18446744073709551616) (w : World) :
    Calls Try.prog 10 #[.int .u64 n] w fun e w' => e = .returned (.tuple #[.agg #[.int .i64 (plcX n), .int .i64 (plcY n)], .bool (plcB n)]) ∧ Below w.heap.size w w' := by
  unfold plcX plcY plcB
  cases h : mayB (placeX n) (placeY n)
  · exact Place_no n hn w h
  · exact Place_yes n hn w h
theorem refPlace_any (n : Nat) (hn : n < 18446744073709551616) (w : World) :
    Calls Try.prog 11 #[.int .u64 n] w fun e w' => e = .returned (.tuple #[.agg #[.int .i64 (plcX n), .int .i64 (plcY n)], .bool (plcB n)]) ∧ Below w.heap.size w w' := by
  unfold plcX plcY plcB
  cases h : mayB (placeX n) (placeY n)
  · exact refPlace_no n hn w h
  · exact refPlace_yes n hn w h

theorem HashCodes_walk (x y : Int) (n : Nat) (hn : n < 18446744073709551616) (w : World) :
    Calls Try.prog 3 #[.agg #[.int .i64 x, .int .i64 y], .int .u64 n] w fun e w' => e = .returned (.bool true) ∧ Below w.heap.size w w' := by
  have c1 := fun w => Code_any x y w
  have c2 := fun w => refCode_any x y w
  have c3 := fun w => Place_any n hn w
  have c4 := fun w => refPlace_any n hn w
  generalize codeV x y = a at c1 c2
  generalize mayB x y = ok at c1 c2
  generalize plcX n = px at c3 c4
  generalize plcY n = py at c3 c4
  generalize plcB n = pb at c3 c4
  have C1 := Lib.hid c1
  have C2 := Lib.hid c2
  have C3 := Lib.hid c3
  have C4 := Lib.hid c4
  clear c1 c2 c3 c4
  go_enter Try.func3, Try.ntmps3
  go_wp2_with fail
  refine (C1.out _).mono ?_
  rintro e w1 ⟨rfl, hb1⟩
  have k1 := (Blk.new w #[.int .i64 x, .int .i64 y] 23).grew hb1
  have g1 := grow (grow_alloc (Below.refl _ w) _) hb1
  have kf := k1.two
  go_wp2_with fail
  refine (C2.out _).mono ?_
  rintro e w2 ⟨rfl, hb2⟩
  have g2 := grow g1 hb2
  go_wp2_with fail
  refine (C3.out _).mono ?_
  rintro e w3 ⟨rfl, hb3⟩
  have g3 := grow g2 hb3
  go_wp2_with fail
  refine (C4.out _).mono ?_
  rintro e w4 ⟨rfl, hb4⟩
  have k4 := (Blk.new w3 #[.int .i64 px, .int .i64 py] 23).grew hb4
  have g4 := grow (grow_alloc g3 _) hb4
  have z4 := k4.lt
  have k5 := k4.alloc (.cells #[.int .i64 px, .int .i64 py] 23)
  have l5 := Blk.new w4 #[.int .i64 px, .int .i64 py] 23
  have kf5 := k5.two
  have lf5 := l5.two
  go_wp2_with fail
  refine (awake_any _).mono ?_
  rintro e w6 ⟨rfl, hb6⟩
  go_wp2_with fail
  go_ret
  exact ⟨rfl, grow (grow_alloc g4 _) hb6⟩

end Go.Proofs.Ythinjaddebfdhaa
