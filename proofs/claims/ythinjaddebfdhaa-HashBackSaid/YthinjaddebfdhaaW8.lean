/- Walk: HashBack. -/
import Derived.Test.YthinjaddebfdhaaW7
namespace Go.Proofs.Ythinjaddebfdhaa
open Go.RowKit


set_option maxHeartbeats 2000000 in
theorem HashBack_road (x y x2 y2 : Int) (n : Nat) (a b c : Int) (ok is here may there : Bool) (sx sy tx ty : Int)
    (c1 : ∀ w, Calls Try.prog 8 #[.agg #[.int .i64 x, .int .i64 y]] w fun e w' => e = .returned (.tuple #[.int .u64 a, .bool ok]) ∧ Below w.heap.size w w')
    (c2 : ∀ w, Calls Try.prog 8 #[.agg #[.int .i64 x2, .int .i64 y2]] w fun e w' => e = .returned (.tuple #[.int .u64 b, .bool is]) ∧ Below w.heap.size w w')
    (c3 : ∀ w, Calls Try.prog 13 #[.agg #[.int .i64 x, .int .i64 y]] w fun e w' => e = .returned (.bool ok) ∧ Below w.heap.size w w')
    (c4 : ∀ w, Calls Try.prog 10 #[.int .u64 a] w fun e w' => e = .returned (.tuple #[.agg #[.int .i64 sx, .int .i64 sy], .bool there]) ∧ Below w.heap.size w w')
    (c5 : ∀ w, Calls Try.prog 10 #[.int .u64 n] w fun e w' => e = .returned (.tuple #[.agg #[.int .i64 tx, .int .i64 ty], .bool here]) ∧ Below w.heap.size w w')
    (c6 : ∀ w, Calls Try.prog 8 #[.agg #[.int .i64 tx, .int .i64 ty]] w fun e w' => e = .returned (.tuple #[.int .u64 c, .bool may]) ∧ Below w.heap.size w w')
    (h1 : ok = false ∨ is = false ∨ (a = b ∧ x = x2 ∧ y = y2) ∨ ((a == b) = false ∧ ¬ (x = x2 ∧ y = y2))) (h2 : ok = false ∨ (there = true ∧ sx = x ∧ sy = y)) (h3 : here = false ∨ (may = true ∧ c = n)) (w : World) :
    Calls Try.prog 4 #[.agg #[.int .i64 x, .int .i64 y], .agg #[.int .i64 x2, .int .i64 y2], .int .u64 n] w fun e w' => e = .returned (.bool true) ∧ Below w.heap.size w w' := by
  have C1 := Lib.hid c1
  have C2 := Lib.hid c2
  have C3 := Lib.hid c3
  have C4 := Lib.hid c4
  have C5 := Lib.hid c5
  have C6 := Lib.hid c6
  clear c1 c2 c3 c4 c5 c6
  have H1 := Lib.hid h1
  have H2 := Lib.hid h2
  have H3 := Lib.hid h3
  clear h1 h2 h3
  go_enter Try.func4, Try.ntmps4
  go_wp2_with fail
  refine (C1.out _).mono ?_
  rintro e w1 ⟨rfl, hb1⟩
  have k1 := ((Blk.new w #[.int .i64 x, .int .i64 y] 23).alloc (.cells #[.int .i64 x2, .int .i64 y2] 23)).grew hb1
  have l1 := (Blk.new' (b := w.heap.size + 1) (w.alloc (.cells #[.int .i64 x, .int .i64 y] 23)) #[.int .i64 x2, .int .i64 y2] 23 (by simp)).grew hb1
  have g1 := grow (grow_alloc (grow_alloc (Below.refl _ w) _) _) hb1
  have kf := k1.two
  have lf := l1.two
  go_wp2_with fail
  refine (C2.out _).mono ?_
  rintro e w2 ⟨rfl, hb2⟩
  have g2 := grow g1 hb2
  have k2 := k1.grew hb2
  have l2 := l1.grew hb2
  have kf := k2.two
  have lf := l2.two
  go_wp2_with fail
  refine (C3.out _).mono ?_
  rintro e w3 ⟨rfl, hb3⟩
  have g3 := grow g2 hb3
  have k3 := k2.grew hb3
  have l3 := l2.grew hb3
  have z3 := k3.lt
  have kf := k3.two
  have lf := l3.two
  clear hb1 hb2 hb3 g1 g2 k1 l1 k2 l2
  go_wp2_with fail
  all_goals first
    | (exfalso
       rcases H1.out with h | h | ⟨h, h', h''⟩ | ⟨h, h'⟩ <;> simp_all <;> done)
    | skip
  all_goals
    refine (C4.out _).mono ?_
    rintro e w4 ⟨rfl, hb4⟩
    have g4 := grow g3 hb4
    have k4 := (k3.grew hb4).alloc (.cells #[.int .i64 sx, .int .i64 sy] 23)
    have l4 := Blk.new w4 #[.int .i64 sx, .int .i64 sy] 23
    have z4 := (k3.grew hb4).lt
    have kf := k4.two
    have lf := l4.two
    go_wp2_with fail
    all_goals first
      | (exfalso
         rcases H2.out with h | ⟨h, h', h''⟩ <;> simp_all <;> done)
      | skip
  all_goals
    refine (C5.out _).mono ?_
    rintro e w5 ⟨rfl, hb5⟩
    have g5 := grow (grow_alloc g4 _) hb5
    have l5 := Blk.new w5 #[.int .i64 tx, .int .i64 ty] 23
    have lf := l5.two
    clear g3 g4
    go_wp2_with fail
    refine (C6.out _).mono ?_
    rintro e w6 ⟨rfl, hb6⟩
    have g6 := grow (grow_alloc g5 _) hb6
    go_wp2_with fail
    all_goals first
      | (refine (awake_any _).mono ?_
         rintro e w7 ⟨rfl, hb7⟩
         have g7 := grow g6 hb7
         clear hb4 hb5 hb6 hb7
         go_wp2_with fail
         go_ret
         exact ⟨rfl, g7⟩)
      | (exfalso
         rcases H3.out with h | ⟨h, h'⟩ <;> simp_all <;> done)

end Go.Proofs.Ythinjaddebfdhaa
