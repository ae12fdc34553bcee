/- Walks: all (of two points), low, high, within. -/
import Derived.Test.YthinjaddebfdhaaW13
namespace Go.Proofs.Ythinjaddebfdhaa
open Go.RowKit
set_option maxRecDepth 8000

set_option maxHeartbeats 2000000 in
theorem all_two (x0 y0 x1 y1 : Int) (b : Nat) (w : World) (hb : Blk w b #[.int .i64 x0, .int .i64 y0, .int .i64 x1, .int .i64 y1] 23) :
    Calls Try.prog 30 #[.slice (some ⟨b, 0, none⟩) 2 2] w fun e w' => e = .returned (.bool (mayB x0 y0 && mayB x1 y1)) ∧ Below w.heap.size w w' := by
  have k1 := fun w => may_any x0 y0 w
  have k2 := fun w => may_any x1 y1 w
  generalize mayB x0 y0 = m1 at *
  generalize mayB x1 y1 = m2 at *
  have K1 := Lib.hid k1
  have K2 := Lib.hid k2
  have HB := Lib.hid hb
  have hc := hb.four
  clear k1 k2 hb
  cases m1
  · go_enter Try.func30, Try.ntmps30
    go_wp2
    refine wp_loop_rounds 1 ?_
    rw [rounds_succ]
    go_wp2_with fail
    refine (K1.out _).mono ?_
    rintro e w1 ⟨rfl, hb1⟩
    have g1 := grow (grow_alloc (Below.refl w.heap.size w) _) hb1
    clear hb1
    go_wp2
    go_ret
    exact ⟨rfl, g1⟩
  · go_enter Try.func30, Try.ntmps30
    go_wp2
    refine wp_loop_rounds 3 ?_
    rw [rounds_succ]
    go_wp2_with fail
    refine (K1.out _).mono ?_
    rintro e w1 ⟨rfl, hb1⟩
    have g1 := grow (grow_alloc (Below.refl w.heap.size w) _) hb1
    have hc1 := (HB.out.below g1 HB.out.lt).four
    clear hb1 hc
    have G1 := Lib.hid g1
    clear g1
    go_wp2
    rw [rounds_succ]
    go_wp2_with fail
    refine (K2.out _).mono ?_
    rintro e w2 ⟨rfl, hb2⟩
    have G2 := Lib.hid (grow (grow_alloc G1.out _) hb2)
    clear hb2 hc1
    cases m2
    · go_wp2
      go_ret
      exact ⟨rfl, G2.out⟩
    · go_wp2
      rw [rounds_succ]
      go_wp2
      go_ret
      exact ⟨rfl, G2.out⟩

theorem low_any (x0 y0 x1 y1 : Int) (w : World) : Calls Try.prog 31 #[.agg #[.int .i64 x0, .int .i64 y0, .int .i64 x1, .int .i64 y1]] w fun e w' => e = .returned (.agg #[.int .i64 x0, .int .i64 y0]) ∧ Below w.heap.size w w' := by
  go_enter Try.func31, Try.ntmps31
  go_wp2
  refine bodyPost_ret (v := .agg #[.int .i64 x0, .int .i64 y0]) (by simp [results, Try.results31, go_sem]) rfl ⟨rfl, ?_⟩
  go_grown
theorem high_any (x0 y0 x1 y1 : Int) (w : World) : Calls Try.prog 32 #[.agg #[.int .i64 x0, .int .i64 y0, .int .i64 x1, .int .i64 y1]] w fun e w' => e = .returned (.agg #[.int .i64 x1, .int .i64 y1]) ∧ Below w.heap.size w w' := by
  go_enter Try.func32, Try.ntmps32
  go_wp2
  refine bodyPost_ret (v := .agg #[.int .i64 x1, .int .i64 y1]) (by simp [results, Try.results32, go_sem]) rfl ⟨rfl, ?_⟩
  go_grown

end Go.Proofs.Ythinjaddebfdhaa
