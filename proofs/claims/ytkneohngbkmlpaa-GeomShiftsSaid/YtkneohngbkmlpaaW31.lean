/- Walks: GeomShifts of any ring. -/
import Derived.Test.YtkneohngbkmlpaaW30
namespace Go.Proofs.Ytkneohngbkmlpaa
open Go.RowKit

theorem Shifts_over (px py vx vy : Int) (A : Option Addr) (n c : Nat) (w : World) (h : ¬ (n : Int) ≤ 60) :
    Calls Try.prog 4 #[.slice A n c, .agg #[.int .i64 px, .int .i64 py], .agg #[.int .i64 vx, .int .i64 vy]] w fun e w' => e = .returned (.bool true) ∧ Below w.heap.size w w' := by
  go_enter Try.func4, Try.ntmps4
  go_wp2
  go_ret
  exact ⟨rfl, by go_grown⟩

theorem Shifts_none (px py vx vy : Int) (A : Option Addr) (c : Nat) (w : World) :
    Calls Try.prog 4 #[.slice A 0 c, .agg #[.int .i64 px, .int .i64 py], .agg #[.int .i64 vx, .int .i64 vy]] w fun e w' => e = .returned (.bool true) ∧ Below w.heap.size w w' := by
  obtain ⟨w0, hw0, p0, p1, g0, z0⟩ := boxes2 w #[.int .i64 px, .int .i64 py] #[.int .i64 vx, .int .i64 vy] 24 24
  have HG := Lib.hid g0
  clear p0 p1 g0 z0
  go_enter Try.func4, Try.ntmps4
  go_wp2_with fail
  refine (awake_any _).mono ?_
  rintro e w1 ⟨rfl, hb⟩
  have HE := Lib.hid (grow HG.out hb)
  clear hb
  go_wp2
  go_ret
  exact ⟨rfl, HE.out⟩

set_option maxHeartbeats 1000000 in
theorem Shifts_out (px py vx vy : Int) (A : Option Addr) (n c : Nat) (w : World) (hn0 : 0 < n) (hn1 : (n : Int) ≤ 60) (y : Bool)
    (k1 : ∀ w, Calls Try.prog 15 #[.agg #[.int .i64 vx, .int .i64 vy]] w fun e w' => e = .returned (.bool y) ∧ Below w.heap.size w w')
    (k2 : y = true → ∀ w, Calls Try.prog 15 #[.agg #[.int .i64 px, .int .i64 py]] w fun e w' => e = .returned (.bool false) ∧ Below w.heap.size w w') :
    Calls Try.prog 4 #[.slice A n c, .agg #[.int .i64 px, .int .i64 py], .agg #[.int .i64 vx, .int .i64 vy]] w fun e w' => e = .returned (.bool true) ∧ Below w.heap.size w w' := by
  have K1 := Lib.hid k1
  have K2 := Lib.hid k2
  clear k1 k2
  have hne0 : ((n : Int) == 0) = false := by simp; omega
  obtain ⟨w0, hw0, p0, p1, g0, z0⟩ := boxes2 w #[.int .i64 px, .int .i64 py] #[.int .i64 vx, .int .i64 vy] 24 24
  have c0 := p0.two
  have c1 := p1.two
  have B0 := Lib.hid (And.intro p0 (And.intro p1 g0))
  clear p0 p1 g0 z0
  cases y
  · go_enter Try.func4, Try.ntmps4
    go_wp2_with fail
    refine (K1.out _).mono ?_
    rintro e w1 ⟨rfl, hb⟩
    have HG := Lib.hid (grow B0.out.2.2 hb)
    clear hb c0 c1 B0
    go_wp2_with fail
    refine (awake_any _).mono ?_
    rintro e w2 ⟨rfl, hb⟩
    have HE := Lib.hid (grow HG.out hb)
    clear hb
    go_wp2
    go_ret
    exact ⟨rfl, HE.out⟩
  · have K2' := Lib.hid (K2.out rfl)
    clear K2
    go_enter Try.func4, Try.ntmps4
    go_wp2_with fail
    refine (K1.out _).mono ?_
    rintro e w1 ⟨rfl, hb⟩
    (try clear hw0)
    have B1 := Lib.hid (And.intro (B0.out.1.grew hb) (grow B0.out.2.2 hb))
    clear hb c0 c1 B0
    have c0 := B1.out.1.two
    go_wp2_with fail
    refine (K2'.out _).mono ?_
    rintro e w2 ⟨rfl, hb⟩
    have HG := Lib.hid (grow B1.out.2 hb)
    clear hb c0 B1
    go_wp2_with fail
    refine (awake_any _).mono ?_
    rintro e w3 ⟨rfl, hb⟩
    have HE := Lib.hid (grow HG.out hb)
    clear hb
    go_wp2
    go_ret
    exact ⟨rfl, HE.out⟩

theorem Shifts_any (A : Option Addr) (l : List Pt) (n c : Nat) (p v : Pt) (w : World) (hn : l.length = n) (hr : Pts w w.heap.size A l) :
    Calls Try.prog 4 #[.slice A n c, pt p, pt v] w fun e w' => e = .returned (.bool true) ∧ Below w.heap.size w w' := by
  obtain ⟨px, py⟩ := p
  obtain ⟨vx, vy⟩ := v
  by_cases h : (n : Int) ≤ 60
  · rcases Nat.eq_zero_or_pos n with h0 | h0
    · subst h0; exact Shifts_none px py vx vy A c w
    · by_cases hv : May ⟨vx, vy⟩
      · by_cases hp : May ⟨px, py⟩
        · exact Shifts_loop px py vx vy l A n c w hn hr h0 h hp hv
        · have k := May_any ⟨px, py⟩
          rw [decide_eq_false hp] at k
          exact Shifts_out px py vx vy A n c w h0 h _ (May_any ⟨vx, vy⟩) (fun _ => k)
      · have k := May_any ⟨vx, vy⟩
        rw [decide_eq_false hv] at k
        exact Shifts_out px py vx vy A n c w h0 h false k (fun h => by cases h)
  · exact Shifts_over px py vx vy A n c w h
end Go.Proofs.Ytkneohngbkmlpaa
