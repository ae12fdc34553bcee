/- Walks: the reference's MayAll (of two points), MayRect, pow. -/
import Derived.Test.YthinjaddebfdhaaC6
namespace Go.Proofs.Ythinjaddebfdhaa
open Go.RowKit
set_option maxRecDepth 8000

set_option maxHeartbeats 2000000 in
theorem refAll_two (x0 y0 x1 y1 : Int) (b : Nat) (w : World) (hb : Blk w b #[.int .i64 x0, .int .i64 y0, .int .i64 x1, .int .i64 y1] 23) :
    Calls Try.prog 40 #[.slice (some ⟨b, 0, none⟩) 2 2] w fun e w' => e = .returned (.bool (mayB x0 y0 && mayB x1 y1)) ∧ Below w.heap.size w w' := by
  have k1 := fun w => refMay_any x0 y0 w
  have k2 := fun w => refMay_any x1 y1 w
  generalize mayB x0 y0 = m1 at *
  generalize mayB x1 y1 = m2 at *
  have K1 := Lib.hid k1
  have K2 := Lib.hid k2
  have HB := Lib.hid hb
  have hc := hb.four
  clear k1 k2 hb
  cases m1
  · go_enter Try.func40, Try.ntmps40
    go_wp2
    refine wp_loop_rounds 1 ?_
    rw [rounds_succ]
    go_wp2_with fail
    refine (K1.out _).mono ?_
    rintro e w1 ⟨rfl, hb1⟩
    go_wp2
    go_ret
    exact ⟨rfl, hb1⟩
  · go_enter Try.func40, Try.ntmps40
    go_wp2
    refine wp_loop_rounds 3 ?_
    rw [rounds_succ]
    go_wp2_with fail
    refine (K1.out _).mono ?_
    rintro e w1 ⟨rfl, hb1⟩
    have hc1 := (HB.out.below hb1 HB.out.lt).four
    have G1 := Lib.hid hb1
    clear hb1 hc
    go_wp2
    rw [rounds_succ]
    go_wp2_with fail
    refine (K2.out _).mono ?_
    rintro e w2 ⟨rfl, hb2⟩
    have G2 := Lib.hid (grow G1.out hb2)
    clear hb2 hc1
    cases m2
    · go_wp2
      go_ret
      exact ⟨rfl, G2.out⟩
    · go_wp2
      rw [rounds_succ]
      go_wp2
      go_ret
      exact ⟨rfl, G2.out⟩

set_option maxHeartbeats 4000000 in
theorem refMayRect_road (x0 y0 x1 y1 : Int) (m a b : Bool) (hm : (mayB x0 y0 && mayB x1 y1) = m) (ha : decide (x0 ≤ x1) = a) (hb : decide (y0 ≤ y1) = b) (w : World) :
    Calls Try.prog 27 #[.agg #[.int .i64 x0, .int .i64 y0, .int .i64 x1, .int .i64 y1]] w fun e w' => e = .returned (.bool (m && a && b)) ∧ Below w.heap.size w w' := by
  have k1 := (Blk.new w #[.int .i64 x0, .int .i64 y0, .int .i64 x1, .int .i64 y1] 34).alloc (.cells #[.int .i64 x0, .int .i64 y0, .int .i64 x1, .int .i64 y1] 23)
  have k2 := Blk.new' (b := w.heap.size + 1) (w.alloc (.cells #[.int .i64 x0, .int .i64 y0, .int .i64 x1, .int .i64 y1] 34)) #[.int .i64 x0, .int .i64 y0, .int .i64 x1, .int .i64 y1] 23 (by simp)
  have k3 := grow_alloc (grow_alloc (Below.refl w.heap.size w) (.cells #[.int .i64 x0, .int .i64 y0, .int .i64 x1, .int .i64 y1] 34)) (.cells #[.int .i64 x0, .int .i64 y0, .int .i64 x1, .int .i64 y1] 23)
  have HB := Lib.hid (And.intro k1 (And.intro k2 k3))
  have ka := refAll_two x0 y0 x1 y1 (w.heap.size + 1) _ k2
  rw [hm] at ka
  have KA := Lib.hid ka
  have c1 := (Blk.new w #[.int .i64 x0, .int .i64 y0, .int .i64 x1, .int .i64 y1] 34).four
  clear k1 k2 k3 ka hm
  cases m
  · clear ha hb
    have c2 := HB.out.1.four
    go_enter Try.func27, Try.ntmps27
    go_wp2_with fail
    refine (KA.out).mono ?_
    rintro r w1 ⟨rfl, hb⟩
    have G := Lib.hid (grow HB.out.2.2 hb)
    clear hb
    go_wp2
    go_ret
    exact ⟨rfl, G.out⟩
  · cases a
    · clear hb
      go_enter Try.func27, Try.ntmps27
      go_wp2_with fail
      refine (KA.out).mono ?_
      rintro r w1 ⟨rfl, hb⟩
      have c2 := (HB.out.1.grew hb).four
      have G := Lib.hid (grow HB.out.2.2 hb)
      clear hb c1
      go_wp2
      go_ret
      exact ⟨rfl, G.out⟩
    · cases b
      · skip
        go_enter Try.func27, Try.ntmps27
        go_wp2_with fail
        refine (KA.out).mono ?_
        rintro r w1 ⟨rfl, hb⟩
        have c2 := (HB.out.1.grew hb).four
        have G := Lib.hid (grow HB.out.2.2 hb)
        clear hb c1
        go_wp2
        go_ret
        exact ⟨rfl, G.out⟩
      · skip
        go_enter Try.func27, Try.ntmps27
        go_wp2_with fail
        refine (KA.out).mono ?_
        rintro r w1 ⟨rfl, hb⟩
        have c2 := (HB.out.1.grew hb).four
        have G := Lib.hid (grow HB.out.2.2 hb)
        clear hb c1
        go_wp2
        go_ret
        exact ⟨rfl, G.out⟩
theorem refMayRect_any (x0 y0 x1 y1 : Int) (w : World) :
    Calls Try.prog 27 #[.agg #[.int .i64 x0, .int .i64 y0, .int .i64 x1, .int .i64 y1]] w fun e w' => e = .returned (.bool (mayR x0 y0 x1 y1)) ∧ Below w.heap.size w w' :=
  refMayRect_road x0 y0 x1 y1 _ _ _ rfl rfl rfl w

theorem pow_any (n : Nat) (hn : (n : Int) ≤ 32) (w : World) : Calls Try.prog 28 #[.int .i64 n] w fun e w' => e = .returned (.int .i64 ((2 ^ n : Nat) : Int)) ∧ w = w' := by
  go_enter Try.func28, Try.ntmps28
  go_wp2
  go_loop [3, 4] (fun vo vi => ∃ k p : Nat, k ≤ n ∧ vi = .int .i64 k ∧ vo = .int .i64 p ∧ (p : Int) ≤ 4294967296 ∧ Hid (p = 2 ^ k)) (fun _ i => n - (intOf i).toNat)
  case atStart => exact ⟨0, 1, by omega, rfl, rfl, by omega, Lib.hid rfl⟩
  case round =>
    obtain ⟨k, p, hk, rfl, rfl, hp, HP⟩ := hrel
    by_cases hlt : k < n
    · have p0 : (0 : Int) ≤ p := by omega
      go_wp2
      go_round
      case rel =>
        refine ⟨k + 1, p * 2, by omega, by go_num, val_int (by omega), ?_, Lib.hid (by rw [HP.out, Nat.pow_succ])⟩
        have := pow2_dbl k (by omega)
        rw [HP.out]
        rw [Nat.pow_succ] at this
        omega
      case measure => simp [intOf]; omega
    · obtain rfl : k = n := by omega
      go_wp2
      go_ret
      exact ⟨ret_int (by rw [HP.out]; simp), rfl⟩

end Go.Proofs.Ythinjaddebfdhaa
