/- Walks: WideSpreads. -/
import Derived.Test.YtogghmmokifnnaaW9
namespace Go.Proofs.Ytogghmmokifnnaa
open Go.RowKit


set_option maxRecDepth 20000 in
set_option maxHeartbeats 4000000 in
theorem Spreads_road (a b c s : Int) (ah al bh bl vh vl xh xl yh yl zh zl : Int) (is : Bool)
    (k1 : ∀ w, Calls Try.prog 12 #[.int .i64 a] w fun e w' => e = .returned (.agg #[.int .i64 ah, .int .u64 al]) ∧ Below w.heap.size w w')
    (k2 : ∀ w, Calls Try.prog 12 #[.int .i64 b] w fun e w' => e = .returned (.agg #[.int .i64 bh, .int .u64 bl]) ∧ Below w.heap.size w w')
    (k3 : ∀ w, Calls Try.prog 8 #[.agg #[.int .i64 ah, .int .u64 al], .agg #[.int .i64 bh, .int .u64 bl]] w fun e w' => e = .returned (.agg #[.int .i64 vh, .int .u64 vl]) ∧ Below w.heap.size w w')
    (k4 : ∀ w, Calls Try.prog 15 #[.agg #[.int .i64 vh, .int .u64 vl]] w fun e w' => e = .returned (.tuple #[.int .i64 s, .bool is]) ∧ Below w.heap.size w w')
    (k5 : is = true → ∀ w, Calls Try.prog 17 #[.int .i64 s, .int .i64 c] w fun e w' => e = .returned (.agg #[.int .i64 zh, .int .u64 zl]) ∧ Below w.heap.size w w')
    (k6 : ∀ w, Calls Try.prog 17 #[.int .i64 a, .int .i64 c] w fun e w' => e = .returned (.agg #[.int .i64 xh, .int .u64 xl]) ∧ Below w.heap.size w w')
    (k7 : ∀ w, Calls Try.prog 17 #[.int .i64 b, .int .i64 c] w fun e w' => e = .returned (.agg #[.int .i64 yh, .int .u64 yl]) ∧ Below w.heap.size w w')
    (k8 : is = true → ∀ w, Calls Try.prog 8 #[.agg #[.int .i64 xh, .int .u64 xl], .agg #[.int .i64 yh, .int .u64 yl]] w fun e w' => e = .returned (.agg #[.int .i64 zh, .int .u64 zl]) ∧ Below w.heap.size w w')
    (hs : is = true → s = IntKind.i64.wrap (a + b) ∧ IntKind.i64.wrap (a + b) = a + b) (hn : is = false → (0 < a ∧ 0 < b) ∨ (a < 0 ∧ b < 0)) (w : World) :
    Calls Try.prog 5 #[.int .i64 a, .int .i64 b, .int .i64 c] w fun e w' => e = .returned (.bool true) ∧ Below w.heap.size w w' := by
  have K1 := Lib.hid k1
  have K2 := Lib.hid k2
  have K3 := Lib.hid k3
  have K4 := Lib.hid k4
  have K5 := Lib.hid k5
  have K6 := Lib.hid k6
  have K7 := Lib.hid k7
  have K8 := Lib.hid k8
  clear k1 k2 k3 k4 k5 k6 k7 k8
  have B0 : Hid (Below w.heap.size w w) := Lib.hid (Below.refl _ w)
  cases is
  · have hn := hn rfl
    clear K5 K8 hs
    rcases hn with ⟨n1, n2⟩ | ⟨n1, n2⟩
    · have n3 : ¬ a < 0 := by omega
      go_enter Try.func5, Try.ntmps5
      go_wp2_with fail
      refine (K1.out _).mono ?_
      rintro e w1 ⟨rfl, hb⟩
      have B1 := Lib.hid (grow B0.out hb)
      clear hb B0
      go_wp2_with fail
      refine (K2.out _).mono ?_
      rintro e w2 ⟨rfl, hb⟩
      have B2 := Lib.hid (grow B1.out hb)
      clear hb B1
      go_wp2_with fail
      refine (K3.out _).mono ?_
      rintro e w3 ⟨rfl, hb⟩
      have B3 := Lib.hid (grow B2.out hb)
      clear hb B2
      go_wp2_with fail
      refine (K4.out _).mono ?_
      rintro e w4 ⟨rfl, hb⟩
      have B4 := Lib.hid (grow B3.out hb)
      clear hb B3
      go_wp2_with fail
      refine (awake_any _).mono ?_
      rintro e w5 ⟨rfl, hb⟩
      have B5 := Lib.hid (grow B4.out hb)
      clear hb B4
      go_wp2
      go_ret
      exact ⟨rfl, B5.out⟩
    · have n3 : ¬ 0 < a := by omega
      go_enter Try.func5, Try.ntmps5
      go_wp2_with fail
      refine (K1.out _).mono ?_
      rintro e w1 ⟨rfl, hb⟩
      have B1 := Lib.hid (grow B0.out hb)
      clear hb B0
      go_wp2_with fail
      refine (K2.out _).mono ?_
      rintro e w2 ⟨rfl, hb⟩
      have B2 := Lib.hid (grow B1.out hb)
      clear hb B1
      go_wp2_with fail
      refine (K3.out _).mono ?_
      rintro e w3 ⟨rfl, hb⟩
      have B3 := Lib.hid (grow B2.out hb)
      clear hb B2
      go_wp2_with fail
      refine (K4.out _).mono ?_
      rintro e w4 ⟨rfl, hb⟩
      have B4 := Lib.hid (grow B3.out hb)
      clear hb B3
      go_wp2_with fail
      refine (awake_any _).mono ?_
      rintro e w5 ⟨rfl, hb⟩
      have B5 := Lib.hid (grow B4.out hb)
      clear hb B4
      go_wp2
      go_ret
      exact ⟨rfl, B5.out⟩
  · obtain ⟨hs1, hs2⟩ := hs rfl
    have K5' := Lib.hid (K5.out (by simp))
    have K8' := Lib.hid (K8.out (by simp))
    clear K5 K8 hn hs
    rw [hs2] at hs1
    subst hs1
    go_enter Try.func5, Try.ntmps5
    go_wp2_with fail
    refine (K1.out _).mono ?_
    rintro e w1 ⟨rfl, hb⟩
    have B1 := Lib.hid (grow B0.out hb)
    clear hb B0
    go_wp2_with fail
    refine (K2.out _).mono ?_
    rintro e w2 ⟨rfl, hb⟩
    have B2 := Lib.hid (grow B1.out hb)
    clear hb B1
    go_wp2_with fail
    refine (K3.out _).mono ?_
    rintro e w3 ⟨rfl, hb⟩
    have B3 := Lib.hid (grow B2.out hb)
    clear hb B2
    go_wp2_with fail
    refine (K4.out _).mono ?_
    rintro e w4 ⟨rfl, hb⟩
    have B4 := Lib.hid (grow B3.out hb)
    clear hb B3
    go_wp2_with fail
    refine (K5'.out _).mono ?_
    rintro e w5 ⟨rfl, hb⟩
    have B5 := Lib.hid (grow B4.out hb)
    clear hb B4
    go_wp2_with fail
    refine (K6.out _).mono ?_
    rintro e w6 ⟨rfl, hb⟩
    have B6 := Lib.hid (grow B5.out hb)
    clear hb B5
    go_wp2_with fail
    refine (K7.out _).mono ?_
    rintro e w7 ⟨rfl, hb⟩
    have B7 := Lib.hid (grow B6.out hb)
    clear hb B6
    go_wp2_with fail
    refine (K8'.out _).mono ?_
    rintro e w8 ⟨rfl, hb⟩
    have B8 := Lib.hid (grow B7.out hb)
    clear hb B7
    go_wp2_with fail
    refine (awake_any _).mono ?_
    rintro e w9 ⟨rfl, hb⟩
    have B9 := Lib.hid (grow B8.out hb)
    clear hb B8
    go_wp2
    go_ret
    exact ⟨rfl, B9.out⟩

theorem Spreads_any (a b c : Int) (a0 : -9223372036854775808 ≤ a) (a1 : a ≤ 9223372036854775807) (b0 : -9223372036854775808 ≤ b) (b1 : b ≤ 9223372036854775807) (c0 : -9223372036854775808 ≤ c) (c1 : c ≤ 9223372036854775807) (w : World) :
    Calls Try.prog 5 #[.int .i64 a, .int .i64 b, .int .i64 c] w fun e w' => e = .returned (.bool true) ∧ Below w.heap.size w w' := by
  have k1 := Of_any a a0 a1
  have k2 := Of_any b b0 b1
  have k3 := Plus_any (ofN a) (ofN b)
  rw [ofN_add] at k3
  have k4 := Int_any (ofN (a + b))
  have k6 := Mul_any a c a0 a1 c0 c1
  have k7 := Mul_any b c b0 b1 c0 c1
  have sa := mul_small a c a0 a1 c0 c1
  have sb := mul_small b c b0 b1 c0 c1
  have wa := ofN_W (a * c) (by omega) (by omega)
  have wb := ofN_W (b * c) (by omega) (by omega)
  have k8 := Plus_any (ofN (a * c)) (ofN (b * c))
  rw [ofN_add, ← Int.add_mul] at k8
  unfold W at k1 k2 k3 k4 k8 wa wb
  injection wa with wa
  injection wb with wb
  simp only [Array.mk.injEq, List.cons.injEq, Value.int.injEq, true_and, and_true] at wa wb
  rw [← wa.1, ← wa.2] at k6
  rw [← wb.1, ← wb.2] at k7
  have hf : fits (ofN (a + b)) = true ↔ (-9223372036854775808 ≤ a + b ∧ a + b ≤ 9223372036854775807) := by
    obtain ⟨r0, r1⟩ := intN_rng (ofN (a + b))
    unfold fits
    rw [decide_eq_true_eq, (ofN_hi _ r0 r1).1]
    unfold intN M.sgn M.loN M.hiZ M.sgn M.hiN ofN
    constructor
    · intro h
      split at h <;> split at h <;> omega
    · intro h
      split <;> split <;> omega
  have hv : fits (ofN (a + b)) = true → intN (ofN (a + b)) = a + b := fun h => by
    have := hf.1 h
    unfold intN M.sgn M.loN ofN
    split <;> omega
  refine Spreads_road a b c _ _ _ _ _ _ _ _ _ _ _ (M.hiZ (ofN ((a + b) * c))) (M.loZ (ofN ((a + b) * c))) (fits (ofN (a + b))) k1 k2 k3 k4 (fun h w => ?_) k6 k7 (fun _ => k8) (fun h => ?_) (fun h => ?_) w
  · have := hf.1 h
    rw [h, if_pos rfl, hv h]
    have k5 := Mul_any (a + b) c this.1 this.2 c0 c1 w
    have ss := mul_small (a + b) c this.1 this.2 c0 c1
    have ws := ofN_W ((a + b) * c) (by omega) (by omega)
    unfold W at ws
    rw [ws]
    exact k5
  · have := hf.1 h
    rw [h, if_pos rfl, hv h]
    have e : IntKind.i64.wrap (a + b) = a + b := by rw [IntKind.wrap_i64]; omega
    exact ⟨e.symm, e⟩
  · have : ¬ (-9223372036854775808 ≤ a + b ∧ a + b ≤ 9223372036854775807) := fun h' => by rw [hf.2 h'] at h; cases h
    omega
end Go.Proofs.Ytogghmmokifnnaa
