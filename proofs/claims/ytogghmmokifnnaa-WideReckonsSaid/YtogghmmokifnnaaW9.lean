/- Walks: Int; WideInts, WideSpreads. -/
import Derived.Test.YtogghmmokifnnaaW8
namespace Go.Proofs.Ytogghmmokifnnaa
open Go.RowKit

/-- The number of 64 bits that a wide number's lower half is; is it that one? -/
def intN (v : Nat) : Int := M.sgn (M.loN v)
def fits (v : Nat) : Bool := decide (M.hiZ (ofN (intN v)) = M.hiZ v)
theorem intN_rng (v : Nat) : -9223372036854775808 ≤ intN v ∧ intN v ≤ 9223372036854775807 := by
  have := M.loN_lt v
  unfold intN M.sgn; split <;> omega
theorem intN_lo (v : Nat) : M.loZ (ofN (intN v)) = M.loZ v := by
  have h := M.loN_lt v
  obtain ⟨r0, r1⟩ := intN_rng v
  rw [(ofN_hi (intN v) r0 r1).2]
  unfold intN M.sgn M.loZ
  split <;> omega
theorem intN_wrap (v : Nat) : wrap64 (M.loZ v) = intN v := M.sgn_wrap _ (M.loN_lt v)
theorem ofN_W (x : Int) (h0 : -170141183460469231731687303715884105728 ≤ x) (h1 : x < 170141183460469231731687303715884105728) : W (ofN x) = .agg #[.int .i64 (x / 18446744073709551616), .int .u64 (x % 18446744073709551616)] := by
  have e1 : M.hiZ (ofN x) = x / 18446744073709551616 := by
    unfold M.hiZ M.sgn M.hiN ofN
    split <;> omega
  have e2 : M.loZ (ofN x) = x % 18446744073709551616 := by
    unfold M.loZ M.loN ofN; omega
  unfold W
  rw [e1, e2]
theorem ofN_add (x y : Int) : M.addN (ofN x) (ofN y) = ofN (x + y) := by
  unfold M.addN ofN; omega
theorem ofN_lt (x : Int) : ofN x < 340282366920938463463374607431768211456 := by unfold ofN; omega

set_option maxHeartbeats 1000000 in
theorem Int_road (h l n h2 : Int) (b : Bool) (hw : wrap64 l = n) (hb : decide (h2 = h) = b)
    (k1 : ∀ w, Calls Try.prog 12 #[.int .i64 n] w fun e w' => e = .returned (.agg #[.int .i64 h2, .int .u64 l]) ∧ Below w.heap.size w w') (w : World) :
    Calls Try.prog 15 #[.agg #[.int .i64 h, .int .u64 l]] w fun e w' => e = .returned (.tuple #[.int .i64 (if b then n else 0), .bool b]) ∧ Below w.heap.size w w' := by
  have hw' : IntKind.i64.wrap l = n := by rw [IntKind.wrap_i64]; unfold wrap64 at hw; omega
  have K1 := Lib.hid k1
  clear k1
  obtain ⟨w0, hw0, p0, g0, z0⟩ := boxes1 w #[.int .i64 h, .int .u64 l] 24
  have c0 := p0.two
  have B0 := Lib.hid (And.intro p0 g0)
  clear p0 g0 z0
  cases b
  · have hne : ¬ h2 = h := of_decide_eq_false hb
    clear hb
    go_enter Try.func15, Try.ntmps15
    go_wp2_with fail
    (try clear hw0)
    clear c0
    obtain ⟨S0, S0d⟩ : ∃ S : World → Prop, S = fun v : World => Blk v w.heap.size #[.int .i64 h, .int .u64 l] 24 ∧ Below w.heap.size w v := ⟨_, rfl⟩
    have S0t0 : Stands S0 := by rw [S0d]; exact ((stands_blk _ _ _).and (stands_below _))
    have S0u0 : ∀ v, S0 v → Blk v w.heap.size #[.int .i64 h, .int .u64 l] 24 ∧ Below w.heap.size w v := fun v h => by rw [S0d] at h; exact h
    have S0m0 : ∀ v, (Blk v w.heap.size #[.int .i64 h, .int .u64 l] 24 ∧ Below w.heap.size w v) → S0 v := fun v h => by rw [S0d]; exact h
    have S0u := Lib.hid S0u0
    have S0m := Lib.hid S0m0
    have S0t := Lib.hid S0t0
    clear S0d S0u0 S0m0 S0t0
    refine wp_region_X (S := S0) (by kernel_rfl) (S0m.out _ ⟨B0.out.1.drew, B0.out.2.drew⟩) ?_
    clear B0
    refine wpX_take (i := 0) (v := ?_) S0t.out rfl rfl (by kernel_rfl) (by kernel_rfl) (by kernel_rfl) (fun _ _ _ h => h) (SteadyX.value (by rfl) ?_) ?_
    rotate_left
    · (intro w_ hS; go_simp; try with_reducible rfl)
    simp only [List.setIfInBounds_toArray, List.set_cons_zero, List.set_cons_succ]
    refine wpX_take (i := 1) S0t.out rfl rfl (by kernel_rfl) (by kernel_rfl) (by kernel_rfl) (fun _ _ _ h => h) (SteadyX.call (by rfl) (fun w_ hS => K1.out w_) (fun w_ hS => by (go_simp))) ?_
    simp only [List.setIfInBounds_toArray, List.set_cons_zero, List.set_cons_succ]
    refine wpX_take (i := 2) (v := ?_) S0t.out rfl rfl (by kernel_rfl) (by kernel_rfl) (by kernel_rfl) (fun _ _ _ h => h) (SteadyX.value (by rfl) ?_) ?_
    rotate_left
    · (intro w_ hS; obtain ⟨q0, q1⟩ := S0u.out _ hS; (have q0 := q0.two); (clear q1); go_simp; try with_reducible rfl)
    simp only [List.setIfInBounds_toArray, List.set_cons_zero, List.set_cons_succ]
    refine wpX_take (i := 3) (v := ?_) S0t.out rfl rfl (by kernel_rfl) (by kernel_rfl) (by kernel_rfl) (fun _ _ _ h => h) (SteadyX.value (by rfl) ?_) ?_
    rotate_left
    · (intro w_ hS; go_simp; try with_reducible rfl)
    simp only [List.setIfInBounds_toArray, List.set_cons_zero, List.set_cons_succ]
    refine wpX_done (by kernel_rfl) (fun W1 hS => ?_) _
    obtain ⟨q0, q1⟩ := S0u.out _ hS
    clear hS S0u S0m S0t
    clear S0
    have HG := Lib.hid q1
    clear q0 q1
    go_wp2
    go_ret2
    exact ⟨rfl, HG.out⟩
  · obtain rfl : h2 = h := of_decide_eq_true hb
    clear hb
    go_enter Try.func15, Try.ntmps15
    go_wp2_with fail
    (try clear hw0)
    clear c0
    obtain ⟨S0, S0d⟩ : ∃ S : World → Prop, S = fun v : World => Blk v w.heap.size #[.int .i64 h2, .int .u64 l] 24 ∧ Below w.heap.size w v := ⟨_, rfl⟩
    have S0t0 : Stands S0 := by rw [S0d]; exact ((stands_blk _ _ _).and (stands_below _))
    have S0u0 : ∀ v, S0 v → Blk v w.heap.size #[.int .i64 h2, .int .u64 l] 24 ∧ Below w.heap.size w v := fun v h => by rw [S0d] at h; exact h
    have S0m0 : ∀ v, (Blk v w.heap.size #[.int .i64 h2, .int .u64 l] 24 ∧ Below w.heap.size w v) → S0 v := fun v h => by rw [S0d]; exact h
    have S0u := Lib.hid S0u0
    have S0m := Lib.hid S0m0
    have S0t := Lib.hid S0t0
    clear S0d S0u0 S0m0 S0t0
    refine wp_region_X (S := S0) (by kernel_rfl) (S0m.out _ ⟨B0.out.1.drew, B0.out.2.drew⟩) ?_
    clear B0
    refine wpX_take (i := 0) (v := ?_) S0t.out rfl rfl (by kernel_rfl) (by kernel_rfl) (by kernel_rfl) (fun _ _ _ h => h) (SteadyX.value (by rfl) ?_) ?_
    rotate_left
    · (intro w_ hS; go_simp; try with_reducible rfl)
    simp only [List.setIfInBounds_toArray, List.set_cons_zero, List.set_cons_succ]
    refine wpX_take (i := 1) S0t.out rfl rfl (by kernel_rfl) (by kernel_rfl) (by kernel_rfl) (fun _ _ _ h => h) (SteadyX.call (by rfl) (fun w_ hS => K1.out w_) (fun w_ hS => by (go_simp))) ?_
    simp only [List.setIfInBounds_toArray, List.set_cons_zero, List.set_cons_succ]
    refine wpX_take (i := 2) (v := ?_) S0t.out rfl rfl (by kernel_rfl) (by kernel_rfl) (by kernel_rfl) (fun _ _ _ h => h) (SteadyX.value (by rfl) ?_) ?_
    rotate_left
    · (intro w_ hS; obtain ⟨q0, q1⟩ := S0u.out _ hS; (have q0 := q0.two); (clear q1); go_simp; try with_reducible rfl)
    simp only [List.setIfInBounds_toArray, List.set_cons_zero, List.set_cons_succ]
    refine wpX_take (i := 3) (v := ?_) S0t.out rfl rfl (by kernel_rfl) (by kernel_rfl) (by kernel_rfl) (fun _ _ _ h => h) (SteadyX.value (by rfl) ?_) ?_
    rotate_left
    · (intro w_ hS; go_simp; try with_reducible rfl)
    simp only [List.setIfInBounds_toArray, List.set_cons_zero, List.set_cons_succ]
    refine wpX_done (by kernel_rfl) (fun W1 hS => ?_) _
    obtain ⟨q0, q1⟩ := S0u.out _ hS
    clear hS S0u S0m S0t
    clear S0
    have HG := Lib.hid q1
    clear q0 q1
    go_wp2
    go_ret2
    exact ⟨rfl, HG.out⟩

theorem Int_any (v : Nat) (w : World) : Calls Try.prog 15 #[W v] w fun e w' => e = .returned (.tuple #[.int .i64 (if fits v then intN v else 0), .bool (fits v)]) ∧ Below w.heap.size w w' := by
  obtain ⟨r0, r1⟩ := intN_rng v
  have k1 := Of_any (intN v) r0 r1
  unfold W at k1 ⊢
  rw [intN_lo] at k1
  exact Int_road _ _ _ _ _ (intN_wrap v) rfl k1 w

set_option maxRecDepth 20000 in
set_option maxHeartbeats 2000000 in
theorem Ints_no (h l : Int) (hh : (¬ h = 0 ∧ ¬ h = -1) ∨ (h = 0 ∧ 9223372036854775808 ≤ l) ∨ (h = -1 ∧ ¬ 9223372036854775808 ≤ l))
    (k1 : ∀ w, Calls Try.prog 15 #[.agg #[.int .i64 h, .int .u64 l]] w fun e w' => e = .returned (.tuple #[.int .i64 0, .bool false]) ∧ Below w.heap.size w w') (w : World) :
    Calls Try.prog 6 #[.agg #[.int .i64 h, .int .u64 l]] w fun e w' => e = .returned (.bool true) ∧ Below w.heap.size w w' := by
  have K1 := Lib.hid k1
  clear k1
  obtain ⟨w0, hw0, p0, g0, z0⟩ := boxes1 w #[.int .i64 h, .int .u64 l] 24
  have c0 := p0.two
  have B0 := Lib.hid (And.intro p0 g0)
  clear p0 g0 z0
  rcases hh with ⟨h0, h1⟩ | ⟨h0, h1⟩ | ⟨h0, h1⟩
  · go_enter Try.func6, Try.ntmps6
    go_wp2_with fail
    refine (K1.out _).mono ?_
    rintro e w1 ⟨rfl, hb⟩
    have B1 := Lib.hid (And.intro (B0.out.1.grew hb) (grow B0.out.2 hb))
    clear hb c0
    have c0 := B1.out.1.two
    go_wp2_with fail
    refine (awake_any _).mono ?_
    rintro e w2 ⟨rfl, hb⟩
    have HE := Lib.hid (grow B1.out.2 hb)
    clear hb
    go_wp2
    go_ret
    exact ⟨rfl, HE.out⟩
  · subst h0
    go_enter Try.func6, Try.ntmps6
    go_wp2_with fail
    refine (K1.out _).mono ?_
    rintro e w1 ⟨rfl, hb⟩
    have B1 := Lib.hid (And.intro (B0.out.1.grew hb) (grow B0.out.2 hb))
    clear hb c0
    have c0 := B1.out.1.two
    go_wp2_with fail
    refine (awake_any _).mono ?_
    rintro e w2 ⟨rfl, hb⟩
    have HE := Lib.hid (grow B1.out.2 hb)
    clear hb
    go_wp2
    go_ret
    exact ⟨rfl, HE.out⟩
  · subst h0
    go_enter Try.func6, Try.ntmps6
    go_wp2_with fail
    refine (K1.out _).mono ?_
    rintro e w1 ⟨rfl, hb⟩
    have B1 := Lib.hid (And.intro (B0.out.1.grew hb) (grow B0.out.2 hb))
    clear hb c0
    have c0 := B1.out.1.two
    go_wp2_with fail
    refine (awake_any _).mono ?_
    rintro e w2 ⟨rfl, hb⟩
    have HE := Lib.hid (grow B1.out.2 hb)
    clear hb
    go_wp2
    go_ret
    exact ⟨by first | rfl | simp [h1], HE.out⟩

set_option maxRecDepth 20000 in
set_option maxHeartbeats 4000000 in
theorem Ints_yes (h l n : Int) (t : ByteArray)
    (k1 : ∀ w, Calls Try.prog 15 #[.agg #[.int .i64 h, .int .u64 l]] w fun e w' => e = .returned (.tuple #[.int .i64 n, .bool true]) ∧ Below w.heap.size w w')
    (k2 : ∀ w, Calls Try.prog 12 #[.int .i64 n] w fun e w' => e = .returned (.agg #[.int .i64 h, .int .u64 l]) ∧ Below w.heap.size w w')
    (k3 : ∀ w, Calls Try.prog 20 #[.agg #[.int .i64 h, .int .u64 l]] w fun e w' => e = .returned (.string t) ∧ Below w.heap.size w w')
    (k4 : ∀ w, Calls Try.prog 9 #[.agg #[.int .i64 h, .int .u64 l], .agg #[.int .i64 h, .int .u64 l]] w fun e w' => e = .returned (.agg #[.int .i64 0, .int .u64 0]) ∧ Below w.heap.size w w')
    (k5 : ∀ w, Calls Try.prog 13 #[.agg #[.int .i64 0, .int .u64 0]] w fun e w' => e = .returned (.int .i64 0) ∧ Below w.heap.size w w') (w : World) :
    Calls Try.prog 6 #[.agg #[.int .i64 h, .int .u64 l]] w fun e w' => e = .returned (.bool true) ∧ Below w.heap.size w w' := by
  have K1 := Lib.hid k1
  have K2 := Lib.hid k2
  have K3 := Lib.hid k3
  have K4 := Lib.hid k4
  have K5 := Lib.hid k5
  have K6 := Lib.hid awake_any
  clear k1 k2 k3 k4 k5
  obtain ⟨w0, hw0, p0, g0, z0⟩ := boxes1 w #[.int .i64 h, .int .u64 l] 24
  have c0 := p0.two
  have B0 := Lib.hid (And.intro p0 g0)
  clear p0 g0 z0
  go_enter Try.func6, Try.ntmps6
  go_wp2_with fail
  refine (K1.out _).mono ?_
  rintro e w1 ⟨rfl, hb⟩
  (try clear hw0)
  have B1 := Lib.hid (And.intro (B0.out.1.grew hb) (grow B0.out.2 hb))
  clear hb c0
  go_wp2_with fail
  obtain ⟨S0, S0d⟩ : ∃ S : World → Prop, S = fun v : World => Blk v w.heap.size #[.int .i64 h, .int .u64 l] 24 ∧ Below w.heap.size w v := ⟨_, rfl⟩
  have S0t0 : Stands S0 := by rw [S0d]; exact ((stands_blk _ _ _).and (stands_below _))
  have S0u0 : ∀ v, S0 v → Blk v w.heap.size #[.int .i64 h, .int .u64 l] 24 ∧ Below w.heap.size w v := fun v h => by rw [S0d] at h; exact h
  have S0m0 : ∀ v, (Blk v w.heap.size #[.int .i64 h, .int .u64 l] 24 ∧ Below w.heap.size w v) → S0 v := fun v h => by rw [S0d]; exact h
  have S0u := Lib.hid S0u0
  have S0m := Lib.hid S0m0
  have S0t := Lib.hid S0t0
  clear S0d S0u0 S0m0 S0t0
  refine wp_region_X (S := S0) (by kernel_rfl) (S0m.out _ ⟨B1.out.1.drew, B1.out.2.drew⟩) ?_
  clear B1
  refine wpX_take (i := 0) (v := ?_) S0t.out rfl rfl (by kernel_rfl) (by kernel_rfl) (by kernel_rfl) (fun _ _ _ h => h) (SteadyX.value (by rfl) ?_) ?_
  rotate_left
  · (intro w_ hS; obtain ⟨q0, q1⟩ := S0u.out _ hS; (have q0 := q0.two); (clear q1); go_simp; try with_reducible rfl)
  simp only [List.setIfInBounds_toArray, List.set_cons_zero, List.set_cons_succ]
  refine wpX_take (i := 1) (v := ?_) S0t.out rfl rfl (by kernel_rfl) (by kernel_rfl) (by kernel_rfl) (fun _ _ _ h => h) (SteadyX.value (by rfl) ?_) ?_
  rotate_left
  · (intro w_ hS; go_simp; try with_reducible rfl)
  simp only [List.setIfInBounds_toArray, List.set_cons_zero, List.set_cons_succ]
  refine wpX_take (i := 2) S0t.out rfl rfl (by kernel_rfl) (by kernel_rfl) (by kernel_rfl) (fun _ _ _ h => h) (SteadyX.call (by rfl) (fun w_ hS => K2.out w_) (fun w_ hS => by (go_simp))) ?_
  simp only [List.setIfInBounds_toArray, List.set_cons_zero, List.set_cons_succ]
  refine wpX_take (i := 3) (v := ?_) S0t.out rfl rfl (by kernel_rfl) (by kernel_rfl) (by kernel_rfl) (fun _ _ _ h => h) (SteadyX.value (by rfl) ?_) ?_
  rotate_left
  · (intro w_ hS; go_simp; try with_reducible rfl)
  simp only [List.setIfInBounds_toArray, List.set_cons_zero, List.set_cons_succ]
  refine wpX_take (i := 4) (v := ?_) S0t.out rfl rfl (by kernel_rfl) (by kernel_rfl) (by kernel_rfl) (fun _ _ _ h => h) (SteadyX.value (by rfl) ?_) ?_
  rotate_left
  · (intro w_ hS; go_simp; try with_reducible rfl)
  simp only [List.setIfInBounds_toArray, List.set_cons_zero, List.set_cons_succ]
  refine wpX_take (i := 5) (v := ?_) S0t.out rfl rfl (by kernel_rfl) (by kernel_rfl) (by kernel_rfl) (fun _ _ _ h => h) (SteadyX.value (by rfl) ?_) ?_
  rotate_left
  · (intro w_ hS; obtain ⟨q0, q1⟩ := S0u.out _ hS; (have q0 := q0.two); (clear q1); go_simp; try with_reducible rfl)
  simp only [List.setIfInBounds_toArray, List.set_cons_zero, List.set_cons_succ]
  refine wpX_take (i := 6) S0t.out rfl rfl (by kernel_rfl) (by kernel_rfl) (by kernel_rfl) (fun _ _ _ h => h) (SteadyX.call (by rfl) (fun w_ hS => K3.out w_) (fun w_ hS => by (go_simp))) ?_
  simp only [List.setIfInBounds_toArray, List.set_cons_zero, List.set_cons_succ]
  refine wpX_take (i := 7) (v := ?_) S0t.out rfl rfl (by kernel_rfl) (by kernel_rfl) (by kernel_rfl) (fun _ _ _ h => h) (SteadyX.value (by rfl) ?_) ?_
  rotate_left
  · (intro w_ hS; go_simp; try with_reducible rfl)
  simp only [List.setIfInBounds_toArray, List.set_cons_zero, List.set_cons_succ]
  refine wpX_take (i := 8) S0t.out rfl rfl (by kernel_rfl) (by kernel_rfl) (by kernel_rfl) (fun _ _ _ h => h) (SteadyX.call (by rfl) (fun w_ hS => K2.out w_) (fun w_ hS => by (go_simp))) ?_
  simp only [List.setIfInBounds_toArray, List.set_cons_zero, List.set_cons_succ]
  refine wpX_take (i := 9) S0t.out rfl rfl (by kernel_rfl) (by kernel_rfl) (by kernel_rfl) (fun _ _ _ h => h) (SteadyX.call (by rfl) (fun w_ hS => K3.out w_) (fun w_ hS => by (go_simp))) ?_
  simp only [List.setIfInBounds_toArray, List.set_cons_zero, List.set_cons_succ]
  refine wpX_take (i := 10) (v := ?_) S0t.out rfl rfl (by kernel_rfl) (by kernel_rfl) (by kernel_rfl) (fun _ _ _ h => h) (SteadyX.value (by rfl) ?_) ?_
  rotate_left
  · (intro w_ hS; go_simp; try with_reducible rfl)
  simp only [List.setIfInBounds_toArray, List.set_cons_zero, List.set_cons_succ]
  refine wpX_take (i := 11) (v := ?_) S0t.out rfl rfl (by kernel_rfl) (by kernel_rfl) (by kernel_rfl) (fun _ _ _ h => h) (SteadyX.value (by rfl) ?_) ?_
  rotate_left
  · (intro w_ hS; go_simp; try with_reducible rfl)
  simp only [List.setIfInBounds_toArray, List.set_cons_zero, List.set_cons_succ]
  refine wpX_take (i := 12) (v := ?_) S0t.out rfl rfl (by kernel_rfl) (by kernel_rfl) (by kernel_rfl) (fun _ _ _ h => h) (SteadyX.value (by rfl) ?_) ?_
  rotate_left
  · (intro w_ hS; go_simp; try with_reducible rfl)
  simp only [List.setIfInBounds_toArray, List.set_cons_zero, List.set_cons_succ]
  refine wpX_take (i := 13) (v := ?_) S0t.out rfl rfl (by kernel_rfl) (by kernel_rfl) (by kernel_rfl) (fun _ _ _ h => h) (SteadyX.value (by rfl) ?_) ?_
  rotate_left
  · (intro w_ hS; obtain ⟨q0, q1⟩ := S0u.out _ hS; (have q0 := q0.two); (clear q1); go_simp; try with_reducible rfl)
  simp only [List.setIfInBounds_toArray, List.set_cons_zero, List.set_cons_succ]
  refine wpX_take (i := 14) (v := ?_) S0t.out rfl rfl (by kernel_rfl) (by kernel_rfl) (by kernel_rfl) (fun _ _ _ h => h) (SteadyX.value (by rfl) ?_) ?_
  rotate_left
  · (intro w_ hS; obtain ⟨q0, q1⟩ := S0u.out _ hS; (have q0 := q0.two); (clear q1); go_simp; try with_reducible rfl)
  simp only [List.setIfInBounds_toArray, List.set_cons_zero, List.set_cons_succ]
  refine wpX_take (i := 15) S0t.out rfl rfl (by kernel_rfl) (by kernel_rfl) (by kernel_rfl) (fun _ _ _ h => h) (SteadyX.call (by rfl) (fun w_ hS => K4.out w_) (fun w_ hS => by (go_simp))) ?_
  simp only [List.setIfInBounds_toArray, List.set_cons_zero, List.set_cons_succ]
  refine wpX_take (i := 16) S0t.out rfl rfl (by kernel_rfl) (by kernel_rfl) (by kernel_rfl) (fun _ _ _ h => h) (SteadyX.call (by rfl) (fun w_ hS => K5.out w_) (fun w_ hS => by (go_simp))) ?_
  simp only [List.setIfInBounds_toArray, List.set_cons_zero, List.set_cons_succ]
  refine wpX_take (i := 17) (v := ?_) S0t.out rfl rfl (by kernel_rfl) (by kernel_rfl) (by kernel_rfl) (fun _ _ _ h => h) (SteadyX.value (by rfl) ?_) ?_
  rotate_left
  · (intro w_ hS; go_simp; try with_reducible rfl)
  simp only [List.setIfInBounds_toArray, List.set_cons_zero, List.set_cons_succ]
  refine wpX_take (i := 18) (v := ?_) S0t.out rfl rfl (by kernel_rfl) (by kernel_rfl) (by kernel_rfl) (fun _ _ _ h => h) (SteadyX.value (by rfl) ?_) ?_
  rotate_left
  · (intro w_ hS; go_simp; try with_reducible rfl)
  simp only [List.setIfInBounds_toArray, List.set_cons_zero, List.set_cons_succ]
  refine wpX_take (i := 19) (v := ?_) S0t.out rfl rfl (by kernel_rfl) (by kernel_rfl) (by kernel_rfl) (fun _ _ _ h => h) (SteadyX.value (by rfl) ?_) ?_
  rotate_left
  · (intro w_ hS; go_simp; try with_reducible rfl)
  simp only [List.setIfInBounds_toArray, List.set_cons_zero, List.set_cons_succ]
  refine wpX_take (i := 20) S0t.out rfl rfl (by kernel_rfl) (by kernel_rfl) (by kernel_rfl) (fun _ _ _ h => h) (SteadyX.call (by rfl) (fun w_ hS => K6.out w_) (fun w_ hS => by (go_simp))) ?_
  simp only [List.setIfInBounds_toArray, List.set_cons_zero, List.set_cons_succ]
  refine wpX_take (i := 21) (v := ?_) S0t.out rfl rfl (by kernel_rfl) (by kernel_rfl) (by kernel_rfl) (fun _ _ _ h => h) (SteadyX.value (by rfl) ?_) ?_
  rotate_left
  · (intro w_ hS; go_simp; try with_reducible rfl)
  simp only [List.setIfInBounds_toArray, List.set_cons_zero, List.set_cons_succ]
  refine wpX_take (i := 22) (v := ?_) S0t.out rfl rfl (by kernel_rfl) (by kernel_rfl) (by kernel_rfl) (fun _ _ _ h => h) (SteadyX.value (by rfl) ?_) ?_
  rotate_left
  · (intro w_ hS; go_simp; try with_reducible rfl)
  simp only [List.setIfInBounds_toArray, List.set_cons_zero, List.set_cons_succ]
  refine wpX_done (by kernel_rfl) (fun W1 hS => ?_) _
  obtain ⟨q0, q1⟩ := S0u.out _ hS
  clear hS S0u S0m S0t
  clear S0
  have HG := Lib.hid q1
  clear q0 q1
  go_wp2
  go_ret
  exact ⟨rfl, HG.out⟩

theorem Ints_any (v : Nat) (hv : v < 340282366920938463463374607431768211456) (w : World) : Calls Try.prog 6 #[W v] w fun e w' => e = .returned (.bool true) ∧ Below w.heap.size w w' := by
  have k1 := Int_any v
  obtain ⟨r0, r1⟩ := intN_rng v
  by_cases hf : fits v = true
  · rw [hf] at k1
    have k2 := Of_any (intN v) r0 r1
    have e : W (ofN (intN v)) = W v := by
      unfold W; rw [intN_lo, of_decide_eq_true hf]
    rw [e] at k2
    have k3 := Text_any v hv
    have k4 := Less_any v v
    have e4 : M.subN v v = 0 := by unfold M.subN; omega
    rw [e4, W0] at k4
    have k5 := Sign_any 0 (by omega)
    rw [W0] at k5
    exact Ints_yes (M.hiZ v) (M.loZ v) (intN v) (textB v) k1 k2 k3 k4 k5 w
  · have hf' : fits v = false := by simpa using hf
    rw [hf'] at k1
    refine Ints_no (M.hiZ v) (M.loZ v) ?_ k1 w
    have hne : ¬ M.hiZ (ofN (intN v)) = M.hiZ v := of_decide_eq_false hf'
    rw [(ofN_hi _ r0 r1).1] at hne
    have hl := M.loN_lt v
    have hr := M.hiZ_rng v
    unfold intN M.sgn at hne
    unfold M.loZ
    split at hne <;> omega
end Go.Proofs.Ytogghmmokifnnaa
