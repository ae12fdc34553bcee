/- Walks: WideReckons. -/
import Derived.Test.YtogghmmokifnnaaW19
namespace Go.Proofs.Ytogghmmokifnnaa
open Go.RowKit

theorem arr8 (c : Array Value) (h : c.size = 8) : ∃ y0 y1 y2 y3 y4 y5 y6 y7, c = #[y0, y1, y2, y3, y4, y5, y6, y7] := by
  obtain ⟨l⟩ := c
  match l, h with
  | [y0, y1, y2, y3, y4, y5, y6, y7], _ => exact ⟨y0, y1, y2, y3, y4, y5, y6, y7, rfl⟩
theorem stands_some (n : Nat) (b : Nat) (t : TypeId) : Stands fun w => ∃ c : Array Value, c.size = n ∧ Blk w b c t := fun _ _ h ⟨c, hc, k⟩ => ⟨c, hc, k.grew h⟩
section
variable {w : World} {P b : Nat} {t : TypeId} {c : Array Value}
theorem other8 (h : Blk w b c t) (hn : b ≠ P) (v0 v1 v2 v3 v4 v5 v6 v7 : Value) : Blk ((((((((w.setCell ⟨P, 0, none⟩ v0).setCell ⟨P, 1, none⟩ v1).setCell ⟨P, 2, none⟩ v2).setCell ⟨P, 3, none⟩ v3).setCell ⟨P, 4, none⟩ v4).setCell ⟨P, 5, none⟩ v5).setCell ⟨P, 6, none⟩ v6).setCell ⟨P, 7, none⟩ v7) b c t := ((((((((h.other (a := ⟨P, 0, none⟩) hn v0).other (a := ⟨P, 1, none⟩) hn v1).other (a := ⟨P, 2, none⟩) hn v2).other (a := ⟨P, 3, none⟩) hn v3).other (a := ⟨P, 4, none⟩) hn v4).other (a := ⟨P, 5, none⟩) hn v5).other (a := ⟨P, 6, none⟩) hn v6).other (a := ⟨P, 7, none⟩) hn v7)
theorem below8 {w0 : World} (h : Below w0.heap.size w0 w) (hn : w0.heap.size ≤ P) (v0 v1 v2 v3 v4 v5 v6 v7 : Value) : Below w0.heap.size w0 ((((((((w.setCell ⟨P, 0, none⟩ v0).setCell ⟨P, 1, none⟩ v1).setCell ⟨P, 2, none⟩ v2).setCell ⟨P, 3, none⟩ v3).setCell ⟨P, 4, none⟩ v4).setCell ⟨P, 5, none⟩ v5).setCell ⟨P, 6, none⟩ v6).setCell ⟨P, 7, none⟩ v7) := ((((((((h.setCell (p := ⟨P, 0, none⟩) hn v0).setCell (p := ⟨P, 1, none⟩) hn v1).setCell (p := ⟨P, 2, none⟩) hn v2).setCell (p := ⟨P, 3, none⟩) hn v3).setCell (p := ⟨P, 4, none⟩) hn v4).setCell (p := ⟨P, 5, none⟩) hn v5).setCell (p := ⟨P, 6, none⟩) hn v6).setCell (p := ⟨P, 7, none⟩) hn v7)
theorem some8 {n : Nat} (h : ∃ c : Array Value, c.size = n ∧ Blk w b c t) (hn : b ≠ P) (v0 v1 v2 v3 v4 v5 v6 v7 : Value) : ∃ c : Array Value, c.size = n ∧ Blk ((((((((w.setCell ⟨P, 0, none⟩ v0).setCell ⟨P, 1, none⟩ v1).setCell ⟨P, 2, none⟩ v2).setCell ⟨P, 3, none⟩ v3).setCell ⟨P, 4, none⟩ v4).setCell ⟨P, 5, none⟩ v5).setCell ⟨P, 6, none⟩ v6).setCell ⟨P, 7, none⟩ v7) b c t := by
  obtain ⟨c, hc, h⟩ := h
  exact ⟨c, hc, other8 h hn v0 v1 v2 v3 v4 v5 v6 v7⟩
theorem set8 {y0 y1 y2 y3 y4 y5 y6 y7 : Value} (h : Blk w P #[y0, y1, y2, y3, y4, y5, y6, y7] t) (v0 v1 v2 v3 v4 v5 v6 v7 : Value) : Blk ((((((((w.setCell ⟨P, 0, none⟩ v0).setCell ⟨P, 1, none⟩ v1).setCell ⟨P, 2, none⟩ v2).setCell ⟨P, 3, none⟩ v3).setCell ⟨P, 4, none⟩ v4).setCell ⟨P, 5, none⟩ v5).setCell ⟨P, 6, none⟩ v6).setCell ⟨P, 7, none⟩ v7) P #[v0, v1, v2, v3, v4, v5, v6, v7] t := by
  have h := ((((((((h.set 0 v0).set 1 v1).set 2 v2).set 3 v3).set 4 v4).set 5 v5).set 6 v6).set 7 v7)
  simpa using h
end

set_option maxRecDepth 20000 in
set_option maxHeartbeats 16000000 in
theorem Reckons_road (ah al bh bl ph pl mh ml th tl c s : Int) (t : ByteArray) (x y p m q : Nat → Int)
    (k1 : ∀ w, Calls Try.prog 16 #[.agg #[.int .i64 ah, .int .u64 al]] w fun e w' => e = .returned (.agg #[.int .i64 (x 0), .int .i64 (x 1), .int .i64 (x 2), .int .i64 (x 3), .int .i64 (x 4), .int .i64 (x 5), .int .i64 (x 6), .int .i64 (x 7)]) ∧ Below w.heap.size w w')
    (k2 : ∀ w, Calls Try.prog 16 #[.agg #[.int .i64 bh, .int .u64 bl]] w fun e w' => e = .returned (.agg #[.int .i64 (y 0), .int .i64 (y 1), .int .i64 (y 2), .int .i64 (y 3), .int .i64 (y 4), .int .i64 (y 5), .int .i64 (y 6), .int .i64 (y 7)]) ∧ Below w.heap.size w w')
    (k3 : ∀ w, Calls Try.prog 8 #[.agg #[.int .i64 ah, .int .u64 al], .agg #[.int .i64 bh, .int .u64 bl]] w fun e w' => e = .returned (.agg #[.int .i64 ph, .int .u64 pl]) ∧ Below w.heap.size w w')
    (k4 : ∀ w, Calls Try.prog 16 #[.agg #[.int .i64 ph, .int .u64 pl]] w fun e w' => e = .returned (.agg #[.int .i64 (p 0), .int .i64 (p 1), .int .i64 (p 2), .int .i64 (p 3), .int .i64 (p 4), .int .i64 (p 5), .int .i64 (p 6), .int .i64 (p 7)]) ∧ Below w.heap.size w w')
    (k5 : ∀ w, Calls Try.prog 21 #[.agg #[.int .i64 (x 0), .int .i64 (x 1), .int .i64 (x 2), .int .i64 (x 3), .int .i64 (x 4), .int .i64 (x 5), .int .i64 (x 6), .int .i64 (x 7)], .agg #[.int .i64 (y 0), .int .i64 (y 1), .int .i64 (y 2), .int .i64 (y 3), .int .i64 (y 4), .int .i64 (y 5), .int .i64 (y 6), .int .i64 (y 7)]] w fun e w' => e = .returned (.agg #[.int .i64 (p 0), .int .i64 (p 1), .int .i64 (p 2), .int .i64 (p 3), .int .i64 (p 4), .int .i64 (p 5), .int .i64 (p 6), .int .i64 (p 7)]) ∧ Below w.heap.size w w')
    (k6 : ∀ w, Calls Try.prog 9 #[.agg #[.int .i64 ah, .int .u64 al], .agg #[.int .i64 bh, .int .u64 bl]] w fun e w' => e = .returned (.agg #[.int .i64 mh, .int .u64 ml]) ∧ Below w.heap.size w w')
    (k7 : ∀ w, Calls Try.prog 16 #[.agg #[.int .i64 mh, .int .u64 ml]] w fun e w' => e = .returned (.agg #[.int .i64 (m 0), .int .i64 (m 1), .int .i64 (m 2), .int .i64 (m 3), .int .i64 (m 4), .int .i64 (m 5), .int .i64 (m 6), .int .i64 (m 7)]) ∧ Below w.heap.size w w')
    (k8 : ∀ w, Calls Try.prog 22 #[.agg #[.int .i64 (x 0), .int .i64 (x 1), .int .i64 (x 2), .int .i64 (x 3), .int .i64 (x 4), .int .i64 (x 5), .int .i64 (x 6), .int .i64 (x 7)], .agg #[.int .i64 (y 0), .int .i64 (y 1), .int .i64 (y 2), .int .i64 (y 3), .int .i64 (y 4), .int .i64 (y 5), .int .i64 (y 6), .int .i64 (y 7)]] w fun e w' => e = .returned (.agg #[.int .i64 (m 0), .int .i64 (m 1), .int .i64 (m 2), .int .i64 (m 3), .int .i64 (m 4), .int .i64 (m 5), .int .i64 (m 6), .int .i64 (m 7)]) ∧ Below w.heap.size w w')
    (k9 : ∀ w, Calls Try.prog 10 #[.agg #[.int .i64 ah, .int .u64 al]] w fun e w' => e = .returned (.agg #[.int .i64 th, .int .u64 tl]) ∧ Below w.heap.size w w')
    (k10 : ∀ w, Calls Try.prog 16 #[.agg #[.int .i64 th, .int .u64 tl]] w fun e w' => e = .returned (.agg #[.int .i64 (q 0), .int .i64 (q 1), .int .i64 (q 2), .int .i64 (q 3), .int .i64 (q 4), .int .i64 (q 5), .int .i64 (q 6), .int .i64 (q 7)]) ∧ Below w.heap.size w w')
    (k11 : ∀ w, Calls Try.prog 22 #[.agg #[.int .i64 0, .int .i64 0, .int .i64 0, .int .i64 0, .int .i64 0, .int .i64 0, .int .i64 0, .int .i64 0], .agg #[.int .i64 (x 0), .int .i64 (x 1), .int .i64 (x 2), .int .i64 (x 3), .int .i64 (x 4), .int .i64 (x 5), .int .i64 (x 6), .int .i64 (x 7)]] w fun e w' => e = .returned (.agg #[.int .i64 (q 0), .int .i64 (q 1), .int .i64 (q 2), .int .i64 (q 3), .int .i64 (q 4), .int .i64 (q 5), .int .i64 (q 6), .int .i64 (q 7)]) ∧ Below w.heap.size w w')
    (k12 : ∀ w, Calls Try.prog 11 #[.agg #[.int .i64 ah, .int .u64 al], .agg #[.int .i64 bh, .int .u64 bl]] w fun e w' => e = .returned (.int .i64 c) ∧ Below w.heap.size w w')
    (k13 : ∀ w, Calls Try.prog 23 #[.agg #[.int .i64 (x 0), .int .i64 (x 1), .int .i64 (x 2), .int .i64 (x 3), .int .i64 (x 4), .int .i64 (x 5), .int .i64 (x 6), .int .i64 (x 7)], .agg #[.int .i64 (y 0), .int .i64 (y 1), .int .i64 (y 2), .int .i64 (y 3), .int .i64 (y 4), .int .i64 (y 5), .int .i64 (y 6), .int .i64 (y 7)]] w fun e w' => e = .returned (.int .i64 c) ∧ Below w.heap.size w w')
    (k14 : ∀ w, Calls Try.prog 13 #[.agg #[.int .i64 ah, .int .u64 al]] w fun e w' => e = .returned (.int .i64 s) ∧ Below w.heap.size w w')
    (k15 : ∀ w, Calls Try.prog 24 #[.agg #[.int .i64 (x 0), .int .i64 (x 1), .int .i64 (x 2), .int .i64 (x 3), .int .i64 (x 4), .int .i64 (x 5), .int .i64 (x 6), .int .i64 (x 7)]] w fun e w' => e = .returned (.int .i64 s) ∧ Below w.heap.size w w')
    (k16 : ∀ w, Calls Try.prog 20 #[.agg #[.int .i64 ah, .int .u64 al]] w fun e w' => e = .returned (.string t) ∧ Below w.heap.size w w')
    (k17 : ∀ w, Calls Try.prog 25 #[.agg #[.int .i64 (x 0), .int .i64 (x 1), .int .i64 (x 2), .int .i64 (x 3), .int .i64 (x 4), .int .i64 (x 5), .int .i64 (x 6), .int .i64 (x 7)]] w fun e w' => e = .returned (.string t) ∧ Below w.heap.size w w') (w : World) :
    Calls Try.prog 7 #[.agg #[.int .i64 ah, .int .u64 al], .agg #[.int .i64 bh, .int .u64 bl]] w fun e w' => e = .returned (.bool true) ∧ Below w.heap.size w w' := by
  have K1 := Lib.hid k1
  have K2 := Lib.hid k2
  have K3 := Lib.hid k3
  have K4 := Lib.hid k4
  have K5 := Lib.hid k5
  have K6 := Lib.hid k6
  have K7 := Lib.hid k7
  have K8 := Lib.hid k8
  have K9 := Lib.hid k9
  have K10 := Lib.hid k10
  have K11 := Lib.hid k11
  have K12 := Lib.hid k12
  have K13 := Lib.hid k13
  have K14 := Lib.hid k14
  have K15 := Lib.hid k15
  have K16 := Lib.hid k16
  have K17 := Lib.hid k17
  clear k1 k2 k3 k4 k5 k6 k7 k8 k9 k10 k11 k12 k13 k14 k15 k16 k17
  have K18 := Lib.hid awake_any
  have ep := eq_row p
  have em := eq_row m
  have eq := eq_row q
  obtain ⟨w0, hw0, p0, p1, g0, z0⟩ := boxes2 w #[.int .i64 ah, .int .u64 al] #[.int .i64 bh, .int .u64 bl] 24 24
  have c0 := p0.two
  have c1 := p1.two
  have B0 := Lib.hid (And.intro p0 (And.intro p1 g0))
  clear p0 p1 g0 z0
  go_enter Try.func7, Try.ntmps7
  go_wp2_with fail
  (try clear hw0)
  clear c0 c1
  obtain ⟨S0, S0d⟩ : ∃ S : World → Prop, S = fun v : World => Blk v w.heap.size #[.int .i64 ah, .int .u64 al] 24 ∧ Blk v (w.heap.size + 1) #[.int .i64 bh, .int .u64 bl] 24 ∧ Below w.heap.size w v := ⟨_, rfl⟩
  have S0t0 : Stands S0 := by rw [S0d]; exact ((stands_blk _ _ _).and ((stands_blk _ _ _).and (stands_below _)))
  have S0u0 : ∀ v, S0 v → Blk v w.heap.size #[.int .i64 ah, .int .u64 al] 24 ∧ Blk v (w.heap.size + 1) #[.int .i64 bh, .int .u64 bl] 24 ∧ Below w.heap.size w v := fun v h => by rw [S0d] at h; exact h
  have S0m0 : ∀ v, (Blk v w.heap.size #[.int .i64 ah, .int .u64 al] 24 ∧ Blk v (w.heap.size + 1) #[.int .i64 bh, .int .u64 bl] 24 ∧ Below w.heap.size w v) → S0 v := fun v h => by rw [S0d]; exact h
  have S0u := Lib.hid S0u0
  have S0m := Lib.hid S0m0
  have S0t := Lib.hid S0t0
  clear S0d S0u0 S0m0 S0t0
  refine wp_region_X (S := S0) (by kernel_rfl) (S0m.out _ ⟨B0.out.1.drew, B0.out.2.1.drew, B0.out.2.2.drew⟩) ?_
  clear B0
  refine wpX_take (i := 0) (v := ?_) S0t.out rfl rfl (by kernel_rfl) (by kernel_rfl) (by kernel_rfl) (fun _ _ _ h => h) (SteadyX.value (by rfl) ?_) ?_
  rotate_left
  · (intro w_ hS; obtain ⟨q0, q1, q2⟩ := S0u.out _ hS; (have q0 := q0.two); (have q1 := q1.two); (clear q2); go_simp; try with_reducible rfl)
  simp only [List.setIfInBounds_toArray, List.set_cons_zero, List.set_cons_succ]
  refine wpX_take (i := 1) S0t.out rfl rfl (by kernel_rfl) (by kernel_rfl) (by kernel_rfl) (fun _ _ _ h => h) (SteadyX.call (by rfl) (fun w_ hS => K1.out w_) (fun w_ hS => by (go_simp))) ?_
  simp only [List.setIfInBounds_toArray, List.set_cons_zero, List.set_cons_succ]
  refine wpX_take (i := 2) (v := ?_) S0t.out rfl rfl (by kernel_rfl) (by kernel_rfl) (by kernel_rfl) (fun _ _ _ h => h) (SteadyX.value (by rfl) ?_) ?_
  rotate_left
  · (intro w_ hS; obtain ⟨q0, q1, q2⟩ := S0u.out _ hS; (have q0 := q0.two); (have q1 := q1.two); (clear q2); go_simp; try with_reducible rfl)
  simp only [List.setIfInBounds_toArray, List.set_cons_zero, List.set_cons_succ]
  refine wpX_take (i := 3) S0t.out rfl rfl (by kernel_rfl) (by kernel_rfl) (by kernel_rfl) (fun _ _ _ h => h) (SteadyX.call (by rfl) (fun w_ hS => K2.out w_) (fun w_ hS => by (go_simp))) ?_
  simp only [List.setIfInBounds_toArray, List.set_cons_zero, List.set_cons_succ]
  refine wpX_two (i := 4) (j := 5) (by kernel_rfl) (fun w_ hS => ?_) (fun w_ hS => ?_)
  · obtain ⟨q0, q1, q2⟩ := S0u.out _ hS
    obtain ⟨P, hP⟩ : ∃ P, P = w_.heap.size := ⟨_, rfl⟩
    have ltP_0 : w.heap.size < P := by rw [hP]; exact q0.lt
    have ltP_1 : (w.heap.size + 1) < P := by rw [hP]; exact q1.lt
    have ltP_2 : w.heap.size ≤ P := by rw [hP]; exact q2.size
    obtain ⟨S1, S1d⟩ : ∃ S : World → Prop, S = fun v : World => Blk v w.heap.size #[.int .i64 ah, .int .u64 al] 24 ∧ Blk v (w.heap.size + 1) #[.int .i64 bh, .int .u64 bl] 24 ∧ Below w.heap.size w v ∧ (∃ c : Array Value, c.size = 8 ∧ Blk v P c 32) := ⟨_, rfl⟩
    have S1t0 : Stands S1 := by rw [S1d]; exact ((stands_blk _ _ _).and ((stands_blk _ _ _).and ((stands_below _).and (stands_some _ _ _))))
    have S1u0 : ∀ v, S1 v → Blk v w.heap.size #[.int .i64 ah, .int .u64 al] 24 ∧ Blk v (w.heap.size + 1) #[.int .i64 bh, .int .u64 bl] 24 ∧ Below w.heap.size w v ∧ (∃ c : Array Value, c.size = 8 ∧ Blk v P c 32) := fun v h => by rw [S1d] at h; exact h
    have S1m0 : ∀ v, (Blk v w.heap.size #[.int .i64 ah, .int .u64 al] 24 ∧ Blk v (w.heap.size + 1) #[.int .i64 bh, .int .u64 bl] 24 ∧ Below w.heap.size w v ∧ (∃ c : Array Value, c.size = 8 ∧ Blk v P c 32)) → S1 v := fun v h => by rw [S1d]; exact h
    have S1u := Lib.hid S1u0
    have S1m := Lib.hid S1m0
    have S1t := Lib.hid S1t0
    clear S1d S1u0 S1m0 S1t0
    refine wpX_run (i := 4) (v := .pointer (some ⟨P, 0, none⟩)) (w' := w_.alloc (.cells #[.int .i64 0, .int .i64 0, .int .i64 0, .int .i64 0, .int .i64 0, .int .i64 0, .int .i64 0, .int .i64 0] 32)) S1 rfl rfl (by rfl) (by (subst hP; go_simp)) S1t.out (.inr fun v h => S0m.out _ (by obtain ⟨q0, q1, q2, q3⟩ := S1u.out _ h; exact ⟨q0, q1, q2⟩)) (S1m.out _ ⟨(stands_blk _ _ _) _ _ ((Below.refl _ w_).alloc (Nat.le_refl _) _) q0, (stands_blk _ _ _) _ _ ((Below.refl _ w_).alloc (Nat.le_refl _) _) q1, (stands_below _) _ _ ((Below.refl _ w_).alloc (Nat.le_refl _) _) q2, ⟨#[.int .i64 0, .int .i64 0, .int .i64 0, .int .i64 0, .int .i64 0, .int .i64 0, .int .i64 0, .int .i64 0], rfl, Blk.new' w_ _ _ hP⟩⟩) ?_
    clear hS q0 q1 q2 hP
    clear w_
    simp only [List.setIfInBounds_toArray, List.set_cons_zero, List.set_cons_succ]
    refine wpX_one (i := 5) (by kernel_rfl) (fun w_ hS => ?_)
    obtain ⟨q0, q1, q2, q3⟩ := S1u.out _ hS
    obtain ⟨Q, hQ⟩ : ∃ Q, Q = w_.heap.size := ⟨_, rfl⟩
    have ltQ_0 : w.heap.size < Q := by rw [hQ]; exact q0.lt
    have ltQ_1 : (w.heap.size + 1) < Q := by rw [hQ]; exact q1.lt
    have ltQ_2 : w.heap.size ≤ Q := by rw [hQ]; exact q2.size
    have ltQ_3 : P < Q := by rw [hQ]; obtain ⟨_, _, h⟩ := q3; exact h.lt
    obtain ⟨S2, S2d⟩ : ∃ S : World → Prop, S = fun v : World => Blk v w.heap.size #[.int .i64 ah, .int .u64 al] 24 ∧ Blk v (w.heap.size + 1) #[.int .i64 bh, .int .u64 bl] 24 ∧ Below w.heap.size w v ∧ (∃ c : Array Value, c.size = 8 ∧ Blk v P c 32) ∧ (∃ c : Array Value, c.size = 8 ∧ Blk v Q c 32) := ⟨_, rfl⟩
    have S2t0 : Stands S2 := by rw [S2d]; exact ((stands_blk _ _ _).and ((stands_blk _ _ _).and ((stands_below _).and ((stands_some _ _ _).and (stands_some _ _ _)))))
    have S2u0 : ∀ v, S2 v → Blk v w.heap.size #[.int .i64 ah, .int .u64 al] 24 ∧ Blk v (w.heap.size + 1) #[.int .i64 bh, .int .u64 bl] 24 ∧ Below w.heap.size w v ∧ (∃ c : Array Value, c.size = 8 ∧ Blk v P c 32) ∧ (∃ c : Array Value, c.size = 8 ∧ Blk v Q c 32) := fun v h => by rw [S2d] at h; exact h
    have S2m0 : ∀ v, (Blk v w.heap.size #[.int .i64 ah, .int .u64 al] 24 ∧ Blk v (w.heap.size + 1) #[.int .i64 bh, .int .u64 bl] 24 ∧ Below w.heap.size w v ∧ (∃ c : Array Value, c.size = 8 ∧ Blk v P c 32) ∧ (∃ c : Array Value, c.size = 8 ∧ Blk v Q c 32)) → S2 v := fun v h => by rw [S2d]; exact h
    have S2u := Lib.hid S2u0
    have S2m := Lib.hid S2m0
    have S2t := Lib.hid S2t0
    clear S2d S2u0 S2m0 S2t0
    refine wpX_run (i := 5) (v := .pointer (some ⟨Q, 0, none⟩)) (w' := w_.alloc (.cells #[.int .i64 0, .int .i64 0, .int .i64 0, .int .i64 0, .int .i64 0, .int .i64 0, .int .i64 0, .int .i64 0] 32)) S2 rfl rfl (by rfl) (by (subst hQ; go_simp)) S2t.out (.inr fun v h => S1m.out _ (by obtain ⟨q0, q1, q2, q3, q4⟩ := S2u.out _ h; exact ⟨q0, q1, q2, q3⟩)) (S2m.out _ ⟨(stands_blk _ _ _) _ _ ((Below.refl _ w_).alloc (Nat.le_refl _) _) q0, (stands_blk _ _ _) _ _ ((Below.refl _ w_).alloc (Nat.le_refl _) _) q1, (stands_below _) _ _ ((Below.refl _ w_).alloc (Nat.le_refl _) _) q2, (stands_some _ _ _) _ _ ((Below.refl _ w_).alloc (Nat.le_refl _) _) q3, ⟨#[.int .i64 0, .int .i64 0, .int .i64 0, .int .i64 0, .int .i64 0, .int .i64 0, .int .i64 0, .int .i64 0], rfl, Blk.new' w_ _ _ hQ⟩⟩) ?_
    clear hS q0 q1 q2 q3 hQ
    clear w_
    simp only [List.setIfInBounds_toArray, List.set_cons_zero, List.set_cons_succ]
    refine wpX_one (i := 6) (by kernel_rfl) (fun w_ hS => ?_)
    obtain ⟨q0, q1, q2, q3, q4⟩ := S2u.out _ hS
    obtain ⟨c_, hc_, qB⟩ := id q3
    obtain ⟨y0, y1, y2, y3, y4, y5, y6, y7, rfl⟩ := arr8 c_ hc_
    obtain ⟨S3, S3d⟩ : ∃ S : World → Prop, S = fun v : World => Blk v w.heap.size #[.int .i64 ah, .int .u64 al] 24 ∧ Blk v (w.heap.size + 1) #[.int .i64 bh, .int .u64 bl] 24 ∧ Below w.heap.size w v ∧ (∃ c : Array Value, c.size = 8 ∧ Blk v P c 32) ∧ (∃ c : Array Value, c.size = 8 ∧ Blk v Q c 32) ∧ Blk v P #[.int .i64 (x 0), .int .i64 (x 1), .int .i64 (x 2), .int .i64 (x 3), .int .i64 (x 4), .int .i64 (x 5), .int .i64 (x 6), .int .i64 (x 7)] 32 := ⟨_, rfl⟩
    have S3t0 : Stands S3 := by rw [S3d]; exact ((stands_blk _ _ _).and ((stands_blk _ _ _).and ((stands_below _).and ((stands_some _ _ _).and ((stands_some _ _ _).and (stands_blk _ _ _))))))
    have S3u0 : ∀ v, S3 v → Blk v w.heap.size #[.int .i64 ah, .int .u64 al] 24 ∧ Blk v (w.heap.size + 1) #[.int .i64 bh, .int .u64 bl] 24 ∧ Below w.heap.size w v ∧ (∃ c : Array Value, c.size = 8 ∧ Blk v P c 32) ∧ (∃ c : Array Value, c.size = 8 ∧ Blk v Q c 32) ∧ Blk v P #[.int .i64 (x 0), .int .i64 (x 1), .int .i64 (x 2), .int .i64 (x 3), .int .i64 (x 4), .int .i64 (x 5), .int .i64 (x 6), .int .i64 (x 7)] 32 := fun v h => by rw [S3d] at h; exact h
    have S3m0 : ∀ v, (Blk v w.heap.size #[.int .i64 ah, .int .u64 al] 24 ∧ Blk v (w.heap.size + 1) #[.int .i64 bh, .int .u64 bl] 24 ∧ Below w.heap.size w v ∧ (∃ c : Array Value, c.size = 8 ∧ Blk v P c 32) ∧ (∃ c : Array Value, c.size = 8 ∧ Blk v Q c 32) ∧ Blk v P #[.int .i64 (x 0), .int .i64 (x 1), .int .i64 (x 2), .int .i64 (x 3), .int .i64 (x 4), .int .i64 (x 5), .int .i64 (x 6), .int .i64 (x 7)] 32) → S3 v := fun v h => by rw [S3d]; exact h
    have S3u := Lib.hid S3u0
    have S3m := Lib.hid S3m0
    have S3t := Lib.hid S3t0
    clear S3d S3u0 S3m0 S3t0
    have st_ : S3 ((((((((w_.setCell ⟨P, 0, none⟩ (.int .i64 (x 0))).setCell ⟨P, 1, none⟩ (.int .i64 (x 1))).setCell ⟨P, 2, none⟩ (.int .i64 (x 2))).setCell ⟨P, 3, none⟩ (.int .i64 (x 3))).setCell ⟨P, 4, none⟩ (.int .i64 (x 4))).setCell ⟨P, 5, none⟩ (.int .i64 (x 5))).setCell ⟨P, 6, none⟩ (.int .i64 (x 6))).setCell ⟨P, 7, none⟩ (.int .i64 (x 7))) := S3m.out _ ⟨other8 q0 (by show w.heap.size ≠ P; omega) _ _ _ _ _ _ _ _, other8 q1 (by show (w.heap.size + 1) ≠ P; omega) _ _ _ _ _ _ _ _, below8 q2 (by omega) _ _ _ _ _ _ _ _, ⟨_, rfl, set8 qB _ _ _ _ _ _ _ _⟩, some8 q4 (by show Q ≠ P; omega) _ _ _ _ _ _ _ _, set8 qB _ _ _ _ _ _ _ _⟩
    have r_ := qB.eight
    refine wpX_store (i := 6) (w' := ((((((((w_.setCell ⟨P, 0, none⟩ (.int .i64 (x 0))).setCell ⟨P, 1, none⟩ (.int .i64 (x 1))).setCell ⟨P, 2, none⟩ (.int .i64 (x 2))).setCell ⟨P, 3, none⟩ (.int .i64 (x 3))).setCell ⟨P, 4, none⟩ (.int .i64 (x 4))).setCell ⟨P, 5, none⟩ (.int .i64 (x 5))).setCell ⟨P, 6, none⟩ (.int .i64 (x 6))).setCell ⟨P, 7, none⟩ (.int .i64 (x 7)))) S3 rfl rfl (by rfl) (by go_simp) S3t.out (.inr fun v h => S2m.out _ (by obtain ⟨q0, q1, q2, q3, q4, q5⟩ := S3u.out _ h; exact ⟨q0, q1, q2, q3, q4⟩)) st_ ?_
    clear r_ hS st_ qB hc_ q0 q1 q2 q3 q4
    clear w_ y0 y1 y2 y3 y4 y5 y6 y7
    refine wpX_one (i := 7) (by kernel_rfl) (fun w_ hS => ?_)
    obtain ⟨q0, q1, q2, q3, q4, q5⟩ := S3u.out _ hS
    obtain ⟨c_, hc_, qB⟩ := id q4
    obtain ⟨y0, y1, y2, y3, y4, y5, y6, y7, rfl⟩ := arr8 c_ hc_
    obtain ⟨S4, S4d⟩ : ∃ S : World → Prop, S = fun v : World => Blk v w.heap.size #[.int .i64 ah, .int .u64 al] 24 ∧ Blk v (w.heap.size + 1) #[.int .i64 bh, .int .u64 bl] 24 ∧ Below w.heap.size w v ∧ (∃ c : Array Value, c.size = 8 ∧ Blk v P c 32) ∧ (∃ c : Array Value, c.size = 8 ∧ Blk v Q c 32) ∧ Blk v P #[.int .i64 (x 0), .int .i64 (x 1), .int .i64 (x 2), .int .i64 (x 3), .int .i64 (x 4), .int .i64 (x 5), .int .i64 (x 6), .int .i64 (x 7)] 32 ∧ Blk v Q #[.int .i64 (y 0), .int .i64 (y 1), .int .i64 (y 2), .int .i64 (y 3), .int .i64 (y 4), .int .i64 (y 5), .int .i64 (y 6), .int .i64 (y 7)] 32 := ⟨_, rfl⟩
    have S4t0 : Stands S4 := by rw [S4d]; exact ((stands_blk _ _ _).and ((stands_blk _ _ _).and ((stands_below _).and ((stands_some _ _ _).and ((stands_some _ _ _).and ((stands_blk _ _ _).and (stands_blk _ _ _)))))))
    have S4u0 : ∀ v, S4 v → Blk v w.heap.size #[.int .i64 ah, .int .u64 al] 24 ∧ Blk v (w.heap.size + 1) #[.int .i64 bh, .int .u64 bl] 24 ∧ Below w.heap.size w v ∧ (∃ c : Array Value, c.size = 8 ∧ Blk v P c 32) ∧ (∃ c : Array Value, c.size = 8 ∧ Blk v Q c 32) ∧ Blk v P #[.int .i64 (x 0), .int .i64 (x 1), .int .i64 (x 2), .int .i64 (x 3), .int .i64 (x 4), .int .i64 (x 5), .int .i64 (x 6), .int .i64 (x 7)] 32 ∧ Blk v Q #[.int .i64 (y 0), .int .i64 (y 1), .int .i64 (y 2), .int .i64 (y 3), .int .i64 (y 4), .int .i64 (y 5), .int .i64 (y 6), .int .i64 (y 7)] 32 := fun v h => by rw [S4d] at h; exact h
    have S4m0 : ∀ v, (Blk v w.heap.size #[.int .i64 ah, .int .u64 al] 24 ∧ Blk v (w.heap.size + 1) #[.int .i64 bh, .int .u64 bl] 24 ∧ Below w.heap.size w v ∧ (∃ c : Array Value, c.size = 8 ∧ Blk v P c 32) ∧ (∃ c : Array Value, c.size = 8 ∧ Blk v Q c 32) ∧ Blk v P #[.int .i64 (x 0), .int .i64 (x 1), .int .i64 (x 2), .int .i64 (x 3), .int .i64 (x 4), .int .i64 (x 5), .int .i64 (x 6), .int .i64 (x 7)] 32 ∧ Blk v Q #[.int .i64 (y 0), .int .i64 (y 1), .int .i64 (y 2), .int .i64 (y 3), .int .i64 (y 4), .int .i64 (y 5), .int .i64 (y 6), .int .i64 (y 7)] 32) → S4 v := fun v h => by rw [S4d]; exact h
    have S4u := Lib.hid S4u0
    have S4m := Lib.hid S4m0
    have S4t := Lib.hid S4t0
    clear S4d S4u0 S4m0 S4t0
    have st_ : S4 ((((((((w_.setCell ⟨Q, 0, none⟩ (.int .i64 (y 0))).setCell ⟨Q, 1, none⟩ (.int .i64 (y 1))).setCell ⟨Q, 2, none⟩ (.int .i64 (y 2))).setCell ⟨Q, 3, none⟩ (.int .i64 (y 3))).setCell ⟨Q, 4, none⟩ (.int .i64 (y 4))).setCell ⟨Q, 5, none⟩ (.int .i64 (y 5))).setCell ⟨Q, 6, none⟩ (.int .i64 (y 6))).setCell ⟨Q, 7, none⟩ (.int .i64 (y 7))) := S4m.out _ ⟨other8 q0 (by show w.heap.size ≠ Q; omega) _ _ _ _ _ _ _ _, other8 q1 (by show (w.heap.size + 1) ≠ Q; omega) _ _ _ _ _ _ _ _, below8 q2 (by omega) _ _ _ _ _ _ _ _, some8 q3 (by show P ≠ Q; omega) _ _ _ _ _ _ _ _, ⟨_, rfl, set8 qB _ _ _ _ _ _ _ _⟩, other8 q5 (by show P ≠ Q; omega) _ _ _ _ _ _ _ _, set8 qB _ _ _ _ _ _ _ _⟩
    have r_ := qB.eight
    refine wpX_store (i := 7) (w' := ((((((((w_.setCell ⟨Q, 0, none⟩ (.int .i64 (y 0))).setCell ⟨Q, 1, none⟩ (.int .i64 (y 1))).setCell ⟨Q, 2, none⟩ (.int .i64 (y 2))).setCell ⟨Q, 3, none⟩ (.int .i64 (y 3))).setCell ⟨Q, 4, none⟩ (.int .i64 (y 4))).setCell ⟨Q, 5, none⟩ (.int .i64 (y 5))).setCell ⟨Q, 6, none⟩ (.int .i64 (y 6))).setCell ⟨Q, 7, none⟩ (.int .i64 (y 7)))) S4 rfl rfl (by rfl) (by go_simp) S4t.out (.inl (by kernel_rfl)) st_ ?_
    clear r_ hS st_ qB hc_ q0 q1 q2 q3 q4 q5
    clear w_ y0 y1 y2 y3 y4 y5 y6 y7
    refine wpX_done (by kernel_rfl) (fun W hS => ?_) _
    obtain ⟨q0, q1, q2, q3, q4, q5, q6⟩ := S4u.out _ hS
    clear hS S0u S0m S0t S1u S1m S1t S2u S2m S2t S3u S3m S3t S4u S4m S4t
    clear S0 S1 S2 S3 S4
    have C0 := Lib.hid (And.intro q0 (And.intro q1 (And.intro q5 (And.intro q6 q2))))
    clear q0 q1 q2 q3 q4 q5 q6
    go_wp2_with fail
    obtain ⟨Z, hZ⟩ : ∃ Z, Z = W.heap.size := ⟨_, rfl⟩
    have C1 := Lib.hid (And.intro (C0.out.1.alloc (.cells #[.int .i64 0, .int .i64 0, .int .i64 0, .int .i64 0, .int .i64 0, .int .i64 0, .int .i64 0, .int .i64 0] 32)) (And.intro (C0.out.2.1.alloc (.cells #[.int .i64 0, .int .i64 0, .int .i64 0, .int .i64 0, .int .i64 0, .int .i64 0, .int .i64 0, .int .i64 0] 32)) (And.intro (C0.out.2.2.1.alloc (.cells #[.int .i64 0, .int .i64 0, .int .i64 0, .int .i64 0, .int .i64 0, .int .i64 0, .int .i64 0, .int .i64 0] 32)) (And.intro (C0.out.2.2.2.1.alloc (.cells #[.int .i64 0, .int .i64 0, .int .i64 0, .int .i64 0, .int .i64 0, .int .i64 0, .int .i64 0, .int .i64 0] 32)) (And.intro (Blk.new' W #[.int .i64 0, .int .i64 0, .int .i64 0, .int .i64 0, .int .i64 0, .int .i64 0, .int .i64 0, .int .i64 0] 32 hZ) (grow_alloc C0.out.2.2.2.2 (.cells #[.int .i64 0, .int .i64 0, .int .i64 0, .int .i64 0, .int .i64 0, .int .i64 0, .int .i64 0, .int .i64 0] 32)))))))
    rw [← hZ]
    clear hZ C0
    generalize W.alloc (.cells #[.int .i64 0, .int .i64 0, .int .i64 0, .int .i64 0, .int .i64 0, .int .i64 0, .int .i64 0, .int .i64 0] 32) = W2 at *
    clear W
    obtain ⟨Sr0, Sr0d⟩ : ∃ S : World → Prop, S = fun v : World => Blk v w.heap.size #[.int .i64 ah, .int .u64 al] 24 ∧ Blk v (w.heap.size + 1) #[.int .i64 bh, .int .u64 bl] 24 ∧ Blk v P #[.int .i64 (x 0), .int .i64 (x 1), .int .i64 (x 2), .int .i64 (x 3), .int .i64 (x 4), .int .i64 (x 5), .int .i64 (x 6), .int .i64 (x 7)] 32 ∧ Blk v Q #[.int .i64 (y 0), .int .i64 (y 1), .int .i64 (y 2), .int .i64 (y 3), .int .i64 (y 4), .int .i64 (y 5), .int .i64 (y 6), .int .i64 (y 7)] 32 ∧ Blk v Z #[.int .i64 0, .int .i64 0, .int .i64 0, .int .i64 0, .int .i64 0, .int .i64 0, .int .i64 0, .int .i64 0] 32 ∧ Below w.heap.size w v := ⟨_, rfl⟩
    have Sr0t0 : Stands Sr0 := by rw [Sr0d]; exact ((stands_blk _ _ _).and ((stands_blk _ _ _).and ((stands_blk _ _ _).and ((stands_blk _ _ _).and ((stands_blk _ _ _).and (stands_below _))))))
    have Sr0u0 : ∀ v, Sr0 v → Blk v w.heap.size #[.int .i64 ah, .int .u64 al] 24 ∧ Blk v (w.heap.size + 1) #[.int .i64 bh, .int .u64 bl] 24 ∧ Blk v P #[.int .i64 (x 0), .int .i64 (x 1), .int .i64 (x 2), .int .i64 (x 3), .int .i64 (x 4), .int .i64 (x 5), .int .i64 (x 6), .int .i64 (x 7)] 32 ∧ Blk v Q #[.int .i64 (y 0), .int .i64 (y 1), .int .i64 (y 2), .int .i64 (y 3), .int .i64 (y 4), .int .i64 (y 5), .int .i64 (y 6), .int .i64 (y 7)] 32 ∧ Blk v Z #[.int .i64 0, .int .i64 0, .int .i64 0, .int .i64 0, .int .i64 0, .int .i64 0, .int .i64 0, .int .i64 0] 32 ∧ Below w.heap.size w v := fun v h => by rw [Sr0d] at h; exact h
    have Sr0m0 : ∀ v, (Blk v w.heap.size #[.int .i64 ah, .int .u64 al] 24 ∧ Blk v (w.heap.size + 1) #[.int .i64 bh, .int .u64 bl] 24 ∧ Blk v P #[.int .i64 (x 0), .int .i64 (x 1), .int .i64 (x 2), .int .i64 (x 3), .int .i64 (x 4), .int .i64 (x 5), .int .i64 (x 6), .int .i64 (x 7)] 32 ∧ Blk v Q #[.int .i64 (y 0), .int .i64 (y 1), .int .i64 (y 2), .int .i64 (y 3), .int .i64 (y 4), .int .i64 (y 5), .int .i64 (y 6), .int .i64 (y 7)] 32 ∧ Blk v Z #[.int .i64 0, .int .i64 0, .int .i64 0, .int .i64 0, .int .i64 0, .int .i64 0, .int .i64 0, .int .i64 0] 32 ∧ Below w.heap.size w v) → Sr0 v := fun v h => by rw [Sr0d]; exact h
    have Sr0u := Lib.hid Sr0u0
    have Sr0m := Lib.hid Sr0m0
    have Sr0t := Lib.hid Sr0t0
    clear Sr0d Sr0u0 Sr0m0 Sr0t0
    refine wp_region_X (S := Sr0) (by kernel_rfl) (Sr0m.out _ ⟨C1.out.1.drew, C1.out.2.1.drew, C1.out.2.2.1.drew, C1.out.2.2.2.1.drew, C1.out.2.2.2.2.1.drew, C1.out.2.2.2.2.2.drew⟩) ?_
    clear C1
    refine wpX_take (i := 0) (v := ?_) Sr0t.out rfl rfl (by kernel_rfl) (by kernel_rfl) (by kernel_rfl) (fun _ _ _ h => h) (SteadyX.value (by rfl) ?_) ?_
    rotate_left
    · (intro w_ hS; obtain ⟨q0, q1, q2, q3, q4, q5⟩ := Sr0u.out _ hS; (have q0 := q0.two); (have q1 := q1.two); (have q2 := q2.eight); (have q3 := q3.eight); (have q4 := q4.eight); (clear q5); go_simp; try with_reducible rfl)
    simp only [List.setIfInBounds_toArray, List.set_cons_zero, List.set_cons_succ]
    refine wpX_take (i := 1) (v := ?_) Sr0t.out rfl rfl (by kernel_rfl) (by kernel_rfl) (by kernel_rfl) (fun _ _ _ h => h) (SteadyX.value (by rfl) ?_) ?_
    rotate_left
    · (intro w_ hS; obtain ⟨q0, q1, q2, q3, q4, q5⟩ := Sr0u.out _ hS; (have q0 := q0.two); (have q1 := q1.two); (have q2 := q2.eight); (have q3 := q3.eight); (have q4 := q4.eight); (clear q5); go_simp; try with_reducible rfl)
    simp only [List.setIfInBounds_toArray, List.set_cons_zero, List.set_cons_succ]
    refine wpX_take (i := 2) Sr0t.out rfl rfl (by kernel_rfl) (by kernel_rfl) (by kernel_rfl) (fun _ _ _ h => h) (SteadyX.call (by rfl) (fun w_ hS => K3.out w_) (fun w_ hS => by (go_simp))) ?_
    simp only [List.setIfInBounds_toArray, List.set_cons_zero, List.set_cons_succ]
    refine wpX_take (i := 3) Sr0t.out rfl rfl (by kernel_rfl) (by kernel_rfl) (by kernel_rfl) (fun _ _ _ h => h) (SteadyX.call (by rfl) (fun w_ hS => K4.out w_) (fun w_ hS => by (go_simp))) ?_
    simp only [List.setIfInBounds_toArray, List.set_cons_zero, List.set_cons_succ]
    refine wpX_take (i := 4) (v := ?_) Sr0t.out rfl rfl (by kernel_rfl) (by kernel_rfl) (by kernel_rfl) (fun _ _ _ h => h) (SteadyX.value (by rfl) ?_) ?_
    rotate_left
    · (intro w_ hS; obtain ⟨q0, q1, q2, q3, q4, q5⟩ := Sr0u.out _ hS; (have q0 := q0.two); (have q1 := q1.two); (have q2 := q2.eight); (have q3 := q3.eight); (have q4 := q4.eight); (clear q5); go_simp; try with_reducible rfl)
    simp only [List.setIfInBounds_toArray, List.set_cons_zero, List.set_cons_succ]
    refine wpX_take (i := 5) (v := ?_) Sr0t.out rfl rfl (by kernel_rfl) (by kernel_rfl) (by kernel_rfl) (fun _ _ _ h => h) (SteadyX.value (by rfl) ?_) ?_
    rotate_left
    · (intro w_ hS; obtain ⟨q0, q1, q2, q3, q4, q5⟩ := Sr0u.out _ hS; (have q0 := q0.two); (have q1 := q1.two); (have q2 := q2.eight); (have q3 := q3.eight); (have q4 := q4.eight); (clear q5); go_simp; try with_reducible rfl)
    simp only [List.setIfInBounds_toArray, List.set_cons_zero, List.set_cons_succ]
    refine wpX_take (i := 6) Sr0t.out rfl rfl (by kernel_rfl) (by kernel_rfl) (by kernel_rfl) (fun _ _ _ h => h) (SteadyX.call (by rfl) (fun w_ hS => K5.out w_) (fun w_ hS => by (go_simp))) ?_
    simp only [List.setIfInBounds_toArray, List.set_cons_zero, List.set_cons_succ]
    refine wpX_take (i := 7) (v := ?_) Sr0t.out rfl rfl (by kernel_rfl) (by kernel_rfl) (by kernel_rfl) (fun _ _ _ h => h) (SteadyX.value (by rfl) ?_) ?_
    rotate_left
    · (intro w_ hS; go_simp; try with_reducible rfl)
    simp only [List.setIfInBounds_toArray, List.set_cons_zero, List.set_cons_succ]
    refine wpX_take (i := 8) (v := ?_) Sr0t.out rfl rfl (by kernel_rfl) (by kernel_rfl) (by kernel_rfl) (fun _ _ _ h => h) (SteadyX.value (by rfl) ?_) ?_
    rotate_left
    · (intro w_ hS; go_simp; try with_reducible rfl)
    simp only [List.setIfInBounds_toArray, List.set_cons_zero, List.set_cons_succ]
    refine wpX_take (i := 9) (v := ?_) Sr0t.out rfl rfl (by kernel_rfl) (by kernel_rfl) (by kernel_rfl) (fun _ _ _ h => h) (SteadyX.value (by rfl) ?_) ?_
    rotate_left
    · (intro w_ hS; obtain ⟨q0, q1, q2, q3, q4, q5⟩ := Sr0u.out _ hS; (have q0 := q0.two); (have q1 := q1.two); (have q2 := q2.eight); (have q3 := q3.eight); (have q4 := q4.eight); (clear q5); go_simp; try with_reducible rfl)
    simp only [List.setIfInBounds_toArray, List.set_cons_zero, List.set_cons_succ]
    refine wpX_take (i := 10) (v := ?_) Sr0t.out rfl rfl (by kernel_rfl) (by kernel_rfl) (by kernel_rfl) (fun _ _ _ h => h) (SteadyX.value (by rfl) ?_) ?_
    rotate_left
    · (intro w_ hS; obtain ⟨q0, q1, q2, q3, q4, q5⟩ := Sr0u.out _ hS; (have q0 := q0.two); (have q1 := q1.two); (have q2 := q2.eight); (have q3 := q3.eight); (have q4 := q4.eight); (clear q5); go_simp; try with_reducible rfl)
    simp only [List.setIfInBounds_toArray, List.set_cons_zero, List.set_cons_succ]
    refine wpX_take (i := 11) Sr0t.out rfl rfl (by kernel_rfl) (by kernel_rfl) (by kernel_rfl) (fun _ _ _ h => h) (SteadyX.call (by rfl) (fun w_ hS => K6.out w_) (fun w_ hS => by (go_simp))) ?_
    simp only [List.setIfInBounds_toArray, List.set_cons_zero, List.set_cons_succ]
    refine wpX_take (i := 12) Sr0t.out rfl rfl (by kernel_rfl) (by kernel_rfl) (by kernel_rfl) (fun _ _ _ h => h) (SteadyX.call (by rfl) (fun w_ hS => K7.out w_) (fun w_ hS => by (go_simp))) ?_
    simp only [List.setIfInBounds_toArray, List.set_cons_zero, List.set_cons_succ]
    refine wpX_take (i := 13) (v := ?_) Sr0t.out rfl rfl (by kernel_rfl) (by kernel_rfl) (by kernel_rfl) (fun _ _ _ h => h) (SteadyX.value (by rfl) ?_) ?_
    rotate_left
    · (intro w_ hS; obtain ⟨q0, q1, q2, q3, q4, q5⟩ := Sr0u.out _ hS; (have q0 := q0.two); (have q1 := q1.two); (have q2 := q2.eight); (have q3 := q3.eight); (have q4 := q4.eight); (clear q5); go_simp; try with_reducible rfl)
    simp only [List.setIfInBounds_toArray, List.set_cons_zero, List.set_cons_succ]
    refine wpX_take (i := 14) (v := ?_) Sr0t.out rfl rfl (by kernel_rfl) (by kernel_rfl) (by kernel_rfl) (fun _ _ _ h => h) (SteadyX.value (by rfl) ?_) ?_
    rotate_left
    · (intro w_ hS; obtain ⟨q0, q1, q2, q3, q4, q5⟩ := Sr0u.out _ hS; (have q0 := q0.two); (have q1 := q1.two); (have q2 := q2.eight); (have q3 := q3.eight); (have q4 := q4.eight); (clear q5); go_simp; try with_reducible rfl)
    simp only [List.setIfInBounds_toArray, List.set_cons_zero, List.set_cons_succ]
    refine wpX_take (i := 15) Sr0t.out rfl rfl (by kernel_rfl) (by kernel_rfl) (by kernel_rfl) (fun _ _ _ h => h) (SteadyX.call (by rfl) (fun w_ hS => K8.out w_) (fun w_ hS => by (go_simp))) ?_
    simp only [List.setIfInBounds_toArray, List.set_cons_zero, List.set_cons_succ]
    refine wpX_take (i := 16) (v := ?_) Sr0t.out rfl rfl (by kernel_rfl) (by kernel_rfl) (by kernel_rfl) (fun _ _ _ h => h) (SteadyX.value (by rfl) ?_) ?_
    rotate_left
    · (intro w_ hS; go_simp; try with_reducible rfl)
    simp only [List.setIfInBounds_toArray, List.set_cons_zero, List.set_cons_succ]
    refine wpX_take (i := 17) (v := ?_) Sr0t.out rfl rfl (by kernel_rfl) (by kernel_rfl) (by kernel_rfl) (fun _ _ _ h => h) (SteadyX.value (by rfl) ?_) ?_
    rotate_left
    · (intro w_ hS; go_simp; try with_reducible rfl)
    simp only [List.setIfInBounds_toArray, List.set_cons_zero, List.set_cons_succ]
    refine wpX_take (i := 18) (v := ?_) Sr0t.out rfl rfl (by kernel_rfl) (by kernel_rfl) (by kernel_rfl) (fun _ _ _ h => h) (SteadyX.value (by rfl) ?_) ?_
    rotate_left
    · (intro w_ hS; go_simp; try with_reducible rfl)
    simp only [List.setIfInBounds_toArray, List.set_cons_zero, List.set_cons_succ]
    refine wpX_take (i := 19) (v := ?_) Sr0t.out rfl rfl (by kernel_rfl) (by kernel_rfl) (by kernel_rfl) (fun _ _ _ h => h) (SteadyX.value (by rfl) ?_) ?_
    rotate_left
    · (intro w_ hS; obtain ⟨q0, q1, q2, q3, q4, q5⟩ := Sr0u.out _ hS; (have q0 := q0.two); (have q1 := q1.two); (have q2 := q2.eight); (have q3 := q3.eight); (have q4 := q4.eight); (clear q5); go_simp; try with_reducible rfl)
    simp only [List.setIfInBounds_toArray, List.set_cons_zero, List.set_cons_succ]
    refine wpX_take (i := 20) Sr0t.out rfl rfl (by kernel_rfl) (by kernel_rfl) (by kernel_rfl) (fun _ _ _ h => h) (SteadyX.call (by rfl) (fun w_ hS => K9.out w_) (fun w_ hS => by (go_simp))) ?_
    simp only [List.setIfInBounds_toArray, List.set_cons_zero, List.set_cons_succ]
    refine wpX_take (i := 21) Sr0t.out rfl rfl (by kernel_rfl) (by kernel_rfl) (by kernel_rfl) (fun _ _ _ h => h) (SteadyX.call (by rfl) (fun w_ hS => K10.out w_) (fun w_ hS => by (go_simp))) ?_
    simp only [List.setIfInBounds_toArray, List.set_cons_zero, List.set_cons_succ]
    refine wpX_take (i := 22) (v := ?_) Sr0t.out rfl rfl (by kernel_rfl) (by kernel_rfl) (by kernel_rfl) (fun _ _ _ h => h) (SteadyX.value (by rfl) ?_) ?_
    rotate_left
    · (intro w_ hS; obtain ⟨q0, q1, q2, q3, q4, q5⟩ := Sr0u.out _ hS; (have q0 := q0.two); (have q1 := q1.two); (have q2 := q2.eight); (have q3 := q3.eight); (have q4 := q4.eight); (clear q5); go_simp; try with_reducible rfl)
    simp only [List.setIfInBounds_toArray, List.set_cons_zero, List.set_cons_succ]
    refine wpX_take (i := 23) (v := ?_) Sr0t.out rfl rfl (by kernel_rfl) (by kernel_rfl) (by kernel_rfl) (fun _ _ _ h => h) (SteadyX.value (by rfl) ?_) ?_
    rotate_left
    · (intro w_ hS; obtain ⟨q0, q1, q2, q3, q4, q5⟩ := Sr0u.out _ hS; (have q0 := q0.two); (have q1 := q1.two); (have q2 := q2.eight); (have q3 := q3.eight); (have q4 := q4.eight); (clear q5); go_simp; try with_reducible rfl)
    simp only [List.setIfInBounds_toArray, List.set_cons_zero, List.set_cons_succ]
    refine wpX_take (i := 24) Sr0t.out rfl rfl (by kernel_rfl) (by kernel_rfl) (by kernel_rfl) (fun _ _ _ h => h) (SteadyX.call (by rfl) (fun w_ hS => K11.out w_) (fun w_ hS => by (go_simp))) ?_
    simp only [List.setIfInBounds_toArray, List.set_cons_zero, List.set_cons_succ]
    refine wpX_take (i := 25) (v := ?_) Sr0t.out rfl rfl (by kernel_rfl) (by kernel_rfl) (by kernel_rfl) (fun _ _ _ h => h) (SteadyX.value (by rfl) ?_) ?_
    rotate_left
    · (intro w_ hS; go_simp; try with_reducible rfl)
    simp only [List.setIfInBounds_toArray, List.set_cons_zero, List.set_cons_succ]
    refine wpX_take (i := 26) (v := ?_) Sr0t.out rfl rfl (by kernel_rfl) (by kernel_rfl) (by kernel_rfl) (fun _ _ _ h => h) (SteadyX.value (by rfl) ?_) ?_
    rotate_left
    · (intro w_ hS; go_simp; try with_reducible rfl)
    simp only [List.setIfInBounds_toArray, List.set_cons_zero, List.set_cons_succ]
    refine wpX_take (i := 27) (v := ?_) Sr0t.out rfl rfl (by kernel_rfl) (by kernel_rfl) (by kernel_rfl) (fun _ _ _ h => h) (SteadyX.value (by rfl) ?_) ?_
    rotate_left
    · (intro w_ hS; go_simp; try with_reducible rfl)
    simp only [List.setIfInBounds_toArray, List.set_cons_zero, List.set_cons_succ]
    refine wpX_take (i := 28) (v := ?_) Sr0t.out rfl rfl (by kernel_rfl) (by kernel_rfl) (by kernel_rfl) (fun _ _ _ h => h) (SteadyX.value (by rfl) ?_) ?_
    rotate_left
    · (intro w_ hS; obtain ⟨q0, q1, q2, q3, q4, q5⟩ := Sr0u.out _ hS; (have q0 := q0.two); (have q1 := q1.two); (have q2 := q2.eight); (have q3 := q3.eight); (have q4 := q4.eight); (clear q5); go_simp; try with_reducible rfl)
    simp only [List.setIfInBounds_toArray, List.set_cons_zero, List.set_cons_succ]
    refine wpX_take (i := 29) (v := ?_) Sr0t.out rfl rfl (by kernel_rfl) (by kernel_rfl) (by kernel_rfl) (fun _ _ _ h => h) (SteadyX.value (by rfl) ?_) ?_
    rotate_left
    · (intro w_ hS; obtain ⟨q0, q1, q2, q3, q4, q5⟩ := Sr0u.out _ hS; (have q0 := q0.two); (have q1 := q1.two); (have q2 := q2.eight); (have q3 := q3.eight); (have q4 := q4.eight); (clear q5); go_simp; try with_reducible rfl)
    simp only [List.setIfInBounds_toArray, List.set_cons_zero, List.set_cons_succ]
    refine wpX_take (i := 30) Sr0t.out rfl rfl (by kernel_rfl) (by kernel_rfl) (by kernel_rfl) (fun _ _ _ h => h) (SteadyX.call (by rfl) (fun w_ hS => K12.out w_) (fun w_ hS => by (go_simp))) ?_
    simp only [List.setIfInBounds_toArray, List.set_cons_zero, List.set_cons_succ]
    refine wpX_take (i := 31) (v := ?_) Sr0t.out rfl rfl (by kernel_rfl) (by kernel_rfl) (by kernel_rfl) (fun _ _ _ h => h) (SteadyX.value (by rfl) ?_) ?_
    rotate_left
    · (intro w_ hS; obtain ⟨q0, q1, q2, q3, q4, q5⟩ := Sr0u.out _ hS; (have q0 := q0.two); (have q1 := q1.two); (have q2 := q2.eight); (have q3 := q3.eight); (have q4 := q4.eight); (clear q5); go_simp; try with_reducible rfl)
    simp only [List.setIfInBounds_toArray, List.set_cons_zero, List.set_cons_succ]
    refine wpX_take (i := 32) (v := ?_) Sr0t.out rfl rfl (by kernel_rfl) (by kernel_rfl) (by kernel_rfl) (fun _ _ _ h => h) (SteadyX.value (by rfl) ?_) ?_
    rotate_left
    · (intro w_ hS; obtain ⟨q0, q1, q2, q3, q4, q5⟩ := Sr0u.out _ hS; (have q0 := q0.two); (have q1 := q1.two); (have q2 := q2.eight); (have q3 := q3.eight); (have q4 := q4.eight); (clear q5); go_simp; try with_reducible rfl)
    simp only [List.setIfInBounds_toArray, List.set_cons_zero, List.set_cons_succ]
    refine wpX_take (i := 33) Sr0t.out rfl rfl (by kernel_rfl) (by kernel_rfl) (by kernel_rfl) (fun _ _ _ h => h) (SteadyX.call (by rfl) (fun w_ hS => K13.out w_) (fun w_ hS => by (go_simp))) ?_
    simp only [List.setIfInBounds_toArray, List.set_cons_zero, List.set_cons_succ]
    refine wpX_take (i := 34) (v := ?_) Sr0t.out rfl rfl (by kernel_rfl) (by kernel_rfl) (by kernel_rfl) (fun _ _ _ h => h) (SteadyX.value (by rfl) ?_) ?_
    rotate_left
    · (intro w_ hS; go_simp; try with_reducible rfl)
    simp only [List.setIfInBounds_toArray, List.set_cons_zero, List.set_cons_succ]
    refine wpX_take (i := 35) (v := ?_) Sr0t.out rfl rfl (by kernel_rfl) (by kernel_rfl) (by kernel_rfl) (fun _ _ _ h => h) (SteadyX.value (by rfl) ?_) ?_
    rotate_left
    · (intro w_ hS; go_simp; try with_reducible rfl)
    simp only [List.setIfInBounds_toArray, List.set_cons_zero, List.set_cons_succ]
    refine wpX_take (i := 36) (v := ?_) Sr0t.out rfl rfl (by kernel_rfl) (by kernel_rfl) (by kernel_rfl) (fun _ _ _ h => h) (SteadyX.value (by rfl) ?_) ?_
    rotate_left
    · (intro w_ hS; go_simp; try with_reducible rfl)
    simp only [List.setIfInBounds_toArray, List.set_cons_zero, List.set_cons_succ]
    refine wpX_take (i := 37) (v := ?_) Sr0t.out rfl rfl (by kernel_rfl) (by kernel_rfl) (by kernel_rfl) (fun _ _ _ h => h) (SteadyX.value (by rfl) ?_) ?_
    rotate_left
    · (intro w_ hS; obtain ⟨q0, q1, q2, q3, q4, q5⟩ := Sr0u.out _ hS; (have q0 := q0.two); (have q1 := q1.two); (have q2 := q2.eight); (have q3 := q3.eight); (have q4 := q4.eight); (clear q5); go_simp; try with_reducible rfl)
    simp only [List.setIfInBounds_toArray, List.set_cons_zero, List.set_cons_succ]
    refine wpX_take (i := 38) Sr0t.out rfl rfl (by kernel_rfl) (by kernel_rfl) (by kernel_rfl) (fun _ _ _ h => h) (SteadyX.call (by rfl) (fun w_ hS => K14.out w_) (fun w_ hS => by (go_simp))) ?_
    simp only [List.setIfInBounds_toArray, List.set_cons_zero, List.set_cons_succ]
    refine wpX_take (i := 39) (v := ?_) Sr0t.out rfl rfl (by kernel_rfl) (by kernel_rfl) (by kernel_rfl) (fun _ _ _ h => h) (SteadyX.value (by rfl) ?_) ?_
    rotate_left
    · (intro w_ hS; obtain ⟨q0, q1, q2, q3, q4, q5⟩ := Sr0u.out _ hS; (have q0 := q0.two); (have q1 := q1.two); (have q2 := q2.eight); (have q3 := q3.eight); (have q4 := q4.eight); (clear q5); go_simp; try with_reducible rfl)
    simp only [List.setIfInBounds_toArray, List.set_cons_zero, List.set_cons_succ]
    refine wpX_take (i := 40) Sr0t.out rfl rfl (by kernel_rfl) (by kernel_rfl) (by kernel_rfl) (fun _ _ _ h => h) (SteadyX.call (by rfl) (fun w_ hS => K15.out w_) (fun w_ hS => by (go_simp))) ?_
    simp only [List.setIfInBounds_toArray, List.set_cons_zero, List.set_cons_succ]
    refine wpX_take (i := 41) (v := ?_) Sr0t.out rfl rfl (by kernel_rfl) (by kernel_rfl) (by kernel_rfl) (fun _ _ _ h => h) (SteadyX.value (by rfl) ?_) ?_
    rotate_left
    · (intro w_ hS; go_simp; try with_reducible rfl)
    simp only [List.setIfInBounds_toArray, List.set_cons_zero, List.set_cons_succ]
    refine wpX_take (i := 42) (v := ?_) Sr0t.out rfl rfl (by kernel_rfl) (by kernel_rfl) (by kernel_rfl) (fun _ _ _ h => h) (SteadyX.value (by rfl) ?_) ?_
    rotate_left
    · (intro w_ hS; go_simp; try with_reducible rfl)
    simp only [List.setIfInBounds_toArray, List.set_cons_zero, List.set_cons_succ]
    refine wpX_take (i := 43) (v := ?_) Sr0t.out rfl rfl (by kernel_rfl) (by kernel_rfl) (by kernel_rfl) (fun _ _ _ h => h) (SteadyX.value (by rfl) ?_) ?_
    rotate_left
    · (intro w_ hS; go_simp; try with_reducible rfl)
    simp only [List.setIfInBounds_toArray, List.set_cons_zero, List.set_cons_succ]
    refine wpX_take (i := 44) (v := ?_) Sr0t.out rfl rfl (by kernel_rfl) (by kernel_rfl) (by kernel_rfl) (fun _ _ _ h => h) (SteadyX.value (by rfl) ?_) ?_
    rotate_left
    · (intro w_ hS; obtain ⟨q0, q1, q2, q3, q4, q5⟩ := Sr0u.out _ hS; (have q0 := q0.two); (have q1 := q1.two); (have q2 := q2.eight); (have q3 := q3.eight); (have q4 := q4.eight); (clear q5); go_simp; try with_reducible rfl)
    simp only [List.setIfInBounds_toArray, List.set_cons_zero, List.set_cons_succ]
    refine wpX_take (i := 45) Sr0t.out rfl rfl (by kernel_rfl) (by kernel_rfl) (by kernel_rfl) (fun _ _ _ h => h) (SteadyX.call (by rfl) (fun w_ hS => K16.out w_) (fun w_ hS => by (go_simp))) ?_
    simp only [List.setIfInBounds_toArray, List.set_cons_zero, List.set_cons_succ]
    refine wpX_take (i := 46) (v := ?_) Sr0t.out rfl rfl (by kernel_rfl) (by kernel_rfl) (by kernel_rfl) (fun _ _ _ h => h) (SteadyX.value (by rfl) ?_) ?_
    rotate_left
    · (intro w_ hS; obtain ⟨q0, q1, q2, q3, q4, q5⟩ := Sr0u.out _ hS; (have q0 := q0.two); (have q1 := q1.two); (have q2 := q2.eight); (have q3 := q3.eight); (have q4 := q4.eight); (clear q5); go_simp; try with_reducible rfl)
    simp only [List.setIfInBounds_toArray, List.set_cons_zero, List.set_cons_succ]
    refine wpX_take (i := 47) Sr0t.out rfl rfl (by kernel_rfl) (by kernel_rfl) (by kernel_rfl) (fun _ _ _ h => h) (SteadyX.call (by rfl) (fun w_ hS => K17.out w_) (fun w_ hS => by (go_simp))) ?_
    simp only [List.setIfInBounds_toArray, List.set_cons_zero, List.set_cons_succ]
    refine wpX_take (i := 48) (v := ?_) Sr0t.out rfl rfl (by kernel_rfl) (by kernel_rfl) (by kernel_rfl) (fun _ _ _ h => h) (SteadyX.value (by rfl) ?_) ?_
    rotate_left
    · (intro w_ hS; go_simp; try with_reducible rfl)
    simp only [List.setIfInBounds_toArray, List.set_cons_zero, List.set_cons_succ]
    refine wpX_take (i := 49) (v := ?_) Sr0t.out rfl rfl (by kernel_rfl) (by kernel_rfl) (by kernel_rfl) (fun _ _ _ h => h) (SteadyX.value (by rfl) ?_) ?_
    rotate_left
    · (intro w_ hS; go_simp; try with_reducible rfl)
    simp only [List.setIfInBounds_toArray, List.set_cons_zero, List.set_cons_succ]
    refine wpX_take (i := 50) (v := ?_) Sr0t.out rfl rfl (by kernel_rfl) (by kernel_rfl) (by kernel_rfl) (fun _ _ _ h => h) (SteadyX.value (by rfl) ?_) ?_
    rotate_left
    · (intro w_ hS; go_simp; try with_reducible rfl)
    simp only [List.setIfInBounds_toArray, List.set_cons_zero, List.set_cons_succ]
    refine wpX_take (i := 51) Sr0t.out rfl rfl (by kernel_rfl) (by kernel_rfl) (by kernel_rfl) (fun _ _ _ h => h) (SteadyX.call (by rfl) (fun w_ hS => K18.out w_) (fun w_ hS => by (go_simp))) ?_
    simp only [List.setIfInBounds_toArray, List.set_cons_zero, List.set_cons_succ]
    refine wpX_take (i := 52) (v := ?_) Sr0t.out rfl rfl (by kernel_rfl) (by kernel_rfl) (by kernel_rfl) (fun _ _ _ h => h) (SteadyX.value (by rfl) ?_) ?_
    rotate_left
    · (intro w_ hS; go_simp; try with_reducible rfl)
    simp only [List.setIfInBounds_toArray, List.set_cons_zero, List.set_cons_succ]
    refine wpX_take (i := 53) (v := ?_) Sr0t.out rfl rfl (by kernel_rfl) (by kernel_rfl) (by kernel_rfl) (fun _ _ _ h => h) (SteadyX.value (by rfl) ?_) ?_
    rotate_left
    · (intro w_ hS; go_simp; try with_reducible rfl)
    simp only [List.setIfInBounds_toArray, List.set_cons_zero, List.set_cons_succ]
    refine wpX_done (by kernel_rfl) (fun W3 hS => ?_) _
    obtain ⟨q0, q1, q2, q3, q4, q5⟩ := Sr0u.out _ hS
    clear hS Sr0u Sr0m Sr0t
    clear Sr0
    have HG := Lib.hid q5
    clear q0 q1 q2 q3 q4 q5
    go_wp2
    go_ret
    exact ⟨rfl, HG.out⟩
  · obtain ⟨q0, q1, q2⟩ := S0u.out _ hS
    obtain ⟨Q, hQ⟩ : ∃ Q, Q = w_.heap.size := ⟨_, rfl⟩
    have ltQ_0 : w.heap.size < Q := by rw [hQ]; exact q0.lt
    have ltQ_1 : (w.heap.size + 1) < Q := by rw [hQ]; exact q1.lt
    have ltQ_2 : w.heap.size ≤ Q := by rw [hQ]; exact q2.size
    obtain ⟨S1, S1d⟩ : ∃ S : World → Prop, S = fun v : World => Blk v w.heap.size #[.int .i64 ah, .int .u64 al] 24 ∧ Blk v (w.heap.size + 1) #[.int .i64 bh, .int .u64 bl] 24 ∧ Below w.heap.size w v ∧ (∃ c : Array Value, c.size = 8 ∧ Blk v Q c 32) := ⟨_, rfl⟩
    have S1t0 : Stands S1 := by rw [S1d]; exact ((stands_blk _ _ _).and ((stands_blk _ _ _).and ((stands_below _).and (stands_some _ _ _))))
    have S1u0 : ∀ v, S1 v → Blk v w.heap.size #[.int .i64 ah, .int .u64 al] 24 ∧ Blk v (w.heap.size + 1) #[.int .i64 bh, .int .u64 bl] 24 ∧ Below w.heap.size w v ∧ (∃ c : Array Value, c.size = 8 ∧ Blk v Q c 32) := fun v h => by rw [S1d] at h; exact h
    have S1m0 : ∀ v, (Blk v w.heap.size #[.int .i64 ah, .int .u64 al] 24 ∧ Blk v (w.heap.size + 1) #[.int .i64 bh, .int .u64 bl] 24 ∧ Below w.heap.size w v ∧ (∃ c : Array Value, c.size = 8 ∧ Blk v Q c 32)) → S1 v := fun v h => by rw [S1d]; exact h
    have S1u := Lib.hid S1u0
    have S1m := Lib.hid S1m0
    have S1t := Lib.hid S1t0
    clear S1d S1u0 S1m0 S1t0
    refine wpX_run (i := 5) (v := .pointer (some ⟨Q, 0, none⟩)) (w' := w_.alloc (.cells #[.int .i64 0, .int .i64 0, .int .i64 0, .int .i64 0, .int .i64 0, .int .i64 0, .int .i64 0, .int .i64 0] 32)) S1 rfl rfl (by rfl) (by (subst hQ; go_simp)) S1t.out (.inr fun v h => S0m.out _ (by obtain ⟨q0, q1, q2, q3⟩ := S1u.out _ h; exact ⟨q0, q1, q2⟩)) (S1m.out _ ⟨(stands_blk _ _ _) _ _ ((Below.refl _ w_).alloc (Nat.le_refl _) _) q0, (stands_blk _ _ _) _ _ ((Below.refl _ w_).alloc (Nat.le_refl _) _) q1, (stands_below _) _ _ ((Below.refl _ w_).alloc (Nat.le_refl _) _) q2, ⟨#[.int .i64 0, .int .i64 0, .int .i64 0, .int .i64 0, .int .i64 0, .int .i64 0, .int .i64 0, .int .i64 0], rfl, Blk.new' w_ _ _ hQ⟩⟩) ?_
    clear hS q0 q1 q2 hQ
    clear w_
    simp only [List.setIfInBounds_toArray, List.set_cons_zero, List.set_cons_succ]
    refine wpX_one (i := 4) (by kernel_rfl) (fun w_ hS => ?_)
    obtain ⟨q0, q1, q2, q3⟩ := S1u.out _ hS
    obtain ⟨P, hP⟩ : ∃ P, P = w_.heap.size := ⟨_, rfl⟩
    have ltP_0 : w.heap.size < P := by rw [hP]; exact q0.lt
    have ltP_1 : (w.heap.size + 1) < P := by rw [hP]; exact q1.lt
    have ltP_2 : w.heap.size ≤ P := by rw [hP]; exact q2.size
    have ltP_3 : Q < P := by rw [hP]; obtain ⟨_, _, h⟩ := q3; exact h.lt
    obtain ⟨S2, S2d⟩ : ∃ S : World → Prop, S = fun v : World => Blk v w.heap.size #[.int .i64 ah, .int .u64 al] 24 ∧ Blk v (w.heap.size + 1) #[.int .i64 bh, .int .u64 bl] 24 ∧ Below w.heap.size w v ∧ (∃ c : Array Value, c.size = 8 ∧ Blk v Q c 32) ∧ (∃ c : Array Value, c.size = 8 ∧ Blk v P c 32) := ⟨_, rfl⟩
    have S2t0 : Stands S2 := by rw [S2d]; exact ((stands_blk _ _ _).and ((stands_blk _ _ _).and ((stands_below _).and ((stands_some _ _ _).and (stands_some _ _ _)))))
    have S2u0 : ∀ v, S2 v → Blk v w.heap.size #[.int .i64 ah, .int .u64 al] 24 ∧ Blk v (w.heap.size + 1) #[.int .i64 bh, .int .u64 bl] 24 ∧ Below w.heap.size w v ∧ (∃ c : Array Value, c.size = 8 ∧ Blk v Q c 32) ∧ (∃ c : Array Value, c.size = 8 ∧ Blk v P c 32) := fun v h => by rw [S2d] at h; exact h
    have S2m0 : ∀ v, (Blk v w.heap.size #[.int .i64 ah, .int .u64 al] 24 ∧ Blk v (w.heap.size + 1) #[.int .i64 bh, .int .u64 bl] 24 ∧ Below w.heap.size w v ∧ (∃ c : Array Value, c.size = 8 ∧ Blk v Q c 32) ∧ (∃ c : Array Value, c.size = 8 ∧ Blk v P c 32)) → S2 v := fun v h => by rw [S2d]; exact h
    have S2u := Lib.hid S2u0
    have S2m := Lib.hid S2m0
    have S2t := Lib.hid S2t0
    clear S2d S2u0 S2m0 S2t0
    refine wpX_run (i := 4) (v := .pointer (some ⟨P, 0, none⟩)) (w' := w_.alloc (.cells #[.int .i64 0, .int .i64 0, .int .i64 0, .int .i64 0, .int .i64 0, .int .i64 0, .int .i64 0, .int .i64 0] 32)) S2 rfl rfl (by rfl) (by (subst hP; go_simp)) S2t.out (.inr fun v h => S1m.out _ (by obtain ⟨q0, q1, q2, q3, q4⟩ := S2u.out _ h; exact ⟨q0, q1, q2, q3⟩)) (S2m.out _ ⟨(stands_blk _ _ _) _ _ ((Below.refl _ w_).alloc (Nat.le_refl _) _) q0, (stands_blk _ _ _) _ _ ((Below.refl _ w_).alloc (Nat.le_refl _) _) q1, (stands_below _) _ _ ((Below.refl _ w_).alloc (Nat.le_refl _) _) q2, (stands_some _ _ _) _ _ ((Below.refl _ w_).alloc (Nat.le_refl _) _) q3, ⟨#[.int .i64 0, .int .i64 0, .int .i64 0, .int .i64 0, .int .i64 0, .int .i64 0, .int .i64 0, .int .i64 0], rfl, Blk.new' w_ _ _ hP⟩⟩) ?_
    clear hS q0 q1 q2 q3 hP
    clear w_
    simp only [List.setIfInBounds_toArray, List.set_cons_zero, List.set_cons_succ]
    refine wpX_one (i := 6) (by kernel_rfl) (fun w_ hS => ?_)
    obtain ⟨q0, q1, q2, q3, q4⟩ := S2u.out _ hS
    obtain ⟨c_, hc_, qB⟩ := id q4
    obtain ⟨y0, y1, y2, y3, y4, y5, y6, y7, rfl⟩ := arr8 c_ hc_
    obtain ⟨S3, S3d⟩ : ∃ S : World → Prop, S = fun v : World => Blk v w.heap.size #[.int .i64 ah, .int .u64 al] 24 ∧ Blk v (w.heap.size + 1) #[.int .i64 bh, .int .u64 bl] 24 ∧ Below w.heap.size w v ∧ (∃ c : Array Value, c.size = 8 ∧ Blk v Q c 32) ∧ (∃ c : Array Value, c.size = 8 ∧ Blk v P c 32) ∧ Blk v P #[.int .i64 (x 0), .int .i64 (x 1), .int .i64 (x 2), .int .i64 (x 3), .int .i64 (x 4), .int .i64 (x 5), .int .i64 (x 6), .int .i64 (x 7)] 32 := ⟨_, rfl⟩
    have S3t0 : Stands S3 := by rw [S3d]; exact ((stands_blk _ _ _).and ((stands_blk _ _ _).and ((stands_below _).and ((stands_some _ _ _).and ((stands_some _ _ _).and (stands_blk _ _ _))))))
    have S3u0 : ∀ v, S3 v → Blk v w.heap.size #[.int .i64 ah, .int .u64 al] 24 ∧ Blk v (w.heap.size + 1) #[.int .i64 bh, .int .u64 bl] 24 ∧ Below w.heap.size w v ∧ (∃ c : Array Value, c.size = 8 ∧ Blk v Q c 32) ∧ (∃ c : Array Value, c.size = 8 ∧ Blk v P c 32) ∧ Blk v P #[.int .i64 (x 0), .int .i64 (x 1), .int .i64 (x 2), .int .i64 (x 3), .int .i64 (x 4), .int .i64 (x 5), .int .i64 (x 6), .int .i64 (x 7)] 32 := fun v h => by rw [S3d] at h; exact h
    have S3m0 : ∀ v, (Blk v w.heap.size #[.int .i64 ah, .int .u64 al] 24 ∧ Blk v (w.heap.size + 1) #[.int .i64 bh, .int .u64 bl] 24 ∧ Below w.heap.size w v ∧ (∃ c : Array Value, c.size = 8 ∧ Blk v Q c 32) ∧ (∃ c : Array Value, c.size = 8 ∧ Blk v P c 32) ∧ Blk v P #[.int .i64 (x 0), .int .i64 (x 1), .int .i64 (x 2), .int .i64 (x 3), .int .i64 (x 4), .int .i64 (x 5), .int .i64 (x 6), .int .i64 (x 7)] 32) → S3 v := fun v h => by rw [S3d]; exact h
    have S3u := Lib.hid S3u0
    have S3m := Lib.hid S3m0
    have S3t := Lib.hid S3t0
    clear S3d S3u0 S3m0 S3t0
    have st_ : S3 ((((((((w_.setCell ⟨P, 0, none⟩ (.int .i64 (x 0))).setCell ⟨P, 1, none⟩ (.int .i64 (x 1))).setCell ⟨P, 2, none⟩ (.int .i64 (x 2))).setCell ⟨P, 3, none⟩ (.int .i64 (x 3))).setCell ⟨P, 4, none⟩ (.int .i64 (x 4))).setCell ⟨P, 5, none⟩ (.int .i64 (x 5))).setCell ⟨P, 6, none⟩ (.int .i64 (x 6))).setCell ⟨P, 7, none⟩ (.int .i64 (x 7))) := S3m.out _ ⟨other8 q0 (by show w.heap.size ≠ P; omega) _ _ _ _ _ _ _ _, other8 q1 (by show (w.heap.size + 1) ≠ P; omega) _ _ _ _ _ _ _ _, below8 q2 (by omega) _ _ _ _ _ _ _ _, some8 q3 (by show Q ≠ P; omega) _ _ _ _ _ _ _ _, ⟨_, rfl, set8 qB _ _ _ _ _ _ _ _⟩, set8 qB _ _ _ _ _ _ _ _⟩
    have r_ := qB.eight
    refine wpX_store (i := 6) (w' := ((((((((w_.setCell ⟨P, 0, none⟩ (.int .i64 (x 0))).setCell ⟨P, 1, none⟩ (.int .i64 (x 1))).setCell ⟨P, 2, none⟩ (.int .i64 (x 2))).setCell ⟨P, 3, none⟩ (.int .i64 (x 3))).setCell ⟨P, 4, none⟩ (.int .i64 (x 4))).setCell ⟨P, 5, none⟩ (.int .i64 (x 5))).setCell ⟨P, 6, none⟩ (.int .i64 (x 6))).setCell ⟨P, 7, none⟩ (.int .i64 (x 7)))) S3 rfl rfl (by rfl) (by go_simp) S3t.out (.inr fun v h => S2m.out _ (by obtain ⟨q0, q1, q2, q3, q4, q5⟩ := S3u.out _ h; exact ⟨q0, q1, q2, q3, q4⟩)) st_ ?_
    clear r_ hS st_ qB hc_ q0 q1 q2 q3 q4
    clear w_ y0 y1 y2 y3 y4 y5 y6 y7
    refine wpX_one (i := 7) (by kernel_rfl) (fun w_ hS => ?_)
    obtain ⟨q0, q1, q2, q3, q4, q5⟩ := S3u.out _ hS
    obtain ⟨c_, hc_, qB⟩ := id q3
    obtain ⟨y0, y1, y2, y3, y4, y5, y6, y7, rfl⟩ := arr8 c_ hc_
    obtain ⟨S4, S4d⟩ : ∃ S : World → Prop, S = fun v : World => Blk v w.heap.size #[.int .i64 ah, .int .u64 al] 24 ∧ Blk v (w.heap.size + 1) #[.int .i64 bh, .int .u64 bl] 24 ∧ Below w.heap.size w v ∧ (∃ c : Array Value, c.size = 8 ∧ Blk v Q c 32) ∧ (∃ c : Array Value, c.size = 8 ∧ Blk v P c 32) ∧ Blk v P #[.int .i64 (x 0), .int .i64 (x 1), .int .i64 (x 2), .int .i64 (x 3), .int .i64 (x 4), .int .i64 (x 5), .int .i64 (x 6), .int .i64 (x 7)] 32 ∧ Blk v Q #[.int .i64 (y 0), .int .i64 (y 1), .int .i64 (y 2), .int .i64 (y 3), .int .i64 (y 4), .int .i64 (y 5), .int .i64 (y 6), .int .i64 (y 7)] 32 := ⟨_, rfl⟩
    have S4t0 : Stands S4 := by rw [S4d]; exact ((stands_blk _ _ _).and ((stands_blk _ _ _).and ((stands_below _).and ((stands_some _ _ _).and ((stands_some _ _ _).and ((stands_blk _ _ _).and (stands_blk _ _ _)))))))
    have S4u0 : ∀ v, S4 v → Blk v w.heap.size #[.int .i64 ah, .int .u64 al] 24 ∧ Blk v (w.heap.size + 1) #[.int .i64 bh, .int .u64 bl] 24 ∧ Below w.heap.size w v ∧ (∃ c : Array Value, c.size = 8 ∧ Blk v Q c 32) ∧ (∃ c : Array Value, c.size = 8 ∧ Blk v P c 32) ∧ Blk v P #[.int .i64 (x 0), .int .i64 (x 1), .int .i64 (x 2), .int .i64 (x 3), .int .i64 (x 4), .int .i64 (x 5), .int .i64 (x 6), .int .i64 (x 7)] 32 ∧ Blk v Q #[.int .i64 (y 0), .int .i64 (y 1), .int .i64 (y 2), .int .i64 (y 3), .int .i64 (y 4), .int .i64 (y 5), .int .i64 (y 6), .int .i64 (y 7)] 32 := fun v h => by rw [S4d] at h; exact h
    have S4m0 : ∀ v, (Blk v w.heap.size #[.int .i64 ah, .int .u64 al] 24 ∧ Blk v (w.heap.size + 1) #[.int .i64 bh, .int .u64 bl] 24 ∧ Below w.heap.size w v ∧ (∃ c : Array Value, c.size = 8 ∧ Blk v Q c 32) ∧ (∃ c : Array Value, c.size = 8 ∧ Blk v P c 32) ∧ Blk v P #[.int .i64 (x 0), .int .i64 (x 1), .int .i64 (x 2), .int .i64 (x 3), .int .i64 (x 4), .int .i64 (x 5), .int .i64 (x 6), .int .i64 (x 7)] 32 ∧ Blk v Q #[.int .i64 (y 0), .int .i64 (y 1), .int .i64 (y 2), .int .i64 (y 3), .int .i64 (y 4), .int .i64 (y 5), .int .i64 (y 6), .int .i64 (y 7)] 32) → S4 v := fun v h => by rw [S4d]; exact h
    have S4u := Lib.hid S4u0
    have S4m := Lib.hid S4m0
    have S4t := Lib.hid S4t0
    clear S4d S4u0 S4m0 S4t0
    have st_ : S4 ((((((((w_.setCell ⟨Q, 0, none⟩ (.int .i64 (y 0))).setCell ⟨Q, 1, none⟩ (.int .i64 (y 1))).setCell ⟨Q, 2, none⟩ (.int .i64 (y 2))).setCell ⟨Q, 3, none⟩ (.int .i64 (y 3))).setCell ⟨Q, 4, none⟩ (.int .i64 (y 4))).setCell ⟨Q, 5, none⟩ (.int .i64 (y 5))).setCell ⟨Q, 6, none⟩ (.int .i64 (y 6))).setCell ⟨Q, 7, none⟩ (.int .i64 (y 7))) := S4m.out _ ⟨other8 q0 (by show w.heap.size ≠ Q; omega) _ _ _ _ _ _ _ _, other8 q1 (by show (w.heap.size + 1) ≠ Q; omega) _ _ _ _ _ _ _ _, below8 q2 (by omega) _ _ _ _ _ _ _ _, ⟨_, rfl, set8 qB _ _ _ _ _ _ _ _⟩, some8 q4 (by show P ≠ Q; omega) _ _ _ _ _ _ _ _, other8 q5 (by show P ≠ Q; omega) _ _ _ _ _ _ _ _, set8 qB _ _ _ _ _ _ _ _⟩
    have r_ := qB.eight
    refine wpX_store (i := 7) (w' := ((((((((w_.setCell ⟨Q, 0, none⟩ (.int .i64 (y 0))).setCell ⟨Q, 1, none⟩ (.int .i64 (y 1))).setCell ⟨Q, 2, none⟩ (.int .i64 (y 2))).setCell ⟨Q, 3, none⟩ (.int .i64 (y 3))).setCell ⟨Q, 4, none⟩ (.int .i64 (y 4))).setCell ⟨Q, 5, none⟩ (.int .i64 (y 5))).setCell ⟨Q, 6, none⟩ (.int .i64 (y 6))).setCell ⟨Q, 7, none⟩ (.int .i64 (y 7)))) S4 rfl rfl (by rfl) (by go_simp) S4t.out (.inl (by kernel_rfl)) st_ ?_
    clear r_ hS st_ qB hc_ q0 q1 q2 q3 q4 q5
    clear w_ y0 y1 y2 y3 y4 y5 y6 y7
    refine wpX_done (by kernel_rfl) (fun W hS => ?_) _
    obtain ⟨q0, q1, q2, q3, q4, q5, q6⟩ := S4u.out _ hS
    clear hS S0u S0m S0t S1u S1m S1t S2u S2m S2t S3u S3m S3t S4u S4m S4t
    clear S0 S1 S2 S3 S4
    have C0 := Lib.hid (And.intro q0 (And.intro q1 (And.intro q5 (And.intro q6 q2))))
    clear q0 q1 q2 q3 q4 q5 q6
    go_wp2_with fail
    obtain ⟨Z, hZ⟩ : ∃ Z, Z = W.heap.size := ⟨_, rfl⟩
    have C1 := Lib.hid (And.intro (C0.out.1.alloc (.cells #[.int .i64 0, .int .i64 0, .int .i64 0, .int .i64 0, .int .i64 0, .int .i64 0, .int .i64 0, .int .i64 0] 32)) (And.intro (C0.out.2.1.alloc (.cells #[.int .i64 0, .int .i64 0, .int .i64 0, .int .i64 0, .int .i64 0, .int .i64 0, .int .i64 0, .int .i64 0] 32)) (And.intro (C0.out.2.2.1.alloc (.cells #[.int .i64 0, .int .i64 0, .int .i64 0, .int .i64 0, .int .i64 0, .int .i64 0, .int .i64 0, .int .i64 0] 32)) (And.intro (C0.out.2.2.2.1.alloc (.cells #[.int .i64 0, .int .i64 0, .int .i64 0, .int .i64 0, .int .i64 0, .int .i64 0, .int .i64 0, .int .i64 0] 32)) (And.intro (Blk.new' W #[.int .i64 0, .int .i64 0, .int .i64 0, .int .i64 0, .int .i64 0, .int .i64 0, .int .i64 0, .int .i64 0] 32 hZ) (grow_alloc C0.out.2.2.2.2 (.cells #[.int .i64 0, .int .i64 0, .int .i64 0, .int .i64 0, .int .i64 0, .int .i64 0, .int .i64 0, .int .i64 0] 32)))))))
    rw [← hZ]
    clear hZ C0
    generalize W.alloc (.cells #[.int .i64 0, .int .i64 0, .int .i64 0, .int .i64 0, .int .i64 0, .int .i64 0, .int .i64 0, .int .i64 0] 32) = W2 at *
    clear W
    obtain ⟨Sr0, Sr0d⟩ : ∃ S : World → Prop, S = fun v : World => Blk v w.heap.size #[.int .i64 ah, .int .u64 al] 24 ∧ Blk v (w.heap.size + 1) #[.int .i64 bh, .int .u64 bl] 24 ∧ Blk v P #[.int .i64 (x 0), .int .i64 (x 1), .int .i64 (x 2), .int .i64 (x 3), .int .i64 (x 4), .int .i64 (x 5), .int .i64 (x 6), .int .i64 (x 7)] 32 ∧ Blk v Q #[.int .i64 (y 0), .int .i64 (y 1), .int .i64 (y 2), .int .i64 (y 3), .int .i64 (y 4), .int .i64 (y 5), .int .i64 (y 6), .int .i64 (y 7)] 32 ∧ Blk v Z #[.int .i64 0, .int .i64 0, .int .i64 0, .int .i64 0, .int .i64 0, .int .i64 0, .int .i64 0, .int .i64 0] 32 ∧ Below w.heap.size w v := ⟨_, rfl⟩
    have Sr0t0 : Stands Sr0 := by rw [Sr0d]; exact ((stands_blk _ _ _).and ((stands_blk _ _ _).and ((stands_blk _ _ _).and ((stands_blk _ _ _).and ((stands_blk _ _ _).and (stands_below _))))))
    have Sr0u0 : ∀ v, Sr0 v → Blk v w.heap.size #[.int .i64 ah, .int .u64 al] 24 ∧ Blk v (w.heap.size + 1) #[.int .i64 bh, .int .u64 bl] 24 ∧ Blk v P #[.int .i64 (x 0), .int .i64 (x 1), .int .i64 (x 2), .int .i64 (x 3), .int .i64 (x 4), .int .i64 (x 5), .int .i64 (x 6), .int .i64 (x 7)] 32 ∧ Blk v Q #[.int .i64 (y 0), .int .i64 (y 1), .int .i64 (y 2), .int .i64 (y 3), .int .i64 (y 4), .int .i64 (y 5), .int .i64 (y 6), .int .i64 (y 7)] 32 ∧ Blk v Z #[.int .i64 0, .int .i64 0, .int .i64 0, .int .i64 0, .int .i64 0, .int .i64 0, .int .i64 0, .int .i64 0] 32 ∧ Below w.heap.size w v := fun v h => by rw [Sr0d] at h; exact h
    have Sr0m0 : ∀ v, (Blk v w.heap.size #[.int .i64 ah, .int .u64 al] 24 ∧ Blk v (w.heap.size + 1) #[.int .i64 bh, .int .u64 bl] 24 ∧ Blk v P #[.int .i64 (x 0), .int .i64 (x 1), .int .i64 (x 2), .int .i64 (x 3), .int .i64 (x 4), .int .i64 (x 5), .int .i64 (x 6), .int .i64 (x 7)] 32 ∧ Blk v Q #[.int .i64 (y 0), .int .i64 (y 1), .int .i64 (y 2), .int .i64 (y 3), .int .i64 (y 4), .int .i64 (y 5), .int .i64 (y 6), .int .i64 (y 7)] 32 ∧ Blk v Z #[.int .i64 0, .int .i64 0, .int .i64 0, .int .i64 0, .int .i64 0, .int .i64 0, .int .i64 0, .int .i64 0] 32 ∧ Below w.heap.size w v) → Sr0 v := fun v h => by rw [Sr0d]; exact h
    have Sr0u := Lib.hid Sr0u0
    have Sr0m := Lib.hid Sr0m0
    have Sr0t := Lib.hid Sr0t0
    clear Sr0d Sr0u0 Sr0m0 Sr0t0
    refine wp_region_X (S := Sr0) (by kernel_rfl) (Sr0m.out _ ⟨C1.out.1.drew, C1.out.2.1.drew, C1.out.2.2.1.drew, C1.out.2.2.2.1.drew, C1.out.2.2.2.2.1.drew, C1.out.2.2.2.2.2.drew⟩) ?_
    clear C1
    refine wpX_take (i := 0) (v := ?_) Sr0t.out rfl rfl (by kernel_rfl) (by kernel_rfl) (by kernel_rfl) (fun _ _ _ h => h) (SteadyX.value (by rfl) ?_) ?_
    rotate_left
    · (intro w_ hS; obtain ⟨q0, q1, q2, q3, q4, q5⟩ := Sr0u.out _ hS; (have q0 := q0.two); (have q1 := q1.two); (have q2 := q2.eight); (have q3 := q3.eight); (have q4 := q4.eight); (clear q5); go_simp; try with_reducible rfl)
    simp only [List.setIfInBounds_toArray, List.set_cons_zero, List.set_cons_succ]
    refine wpX_take (i := 1) (v := ?_) Sr0t.out rfl rfl (by kernel_rfl) (by kernel_rfl) (by kernel_rfl) (fun _ _ _ h => h) (SteadyX.value (by rfl) ?_) ?_
    rotate_left
    · (intro w_ hS; obtain ⟨q0, q1, q2, q3, q4, q5⟩ := Sr0u.out _ hS; (have q0 := q0.two); (have q1 := q1.two); (have q2 := q2.eight); (have q3 := q3.eight); (have q4 := q4.eight); (clear q5); go_simp; try with_reducible rfl)
    simp only [List.setIfInBounds_toArray, List.set_cons_zero, List.set_cons_succ]
    refine wpX_take (i := 2) Sr0t.out rfl rfl (by kernel_rfl) (by kernel_rfl) (by kernel_rfl) (fun _ _ _ h => h) (SteadyX.call (by rfl) (fun w_ hS => K3.out w_) (fun w_ hS => by (go_simp))) ?_
    simp only [List.setIfInBounds_toArray, List.set_cons_zero, List.set_cons_succ]
    refine wpX_take (i := 3) Sr0t.out rfl rfl (by kernel_rfl) (by kernel_rfl) (by kernel_rfl) (fun _ _ _ h => h) (SteadyX.call (by rfl) (fun w_ hS => K4.out w_) (fun w_ hS => by (go_simp))) ?_
    simp only [List.setIfInBounds_toArray, List.set_cons_zero, List.set_cons_succ]
    refine wpX_take (i := 4) (v := ?_) Sr0t.out rfl rfl (by kernel_rfl) (by kernel_rfl) (by kernel_rfl) (fun _ _ _ h => h) (SteadyX.value (by rfl) ?_) ?_
    rotate_left
    · (intro w_ hS; obtain ⟨q0, q1, q2, q3, q4, q5⟩ := Sr0u.out _ hS; (have q0 := q0.two); (have q1 := q1.two); (have q2 := q2.eight); (have q3 := q3.eight); (have q4 := q4.eight); (clear q5); go_simp; try with_reducible rfl)
    simp only [List.setIfInBounds_toArray, List.set_cons_zero, List.set_cons_succ]
    refine wpX_take (i := 5) (v := ?_) Sr0t.out rfl rfl (by kernel_rfl) (by kernel_rfl) (by kernel_rfl) (fun _ _ _ h => h) (SteadyX.value (by rfl) ?_) ?_
    rotate_left
    · (intro w_ hS; obtain ⟨q0, q1, q2, q3, q4, q5⟩ := Sr0u.out _ hS; (have q0 := q0.two); (have q1 := q1.two); (have q2 := q2.eight); (have q3 := q3.eight); (have q4 := q4.eight); (clear q5); go_simp; try with_reducible rfl)
    simp only [List.setIfInBounds_toArray, List.set_cons_zero, List.set_cons_succ]
    refine wpX_take (i := 6) Sr0t.out rfl rfl (by kernel_rfl) (by kernel_rfl) (by kernel_rfl) (fun _ _ _ h => h) (SteadyX.call (by rfl) (fun w_ hS => K5.out w_) (fun w_ hS => by (go_simp))) ?_
    simp only [List.setIfInBounds_toArray, List.set_cons_zero, List.set_cons_succ]
    refine wpX_take (i := 7) (v := ?_) Sr0t.out rfl rfl (by kernel_rfl) (by kernel_rfl) (by kernel_rfl) (fun _ _ _ h => h) (SteadyX.value (by rfl) ?_) ?_
    rotate_left
    · (intro w_ hS; go_simp; try with_reducible rfl)
    simp only [List.setIfInBounds_toArray, List.set_cons_zero, List.set_cons_succ]
    refine wpX_take (i := 8) (v := ?_) Sr0t.out rfl rfl (by kernel_rfl) (by kernel_rfl) (by kernel_rfl) (fun _ _ _ h => h) (SteadyX.value (by rfl) ?_) ?_
    rotate_left
    · (intro w_ hS; go_simp; try with_reducible rfl)
    simp only [List.setIfInBounds_toArray, List.set_cons_zero, List.set_cons_succ]
    refine wpX_take (i := 9) (v := ?_) Sr0t.out rfl rfl (by kernel_rfl) (by kernel_rfl) (by kernel_rfl) (fun _ _ _ h => h) (SteadyX.value (by rfl) ?_) ?_
    rotate_left
    · (intro w_ hS; obtain ⟨q0, q1, q2, q3, q4, q5⟩ := Sr0u.out _ hS; (have q0 := q0.two); (have q1 := q1.two); (have q2 := q2.eight); (have q3 := q3.eight); (have q4 := q4.eight); (clear q5); go_simp; try with_reducible rfl)
    simp only [List.setIfInBounds_toArray, List.set_cons_zero, List.set_cons_succ]
    refine wpX_take (i := 10) (v := ?_) Sr0t.out rfl rfl (by kernel_rfl) (by kernel_rfl) (by kernel_rfl) (fun _ _ _ h => h) (SteadyX.value (by rfl) ?_) ?_
    rotate_left
    · (intro w_ hS; obtain ⟨q0, q1, q2, q3, q4, q5⟩ := Sr0u.out _ hS; (have q0 := q0.two); (have q1 := q1.two); (have q2 := q2.eight); (have q3 := q3.eight); (have q4 := q4.eight); (clear q5); go_simp; try with_reducible rfl)
    simp only [List.setIfInBounds_toArray, List.set_cons_zero, List.set_cons_succ]
    refine wpX_take (i := 11) Sr0t.out rfl rfl (by kernel_rfl) (by kernel_rfl) (by kernel_rfl) (fun _ _ _ h => h) (SteadyX.call (by rfl) (fun w_ hS => K6.out w_) (fun w_ hS => by (go_simp))) ?_
    simp only [List.setIfInBounds_toArray, List.set_cons_zero, List.set_cons_succ]
    refine wpX_take (i := 12) Sr0t.out rfl rfl (by kernel_rfl) (by kernel_rfl) (by kernel_rfl) (fun _ _ _ h => h) (SteadyX.call (by rfl) (fun w_ hS => K7.out w_) (fun w_ hS => by (go_simp))) ?_
    simp only [List.setIfInBounds_toArray, List.set_cons_zero, List.set_cons_succ]
    refine wpX_take (i := 13) (v := ?_) Sr0t.out rfl rfl (by kernel_rfl) (by kernel_rfl) (by kernel_rfl) (fun _ _ _ h => h) (SteadyX.value (by rfl) ?_) ?_
    rotate_left
    · (intro w_ hS; obtain ⟨q0, q1, q2, q3, q4, q5⟩ := Sr0u.out _ hS; (have q0 := q0.two); (have q1 := q1.two); (have q2 := q2.eight); (have q3 := q3.eight); (have q4 := q4.eight); (clear q5); go_simp; try with_reducible rfl)
    simp only [List.setIfInBounds_toArray, List.set_cons_zero, List.set_cons_succ]
    refine wpX_take (i := 14) (v := ?_) Sr0t.out rfl rfl (by kernel_rfl) (by kernel_rfl) (by kernel_rfl) (fun _ _ _ h => h) (SteadyX.value (by rfl) ?_) ?_
    rotate_left
    · (intro w_ hS; obtain ⟨q0, q1, q2, q3, q4, q5⟩ := Sr0u.out _ hS; (have q0 := q0.two); (have q1 := q1.two); (have q2 := q2.eight); (have q3 := q3.eight); (have q4 := q4.eight); (clear q5); go_simp; try with_reducible rfl)
    simp only [List.setIfInBounds_toArray, List.set_cons_zero, List.set_cons_succ]
    refine wpX_take (i := 15) Sr0t.out rfl rfl (by kernel_rfl) (by kernel_rfl) (by kernel_rfl) (fun _ _ _ h => h) (SteadyX.call (by rfl) (fun w_ hS => K8.out w_) (fun w_ hS => by (go_simp))) ?_
    simp only [List.setIfInBounds_toArray, List.set_cons_zero, List.set_cons_succ]
    refine wpX_take (i := 16) (v := ?_) Sr0t.out rfl rfl (by kernel_rfl) (by kernel_rfl) (by kernel_rfl) (fun _ _ _ h => h) (SteadyX.value (by rfl) ?_) ?_
    rotate_left
    · (intro w_ hS; go_simp; try with_reducible rfl)
    simp only [List.setIfInBounds_toArray, List.set_cons_zero, List.set_cons_succ]
    refine wpX_take (i := 17) (v := ?_) Sr0t.out rfl rfl (by kernel_rfl) (by kernel_rfl) (by kernel_rfl) (fun _ _ _ h => h) (SteadyX.value (by rfl) ?_) ?_
    rotate_left
    · (intro w_ hS; go_simp; try with_reducible rfl)
    simp only [List.setIfInBounds_toArray, List.set_cons_zero, List.set_cons_succ]
    refine wpX_take (i := 18) (v := ?_) Sr0t.out rfl rfl (by kernel_rfl) (by kernel_rfl) (by kernel_rfl) (fun _ _ _ h => h) (SteadyX.value (by rfl) ?_) ?_
    rotate_left
    · (intro w_ hS; go_simp; try with_reducible rfl)
    simp only [List.setIfInBounds_toArray, List.set_cons_zero, List.set_cons_succ]
    refine wpX_take (i := 19) (v := ?_) Sr0t.out rfl rfl (by kernel_rfl) (by kernel_rfl) (by kernel_rfl) (fun _ _ _ h => h) (SteadyX.value (by rfl) ?_) ?_
    rotate_left
    · (intro w_ hS; obtain ⟨q0, q1, q2, q3, q4, q5⟩ := Sr0u.out _ hS; (have q0 := q0.two); (have q1 := q1.two); (have q2 := q2.eight); (have q3 := q3.eight); (have q4 := q4.eight); (clear q5); go_simp; try with_reducible rfl)
    simp only [List.setIfInBounds_toArray, List.set_cons_zero, List.set_cons_succ]
    refine wpX_take (i := 20) Sr0t.out rfl rfl (by kernel_rfl) (by kernel_rfl) (by kernel_rfl) (fun _ _ _ h => h) (SteadyX.call (by rfl) (fun w_ hS => K9.out w_) (fun w_ hS => by (go_simp))) ?_
    simp only [List.setIfInBounds_toArray, List.set_cons_zero, List.set_cons_succ]
    refine wpX_take (i := 21) Sr0t.out rfl rfl (by kernel_rfl) (by kernel_rfl) (by kernel_rfl) (fun _ _ _ h => h) (SteadyX.call (by rfl) (fun w_ hS => K10.out w_) (fun w_ hS => by (go_simp))) ?_
    simp only [List.setIfInBounds_toArray, List.set_cons_zero, List.set_cons_succ]
    refine wpX_take (i := 22) (v := ?_) Sr0t.out rfl rfl (by kernel_rfl) (by kernel_rfl) (by kernel_rfl) (fun _ _ _ h => h) (SteadyX.value (by rfl) ?_) ?_
    rotate_left
    · (intro w_ hS; obtain ⟨q0, q1, q2, q3, q4, q5⟩ := Sr0u.out _ hS; (have q0 := q0.two); (have q1 := q1.two); (have q2 := q2.eight); (have q3 := q3.eight); (have q4 := q4.eight); (clear q5); go_simp; try with_reducible rfl)
    simp only [List.setIfInBounds_toArray, List.set_cons_zero, List.set_cons_succ]
    refine wpX_take (i := 23) (v := ?_) Sr0t.out rfl rfl (by kernel_rfl) (by kernel_rfl) (by kernel_rfl) (fun _ _ _ h => h) (SteadyX.value (by rfl) ?_) ?_
    rotate_left
    · (intro w_ hS; obtain ⟨q0, q1, q2, q3, q4, q5⟩ := Sr0u.out _ hS; (have q0 := q0.two); (have q1 := q1.two); (have q2 := q2.eight); (have q3 := q3.eight); (have q4 := q4.eight); (clear q5); go_simp; try with_reducible rfl)
    simp only [List.setIfInBounds_toArray, List.set_cons_zero, List.set_cons_succ]
    refine wpX_take (i := 24) Sr0t.out rfl rfl (by kernel_rfl) (by kernel_rfl) (by kernel_rfl) (fun _ _ _ h => h) (SteadyX.call (by rfl) (fun w_ hS => K11.out w_) (fun w_ hS => by (go_simp))) ?_
    simp only [List.setIfInBounds_toArray, List.set_cons_zero, List.set_cons_succ]
    refine wpX_take (i := 25) (v := ?_) Sr0t.out rfl rfl (by kernel_rfl) (by kernel_rfl) (by kernel_rfl) (fun _ _ _ h => h) (SteadyX.value (by rfl) ?_) ?_
    rotate_left
    · (intro w_ hS; go_simp; try with_reducible rfl)
    simp only [List.setIfInBounds_toArray, List.set_cons_zero, List.set_cons_succ]
    refine wpX_take (i := 26) (v := ?_) Sr0t.out rfl rfl (by kernel_rfl) (by kernel_rfl) (by kernel_rfl) (fun _ _ _ h => h) (SteadyX.value (by rfl) ?_) ?_
    rotate_left
    · (intro w_ hS; go_simp; try with_reducible rfl)
    simp only [List.setIfInBounds_toArray, List.set_cons_zero, List.set_cons_succ]
    refine wpX_take (i := 27) (v := ?_) Sr0t.out rfl rfl (by kernel_rfl) (by kernel_rfl) (by kernel_rfl) (fun _ _ _ h => h) (SteadyX.value (by rfl) ?_) ?_
    rotate_left
    · (intro w_ hS; go_simp; try with_reducible rfl)
    simp only [List.setIfInBounds_toArray, List.set_cons_zero, List.set_cons_succ]
    refine wpX_take (i := 28) (v := ?_) Sr0t.out rfl rfl (by kernel_rfl) (by kernel_rfl) (by kernel_rfl) (fun _ _ _ h => h) (SteadyX.value (by rfl) ?_) ?_
    rotate_left
    · (intro w_ hS; obtain ⟨q0, q1, q2, q3, q4, q5⟩ := Sr0u.out _ hS; (have q0 := q0.two); (have q1 := q1.two); (have q2 := q2.eight); (have q3 := q3.eight); (have q4 := q4.eight); (clear q5); go_simp; try with_reducible rfl)
    simp only [List.setIfInBounds_toArray, List.set_cons_zero, List.set_cons_succ]
    refine wpX_take (i := 29) (v := ?_) Sr0t.out rfl rfl (by kernel_rfl) (by kernel_rfl) (by kernel_rfl) (fun _ _ _ h => h) (SteadyX.value (by rfl) ?_) ?_
    rotate_left
    · (intro w_ hS; obtain ⟨q0, q1, q2, q3, q4, q5⟩ := Sr0u.out _ hS; (have q0 := q0.two); (have q1 := q1.two); (have q2 := q2.eight); (have q3 := q3.eight); (have q4 := q4.eight); (clear q5); go_simp; try with_reducible rfl)
    simp only [List.setIfInBounds_toArray, List.set_cons_zero, List.set_cons_succ]
    refine wpX_take (i := 30) Sr0t.out rfl rfl (by kernel_rfl) (by kernel_rfl) (by kernel_rfl) (fun _ _ _ h => h) (SteadyX.call (by rfl) (fun w_ hS => K12.out w_) (fun w_ hS => by (go_simp))) ?_
    simp only [List.setIfInBounds_toArray, List.set_cons_zero, List.set_cons_succ]
    refine wpX_take (i := 31) (v := ?_) Sr0t.out rfl rfl (by kernel_rfl) (by kernel_rfl) (by kernel_rfl) (fun _ _ _ h => h) (SteadyX.value (by rfl) ?_) ?_
    rotate_left
    · (intro w_ hS; obtain ⟨q0, q1, q2, q3, q4, q5⟩ := Sr0u.out _ hS; (have q0 := q0.two); (have q1 := q1.two); (have q2 := q2.eight); (have q3 := q3.eight); (have q4 := q4.eight); (clear q5); go_simp; try with_reducible rfl)
    simp only [List.setIfInBounds_toArray, List.set_cons_zero, List.set_cons_succ]
    refine wpX_take (i := 32) (v := ?_) Sr0t.out rfl rfl (by kernel_rfl) (by kernel_rfl) (by kernel_rfl) (fun _ _ _ h => h) (SteadyX.value (by rfl) ?_) ?_
    rotate_left
    · (intro w_ hS; obtain ⟨q0, q1, q2, q3, q4, q5⟩ := Sr0u.out _ hS; (have q0 := q0.two); (have q1 := q1.two); (have q2 := q2.eight); (have q3 := q3.eight); (have q4 := q4.eight); (clear q5); go_simp; try with_reducible rfl)
    simp only [List.setIfInBounds_toArray, List.set_cons_zero, List.set_cons_succ]
    refine wpX_take (i := 33) Sr0t.out rfl rfl (by kernel_rfl) (by kernel_rfl) (by kernel_rfl) (fun _ _ _ h => h) (SteadyX.call (by rfl) (fun w_ hS => K13.out w_) (fun w_ hS => by (go_simp))) ?_
    simp only [List.setIfInBounds_toArray, List.set_cons_zero, List.set_cons_succ]
    refine wpX_take (i := 34) (v := ?_) Sr0t.out rfl rfl (by kernel_rfl) (by kernel_rfl) (by kernel_rfl) (fun _ _ _ h => h) (SteadyX.value (by rfl) ?_) ?_
    rotate_left
    · (intro w_ hS; go_simp; try with_reducible rfl)
    simp only [List.setIfInBounds_toArray, List.set_cons_zero, List.set_cons_succ]
    refine wpX_take (i := 35) (v := ?_) Sr0t.out rfl rfl (by kernel_rfl) (by kernel_rfl) (by kernel_rfl) (fun _ _ _ h => h) (SteadyX.value (by rfl) ?_) ?_
    rotate_left
    · (intro w_ hS; go_simp; try with_reducible rfl)
    simp only [List.setIfInBounds_toArray, List.set_cons_zero, List.set_cons_succ]
    refine wpX_take (i := 36) (v := ?_) Sr0t.out rfl rfl (by kernel_rfl) (by kernel_rfl) (by kernel_rfl) (fun _ _ _ h => h) (SteadyX.value (by rfl) ?_) ?_
    rotate_left
    · (intro w_ hS; go_simp; try with_reducible rfl)
    simp only [List.setIfInBounds_toArray, List.set_cons_zero, List.set_cons_succ]
    refine wpX_take (i := 37) (v := ?_) Sr0t.out rfl rfl (by kernel_rfl) (by kernel_rfl) (by kernel_rfl) (fun _ _ _ h => h) (SteadyX.value (by rfl) ?_) ?_
    rotate_left
    · (intro w_ hS; obtain ⟨q0, q1, q2, q3, q4, q5⟩ := Sr0u.out _ hS; (have q0 := q0.two); (have q1 := q1.two); (have q2 := q2.eight); (have q3 := q3.eight); (have q4 := q4.eight); (clear q5); go_simp; try with_reducible rfl)
    simp only [List.setIfInBounds_toArray, List.set_cons_zero, List.set_cons_succ]
    refine wpX_take (i := 38) Sr0t.out rfl rfl (by kernel_rfl) (by kernel_rfl) (by kernel_rfl) (fun _ _ _ h => h) (SteadyX.call (by rfl) (fun w_ hS => K14.out w_) (fun w_ hS => by (go_simp))) ?_
    simp only [List.setIfInBounds_toArray, List.set_cons_zero, List.set_cons_succ]
    refine wpX_take (i := 39) (v := ?_) Sr0t.out rfl rfl (by kernel_rfl) (by kernel_rfl) (by kernel_rfl) (fun _ _ _ h => h) (SteadyX.value (by rfl) ?_) ?_
    rotate_left
    · (intro w_ hS; obtain ⟨q0, q1, q2, q3, q4, q5⟩ := Sr0u.out _ hS; (have q0 := q0.two); (have q1 := q1.two); (have q2 := q2.eight); (have q3 := q3.eight); (have q4 := q4.eight); (clear q5); go_simp; try with_reducible rfl)
    simp only [List.setIfInBounds_toArray, List.set_cons_zero, List.set_cons_succ]
    refine wpX_take (i := 40) Sr0t.out rfl rfl (by kernel_rfl) (by kernel_rfl) (by kernel_rfl) (fun _ _ _ h => h) (SteadyX.call (by rfl) (fun w_ hS => K15.out w_) (fun w_ hS => by (go_simp))) ?_
    simp only [List.setIfInBounds_toArray, List.set_cons_zero, List.set_cons_succ]
    refine wpX_take (i := 41) (v := ?_) Sr0t.out rfl rfl (by kernel_rfl) (by kernel_rfl) (by kernel_rfl) (fun _ _ _ h => h) (SteadyX.value (by rfl) ?_) ?_
    rotate_left
    · (intro w_ hS; go_simp; try with_reducible rfl)
    simp only [List.setIfInBounds_toArray, List.set_cons_zero, List.set_cons_succ]
    refine wpX_take (i := 42) (v := ?_) Sr0t.out rfl rfl (by kernel_rfl) (by kernel_rfl) (by kernel_rfl) (fun _ _ _ h => h) (SteadyX.value (by rfl) ?_) ?_
    rotate_left
    · (intro w_ hS; go_simp; try with_reducible rfl)
    simp only [List.setIfInBounds_toArray, List.set_cons_zero, List.set_cons_succ]
    refine wpX_take (i := 43) (v := ?_) Sr0t.out rfl rfl (by kernel_rfl) (by kernel_rfl) (by kernel_rfl) (fun _ _ _ h => h) (SteadyX.value (by rfl) ?_) ?_
    rotate_left
    · (intro w_ hS; go_simp; try with_reducible rfl)
    simp only [List.setIfInBounds_toArray, List.set_cons_zero, List.set_cons_succ]
    refine wpX_take (i := 44) (v := ?_) Sr0t.out rfl rfl (by kernel_rfl) (by kernel_rfl) (by kernel_rfl) (fun _ _ _ h => h) (SteadyX.value (by rfl) ?_) ?_
    rotate_left
    · (intro w_ hS; obtain ⟨q0, q1, q2, q3, q4, q5⟩ := Sr0u.out _ hS; (have q0 := q0.two); (have q1 := q1.two); (have q2 := q2.eight); (have q3 := q3.eight); (have q4 := q4.eight); (clear q5); go_simp; try with_reducible rfl)
    simp only [List.setIfInBounds_toArray, List.set_cons_zero, List.set_cons_succ]
    refine wpX_take (i := 45) Sr0t.out rfl rfl (by kernel_rfl) (by kernel_rfl) (by kernel_rfl) (fun _ _ _ h => h) (SteadyX.call (by rfl) (fun w_ hS => K16.out w_) (fun w_ hS => by (go_simp))) ?_
    simp only [List.setIfInBounds_toArray, List.set_cons_zero, List.set_cons_succ]
    refine wpX_take (i := 46) (v := ?_) Sr0t.out rfl rfl (by kernel_rfl) (by kernel_rfl) (by kernel_rfl) (fun _ _ _ h => h) (SteadyX.value (by rfl) ?_) ?_
    rotate_left
    · (intro w_ hS; obtain ⟨q0, q1, q2, q3, q4, q5⟩ := Sr0u.out _ hS; (have q0 := q0.two); (have q1 := q1.two); (have q2 := q2.eight); (have q3 := q3.eight); (have q4 := q4.eight); (clear q5); go_simp; try with_reducible rfl)
    simp only [List.setIfInBounds_toArray, List.set_cons_zero, List.set_cons_succ]
    refine wpX_take (i := 47) Sr0t.out rfl rfl (by kernel_rfl) (by kernel_rfl) (by kernel_rfl) (fun _ _ _ h => h) (SteadyX.call (by rfl) (fun w_ hS => K17.out w_) (fun w_ hS => by (go_simp))) ?_
    simp only [List.setIfInBounds_toArray, List.set_cons_zero, List.set_cons_succ]
    refine wpX_take (i := 48) (v := ?_) Sr0t.out rfl rfl (by kernel_rfl) (by kernel_rfl) (by kernel_rfl) (fun _ _ _ h => h) (SteadyX.value (by rfl) ?_) ?_
    rotate_left
    · (intro w_ hS; go_simp; try with_reducible rfl)
    simp only [List.setIfInBounds_toArray, List.set_cons_zero, List.set_cons_succ]
    refine wpX_take (i := 49) (v := ?_) Sr0t.out rfl rfl (by kernel_rfl) (by kernel_rfl) (by kernel_rfl) (fun _ _ _ h => h) (SteadyX.value (by rfl) ?_) ?_
    rotate_left
    · (intro w_ hS; go_simp; try with_reducible rfl)
    simp only [List.setIfInBounds_toArray, List.set_cons_zero, List.set_cons_succ]
    refine wpX_take (i := 50) (v := ?_) Sr0t.out rfl rfl (by kernel_rfl) (by kernel_rfl) (by kernel_rfl) (fun _ _ _ h => h) (SteadyX.value (by rfl) ?_) ?_
    rotate_left
    · (intro w_ hS; go_simp; try with_reducible rfl)
    simp only [List.setIfInBounds_toArray, List.set_cons_zero, List.set_cons_succ]
    refine wpX_take (i := 51) Sr0t.out rfl rfl (by kernel_rfl) (by kernel_rfl) (by kernel_rfl) (fun _ _ _ h => h) (SteadyX.call (by rfl) (fun w_ hS => K18.out w_) (fun w_ hS => by (go_simp))) ?_
    simp only [List.setIfInBounds_toArray, List.set_cons_zero, List.set_cons_succ]
    refine wpX_take (i := 52) (v := ?_) Sr0t.out rfl rfl (by kernel_rfl) (by kernel_rfl) (by kernel_rfl) (fun _ _ _ h => h) (SteadyX.value (by rfl) ?_) ?_
    rotate_left
    · (intro w_ hS; go_simp; try with_reducible rfl)
    simp only [List.setIfInBounds_toArray, List.set_cons_zero, List.set_cons_succ]
    refine wpX_take (i := 53) (v := ?_) Sr0t.out rfl rfl (by kernel_rfl) (by kernel_rfl) (by kernel_rfl) (fun _ _ _ h => h) (SteadyX.value (by rfl) ?_) ?_
    rotate_left
    · (intro w_ hS; go_simp; try with_reducible rfl)
    simp only [List.setIfInBounds_toArray, List.set_cons_zero, List.set_cons_succ]
    refine wpX_done (by kernel_rfl) (fun W3 hS => ?_) _
    obtain ⟨q0, q1, q2, q3, q4, q5⟩ := Sr0u.out _ hS
    clear hS Sr0u Sr0m Sr0t
    clear Sr0
    have HG := Lib.hid q5
    clear q0 q1 q2 q3 q4 q5
    go_wp2
    go_ret
    exact ⟨rfl, HG.out⟩

theorem Reckons_any (a b : Nat) (ha : a < 340282366920938463463374607431768211456) (hb : b < 340282366920938463463374607431768211456) (w : World) :
    Calls Try.prog 7 #[W a, W b] w fun e w' => e = .returned (.bool true) ∧ Below w.heap.size w w' := by
  have hp : M.addN a b < 340282366920938463463374607431768211456 := Nat.mod_lt _ (by decide)
  have hm : M.subN a b < 340282366920938463463374607431768211456 := Nat.mod_lt _ (by decide)
  have ht : M.subN 0 a < 340282366920938463463374607431768211456 := Nat.mod_lt _ (by decide)
  have row : ∀ v, v < 340282366920938463463374607431768211456 → ∀ w, Calls Try.prog 16 #[W v] w fun e w' => e = .returned (.agg (rowC (figZ (v : Int)))) ∧ Below w.heap.size w w' := fun v hv w => by
    have h := row_any v w
    rwa [rowC_congr (fun j hj => half_fig v hv j hj)] at h
  have fr : ∀ (v : Int) j, j < 8 → 0 ≤ figZ v j ∧ figZ v j ≤ 65535 := fun v j _ => fig_rng v j
  have k5 := refPlus_any (figZ a) (figZ b) (fr _) (fr _)
  rw [rowC_congr (fun j hj => plus_fig a b ha hb j hj)] at k5
  have k8 := refLess_any (figZ a) (figZ b) (fr _) (fr _)
  rw [rowC_congr (fun j hj => less_fig a b ha hb j hj)] at k8
  have k11 := refLess_any (figZ ((0 : Nat) : Int)) (figZ a) (fr _) (fr _)
  rw [rowC_congr (fun j hj => less_fig 0 a (by omega) ha j hj), zero_fig] at k11
  have s1 := refSign_any (figZ a)
  have s2 := refSign_any (figZ b)
  have k13 := Cmp_road (figZ a) (figZ b) (signR (figZ a)) (signR (figZ b)) (cmpR (figZ a) (figZ b)) s1 s2 (fun h1 h2 => if_pos ⟨h1, h2⟩) (fun h1 h2 h3 => by unfold cmpR; rw [if_neg h1, if_pos ⟨h2, h3⟩]) (fun h1 h2 => by unfold cmpR; rw [if_neg h1, if_neg h2])
  rw [cmp_fig a b ha hb] at k13
  rw [sign_fig a ha] at s1
  exact Reckons_road _ _ _ _ _ _ _ _ _ _ _ _ _ (figZ a) (figZ b) (figZ (M.addN a b : Nat)) (figZ (M.subN a b : Nat)) (figZ (M.subN 0 a : Nat)) (row a ha) (row b hb) (Plus_any a b) (row _ hp) k5 (Less_any a b) (row _ hm) k8 (Turned_any a) (row _ ht) k11
    (Compare_any a b ha hb) k13 (Sign_any a ha) s1 (Text_any a ha) (refText_any a ha) w
end Go.Proofs.Ytogghmmokifnnaa
