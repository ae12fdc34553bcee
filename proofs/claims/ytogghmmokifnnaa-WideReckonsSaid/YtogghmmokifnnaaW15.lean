/- Walks: the reference's Plus, Less. -/
import Derived.Test.YtogghmmokifnnaaW14
namespace Go.Proofs.Ytogghmmokifnnaa
open Go.RowKit

set_option maxRecDepth 20000 in
set_option maxHeartbeats 8000000 in
theorem refPlus_any (a b : Nat → Int) (ha : ∀ j, j < 8 → 0 ≤ a j ∧ a j ≤ 65535) (hb : ∀ j, j < 8 → 0 ≤ b j ∧ b j ≤ 65535) (w : World) :
    Calls Try.prog 21 #[.agg (rowC a), .agg (rowC b)] w fun e w' => e = .returned (.agg (rowC (figZ (sumZ (fun j => a j + b j) 8)))) ∧ Below w.heap.size w w' := by
  obtain ⟨w0, hw0, p0, p1, p2, g0, z0⟩ := boxes3 w (rowC a) (rowC b) #[.int .i64 0, .int .i64 0, .int .i64 0, .int .i64 0, .int .i64 0, .int .i64 0, .int .i64 0, .int .i64 0] 32 32 32
  have hR : Blk (w0.alloc (.cells (rowC fun _ => 0) 31)) w0.heap.size (rowC fun _ => 0) 31 := Blk.new w0 _ 31
  have lR0 : w.heap.size + 1 + 1 < w0.heap.size := p2.lt
  have B0 := Lib.hid (And.intro hR (And.intro (p2.alloc (.cells (rowC fun _ => 0) 31)) (And.intro (p0.alloc (.cells (rowC fun _ => 0) 31)) (And.intro (p1.alloc (.cells (rowC fun _ => 0) 31)) (grow_alloc g0 (.cells (rowC fun _ => 0) 31))))))
  obtain ⟨R, hRR⟩ : ∃ R, R = w0.heap.size := ⟨_, rfl⟩
  have HA := Lib.hid ha
  have HB := Lib.hid hb
  rw [rowC_eq a, rowC_eq b] at hw0
  clear p0 p1 p2 g0 z0 hR ha hb
  rw [rowC_eq a, rowC_eq b]
  go_enter Try.func21, Try.ntmps21
  go_wp2
  (try rw [← hRR])
  rw [← hRR] at B0 lR0
  have LR := Lib.hid lR0
  clear lR0
  go_loopw [6] (fun v wr => ∃ k : Nat, k ≤ 8 ∧ v = .int .i64 k ∧ Hid (Blk wr R (rowC (fun j => if j < k then a j + b j else 0)) 31 ∧ Blk wr (w.heap.size + 1 + 1) #[.int .i64 0, .int .i64 0, .int .i64 0, .int .i64 0, .int .i64 0, .int .i64 0, .int .i64 0, .int .i64 0] 32 ∧ Blk wr w.heap.size (rowC a) 32 ∧ Blk wr (w.heap.size + 1) (rowC b) 32 ∧ Below w.heap.size w wr)) (fun v _ => 8 - (intOf v).toNat)
  case atStart =>
    have e0 : (rowC fun _ => 0) = rowC (fun j => if j < 0 then a j + b j else 0) := rowC_congr fun j _ => by rw [if_neg (by omega)]
    rw [e0] at B0
    exact ⟨0, by omega, rfl, B0⟩
  case round =>
    obtain ⟨k, hk, rfl, B⟩ := hrel
    clear B0 hRR hw0
    by_cases hlt : k < 8
    · have hlti : (k : Int) < 8 := by omega
      have ca := (B.out.2.2.1.at k (rowC_get a k hlt)).1
      have cb := (B.out.2.2.2.1.at k (rowC_get b k hlt)).1
      obtain ⟨v, hv⟩ : ∃ v, (rowC (fun j => if j < k then a j + b j else 0))[k]? = some v := ⟨_, rowC_get _ k hlt⟩
      obtain ⟨a0, a1⟩ := HA.out k hlt
      obtain ⟨b0, b1⟩ := HB.out k hlt
      have hrow : (rowC (fun j => if j < k then a j + b j else 0)).setIfInBounds k (.int .i64 (a k + b k)) = rowC (fun j => if j < k + 1 then a j + b j else 0) := rowC_put _ _ _ _ fun j _ => by
        by_cases hjk : j = k
        · subst hjk; rw [if_pos rfl, if_pos (by omega)]
        · rw [if_neg hjk]
          by_cases hj : j < k
          · rw [if_pos hj, if_pos (show j < k + 1 by omega)]
          · rw [if_neg hj, if_neg (show ¬ j < k + 1 by omega)]
      have HROW := Lib.hid hrow
      clear hrow
      obtain ⟨s, hs⟩ : ∃ s, a k + b k = s := ⟨_, rfl⟩
      rw [hs] at HROW
      have hw1 : IntKind.i64.wrap s = s := by rw [IntKind.wrap_i64]; omega
      have HV := Lib.hid hv
      have HC := Lib.hid (And.intro ca cb)
      generalize a k = ak at *
      generalize b k = bk at *
      clear ca cb hv a0 a1 b0 b1
      go_wp2_with fail
      obtain ⟨Sm0, Sm0d⟩ : ∃ S : World → Prop, S = fun v : World => v.cell? ⟨w.heap.size, k, none⟩ = some (.int .i64 ak) ∧ v.cell? ⟨(w.heap.size + 1), k, none⟩ = some (.int .i64 bk) ∧ Blk v R (rowC (fun j => if j < k then a j + b j else 0)) 31 ∧ Blk v (w.heap.size + 1 + 1) #[.int .i64 0, .int .i64 0, .int .i64 0, .int .i64 0, .int .i64 0, .int .i64 0, .int .i64 0, .int .i64 0] 32 ∧ Blk v w.heap.size (rowC a) 32 ∧ Blk v (w.heap.size + 1) (rowC b) 32 ∧ Below w.heap.size w v := ⟨_, rfl⟩
      have Sm0t0 : Stands Sm0 := by rw [Sm0d]; exact ((stands_cell _ _).and ((stands_cell _ _).and ((stands_blk _ _ _).and ((stands_blk _ _ _).and ((stands_blk _ _ _).and ((stands_blk _ _ _).and (stands_below _)))))))
      have Sm0u0 : ∀ v, Sm0 v → v.cell? ⟨w.heap.size, k, none⟩ = some (.int .i64 ak) ∧ v.cell? ⟨(w.heap.size + 1), k, none⟩ = some (.int .i64 bk) ∧ Blk v R (rowC (fun j => if j < k then a j + b j else 0)) 31 ∧ Blk v (w.heap.size + 1 + 1) #[.int .i64 0, .int .i64 0, .int .i64 0, .int .i64 0, .int .i64 0, .int .i64 0, .int .i64 0, .int .i64 0] 32 ∧ Blk v w.heap.size (rowC a) 32 ∧ Blk v (w.heap.size + 1) (rowC b) 32 ∧ Below w.heap.size w v := fun v h => by rw [Sm0d] at h; exact h
      have Sm0m0 : ∀ v, (v.cell? ⟨w.heap.size, k, none⟩ = some (.int .i64 ak) ∧ v.cell? ⟨(w.heap.size + 1), k, none⟩ = some (.int .i64 bk) ∧ Blk v R (rowC (fun j => if j < k then a j + b j else 0)) 31 ∧ Blk v (w.heap.size + 1 + 1) #[.int .i64 0, .int .i64 0, .int .i64 0, .int .i64 0, .int .i64 0, .int .i64 0, .int .i64 0, .int .i64 0] 32 ∧ Blk v w.heap.size (rowC a) 32 ∧ Blk v (w.heap.size + 1) (rowC b) 32 ∧ Below w.heap.size w v) → Sm0 v := fun v h => by rw [Sm0d]; exact h
      have Sm0u := Lib.hid Sm0u0
      have Sm0m := Lib.hid Sm0m0
      have Sm0t := Lib.hid Sm0t0
      clear Sm0d Sm0u0 Sm0m0 Sm0t0
      refine wp_region_X (S := Sm0) (by kernel_rfl) (Sm0m.out _ ⟨HC.out.1, HC.out.2, B.out.1.drew, B.out.2.1.drew, B.out.2.2.1.drew, B.out.2.2.2.1.drew, B.out.2.2.2.2.drew⟩) ?_
      clear B HC
      refine wpX_take (i := 0) (v := ?_) Sm0t.out rfl rfl (by kernel_rfl) (by kernel_rfl) (by kernel_rfl) (fun _ _ _ h => h) (SteadyX.value (by rfl) ?_) ?_
      rotate_left
      · (intro w_ hS; go_simp; try with_reducible rfl)
      simp only [List.setIfInBounds_toArray, List.set_cons_zero, List.set_cons_succ]
      refine wpX_take (i := 1) (v := ?_) Sm0t.out rfl rfl (by kernel_rfl) (by kernel_rfl) (by kernel_rfl) (fun _ _ _ h => h) (SteadyX.value (by rfl) ?_) ?_
      rotate_left
      · (intro w_ hS; go_simp; try with_reducible rfl)
      simp only [List.setIfInBounds_toArray, List.set_cons_zero, List.set_cons_succ]
      refine wpX_take (i := 2) (v := ?_) Sm0t.out rfl rfl (by kernel_rfl) (by kernel_rfl) (by kernel_rfl) (fun _ _ _ h => h) (SteadyX.value (by rfl) ?_) ?_
      rotate_left
      · (intro w_ hS; go_simp; try with_reducible rfl)
      simp only [List.setIfInBounds_toArray, List.set_cons_zero, List.set_cons_succ]
      refine wpX_take (i := 3) (v := ?_) Sm0t.out rfl rfl (by kernel_rfl) (by kernel_rfl) (by kernel_rfl) (fun _ _ _ h => h) (SteadyX.value (by rfl) ?_) ?_
      rotate_left
      · (intro w_ hS; obtain ⟨q0, q1, q2, q3, q4, q5, q6⟩ := Sm0u.out _ hS; (clear q2); (clear q3); (clear q4); (clear q5); (clear q6); go_simp; try with_reducible rfl)
      simp only [List.setIfInBounds_toArray, List.set_cons_zero, List.set_cons_succ]
      refine wpX_take (i := 4) (v := ?_) Sm0t.out rfl rfl (by kernel_rfl) (by kernel_rfl) (by kernel_rfl) (fun _ _ _ h => h) (SteadyX.value (by rfl) ?_) ?_
      rotate_left
      · (intro w_ hS; go_simp; try with_reducible rfl)
      simp only [List.setIfInBounds_toArray, List.set_cons_zero, List.set_cons_succ]
      refine wpX_take (i := 5) (v := ?_) Sm0t.out rfl rfl (by kernel_rfl) (by kernel_rfl) (by kernel_rfl) (fun _ _ _ h => h) (SteadyX.value (by rfl) ?_) ?_
      rotate_left
      · (intro w_ hS; go_simp; try with_reducible rfl)
      simp only [List.setIfInBounds_toArray, List.set_cons_zero, List.set_cons_succ]
      refine wpX_take (i := 6) (v := ?_) Sm0t.out rfl rfl (by kernel_rfl) (by kernel_rfl) (by kernel_rfl) (fun _ _ _ h => h) (SteadyX.value (by rfl) ?_) ?_
      rotate_left
      · (intro w_ hS; obtain ⟨q0, q1, q2, q3, q4, q5, q6⟩ := Sm0u.out _ hS; (clear q2); (clear q3); (clear q4); (clear q5); (clear q6); go_simp; try with_reducible rfl)
      simp only [List.setIfInBounds_toArray, List.set_cons_zero, List.set_cons_succ]
      refine wpX_take (i := 7) (v := ?_) Sm0t.out rfl rfl (by kernel_rfl) (by kernel_rfl) (by kernel_rfl) (fun _ _ _ h => h) (SteadyX.value (by rfl) ?_) ?_
      rotate_left
      · (intro w_ hS; go_simp; try with_reducible rfl)
      simp only [List.setIfInBounds_toArray, List.set_cons_zero, List.set_cons_succ]
      refine wpX_take (i := 8) (v := ?_) Sm0t.out rfl rfl (by kernel_rfl) (by kernel_rfl) (by kernel_rfl) (fun _ _ _ h => h) (SteadyX.value (by rfl) ?_) ?_
      rotate_left
      · (intro w_ hS; go_simp; try with_reducible rfl)
      simp only [List.setIfInBounds_toArray, List.set_cons_zero, List.set_cons_succ]
      have lR : w.heap.size + 1 + 1 < R := LR.out
      refine wpX_one (i := 9) (by kernel_rfl) (fun w_ hS => ?_)
      obtain ⟨q0, q1, q2, q3, q4, q5, q6⟩ := Sm0u.out _ hS
      obtain ⟨Sm1, Sm1d⟩ : ∃ S : World → Prop, S = fun v : World => Blk v R (rowC (fun j => if j < k + 1 then a j + b j else 0)) 31 ∧ Blk v (w.heap.size + 1 + 1) #[.int .i64 0, .int .i64 0, .int .i64 0, .int .i64 0, .int .i64 0, .int .i64 0, .int .i64 0, .int .i64 0] 32 ∧ Blk v w.heap.size (rowC a) 32 ∧ Blk v (w.heap.size + 1) (rowC b) 32 ∧ Below w.heap.size w v := ⟨_, rfl⟩
      have Sm1t0 : Stands Sm1 := by rw [Sm1d]; exact ((stands_blk _ _ _).and ((stands_blk _ _ _).and ((stands_blk _ _ _).and ((stands_blk _ _ _).and (stands_below _)))))
      have Sm1u0 : ∀ v, Sm1 v → Blk v R (rowC (fun j => if j < k + 1 then a j + b j else 0)) 31 ∧ Blk v (w.heap.size + 1 + 1) #[.int .i64 0, .int .i64 0, .int .i64 0, .int .i64 0, .int .i64 0, .int .i64 0, .int .i64 0, .int .i64 0] 32 ∧ Blk v w.heap.size (rowC a) 32 ∧ Blk v (w.heap.size + 1) (rowC b) 32 ∧ Below w.heap.size w v := fun v h => by rw [Sm1d] at h; exact h
      have Sm1m0 : ∀ v, (Blk v R (rowC (fun j => if j < k + 1 then a j + b j else 0)) 31 ∧ Blk v (w.heap.size + 1 + 1) #[.int .i64 0, .int .i64 0, .int .i64 0, .int .i64 0, .int .i64 0, .int .i64 0, .int .i64 0, .int .i64 0] 32 ∧ Blk v w.heap.size (rowC a) 32 ∧ Blk v (w.heap.size + 1) (rowC b) 32 ∧ Below w.heap.size w v) → Sm1 v := fun v h => by rw [Sm1d]; exact h
      have Sm1u := Lib.hid Sm1u0
      have Sm1m := Lib.hid Sm1m0
      have Sm1t := Lib.hid Sm1t0
      clear Sm1d Sm1u0 Sm1m0 Sm1t0
      have st_ : Sm1 (w_.setCell ⟨R, k, none⟩ (.int .i64 s)) := Sm1m.out _ ⟨(by have h := q2.set k (.int .i64 s); rw [HROW.out] at h; exact h), q3.other (a := ⟨R, k, none⟩) (by show (w.heap.size + 1 + 1) ≠ R; omega) _, q4.other (a := ⟨R, k, none⟩) (by show w.heap.size ≠ R; omega) _, q5.other (a := ⟨R, k, none⟩) (by show (w.heap.size + 1) ≠ R; omega) _, q6.setCell (p := ⟨R, k, none⟩) (by show w.heap.size ≤ R; omega) _⟩
      have cv_ := q2.at k HV.out
      refine wpX_store (i := 9) (w' := (w_.setCell ⟨R, k, none⟩ (.int .i64 s))) Sm1 rfl rfl (by rfl) (by go_simp) Sm1t.out (.inl (by kernel_rfl)) st_ ?_
      clear cv_ hS st_ q0 q1 q2 q3 q4 q5 q6
      clear w_
      refine wpX_done (by kernel_rfl) (fun W hS => ?_) _
      obtain ⟨q0, q1, q2, q3, q4⟩ := Sm1u.out _ hS
      clear hS Sm0u Sm0m Sm0t Sm1u Sm1m Sm1t
      clear Sm0 Sm1
      have B2 := Lib.hid (And.intro q0 (And.intro q1 (And.intro q2 (And.intro q3 q4))))
      clear q0 q1 q2 q3 q4
      go_wp2
      go_round
      case rel => exact ⟨k + 1, by omega, val_int rfl, B2⟩
      case measure => simp only [intOf]; omega
    · have hk8 : k = 8 := by omega
      subst hk8
      have hrow : rowC (fun j => if j < 8 then a j + b j else 0) = rowC (fun j => a j + b j) := rowC_congr fun j hj => if_pos hj
      have hB0 := B.out.1
      rw [hrow] at hB0
      have kc := carry_any (fun j => a j + b j) (fun j hj => by have := HA.out j hj; have := HB.out j hj; (try dsimp only); omega)
      rw [rowC_eq (fun j => a j + b j)] at kc
      have KC := Lib.hid kc
      have c8 := hB0.eight
      clear kc HA HB hB0 hrow
      go_wp2_with fail
      refine (KC.out _).mono ?_
      rintro e w1 ⟨rfl, hb⟩
      have hB := And.intro (B.out.2.1.grew hb) (grow B.out.2.2.2.2 hb)
      clear hb c8 B KC
      generalize hf : figZ (sumZ (fun j => a j + b j) 8) = f at *
      rw [rowC_eq f]
      have c1 := hB.1.eight
      have r2 := ((((((((hB.1.set 0 (.int .i64 (f 0))).set 1 (.int .i64 (f 1))).set 2 (.int .i64 (f 2))).set 3 (.int .i64 (f 3))).set 4 (.int .i64 (f 4))).set 5 (.int .i64 (f 5))).set 6 (.int .i64 (f 6))).set 7 (.int .i64 (f 7))).eight
      have HG := Lib.hid hB.2
      clear hB
      go_wp2
      refine bodyPost_ret (v := .agg (rowC f)) ?_ rfl ⟨by first | rfl | rw [hf], ?_⟩
      · rw [rowC_eq]
        simp [results, Try.results21, go_sem, r2]
      · exact ((((((((HG.out.setCell (by show w.heap.size ≤ (w.heap.size + 1 + 1); omega) _).setCell (by show w.heap.size ≤ (w.heap.size + 1 + 1); omega) _).setCell (by show w.heap.size ≤ (w.heap.size + 1 + 1); omega) _).setCell (by show w.heap.size ≤ (w.heap.size + 1 + 1); omega) _).setCell (by show w.heap.size ≤ (w.heap.size + 1 + 1); omega) _).setCell (by show w.heap.size ≤ (w.heap.size + 1 + 1); omega) _).setCell (by show w.heap.size ≤ (w.heap.size + 1 + 1); omega) _).setCell (by show w.heap.size ≤ (w.heap.size + 1 + 1); omega) _)

set_option maxRecDepth 20000 in
set_option maxHeartbeats 8000000 in
theorem refLess_any (a b : Nat → Int) (ha : ∀ j, j < 8 → 0 ≤ a j ∧ a j ≤ 65535) (hb : ∀ j, j < 8 → 0 ≤ b j ∧ b j ≤ 65535) (w : World) :
    Calls Try.prog 22 #[.agg (rowC a), .agg (rowC b)] w fun e w' => e = .returned (.agg (rowC (figZ (sumZ (fun j => a j - b j) 8)))) ∧ Below w.heap.size w w' := by
  obtain ⟨w0, hw0, p0, p1, p2, g0, z0⟩ := boxes3 w (rowC a) (rowC b) #[.int .i64 0, .int .i64 0, .int .i64 0, .int .i64 0, .int .i64 0, .int .i64 0, .int .i64 0, .int .i64 0] 32 32 32
  have hR : Blk (w0.alloc (.cells (rowC fun _ => 0) 31)) w0.heap.size (rowC fun _ => 0) 31 := Blk.new w0 _ 31
  have lR0 : w.heap.size + 1 + 1 < w0.heap.size := p2.lt
  have B0 := Lib.hid (And.intro hR (And.intro (p2.alloc (.cells (rowC fun _ => 0) 31)) (And.intro (p0.alloc (.cells (rowC fun _ => 0) 31)) (And.intro (p1.alloc (.cells (rowC fun _ => 0) 31)) (grow_alloc g0 (.cells (rowC fun _ => 0) 31))))))
  obtain ⟨R, hRR⟩ : ∃ R, R = w0.heap.size := ⟨_, rfl⟩
  have HA := Lib.hid ha
  have HB := Lib.hid hb
  rw [rowC_eq a, rowC_eq b] at hw0
  clear p0 p1 p2 g0 z0 hR ha hb
  rw [rowC_eq a, rowC_eq b]
  go_enter Try.func22, Try.ntmps22
  go_wp2
  (try rw [← hRR])
  rw [← hRR] at B0 lR0
  have LR := Lib.hid lR0
  clear lR0
  go_loopw [6] (fun v wr => ∃ k : Nat, k ≤ 8 ∧ v = .int .i64 k ∧ Hid (Blk wr R (rowC (fun j => if j < k then a j - b j else 0)) 31 ∧ Blk wr (w.heap.size + 1 + 1) #[.int .i64 0, .int .i64 0, .int .i64 0, .int .i64 0, .int .i64 0, .int .i64 0, .int .i64 0, .int .i64 0] 32 ∧ Blk wr w.heap.size (rowC a) 32 ∧ Blk wr (w.heap.size + 1) (rowC b) 32 ∧ Below w.heap.size w wr)) (fun v _ => 8 - (intOf v).toNat)
  case atStart =>
    have e0 : (rowC fun _ => 0) = rowC (fun j => if j < 0 then a j - b j else 0) := rowC_congr fun j _ => by rw [if_neg (by omega)]
    rw [e0] at B0
    exact ⟨0, by omega, rfl, B0⟩
  case round =>
    obtain ⟨k, hk, rfl, B⟩ := hrel
    clear B0 hRR hw0
    by_cases hlt : k < 8
    · have hlti : (k : Int) < 8 := by omega
      have ca := (B.out.2.2.1.at k (rowC_get a k hlt)).1
      have cb := (B.out.2.2.2.1.at k (rowC_get b k hlt)).1
      obtain ⟨v, hv⟩ : ∃ v, (rowC (fun j => if j < k then a j - b j else 0))[k]? = some v := ⟨_, rowC_get _ k hlt⟩
      obtain ⟨a0, a1⟩ := HA.out k hlt
      obtain ⟨b0, b1⟩ := HB.out k hlt
      have hrow : (rowC (fun j => if j < k then a j - b j else 0)).setIfInBounds k (.int .i64 (a k - b k)) = rowC (fun j => if j < k + 1 then a j - b j else 0) := rowC_put _ _ _ _ fun j _ => by
        by_cases hjk : j = k
        · subst hjk; rw [if_pos rfl, if_pos (by omega)]
        · rw [if_neg hjk]
          by_cases hj : j < k
          · rw [if_pos hj, if_pos (show j < k + 1 by omega)]
          · rw [if_neg hj, if_neg (show ¬ j < k + 1 by omega)]
      have HROW := Lib.hid hrow
      clear hrow
      obtain ⟨s, hs⟩ : ∃ s, a k - b k = s := ⟨_, rfl⟩
      rw [hs] at HROW
      have hw1 : IntKind.i64.wrap s = s := by rw [IntKind.wrap_i64]; omega
      have HV := Lib.hid hv
      have HC := Lib.hid (And.intro ca cb)
      generalize a k = ak at *
      generalize b k = bk at *
      clear ca cb hv a0 a1 b0 b1
      go_wp2_with fail
      obtain ⟨Sm0, Sm0d⟩ : ∃ S : World → Prop, S = fun v : World => v.cell? ⟨w.heap.size, k, none⟩ = some (.int .i64 ak) ∧ v.cell? ⟨(w.heap.size + 1), k, none⟩ = some (.int .i64 bk) ∧ Blk v R (rowC (fun j => if j < k then a j - b j else 0)) 31 ∧ Blk v (w.heap.size + 1 + 1) #[.int .i64 0, .int .i64 0, .int .i64 0, .int .i64 0, .int .i64 0, .int .i64 0, .int .i64 0, .int .i64 0] 32 ∧ Blk v w.heap.size (rowC a) 32 ∧ Blk v (w.heap.size + 1) (rowC b) 32 ∧ Below w.heap.size w v := ⟨_, rfl⟩
      have Sm0t0 : Stands Sm0 := by rw [Sm0d]; exact ((stands_cell _ _).and ((stands_cell _ _).and ((stands_blk _ _ _).and ((stands_blk _ _ _).and ((stands_blk _ _ _).and ((stands_blk _ _ _).and (stands_below _)))))))
      have Sm0u0 : ∀ v, Sm0 v → v.cell? ⟨w.heap.size, k, none⟩ = some (.int .i64 ak) ∧ v.cell? ⟨(w.heap.size + 1), k, none⟩ = some (.int .i64 bk) ∧ Blk v R (rowC (fun j => if j < k then a j - b j else 0)) 31 ∧ Blk v (w.heap.size + 1 + 1) #[.int .i64 0, .int .i64 0, .int .i64 0, .int .i64 0, .int .i64 0, .int .i64 0, .int .i64 0, .int .i64 0] 32 ∧ Blk v w.heap.size (rowC a) 32 ∧ Blk v (w.heap.size + 1) (rowC b) 32 ∧ Below w.heap.size w v := fun v h => by rw [Sm0d] at h; exact h
      have Sm0m0 : ∀ v, (v.cell? ⟨w.heap.size, k, none⟩ = some (.int .i64 ak) ∧ v.cell? ⟨(w.heap.size + 1), k, none⟩ = some (.int .i64 bk) ∧ Blk v R (rowC (fun j => if j < k then a j - b j else 0)) 31 ∧ Blk v (w.heap.size + 1 + 1) #[.int .i64 0, .int .i64 0, .int .i64 0, .int .i64 0, .int .i64 0, .int .i64 0, .int .i64 0, .int .i64 0] 32 ∧ Blk v w.heap.size (rowC a) 32 ∧ Blk v (w.heap.size + 1) (rowC b) 32 ∧ Below w.heap.size w v) → Sm0 v := fun v h => by rw [Sm0d]; exact h
      have Sm0u := Lib.hid Sm0u0
      have Sm0m := Lib.hid Sm0m0
      have Sm0t := Lib.hid Sm0t0
      clear Sm0d Sm0u0 Sm0m0 Sm0t0
      refine wp_region_X (S := Sm0) (by kernel_rfl) (Sm0m.out _ ⟨HC.out.1, HC.out.2, B.out.1.drew, B.out.2.1.drew, B.out.2.2.1.drew, B.out.2.2.2.1.drew, B.out.2.2.2.2.drew⟩) ?_
      clear B HC
      refine wpX_take (i := 0) (v := ?_) Sm0t.out rfl rfl (by kernel_rfl) (by kernel_rfl) (by kernel_rfl) (fun _ _ _ h => h) (SteadyX.value (by rfl) ?_) ?_
      rotate_left
      · (intro w_ hS; go_simp; try with_reducible rfl)
      simp only [List.setIfInBounds_toArray, List.set_cons_zero, List.set_cons_succ]
      refine wpX_take (i := 1) (v := ?_) Sm0t.out rfl rfl (by kernel_rfl) (by kernel_rfl) (by kernel_rfl) (fun _ _ _ h => h) (SteadyX.value (by rfl) ?_) ?_
      rotate_left
      · (intro w_ hS; go_simp; try with_reducible rfl)
      simp only [List.setIfInBounds_toArray, List.set_cons_zero, List.set_cons_succ]
      refine wpX_take (i := 2) (v := ?_) Sm0t.out rfl rfl (by kernel_rfl) (by kernel_rfl) (by kernel_rfl) (fun _ _ _ h => h) (SteadyX.value (by rfl) ?_) ?_
      rotate_left
      · (intro w_ hS; go_simp; try with_reducible rfl)
      simp only [List.setIfInBounds_toArray, List.set_cons_zero, List.set_cons_succ]
      refine wpX_take (i := 3) (v := ?_) Sm0t.out rfl rfl (by kernel_rfl) (by kernel_rfl) (by kernel_rfl) (fun _ _ _ h => h) (SteadyX.value (by rfl) ?_) ?_
      rotate_left
      · (intro w_ hS; obtain ⟨q0, q1, q2, q3, q4, q5, q6⟩ := Sm0u.out _ hS; (clear q2); (clear q3); (clear q4); (clear q5); (clear q6); go_simp; try with_reducible rfl)
      simp only [List.setIfInBounds_toArray, List.set_cons_zero, List.set_cons_succ]
      refine wpX_take (i := 4) (v := ?_) Sm0t.out rfl rfl (by kernel_rfl) (by kernel_rfl) (by kernel_rfl) (fun _ _ _ h => h) (SteadyX.value (by rfl) ?_) ?_
      rotate_left
      · (intro w_ hS; go_simp; try with_reducible rfl)
      simp only [List.setIfInBounds_toArray, List.set_cons_zero, List.set_cons_succ]
      refine wpX_take (i := 5) (v := ?_) Sm0t.out rfl rfl (by kernel_rfl) (by kernel_rfl) (by kernel_rfl) (fun _ _ _ h => h) (SteadyX.value (by rfl) ?_) ?_
      rotate_left
      · (intro w_ hS; go_simp; try with_reducible rfl)
      simp only [List.setIfInBounds_toArray, List.set_cons_zero, List.set_cons_succ]
      refine wpX_take (i := 6) (v := ?_) Sm0t.out rfl rfl (by kernel_rfl) (by kernel_rfl) (by kernel_rfl) (fun _ _ _ h => h) (SteadyX.value (by rfl) ?_) ?_
      rotate_left
      · (intro w_ hS; obtain ⟨q0, q1, q2, q3, q4, q5, q6⟩ := Sm0u.out _ hS; (clear q2); (clear q3); (clear q4); (clear q5); (clear q6); go_simp; try with_reducible rfl)
      simp only [List.setIfInBounds_toArray, List.set_cons_zero, List.set_cons_succ]
      refine wpX_take (i := 7) (v := ?_) Sm0t.out rfl rfl (by kernel_rfl) (by kernel_rfl) (by kernel_rfl) (fun _ _ _ h => h) (SteadyX.value (by rfl) ?_) ?_
      rotate_left
      · (intro w_ hS; go_simp; try with_reducible rfl)
      simp only [List.setIfInBounds_toArray, List.set_cons_zero, List.set_cons_succ]
      refine wpX_take (i := 8) (v := ?_) Sm0t.out rfl rfl (by kernel_rfl) (by kernel_rfl) (by kernel_rfl) (fun _ _ _ h => h) (SteadyX.value (by rfl) ?_) ?_
      rotate_left
      · (intro w_ hS; go_simp; try with_reducible rfl)
      simp only [List.setIfInBounds_toArray, List.set_cons_zero, List.set_cons_succ]
      have lR : w.heap.size + 1 + 1 < R := LR.out
      refine wpX_one (i := 9) (by kernel_rfl) (fun w_ hS => ?_)
      obtain ⟨q0, q1, q2, q3, q4, q5, q6⟩ := Sm0u.out _ hS
      obtain ⟨Sm1, Sm1d⟩ : ∃ S : World → Prop, S = fun v : World => Blk v R (rowC (fun j => if j < k + 1 then a j - b j else 0)) 31 ∧ Blk v (w.heap.size + 1 + 1) #[.int .i64 0, .int .i64 0, .int .i64 0, .int .i64 0, .int .i64 0, .int .i64 0, .int .i64 0, .int .i64 0] 32 ∧ Blk v w.heap.size (rowC a) 32 ∧ Blk v (w.heap.size + 1) (rowC b) 32 ∧ Below w.heap.size w v := ⟨_, rfl⟩
      have Sm1t0 : Stands Sm1 := by rw [Sm1d]; exact ((stands_blk _ _ _).and ((stands_blk _ _ _).and ((stands_blk _ _ _).and ((stands_blk _ _ _).and (stands_below _)))))
      have Sm1u0 : ∀ v, Sm1 v → Blk v R (rowC (fun j => if j < k + 1 then a j - b j else 0)) 31 ∧ Blk v (w.heap.size + 1 + 1) #[.int .i64 0, .int .i64 0, .int .i64 0, .int .i64 0, .int .i64 0, .int .i64 0, .int .i64 0, .int .i64 0] 32 ∧ Blk v w.heap.size (rowC a) 32 ∧ Blk v (w.heap.size + 1) (rowC b) 32 ∧ Below w.heap.size w v := fun v h => by rw [Sm1d] at h; exact h
      have Sm1m0 : ∀ v, (Blk v R (rowC (fun j => if j < k + 1 then a j - b j else 0)) 31 ∧ Blk v (w.heap.size + 1 + 1) #[.int .i64 0, .int .i64 0, .int .i64 0, .int .i64 0, .int .i64 0, .int .i64 0, .int .i64 0, .int .i64 0] 32 ∧ Blk v w.heap.size (rowC a) 32 ∧ Blk v (w.heap.size + 1) (rowC b) 32 ∧ Below w.heap.size w v) → Sm1 v := fun v h => by rw [Sm1d]; exact h
      have Sm1u := Lib.hid Sm1u0
      have Sm1m := Lib.hid Sm1m0
      have Sm1t := Lib.hid Sm1t0
      clear Sm1d Sm1u0 Sm1m0 Sm1t0
      have st_ : Sm1 (w_.setCell ⟨R, k, none⟩ (.int .i64 s)) := Sm1m.out _ ⟨(by have h := q2.set k (.int .i64 s); rw [HROW.out] at h; exact h), q3.other (a := ⟨R, k, none⟩) (by show (w.heap.size + 1 + 1) ≠ R; omega) _, q4.other (a := ⟨R, k, none⟩) (by show w.heap.size ≠ R; omega) _, q5.other (a := ⟨R, k, none⟩) (by show (w.heap.size + 1) ≠ R; omega) _, q6.setCell (p := ⟨R, k, none⟩) (by show w.heap.size ≤ R; omega) _⟩
      have cv_ := q2.at k HV.out
      refine wpX_store (i := 9) (w' := (w_.setCell ⟨R, k, none⟩ (.int .i64 s))) Sm1 rfl rfl (by rfl) (by go_simp) Sm1t.out (.inl (by kernel_rfl)) st_ ?_
      clear cv_ hS st_ q0 q1 q2 q3 q4 q5 q6
      clear w_
      refine wpX_done (by kernel_rfl) (fun W hS => ?_) _
      obtain ⟨q0, q1, q2, q3, q4⟩ := Sm1u.out _ hS
      clear hS Sm0u Sm0m Sm0t Sm1u Sm1m Sm1t
      clear Sm0 Sm1
      have B2 := Lib.hid (And.intro q0 (And.intro q1 (And.intro q2 (And.intro q3 q4))))
      clear q0 q1 q2 q3 q4
      go_wp2
      go_round
      case rel => exact ⟨k + 1, by omega, val_int rfl, B2⟩
      case measure => simp only [intOf]; omega
    · have hk8 : k = 8 := by omega
      subst hk8
      have hrow : rowC (fun j => if j < 8 then a j - b j else 0) = rowC (fun j => a j - b j) := rowC_congr fun j hj => if_pos hj
      have hB0 := B.out.1
      rw [hrow] at hB0
      have kc := carry_any (fun j => a j - b j) (fun j hj => by have := HA.out j hj; have := HB.out j hj; (try dsimp only); omega)
      rw [rowC_eq (fun j => a j - b j)] at kc
      have KC := Lib.hid kc
      have c8 := hB0.eight
      clear kc HA HB hB0 hrow
      go_wp2_with fail
      refine (KC.out _).mono ?_
      rintro e w1 ⟨rfl, hb⟩
      have hB := And.intro (B.out.2.1.grew hb) (grow B.out.2.2.2.2 hb)
      clear hb c8 B KC
      generalize hf : figZ (sumZ (fun j => a j - b j) 8) = f at *
      rw [rowC_eq f]
      have c1 := hB.1.eight
      have r2 := ((((((((hB.1.set 0 (.int .i64 (f 0))).set 1 (.int .i64 (f 1))).set 2 (.int .i64 (f 2))).set 3 (.int .i64 (f 3))).set 4 (.int .i64 (f 4))).set 5 (.int .i64 (f 5))).set 6 (.int .i64 (f 6))).set 7 (.int .i64 (f 7))).eight
      have HG := Lib.hid hB.2
      clear hB
      go_wp2
      refine bodyPost_ret (v := .agg (rowC f)) ?_ rfl ⟨by first | rfl | rw [hf], ?_⟩
      · rw [rowC_eq]
        simp [results, Try.results22, go_sem, r2]
      · exact ((((((((HG.out.setCell (by show w.heap.size ≤ (w.heap.size + 1 + 1); omega) _).setCell (by show w.heap.size ≤ (w.heap.size + 1 + 1); omega) _).setCell (by show w.heap.size ≤ (w.heap.size + 1 + 1); omega) _).setCell (by show w.heap.size ≤ (w.heap.size + 1 + 1); omega) _).setCell (by show w.heap.size ≤ (w.heap.size + 1 + 1); omega) _).setCell (by show w.heap.size ≤ (w.heap.size + 1 + 1); omega) _).setCell (by show w.heap.size ≤ (w.heap.size + 1 + 1); omega) _).setCell (by show w.heap.size ≤ (w.heap.size + 1 + 1); omega) _)

end Go.Proofs.Ytogghmmokifnnaa
