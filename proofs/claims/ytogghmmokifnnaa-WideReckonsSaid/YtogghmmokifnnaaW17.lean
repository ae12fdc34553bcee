/- Walks: the reference's Compare. -/
import Derived.Test.YtogghmmokifnnaaW16
namespace Go.Proofs.Ytogghmmokifnnaa
open Go.RowKit

def lexZ (f g : Nat → Int) : Nat → Int
  | 0 => 0
  | k + 1 => if f k < g k then -1 else if g k < f k then 1 else lexZ f g k
def cmpR (f g : Nat → Int) : Int := if signR f < 0 ∧ 0 ≤ signR g then -1 else if signR g < 0 ∧ 0 ≤ signR f then 1 else lexZ f g 8

set_option maxRecDepth 20000 in
set_option maxHeartbeats 8000000 in
theorem Cmp_road (f g : Nat → Int) (x y c : Int)
    (k1 : ∀ w, Calls Try.prog 24 #[.agg #[.int .i64 (f 0), .int .i64 (f 1), .int .i64 (f 2), .int .i64 (f 3), .int .i64 (f 4), .int .i64 (f 5), .int .i64 (f 6), .int .i64 (f 7)]] w fun e w' => e = .returned (.int .i64 x) ∧ Below w.heap.size w w')
    (k2 : ∀ w, Calls Try.prog 24 #[.agg #[.int .i64 (g 0), .int .i64 (g 1), .int .i64 (g 2), .int .i64 (g 3), .int .i64 (g 4), .int .i64 (g 5), .int .i64 (g 6), .int .i64 (g 7)]] w fun e w' => e = .returned (.int .i64 y) ∧ Below w.heap.size w w')
    (h1 : x < 0 → 0 ≤ y → c = -1) (h2 : ¬ (x < 0 ∧ 0 ≤ y) → y < 0 → 0 ≤ x → c = 1) (h3 : ¬ (x < 0 ∧ 0 ≤ y) → ¬ (y < 0 ∧ 0 ≤ x) → c = lexZ f g 8) (w : World) :
    Calls Try.prog 23 #[.agg (rowC f), .agg (rowC g)] w fun e w' => e = .returned (.int .i64 c) ∧ Below w.heap.size w w' := by
  have K1 := Lib.hid k1
  have K2 := Lib.hid k2
  have C1 := Lib.hid h1
  have C2 := Lib.hid h2
  have C3 := Lib.hid h3
  clear k1 k2 h1 h2 h3
  obtain ⟨w0, hw0, p0, p1, g0, z0⟩ := boxes2 w (rowC f) (rowC g) 32 32
  have B0 := Lib.hid (And.intro p0 (And.intro p1 g0))
  rw [rowC_eq f, rowC_eq g] at hw0
  clear p0 p1 g0 z0
  rw [rowC_eq f, rowC_eq g]
  go_enter Try.func23, Try.ntmps23
  go_wp2_with fail
  (try clear hw0)
  obtain ⟨S0, S0d⟩ : ∃ S : World → Prop, S = fun v : World => Blk v w.heap.size #[.int .i64 (f 0), .int .i64 (f 1), .int .i64 (f 2), .int .i64 (f 3), .int .i64 (f 4), .int .i64 (f 5), .int .i64 (f 6), .int .i64 (f 7)] 32 ∧ Blk v (w.heap.size + 1) #[.int .i64 (g 0), .int .i64 (g 1), .int .i64 (g 2), .int .i64 (g 3), .int .i64 (g 4), .int .i64 (g 5), .int .i64 (g 6), .int .i64 (g 7)] 32 ∧ Below w.heap.size w v := ⟨_, rfl⟩
  have S0t0 : Stands S0 := by rw [S0d]; exact ((stands_blk _ _ _).and ((stands_blk _ _ _).and (stands_below _)))
  have S0u0 : ∀ v, S0 v → Blk v w.heap.size #[.int .i64 (f 0), .int .i64 (f 1), .int .i64 (f 2), .int .i64 (f 3), .int .i64 (f 4), .int .i64 (f 5), .int .i64 (f 6), .int .i64 (f 7)] 32 ∧ Blk v (w.heap.size + 1) #[.int .i64 (g 0), .int .i64 (g 1), .int .i64 (g 2), .int .i64 (g 3), .int .i64 (g 4), .int .i64 (g 5), .int .i64 (g 6), .int .i64 (g 7)] 32 ∧ Below w.heap.size w v := fun v h => by rw [S0d] at h; exact h
  have S0m0 : ∀ v, (Blk v w.heap.size #[.int .i64 (f 0), .int .i64 (f 1), .int .i64 (f 2), .int .i64 (f 3), .int .i64 (f 4), .int .i64 (f 5), .int .i64 (f 6), .int .i64 (f 7)] 32 ∧ Blk v (w.heap.size + 1) #[.int .i64 (g 0), .int .i64 (g 1), .int .i64 (g 2), .int .i64 (g 3), .int .i64 (g 4), .int .i64 (g 5), .int .i64 (g 6), .int .i64 (g 7)] 32 ∧ Below w.heap.size w v) → S0 v := fun v h => by rw [S0d]; exact h
  have S0u := Lib.hid S0u0
  have S0m := Lib.hid S0m0
  have S0t := Lib.hid S0t0
  clear S0d S0u0 S0m0 S0t0
  refine wp_region_X (S := S0) (by kernel_rfl) (S0m.out _ ⟨B0.out.1.drew, B0.out.2.1.drew, B0.out.2.2.drew⟩) ?_
  clear B0
  refine wpX_take (i := 0) (v := ?_) S0t.out rfl rfl (by kernel_rfl) (by kernel_rfl) (by kernel_rfl) (fun _ _ _ h => h) (SteadyX.value (by rfl) ?_) ?_
  rotate_left
  · (intro w_ hS; obtain ⟨q0, q1, q2⟩ := S0u.out _ hS; (have q0 := q0.eight); (have q1 := q1.eight); (clear q2); go_simp; try with_reducible rfl)
  simp only [List.setIfInBounds_toArray, List.set_cons_zero, List.set_cons_succ]
  refine wpX_take (i := 1) S0t.out rfl rfl (by kernel_rfl) (by kernel_rfl) (by kernel_rfl) (fun _ _ _ h => h) (SteadyX.call (by rfl) (fun w_ hS => K1.out w_) (fun w_ hS => by (go_simp))) ?_
  simp only [List.setIfInBounds_toArray, List.set_cons_zero, List.set_cons_succ]
  refine wpX_take (i := 2) (v := ?_) S0t.out rfl rfl (by kernel_rfl) (by kernel_rfl) (by kernel_rfl) (fun _ _ _ h => h) (SteadyX.value (by rfl) ?_) ?_
  rotate_left
  · (intro w_ hS; obtain ⟨q0, q1, q2⟩ := S0u.out _ hS; (have q0 := q0.eight); (have q1 := q1.eight); (clear q2); go_simp; try with_reducible rfl)
  simp only [List.setIfInBounds_toArray, List.set_cons_zero, List.set_cons_succ]
  refine wpX_take (i := 3) S0t.out rfl rfl (by kernel_rfl) (by kernel_rfl) (by kernel_rfl) (fun _ _ _ h => h) (SteadyX.call (by rfl) (fun w_ hS => K2.out w_) (fun w_ hS => by (go_simp))) ?_
  simp only [List.setIfInBounds_toArray, List.set_cons_zero, List.set_cons_succ]
  refine wpX_take (i := 4) (v := ?_) S0t.out rfl rfl (by kernel_rfl) (by kernel_rfl) (by kernel_rfl) (fun _ _ _ h => h) (SteadyX.value (by rfl) ?_) ?_
  rotate_left
  · (intro w_ hS; go_simp; try with_reducible rfl)
  simp only [List.setIfInBounds_toArray, List.set_cons_zero, List.set_cons_succ]
  refine wpX_take (i := 5) (v := ?_) S0t.out rfl rfl (by kernel_rfl) (by kernel_rfl) (by kernel_rfl) (fun _ _ _ h => h) (SteadyX.value (by rfl) ?_) ?_
  rotate_left
  · (intro w_ hS; go_simp; try with_reducible rfl)
  simp only [List.setIfInBounds_toArray, List.set_cons_zero, List.set_cons_succ]
  refine wpX_done (by kernel_rfl) (fun W hS => ?_) _
  obtain ⟨q0, q1, q2⟩ := S0u.out _ hS
  clear hS S0u S0m S0t
  clear S0
  have B0 : Hid (Blk W w.heap.size (rowC f) 32 ∧ Blk W (w.heap.size + 1) (rowC g) 32 ∧ Below w.heap.size w W) := Lib.hid ⟨q0, q1, q2⟩
  clear q0 q1 q2 K1 K2
  by_cases hx : x < 0
  · by_cases hy : 0 ≤ y
    · have e := C1.out hx hy
      subst e
      go_wp2
      go_ret
      exact ⟨rfl, B0.out.2.2⟩
    · have hx' : ¬ 0 ≤ x := by omega
      have HL := Lib.hid (C3.out (fun h => hy h.2) (fun h => hx' h.2))
      clear C1 C2 C3
      have hy' : y < 0 := by omega
      go_wp2
      go_loopw [7] (fun v wr => ∃ k : Nat, k ≤ 8 ∧ v = .int .i64 ((k : Int) - 1) ∧ Hid (c = lexZ f g k) ∧ Hid (Blk wr w.heap.size (rowC f) 32 ∧ Blk wr (w.heap.size + 1) (rowC g) 32 ∧ Below w.heap.size w wr)) (fun v _ => (intOf v + 1).toNat)
      case atStart => exact ⟨8, by omega, val_int (by omega), HL, B0⟩
      case round =>
        obtain ⟨k, hk, rfl, HC, B⟩ := hrel
        clear B0 HL
        cases k with
        | zero =>
          have e := HC.out
          change c = 0 at e
          subst e
          have hm : ((0 : Nat) : Int) - 1 = -1 := by omega
          rw [hm]
          go_wp2
          go_ret
          exact ⟨rfl, B.out.2.2⟩
        | succ k =>
          have hm : ((k + 1 : Nat) : Int) - 1 = (k : Int) := by omega
          rw [hm]
          have hlt : k < 8 := by omega
          have hlti : (k : Int) < 8 := by omega
          have hc := HC.out
          unfold lexZ at hc
          have ca := (B.out.1.at k (rowC_get f k hlt)).1
          have cb := (B.out.2.1.at k (rowC_get g k hlt)).1
          have HCC := Lib.hid (And.intro ca cb)
          have HCK : Hid (¬ f k < g k → ¬ g k < f k → c = lexZ f g k) := Lib.hid (fun a b => by rw [if_neg a, if_neg b] at hc; exact hc)
          have HC1 : Hid (f k < g k → c = -1) := Lib.hid (fun a => by rw [if_pos a] at hc; exact hc)
          have HC2 : Hid (¬ f k < g k → g k < f k → c = 1) := Lib.hid (fun a b => by rw [if_neg a, if_pos b] at hc; exact hc)
          clear hc ca cb HC hm
          generalize f k = fk at *
          generalize g k = gk at *
          go_wp2_with fail
          obtain ⟨Sm0, Sm0d⟩ : ∃ S : World → Prop, S = fun v : World => v.cell? ⟨w.heap.size, k, none⟩ = some (.int .i64 fk) ∧ v.cell? ⟨(w.heap.size + 1), k, none⟩ = some (.int .i64 gk) ∧ Blk v w.heap.size (rowC f) 32 ∧ Blk v (w.heap.size + 1) (rowC g) 32 ∧ Below w.heap.size w v := ⟨_, rfl⟩
          have Sm0t0 : Stands Sm0 := by rw [Sm0d]; exact ((stands_cell _ _).and ((stands_cell _ _).and ((stands_blk _ _ _).and ((stands_blk _ _ _).and (stands_below _)))))
          have Sm0u0 : ∀ v, Sm0 v → v.cell? ⟨w.heap.size, k, none⟩ = some (.int .i64 fk) ∧ v.cell? ⟨(w.heap.size + 1), k, none⟩ = some (.int .i64 gk) ∧ Blk v w.heap.size (rowC f) 32 ∧ Blk v (w.heap.size + 1) (rowC g) 32 ∧ Below w.heap.size w v := fun v h => by rw [Sm0d] at h; exact h
          have Sm0m0 : ∀ v, (v.cell? ⟨w.heap.size, k, none⟩ = some (.int .i64 fk) ∧ v.cell? ⟨(w.heap.size + 1), k, none⟩ = some (.int .i64 gk) ∧ Blk v w.heap.size (rowC f) 32 ∧ Blk v (w.heap.size + 1) (rowC g) 32 ∧ Below w.heap.size w v) → Sm0 v := fun v h => by rw [Sm0d]; exact h
          have Sm0u := Lib.hid Sm0u0
          have Sm0m := Lib.hid Sm0m0
          have Sm0t := Lib.hid Sm0t0
          clear Sm0d Sm0u0 Sm0m0 Sm0t0
          refine wp_region_X (S := Sm0) (by kernel_rfl) (Sm0m.out _ ⟨HCC.out.1, HCC.out.2, B.out.1.drew, B.out.2.1.drew, B.out.2.2.drew⟩) ?_
          clear B HCC
          refine wpX_take (i := 0) (v := ?_) Sm0t.out rfl rfl (by kernel_rfl) (by kernel_rfl) (by kernel_rfl) (fun _ _ _ h => h) (SteadyX.value (by rfl) ?_) ?_
          rotate_left
          · (intro w_ hS; go_simp; try with_reducible rfl)
          simp only [List.setIfInBounds_toArray, List.set_cons_zero, List.set_cons_succ]
          refine wpX_take (i := 1) (v := ?_) Sm0t.out rfl rfl (by kernel_rfl) (by kernel_rfl) (by kernel_rfl) (fun _ _ _ h => h) (SteadyX.value (by rfl) ?_) ?_
          rotate_left
          · (intro w_ hS; go_simp; try with_reducible rfl)
          simp only [List.setIfInBounds_toArray, List.set_cons_zero, List.set_cons_succ]
          refine wpX_take (i := 2) (v := ?_) Sm0t.out rfl rfl (by kernel_rfl) (by kernel_rfl) (by kernel_rfl) (fun _ _ _ h => h) (SteadyX.value (by rfl) ?_) ?_
          rotate_left
          · (intro w_ hS; obtain ⟨q0, q1, q2, q3, q4⟩ := Sm0u.out _ hS; (clear q2); (clear q3); (clear q4); go_simp; try with_reducible rfl)
          simp only [List.setIfInBounds_toArray, List.set_cons_zero, List.set_cons_succ]
          refine wpX_take (i := 3) (v := ?_) Sm0t.out rfl rfl (by kernel_rfl) (by kernel_rfl) (by kernel_rfl) (fun _ _ _ h => h) (SteadyX.value (by rfl) ?_) ?_
          rotate_left
          · (intro w_ hS; go_simp; try with_reducible rfl)
          simp only [List.setIfInBounds_toArray, List.set_cons_zero, List.set_cons_succ]
          refine wpX_take (i := 4) (v := ?_) Sm0t.out rfl rfl (by kernel_rfl) (by kernel_rfl) (by kernel_rfl) (fun _ _ _ h => h) (SteadyX.value (by rfl) ?_) ?_
          rotate_left
          · (intro w_ hS; go_simp; try with_reducible rfl)
          simp only [List.setIfInBounds_toArray, List.set_cons_zero, List.set_cons_succ]
          refine wpX_take (i := 5) (v := ?_) Sm0t.out rfl rfl (by kernel_rfl) (by kernel_rfl) (by kernel_rfl) (fun _ _ _ h => h) (SteadyX.value (by rfl) ?_) ?_
          rotate_left
          · (intro w_ hS; obtain ⟨q0, q1, q2, q3, q4⟩ := Sm0u.out _ hS; (clear q2); (clear q3); (clear q4); go_simp; try with_reducible rfl)
          simp only [List.setIfInBounds_toArray, List.set_cons_zero, List.set_cons_succ]
          refine wpX_take (i := 6) (v := ?_) Sm0t.out rfl rfl (by kernel_rfl) (by kernel_rfl) (by kernel_rfl) (fun _ _ _ h => h) (SteadyX.value (by rfl) ?_) ?_
          rotate_left
          · (intro w_ hS; go_simp; try with_reducible rfl)
          simp only [List.setIfInBounds_toArray, List.set_cons_zero, List.set_cons_succ]
          refine wpX_done (by kernel_rfl) (fun W1 hS => ?_) _
          obtain ⟨q0, q1, q2, q3, q4⟩ := Sm0u.out _ hS
          clear hS Sm0u Sm0m Sm0t
          clear Sm0
          have B1 := Lib.hid (And.intro q0 (And.intro q1 (And.intro q2 (And.intro q3 q4))))
          clear q0 q1 q2 q3 q4
          by_cases hlg : fk < gk
          · have e := HC1.out hlg
            subst e
            go_wp2
            go_ret
            exact ⟨rfl, B1.out.2.2.2.2⟩
          · go_wp2_with fail
            obtain ⟨Sn0, Sn0d⟩ : ∃ S : World → Prop, S = fun v : World => v.cell? ⟨w.heap.size, k, none⟩ = some (.int .i64 fk) ∧ v.cell? ⟨(w.heap.size + 1), k, none⟩ = some (.int .i64 gk) ∧ Blk v w.heap.size (rowC f) 32 ∧ Blk v (w.heap.size + 1) (rowC g) 32 ∧ Below w.heap.size w v := ⟨_, rfl⟩
            have Sn0t0 : Stands Sn0 := by rw [Sn0d]; exact ((stands_cell _ _).and ((stands_cell _ _).and ((stands_blk _ _ _).and ((stands_blk _ _ _).and (stands_below _)))))
            have Sn0u0 : ∀ v, Sn0 v → v.cell? ⟨w.heap.size, k, none⟩ = some (.int .i64 fk) ∧ v.cell? ⟨(w.heap.size + 1), k, none⟩ = some (.int .i64 gk) ∧ Blk v w.heap.size (rowC f) 32 ∧ Blk v (w.heap.size + 1) (rowC g) 32 ∧ Below w.heap.size w v := fun v h => by rw [Sn0d] at h; exact h
            have Sn0m0 : ∀ v, (v.cell? ⟨w.heap.size, k, none⟩ = some (.int .i64 fk) ∧ v.cell? ⟨(w.heap.size + 1), k, none⟩ = some (.int .i64 gk) ∧ Blk v w.heap.size (rowC f) 32 ∧ Blk v (w.heap.size + 1) (rowC g) 32 ∧ Below w.heap.size w v) → Sn0 v := fun v h => by rw [Sn0d]; exact h
            have Sn0u := Lib.hid Sn0u0
            have Sn0m := Lib.hid Sn0m0
            have Sn0t := Lib.hid Sn0t0
            clear Sn0d Sn0u0 Sn0m0 Sn0t0
            refine wp_region_X (S := Sn0) (by kernel_rfl) (Sn0m.out _ ⟨B1.out.1, B1.out.2.1, B1.out.2.2.1.drew, B1.out.2.2.2.1.drew, B1.out.2.2.2.2.drew⟩) ?_
            clear B1
            refine wpX_take (i := 0) (v := ?_) Sn0t.out rfl rfl (by kernel_rfl) (by kernel_rfl) (by kernel_rfl) (fun _ _ _ h => h) (SteadyX.value (by rfl) ?_) ?_
            rotate_left
            · (intro w_ hS; go_simp; try with_reducible rfl)
            simp only [List.setIfInBounds_toArray, List.set_cons_zero, List.set_cons_succ]
            refine wpX_take (i := 1) (v := ?_) Sn0t.out rfl rfl (by kernel_rfl) (by kernel_rfl) (by kernel_rfl) (fun _ _ _ h => h) (SteadyX.value (by rfl) ?_) ?_
            rotate_left
            · (intro w_ hS; go_simp; try with_reducible rfl)
            simp only [List.setIfInBounds_toArray, List.set_cons_zero, List.set_cons_succ]
            refine wpX_take (i := 2) (v := ?_) Sn0t.out rfl rfl (by kernel_rfl) (by kernel_rfl) (by kernel_rfl) (fun _ _ _ h => h) (SteadyX.value (by rfl) ?_) ?_
            rotate_left
            · (intro w_ hS; obtain ⟨q0, q1, q2, q3, q4⟩ := Sn0u.out _ hS; (clear q2); (clear q3); (clear q4); go_simp; try with_reducible rfl)
            simp only [List.setIfInBounds_toArray, List.set_cons_zero, List.set_cons_succ]
            refine wpX_take (i := 3) (v := ?_) Sn0t.out rfl rfl (by kernel_rfl) (by kernel_rfl) (by kernel_rfl) (fun _ _ _ h => h) (SteadyX.value (by rfl) ?_) ?_
            rotate_left
            · (intro w_ hS; go_simp; try with_reducible rfl)
            simp only [List.setIfInBounds_toArray, List.set_cons_zero, List.set_cons_succ]
            refine wpX_take (i := 4) (v := ?_) Sn0t.out rfl rfl (by kernel_rfl) (by kernel_rfl) (by kernel_rfl) (fun _ _ _ h => h) (SteadyX.value (by rfl) ?_) ?_
            rotate_left
            · (intro w_ hS; go_simp; try with_reducible rfl)
            simp only [List.setIfInBounds_toArray, List.set_cons_zero, List.set_cons_succ]
            refine wpX_take (i := 5) (v := ?_) Sn0t.out rfl rfl (by kernel_rfl) (by kernel_rfl) (by kernel_rfl) (fun _ _ _ h => h) (SteadyX.value (by rfl) ?_) ?_
            rotate_left
            · (intro w_ hS; obtain ⟨q0, q1, q2, q3, q4⟩ := Sn0u.out _ hS; (clear q2); (clear q3); (clear q4); go_simp; try with_reducible rfl)
            simp only [List.setIfInBounds_toArray, List.set_cons_zero, List.set_cons_succ]
            refine wpX_take (i := 6) (v := ?_) Sn0t.out rfl rfl (by kernel_rfl) (by kernel_rfl) (by kernel_rfl) (fun _ _ _ h => h) (SteadyX.value (by rfl) ?_) ?_
            rotate_left
            · (intro w_ hS; go_simp; try with_reducible rfl)
            simp only [List.setIfInBounds_toArray, List.set_cons_zero, List.set_cons_succ]
            refine wpX_done (by kernel_rfl) (fun W2 hS => ?_) _
            obtain ⟨q0, q1, q2, q3, q4⟩ := Sn0u.out _ hS
            clear hS Sn0u Sn0m Sn0t
            clear Sn0
            have B := Lib.hid (And.intro q2 (And.intro q3 q4))
            clear q0 q1 q2 q3 q4
            by_cases hgl : gk < fk
            · have e := HC2.out (by omega) hgl
              subst e
              go_wp2
              go_ret
              exact ⟨rfl, B.out.2.2⟩
            · have HC := Lib.hid (HCK.out (by omega) (by omega))
              clear HC1 HC2 HCK
              go_wp2
              go_round
              case rel => exact ⟨k, by omega, val_int (by first | rfl | omega), HC, B⟩
              case measure => simp only [intOf]; omega
  · have hx0 : 0 ≤ x := by omega
    by_cases hy : y < 0
    · have e := C2.out (fun h => hx h.1) hy hx0
      subst e
      go_wp2
      go_ret
      exact ⟨rfl, B0.out.2.2⟩
    · have HL := Lib.hid (C3.out (fun h => hx h.1) (fun h => hy h.1))
      clear C1 C2 C3
      go_wp2
      go_loopw [7] (fun v wr => ∃ k : Nat, k ≤ 8 ∧ v = .int .i64 ((k : Int) - 1) ∧ Hid (c = lexZ f g k) ∧ Hid (Blk wr w.heap.size (rowC f) 32 ∧ Blk wr (w.heap.size + 1) (rowC g) 32 ∧ Below w.heap.size w wr)) (fun v _ => (intOf v + 1).toNat)
      case atStart => exact ⟨8, by omega, val_int (by omega), HL, B0⟩
      case round =>
        obtain ⟨k, hk, rfl, HC, B⟩ := hrel
        clear B0 HL
        cases k with
        | zero =>
          have e := HC.out
          change c = 0 at e
          subst e
          have hm : ((0 : Nat) : Int) - 1 = -1 := by omega
          rw [hm]
          go_wp2
          go_ret
          exact ⟨rfl, B.out.2.2⟩
        | succ k =>
          have hm : ((k + 1 : Nat) : Int) - 1 = (k : Int) := by omega
          rw [hm]
          have hlt : k < 8 := by omega
          have hlti : (k : Int) < 8 := by omega
          have hc := HC.out
          unfold lexZ at hc
          have ca := (B.out.1.at k (rowC_get f k hlt)).1
          have cb := (B.out.2.1.at k (rowC_get g k hlt)).1
          have HCC := Lib.hid (And.intro ca cb)
          have HCK : Hid (¬ f k < g k → ¬ g k < f k → c = lexZ f g k) := Lib.hid (fun a b => by rw [if_neg a, if_neg b] at hc; exact hc)
          have HC1 : Hid (f k < g k → c = -1) := Lib.hid (fun a => by rw [if_pos a] at hc; exact hc)
          have HC2 : Hid (¬ f k < g k → g k < f k → c = 1) := Lib.hid (fun a b => by rw [if_neg a, if_pos b] at hc; exact hc)
          clear hc ca cb HC hm
          generalize f k = fk at *
          generalize g k = gk at *
          go_wp2_with fail
          obtain ⟨Sm0, Sm0d⟩ : ∃ S : World → Prop, S = fun v : World => v.cell? ⟨w.heap.size, k, none⟩ = some (.int .i64 fk) ∧ v.cell? ⟨(w.heap.size + 1), k, none⟩ = some (.int .i64 gk) ∧ Blk v w.heap.size (rowC f) 32 ∧ Blk v (w.heap.size + 1) (rowC g) 32 ∧ Below w.heap.size w v := ⟨_, rfl⟩
          have Sm0t0 : Stands Sm0 := by rw [Sm0d]; exact ((stands_cell _ _).and ((stands_cell _ _).and ((stands_blk _ _ _).and ((stands_blk _ _ _).and (stands_below _)))))
          have Sm0u0 : ∀ v, Sm0 v → v.cell? ⟨w.heap.size, k, none⟩ = some (.int .i64 fk) ∧ v.cell? ⟨(w.heap.size + 1), k, none⟩ = some (.int .i64 gk) ∧ Blk v w.heap.size (rowC f) 32 ∧ Blk v (w.heap.size + 1) (rowC g) 32 ∧ Below w.heap.size w v := fun v h => by rw [Sm0d] at h; exact h
          have Sm0m0 : ∀ v, (v.cell? ⟨w.heap.size, k, none⟩ = some (.int .i64 fk) ∧ v.cell? ⟨(w.heap.size + 1), k, none⟩ = some (.int .i64 gk) ∧ Blk v w.heap.size (rowC f) 32 ∧ Blk v (w.heap.size + 1) (rowC g) 32 ∧ Below w.heap.size w v) → Sm0 v := fun v h => by rw [Sm0d]; exact h
          have Sm0u := Lib.hid Sm0u0
          have Sm0m := Lib.hid Sm0m0
          have Sm0t := Lib.hid Sm0t0
          clear Sm0d Sm0u0 Sm0m0 Sm0t0
          refine wp_region_X (S := Sm0) (by kernel_rfl) (Sm0m.out _ ⟨HCC.out.1, HCC.out.2, B.out.1.drew, B.out.2.1.drew, B.out.2.2.drew⟩) ?_
          clear B HCC
          refine wpX_take (i := 0) (v := ?_) Sm0t.out rfl rfl (by kernel_rfl) (by kernel_rfl) (by kernel_rfl) (fun _ _ _ h => h) (SteadyX.value (by rfl) ?_) ?_
          rotate_left
          · (intro w_ hS; go_simp; try with_reducible rfl)
          simp only [List.setIfInBounds_toArray, List.set_cons_zero, List.set_cons_succ]
          refine wpX_take (i := 1) (v := ?_) Sm0t.out rfl rfl (by kernel_rfl) (by kernel_rfl) (by kernel_rfl) (fun _ _ _ h => h) (SteadyX.value (by rfl) ?_) ?_
          rotate_left
          · (intro w_ hS; go_simp; try with_reducible rfl)
          simp only [List.setIfInBounds_toArray, List.set_cons_zero, List.set_cons_succ]
          refine wpX_take (i := 2) (v := ?_) Sm0t.out rfl rfl (by kernel_rfl) (by kernel_rfl) (by kernel_rfl) (fun _ _ _ h => h) (SteadyX.value (by rfl) ?_) ?_
          rotate_left
          · (intro w_ hS; obtain ⟨q0, q1, q2, q3, q4⟩ := Sm0u.out _ hS; (clear q2); (clear q3); (clear q4); go_simp; try with_reducible rfl)
          simp only [List.setIfInBounds_toArray, List.set_cons_zero, List.set_cons_succ]
          refine wpX_take (i := 3) (v := ?_) Sm0t.out rfl rfl (by kernel_rfl) (by kernel_rfl) (by kernel_rfl) (fun _ _ _ h => h) (SteadyX.value (by rfl) ?_) ?_
          rotate_left
          · (intro w_ hS; go_simp; try with_reducible rfl)
          simp only [List.setIfInBounds_toArray, List.set_cons_zero, List.set_cons_succ]
          refine wpX_take (i := 4) (v := ?_) Sm0t.out rfl rfl (by kernel_rfl) (by kernel_rfl) (by kernel_rfl) (fun _ _ _ h => h) (SteadyX.value (by rfl) ?_) ?_
          rotate_left
          · (intro w_ hS; go_simp; try with_reducible rfl)
          simp only [List.setIfInBounds_toArray, List.set_cons_zero, List.set_cons_succ]
          refine wpX_take (i := 5) (v := ?_) Sm0t.out rfl rfl (by kernel_rfl) (by kernel_rfl) (by kernel_rfl) (fun _ _ _ h => h) (SteadyX.value (by rfl) ?_) ?_
          rotate_left
          · (intro w_ hS; obtain ⟨q0, q1, q2, q3, q4⟩ := Sm0u.out _ hS; (clear q2); (clear q3); (clear q4); go_simp; try with_reducible rfl)
          simp only [List.setIfInBounds_toArray, List.set_cons_zero, List.set_cons_succ]
          refine wpX_take (i := 6) (v := ?_) Sm0t.out rfl rfl (by kernel_rfl) (by kernel_rfl) (by kernel_rfl) (fun _ _ _ h => h) (SteadyX.value (by rfl) ?_) ?_
          rotate_left
          · (intro w_ hS; go_simp; try with_reducible rfl)
          simp only [List.setIfInBounds_toArray, List.set_cons_zero, List.set_cons_succ]
          refine wpX_done (by kernel_rfl) (fun W1 hS => ?_) _
          obtain ⟨q0, q1, q2, q3, q4⟩ := Sm0u.out _ hS
          clear hS Sm0u Sm0m Sm0t
          clear Sm0
          have B1 := Lib.hid (And.intro q0 (And.intro q1 (And.intro q2 (And.intro q3 q4))))
          clear q0 q1 q2 q3 q4
          by_cases hlg : fk < gk
          · have e := HC1.out hlg
            subst e
            go_wp2
            go_ret
            exact ⟨rfl, B1.out.2.2.2.2⟩
          · go_wp2_with fail
            obtain ⟨Sn0, Sn0d⟩ : ∃ S : World → Prop, S = fun v : World => v.cell? ⟨w.heap.size, k, none⟩ = some (.int .i64 fk) ∧ v.cell? ⟨(w.heap.size + 1), k, none⟩ = some (.int .i64 gk) ∧ Blk v w.heap.size (rowC f) 32 ∧ Blk v (w.heap.size + 1) (rowC g) 32 ∧ Below w.heap.size w v := ⟨_, rfl⟩
            have Sn0t0 : Stands Sn0 := by rw [Sn0d]; exact ((stands_cell _ _).and ((stands_cell _ _).and ((stands_blk _ _ _).and ((stands_blk _ _ _).and (stands_below _)))))
            have Sn0u0 : ∀ v, Sn0 v → v.cell? ⟨w.heap.size, k, none⟩ = some (.int .i64 fk) ∧ v.cell? ⟨(w.heap.size + 1), k, none⟩ = some (.int .i64 gk) ∧ Blk v w.heap.size (rowC f) 32 ∧ Blk v (w.heap.size + 1) (rowC g) 32 ∧ Below w.heap.size w v := fun v h => by rw [Sn0d] at h; exact h
            have Sn0m0 : ∀ v, (v.cell? ⟨w.heap.size, k, none⟩ = some (.int .i64 fk) ∧ v.cell? ⟨(w.heap.size + 1), k, none⟩ = some (.int .i64 gk) ∧ Blk v w.heap.size (rowC f) 32 ∧ Blk v (w.heap.size + 1) (rowC g) 32 ∧ Below w.heap.size w v) → Sn0 v := fun v h => by rw [Sn0d]; exact h
            have Sn0u := Lib.hid Sn0u0
            have Sn0m := Lib.hid Sn0m0
            have Sn0t := Lib.hid Sn0t0
            clear Sn0d Sn0u0 Sn0m0 Sn0t0
            refine wp_region_X (S := Sn0) (by kernel_rfl) (Sn0m.out _ ⟨B1.out.1, B1.out.2.1, B1.out.2.2.1.drew, B1.out.2.2.2.1.drew, B1.out.2.2.2.2.drew⟩) ?_
            clear B1
            refine wpX_take (i := 0) (v := ?_) Sn0t.out rfl rfl (by kernel_rfl) (by kernel_rfl) (by kernel_rfl) (fun _ _ _ h => h) (SteadyX.value (by rfl) ?_) ?_
            rotate_left
            · (intro w_ hS; go_simp; try with_reducible rfl)
            simp only [List.setIfInBounds_toArray, List.set_cons_zero, List.set_cons_succ]
            refine wpX_take (i := 1) (v := ?_) Sn0t.out rfl rfl (by kernel_rfl) (by kernel_rfl) (by kernel_rfl) (fun _ _ _ h => h) (SteadyX.value (by rfl) ?_) ?_
            rotate_left
            · (intro w_ hS; go_simp; try with_reducible rfl)
            simp only [List.setIfInBounds_toArray, List.set_cons_zero, List.set_cons_succ]
            refine wpX_take (i := 2) (v := ?_) Sn0t.out rfl rfl (by kernel_rfl) (by kernel_rfl) (by kernel_rfl) (fun _ _ _ h => h) (SteadyX.value (by rfl) ?_) ?_
            rotate_left
            · (intro w_ hS; obtain ⟨q0, q1, q2, q3, q4⟩ := Sn0u.out _ hS; (clear q2); (clear q3); (clear q4); go_simp; try with_reducible rfl)
            simp only [List.setIfInBounds_toArray, List.set_cons_zero, List.set_cons_succ]
            refine wpX_take (i := 3) (v := ?_) Sn0t.out rfl rfl (by kernel_rfl) (by kernel_rfl) (by kernel_rfl) (fun _ _ _ h => h) (SteadyX.value (by rfl) ?_) ?_
            rotate_left
            · (intro w_ hS; go_simp; try with_reducible rfl)
            simp only [List.setIfInBounds_toArray, List.set_cons_zero, List.set_cons_succ]
            refine wpX_take (i := 4) (v := ?_) Sn0t.out rfl rfl (by kernel_rfl) (by kernel_rfl) (by kernel_rfl) (fun _ _ _ h => h) (SteadyX.value (by rfl) ?_) ?_
            rotate_left
            · (intro w_ hS; go_simp; try with_reducible rfl)
            simp only [List.setIfInBounds_toArray, List.set_cons_zero, List.set_cons_succ]
            refine wpX_take (i := 5) (v := ?_) Sn0t.out rfl rfl (by kernel_rfl) (by kernel_rfl) (by kernel_rfl) (fun _ _ _ h => h) (SteadyX.value (by rfl) ?_) ?_
            rotate_left
            · (intro w_ hS; obtain ⟨q0, q1, q2, q3, q4⟩ := Sn0u.out _ hS; (clear q2); (clear q3); (clear q4); go_simp; try with_reducible rfl)
            simp only [List.setIfInBounds_toArray, List.set_cons_zero, List.set_cons_succ]
            refine wpX_take (i := 6) (v := ?_) Sn0t.out rfl rfl (by kernel_rfl) (by kernel_rfl) (by kernel_rfl) (fun _ _ _ h => h) (SteadyX.value (by rfl) ?_) ?_
            rotate_left
            · (intro w_ hS; go_simp; try with_reducible rfl)
            simp only [List.setIfInBounds_toArray, List.set_cons_zero, List.set_cons_succ]
            refine wpX_done (by kernel_rfl) (fun W2 hS => ?_) _
            obtain ⟨q0, q1, q2, q3, q4⟩ := Sn0u.out _ hS
            clear hS Sn0u Sn0m Sn0t
            clear Sn0
            have B := Lib.hid (And.intro q2 (And.intro q3 q4))
            clear q0 q1 q2 q3 q4
            by_cases hgl : gk < fk
            · have e := HC2.out (by omega) hgl
              subst e
              go_wp2
              go_ret
              exact ⟨rfl, B.out.2.2⟩
            · have HC := Lib.hid (HCK.out (by omega) (by omega))
              clear HC1 HC2 HCK
              go_wp2
              go_round
              case rel => exact ⟨k, by omega, val_int (by first | rfl | omega), HC, B⟩
              case measure => simp only [intOf]; omega
end Go.Proofs.Ytogghmmokifnnaa
