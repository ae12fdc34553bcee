/- Walks: the reference's Mul. -/
import Derived.Test.YtogghmmokifnnaaW12
namespace Go.Proofs.Ytogghmmokifnnaa
open Go.RowKit

def mulZ (a b : Nat → Int) : Nat → Int
  | 0 => 0
  | i + 1 => mulZ a b i + a i * 65536 ^ i * sumZ b (8 - i)
def updZ (g : Nat → Int) (t : Nat) (s : Int) (j : Nat) : Int := if j = t then s else g j
theorem sum_upd (g : Nat → Int) (t : Nat) (s : Int) : ∀ n, sumZ (updZ g t s) n = sumZ g n + (if t < n then (s - g t) * 65536 ^ t else 0)
  | 0 => rfl
  | n + 1 => by
    show sumZ (updZ g t s) n + updZ g t s n * 65536 ^ n = _
    rw [sum_upd g t s n]
    unfold updZ
    by_cases h : n = t
    · subst h
      rw [if_pos rfl, if_neg (by omega), if_pos (by omega), Int.sub_mul]
      show _ = sumZ g n + g n * 65536 ^ n + _
      omega
    · rw [if_neg h]
      show _ = sumZ g n + g n * 65536 ^ n + _
      by_cases hlt : t < n
      · rw [if_pos hlt, if_pos (by omega)]; omega
      · rw [if_neg hlt, if_neg (by omega)]; omega

set_option maxRecDepth 20000 in
set_option maxHeartbeats 8000000 in
theorem refMul_any (a b : Nat → Int) (ha : ∀ j, j < 8 → 0 ≤ a j ∧ a j ≤ 65535) (hb : ∀ j, j < 8 → 0 ≤ b j ∧ b j ≤ 65535) (w : World) :
    Calls Try.prog 18 #[.agg (rowC a), .agg (rowC b)] w fun e w' => e = .returned (.agg (rowC (figZ (mulZ a b 8)))) ∧ Below w.heap.size w w' := by
  obtain ⟨w0, hw0, p0, p1, p2, g0, z0⟩ := boxes3 w (rowC a) (rowC b) #[.int .i64 0, .int .i64 0, .int .i64 0, .int .i64 0, .int .i64 0, .int .i64 0, .int .i64 0, .int .i64 0] 32 32 32
  have hR : Blk (w0.alloc (.cells (rowC fun _ => 0) 31)) w0.heap.size (rowC fun _ => 0) 31 := Blk.new w0 _ 31
  have lR0 : w.heap.size + 1 + 1 < w0.heap.size := p2.lt
  have B0 := Lib.hid (And.intro hR (And.intro (p2.alloc (.cells (rowC fun _ => 0) 31)) (And.intro (p0.alloc (.cells (rowC fun _ => 0) 31)) (And.intro (p1.alloc (.cells (rowC fun _ => 0) 31)) (grow_alloc g0 (.cells (rowC fun _ => 0) 31))))))
  obtain ⟨R, hRR⟩ : ∃ R, R = w0.heap.size := ⟨_, rfl⟩
  have HA := Lib.hid ha
  have HB := Lib.hid hb
  rw [rowC_eq a, rowC_eq b] at hw0
  clear p0 p1 p2 g0 z0 hR ha hb
  rw [rowC_eq a, rowC_eq b]
  go_enter Try.func18, Try.ntmps18
  go_wp2
  (try rw [← hRR])
  rw [← hRR] at B0 lR0
  have LR := Lib.hid lR0
  clear lR0
  go_loopw [6] (fun i wr => ∃ (k : Nat) (g : Nat → Int), k ≤ 8 ∧ i = .int .i64 k ∧ Hid (sumZ g 8 = mulZ a b k) ∧ Hid (∀ j, j < 8 → 0 ≤ g j ∧ g j ≤ 4294967296 * (8 * k)) ∧ Hid (Blk wr R (rowC g) 31 ∧ Blk wr (w.heap.size + 1 + 1) #[.int .i64 0, .int .i64 0, .int .i64 0, .int .i64 0, .int .i64 0, .int .i64 0, .int .i64 0, .int .i64 0] 32 ∧ Blk wr w.heap.size (rowC a) 32 ∧ Blk wr (w.heap.size + 1) (rowC b) 32 ∧ Below w.heap.size w wr)) (fun i _ => 8 - (intOf i).toNat)
  case atStart => exact ⟨0, fun _ => 0, by omega, rfl, Lib.hid rfl, Lib.hid (fun j _ => ⟨Int.le_refl _, by show (0 : Int) ≤ _; omega⟩), B0⟩
  case round =>
    obtain ⟨i, g, hi, rfl, HG, HB0, B⟩ := hrel
    clear B0 hRR hw0
    by_cases hlt : i < 8
    · go_wp2
      go_loopw [7] (fun v wr => ∃ (k : Nat) (g : Nat → Int), k ≤ 8 - i ∧ v = .int .i64 k ∧ Hid (sumZ g 8 = mulZ a b i + a i * 65536 ^ i * sumZ b k) ∧ Hid (∀ j, j < 8 → 0 ≤ g j ∧ g j ≤ 4294967296 * (8 * i + k)) ∧ Hid (Blk wr R (rowC g) 31 ∧ Blk wr (w.heap.size + 1 + 1) #[.int .i64 0, .int .i64 0, .int .i64 0, .int .i64 0, .int .i64 0, .int .i64 0, .int .i64 0, .int .i64 0] 32 ∧ Blk wr w.heap.size (rowC a) 32 ∧ Blk wr (w.heap.size + 1) (rowC b) 32 ∧ Below w.heap.size w wr)) (fun v _ => 8 - (intOf v).toNat)
      case atStart => exact ⟨0, g, by omega, rfl, Lib.hid (by show _ = _ + _ * (0 : Int); rw [Int.mul_zero, Int.add_zero]; exact HG.out), Lib.hid (fun j hj => by have := HB0.out j hj; omega), B⟩
      case round =>
        obtain ⟨k, g, hk, rfl, HG, HB0, B⟩ := hrel
        by_cases hkl : k < 8 - i
        · have hkl' : (k : Int) < 8 - (i : Int) := by omega
          have hk8 : k < 8 := by omega
          obtain ⟨t, ht⟩ : ∃ t, i + k = t := ⟨_, rfl⟩
          have ht8 : t < 8 := by omega
          have hix : (i : Int) + (k : Int) = (t : Int) := by omega
          have hwt : IntKind.i64.wrap (t : Int) = (t : Int) := by rw [IntKind.wrap_i64]; omega
          have ht8i : (t : Int) < 8 := by omega
          have hk8i : (k : Int) < 8 := by omega
          have hlti : (i : Int) < 8 := by omega
          have ca := (B.out.2.2.1.at i (rowC_get a i hlt)).1
          have cb := (B.out.2.2.2.1.at k (rowC_get b k hk8)).1
          have cg := B.out.1.at t (rowC_get g t ht8)
          obtain ⟨a0, a1⟩ := HA.out i hlt
          obtain ⟨b0, b1⟩ := HB.out k hk8
          obtain ⟨g0, g1⟩ := HB0.out t ht8
          have hp0 : 0 ≤ a i * b k := Int.mul_nonneg a0 b0
          have hp1 : a i * b k ≤ 65535 * 65535 := Int.mul_le_mul a1 b1 b0 (by decide)
          have hsum : sumZ (updZ g t (g t + a i * b k)) 8 = mulZ a b i + a i * 65536 ^ i * sumZ b (k + 1) := by
            rw [sum_upd, if_pos ht8, HG.out, ← ht, Int.pow_add, Int.add_comm (g (i + k)), Int.add_sub_cancel]
            show _ = _ + _ * (sumZ b k + b k * 65536 ^ k)
            rw [Int.mul_add, ← Int.add_assoc]
            congr 1
            ac_rfl
          have hbd : ∀ j, j < 8 → 0 ≤ updZ g t (g t + a i * b k) j ∧ updZ g t (g t + a i * b k) j ≤ 4294967296 * (8 * i + (k + 1 : Nat)) := fun j hj => by
            have := HB0.out j hj
            unfold updZ
            split <;> omega
          have hrow : (rowC g).setIfInBounds t (.int .i64 (g t + a i * b k)) = rowC (updZ g t (g t + a i * b k)) := rowC_put _ _ _ _ fun j _ => rfl
          have HSUM := Lib.hid hsum
          have HBD := Lib.hid hbd
          generalize hpp : a i * b k = p at *
          generalize hss : g t + p = s at *
          have hw1 : IntKind.i64.wrap p = p := by rw [IntKind.wrap_i64]; omega
          have hw2 : IntKind.i64.wrap s = s := by rw [IntKind.wrap_i64]; omega
          have hgt := rowC_get g t ht8
          generalize g t = gt at *
          generalize a i = ai at *
          generalize b k = bk at *
          have HROW := Lib.hid hrow
          have HGT := Lib.hid hgt
          have HC := Lib.hid (And.intro cg.1 (And.intro ca cb))
          clear hsum hbd a0 a1 b0 b1 g0 g1 hp0 hp1 ht hrow hgt ca cb cg HG HB0
          go_wp2_with fail
          obtain ⟨Sm0, Sm0d⟩ : ∃ S : World → Prop, S = fun v : World => v.cell? ⟨R, t, none⟩ = some (.int .i64 gt) ∧ v.cell? ⟨w.heap.size, i, none⟩ = some (.int .i64 ai) ∧ v.cell? ⟨(w.heap.size + 1), k, none⟩ = some (.int .i64 bk) ∧ Blk v R (rowC g) 31 ∧ Blk v (w.heap.size + 1 + 1) #[.int .i64 0, .int .i64 0, .int .i64 0, .int .i64 0, .int .i64 0, .int .i64 0, .int .i64 0, .int .i64 0] 32 ∧ Blk v w.heap.size (rowC a) 32 ∧ Blk v (w.heap.size + 1) (rowC b) 32 ∧ Below w.heap.size w v := ⟨_, rfl⟩
          have Sm0t0 : Stands Sm0 := by rw [Sm0d]; exact ((stands_cell _ _).and ((stands_cell _ _).and ((stands_cell _ _).and ((stands_blk _ _ _).and ((stands_blk _ _ _).and ((stands_blk _ _ _).and ((stands_blk _ _ _).and (stands_below _))))))))
          have Sm0u0 : ∀ v, Sm0 v → v.cell? ⟨R, t, none⟩ = some (.int .i64 gt) ∧ v.cell? ⟨w.heap.size, i, none⟩ = some (.int .i64 ai) ∧ v.cell? ⟨(w.heap.size + 1), k, none⟩ = some (.int .i64 bk) ∧ Blk v R (rowC g) 31 ∧ Blk v (w.heap.size + 1 + 1) #[.int .i64 0, .int .i64 0, .int .i64 0, .int .i64 0, .int .i64 0, .int .i64 0, .int .i64 0, .int .i64 0] 32 ∧ Blk v w.heap.size (rowC a) 32 ∧ Blk v (w.heap.size + 1) (rowC b) 32 ∧ Below w.heap.size w v := fun v h => by rw [Sm0d] at h; exact h
          have Sm0m0 : ∀ v, (v.cell? ⟨R, t, none⟩ = some (.int .i64 gt) ∧ v.cell? ⟨w.heap.size, i, none⟩ = some (.int .i64 ai) ∧ v.cell? ⟨(w.heap.size + 1), k, none⟩ = some (.int .i64 bk) ∧ Blk v R (rowC g) 31 ∧ Blk v (w.heap.size + 1 + 1) #[.int .i64 0, .int .i64 0, .int .i64 0, .int .i64 0, .int .i64 0, .int .i64 0, .int .i64 0, .int .i64 0] 32 ∧ Blk v w.heap.size (rowC a) 32 ∧ Blk v (w.heap.size + 1) (rowC b) 32 ∧ Below w.heap.size w v) → Sm0 v := fun v h => by rw [Sm0d]; exact h
          have Sm0u := Lib.hid Sm0u0
          have Sm0m := Lib.hid Sm0m0
          have Sm0t := Lib.hid Sm0t0
          clear Sm0d Sm0u0 Sm0m0 Sm0t0
          refine wp_region_X (S := Sm0) (by kernel_rfl) (Sm0m.out _ ⟨HC.out.1, HC.out.2.1, HC.out.2.2, B.out.1.drew, B.out.2.1.drew, B.out.2.2.1.drew, B.out.2.2.2.1.drew, B.out.2.2.2.2.drew⟩) ?_
          clear B HC
          refine wpX_take (i := 0) (v := ?_) Sm0t.out rfl rfl (by kernel_rfl) (by kernel_rfl) (by kernel_rfl) (fun _ _ _ h => h) (SteadyX.value (by rfl) ?_) ?_
          rotate_left
          · (intro w_ hS; go_simp; try with_reducible rfl)
          simp only [List.setIfInBounds_toArray, List.set_cons_zero, List.set_cons_succ]
          refine wpX_take (i := 1) (v := ?_) Sm0t.out rfl rfl (by kernel_rfl) (by kernel_rfl) (by kernel_rfl) (fun _ _ _ h => h) (SteadyX.value (by rfl) ?_) ?_
          rotate_left
          · (intro w_ hS; go_simp; try with_reducible rfl)
          simp only [List.setIfInBounds_toArray, List.set_cons_zero, List.set_cons_succ]
          refine wpX_take (i := 2) (v := ?_) Sm0t.out rfl rfl (by kernel_rfl) (by kernel_rfl) (by kernel_rfl) (fun _ _ _ h => h) (SteadyX.value (by rfl) ?_) ?_
          rotate_left
          · (intro w_ hS; go_simp; try with_reducible rfl)
          simp only [List.setIfInBounds_toArray, List.set_cons_zero, List.set_cons_succ]
          refine wpX_take (i := 3) (v := ?_) Sm0t.out rfl rfl (by kernel_rfl) (by kernel_rfl) (by kernel_rfl) (fun _ _ _ h => h) (SteadyX.value (by rfl) ?_) ?_
          rotate_left
          · (intro w_ hS; go_simp; try with_reducible rfl)
          simp only [List.setIfInBounds_toArray, List.set_cons_zero, List.set_cons_succ]
          refine wpX_take (i := 4) (v := ?_) Sm0t.out rfl rfl (by kernel_rfl) (by kernel_rfl) (by kernel_rfl) (fun _ _ _ h => h) (SteadyX.value (by rfl) ?_) ?_
          rotate_left
          · (intro w_ hS; obtain ⟨q0, q1, q2, q3, q4, q5, q6, q7⟩ := Sm0u.out _ hS; (clear q3); (clear q4); (clear q5); (clear q6); (clear q7); go_simp; try with_reducible rfl)
          simp only [List.setIfInBounds_toArray, List.set_cons_zero, List.set_cons_succ]
          refine wpX_take (i := 5) (v := ?_) Sm0t.out rfl rfl (by kernel_rfl) (by kernel_rfl) (by kernel_rfl) (fun _ _ _ h => h) (SteadyX.value (by rfl) ?_) ?_
          rotate_left
          · (intro w_ hS; go_simp; try with_reducible rfl)
          simp only [List.setIfInBounds_toArray, List.set_cons_zero, List.set_cons_succ]
          refine wpX_take (i := 6) (v := ?_) Sm0t.out rfl rfl (by kernel_rfl) (by kernel_rfl) (by kernel_rfl) (fun _ _ _ h => h) (SteadyX.value (by rfl) ?_) ?_
          rotate_left
          · (intro w_ hS; go_simp; try with_reducible rfl)
          simp only [List.setIfInBounds_toArray, List.set_cons_zero, List.set_cons_succ]
          refine wpX_take (i := 7) (v := ?_) Sm0t.out rfl rfl (by kernel_rfl) (by kernel_rfl) (by kernel_rfl) (fun _ _ _ h => h) (SteadyX.value (by rfl) ?_) ?_
          rotate_left
          · (intro w_ hS; obtain ⟨q0, q1, q2, q3, q4, q5, q6, q7⟩ := Sm0u.out _ hS; (clear q3); (clear q4); (clear q5); (clear q6); (clear q7); go_simp; try with_reducible rfl)
          simp only [List.setIfInBounds_toArray, List.set_cons_zero, List.set_cons_succ]
          refine wpX_take (i := 8) (v := ?_) Sm0t.out rfl rfl (by kernel_rfl) (by kernel_rfl) (by kernel_rfl) (fun _ _ _ h => h) (SteadyX.value (by rfl) ?_) ?_
          rotate_left
          · (intro w_ hS; go_simp; try with_reducible rfl)
          simp only [List.setIfInBounds_toArray, List.set_cons_zero, List.set_cons_succ]
          refine wpX_take (i := 9) (v := ?_) Sm0t.out rfl rfl (by kernel_rfl) (by kernel_rfl) (by kernel_rfl) (fun _ _ _ h => h) (SteadyX.value (by rfl) ?_) ?_
          rotate_left
          · (intro w_ hS; go_simp; try with_reducible rfl)
          simp only [List.setIfInBounds_toArray, List.set_cons_zero, List.set_cons_succ]
          refine wpX_take (i := 10) (v := ?_) Sm0t.out rfl rfl (by kernel_rfl) (by kernel_rfl) (by kernel_rfl) (fun _ _ _ h => h) (SteadyX.value (by rfl) ?_) ?_
          rotate_left
          · (intro w_ hS; obtain ⟨q0, q1, q2, q3, q4, q5, q6, q7⟩ := Sm0u.out _ hS; (clear q3); (clear q4); (clear q5); (clear q6); (clear q7); go_simp; try with_reducible rfl)
          simp only [List.setIfInBounds_toArray, List.set_cons_zero, List.set_cons_succ]
          refine wpX_take (i := 11) (v := ?_) Sm0t.out rfl rfl (by kernel_rfl) (by kernel_rfl) (by kernel_rfl) (fun _ _ _ h => h) (SteadyX.value (by rfl) ?_) ?_
          rotate_left
          · (intro w_ hS; go_simp; try with_reducible rfl)
          simp only [List.setIfInBounds_toArray, List.set_cons_zero, List.set_cons_succ]
          refine wpX_take (i := 12) (v := ?_) Sm0t.out rfl rfl (by kernel_rfl) (by kernel_rfl) (by kernel_rfl) (fun _ _ _ h => h) (SteadyX.value (by rfl) ?_) ?_
          rotate_left
          · (intro w_ hS; go_simp; try with_reducible rfl)
          simp only [List.setIfInBounds_toArray, List.set_cons_zero, List.set_cons_succ]
          refine wpX_take (i := 13) (v := ?_) Sm0t.out rfl rfl (by kernel_rfl) (by kernel_rfl) (by kernel_rfl) (fun _ _ _ h => h) (SteadyX.value (by rfl) ?_) ?_
          rotate_left
          · (intro w_ hS; go_simp; try with_reducible rfl)
          simp only [List.setIfInBounds_toArray, List.set_cons_zero, List.set_cons_succ]
          have lR : w.heap.size + 1 + 1 < R := LR.out
          refine wpX_one (i := 14) (by kernel_rfl) (fun w_ hS => ?_)
          obtain ⟨q0, q1, q2, q3, q4, q5, q6, q7⟩ := Sm0u.out _ hS
          obtain ⟨Sm1, Sm1d⟩ : ∃ S : World → Prop, S = fun v : World => Blk v R (rowC (updZ g t s)) 31 ∧ Blk v (w.heap.size + 1 + 1) #[.int .i64 0, .int .i64 0, .int .i64 0, .int .i64 0, .int .i64 0, .int .i64 0, .int .i64 0, .int .i64 0] 32 ∧ Blk v w.heap.size (rowC a) 32 ∧ Blk v (w.heap.size + 1) (rowC b) 32 ∧ Below w.heap.size w v := ⟨_, rfl⟩
          have Sm1t0 : Stands Sm1 := by rw [Sm1d]; exact ((stands_blk _ _ _).and ((stands_blk _ _ _).and ((stands_blk _ _ _).and ((stands_blk _ _ _).and (stands_below _)))))
          have Sm1u0 : ∀ v, Sm1 v → Blk v R (rowC (updZ g t s)) 31 ∧ Blk v (w.heap.size + 1 + 1) #[.int .i64 0, .int .i64 0, .int .i64 0, .int .i64 0, .int .i64 0, .int .i64 0, .int .i64 0, .int .i64 0] 32 ∧ Blk v w.heap.size (rowC a) 32 ∧ Blk v (w.heap.size + 1) (rowC b) 32 ∧ Below w.heap.size w v := fun v h => by rw [Sm1d] at h; exact h
          have Sm1m0 : ∀ v, (Blk v R (rowC (updZ g t s)) 31 ∧ Blk v (w.heap.size + 1 + 1) #[.int .i64 0, .int .i64 0, .int .i64 0, .int .i64 0, .int .i64 0, .int .i64 0, .int .i64 0, .int .i64 0] 32 ∧ Blk v w.heap.size (rowC a) 32 ∧ Blk v (w.heap.size + 1) (rowC b) 32 ∧ Below w.heap.size w v) → Sm1 v := fun v h => by rw [Sm1d]; exact h
          have Sm1u := Lib.hid Sm1u0
          have Sm1m := Lib.hid Sm1m0
          have Sm1t := Lib.hid Sm1t0
          clear Sm1d Sm1u0 Sm1m0 Sm1t0
          have st_ : Sm1 (w_.setCell ⟨R, t, none⟩ (.int .i64 s)) := Sm1m.out _ ⟨(by have h := q3.set t (.int .i64 s); rw [HROW.out] at h; exact h), q4.other (a := ⟨R, t, none⟩) (by show (w.heap.size + 1 + 1) ≠ R; omega) _, q5.other (a := ⟨R, t, none⟩) (by show w.heap.size ≠ R; omega) _, q6.other (a := ⟨R, t, none⟩) (by show (w.heap.size + 1) ≠ R; omega) _, q7.setCell (p := ⟨R, t, none⟩) (by show w.heap.size ≤ R; omega) _⟩
          have cv_ := q3.at t HGT.out
          refine wpX_store (i := 14) (w' := (w_.setCell ⟨R, t, none⟩ (.int .i64 s))) Sm1 rfl rfl (by rfl) (by go_simp) Sm1t.out (.inl (by kernel_rfl)) st_ ?_
          clear cv_ hS st_ q0 q1 q2 q3 q4 q5 q6 q7
          clear w_
          refine wpX_done (by kernel_rfl) (fun W hS => ?_) _
          obtain ⟨q0, q1, q2, q3, q4⟩ := Sm1u.out _ hS
          clear hS Sm0u Sm0m Sm0t Sm1u Sm1m Sm1t
          clear Sm0 Sm1
          have B2 := Lib.hid (And.intro q0 (And.intro q1 (And.intro q2 (And.intro q3 q4))))
          clear q0 q1 q2 q3 q4
          go_wp2
          go_round
          case rel => exact ⟨k + 1, updZ g t s, by omega, val_int rfl, HSUM, HBD, B2⟩
          case measure => simp only [intOf]; omega
        · have hke : k = 8 - i := by omega
          have hkn : ¬ (k : Int) < 8 - (i : Int) := by omega
          have hsum : sumZ g 8 = mulZ a b (i + 1) := by rw [HG.out, hke]; rfl
          have HSUM := Lib.hid hsum
          have HBD : Hid (∀ j, j < 8 → 0 ≤ g j ∧ g j ≤ 4294967296 * (8 * ((i + 1 : Nat) : Int))) := Lib.hid (fun j hj => by have := HB0.out j hj; omega)
          clear hsum hke HG HB0
          go_wp2
          exact ⟨⟨i + 1, g, by omega, val_int rfl, HSUM, HBD, B⟩, by simp only [intOf]; omega⟩
    · have hi8 : i = 8 := by omega
      subst hi8
      have kc := carry_any g (fun j hj => by have := HB0.out j hj; omega)
      rw [HG.out, rowC_eq g] at kc
      have KC := Lib.hid kc
      have c8 := B.out.1.eight
      clear kc HG HB0 HA HB
      go_wp2_with fail
      refine (KC.out _).mono ?_
      rintro e w1 ⟨rfl, hb⟩
      have hB := And.intro (B.out.2.1.grew hb) (grow B.out.2.2.2.2 hb)
      clear hb c8 B
      generalize hf : figZ (mulZ a b 8) = f at *
      rw [rowC_eq f]
      have c1 := hB.1.eight
      have r2 := ((((((((hB.1.set 0 (.int .i64 (f 0))).set 1 (.int .i64 (f 1))).set 2 (.int .i64 (f 2))).set 3 (.int .i64 (f 3))).set 4 (.int .i64 (f 4))).set 5 (.int .i64 (f 5))).set 6 (.int .i64 (f 6))).set 7 (.int .i64 (f 7))).eight
      have HG := Lib.hid hB.2
      clear hB
      go_wp2
      refine bodyPost_ret (v := .agg (rowC f)) ?_ rfl ⟨by first | rfl | rw [hf], ?_⟩
      · rw [rowC_eq]
        simp [results, Try.results18, go_sem, r2]
      · exact ((((((((HG.out.setCell (by show w.heap.size ≤ (w.heap.size + 1 + 1); omega) _).setCell (by show w.heap.size ≤ (w.heap.size + 1 + 1); omega) _).setCell (by show w.heap.size ≤ (w.heap.size + 1 + 1); omega) _).setCell (by show w.heap.size ≤ (w.heap.size + 1 + 1); omega) _).setCell (by show w.heap.size ≤ (w.heap.size + 1 + 1); omega) _).setCell (by show w.heap.size ≤ (w.heap.size + 1 + 1); omega) _).setCell (by show w.heap.size ≤ (w.heap.size + 1 + 1); omega) _).setCell (by show w.heap.size ≤ (w.heap.size + 1 + 1); omega) _)
end Go.Proofs.Ytogghmmokifnnaa
