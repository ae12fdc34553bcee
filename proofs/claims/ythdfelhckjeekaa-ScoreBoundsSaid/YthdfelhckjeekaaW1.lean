/- Walk: score.Log. -/
import Derived.Test.YthdfelhckjeekaaChecked
import Derived.Test.YthdfelhckjeekaaRange
import Derived.Test.YthdfelhckjeekaaShelf
import Derived.Test.YthdfelhckjeekaaMath
namespace Go.Proofs.Ythdfelhckjeekaa
open Go.RowKit Go.Shelf
attribute [local go_sem] Oper.semAt_some

theorem squares_any (x : Int) (w : World) :
    Calls Try.prog 20 #[.int .u64 x] w fun e w' => e = .returned (.func (.func 23) #[] #[.pointer (some ⟨w.heap.size, 0, none⟩)]) ∧ w' = w.alloc (.cells #[.int .u64 x] 22) := by
  go_enter Try.func20, Try.ntmps20
  go_wp2
  go_ret
  exact ⟨rfl, rfl⟩

theorem norm_hi (n e : Nat) (h : 30 < e) : ((n : Int) / 2 ^ (e - 30)) = ((M.normE e n : Nat) : Int) := by
  unfold M.normE; rw [if_pos h]; simp
theorem norm_lo (n e : Nat) (h : ¬ 30 < e) (hu : n < 2 ^ (e + 1)) : IntKind.u64.wrap ((n : Int) * 1073741824) / 2 ^ e = ((M.normE e n : Nat) : Int) := by
  unfold M.normE; rw [if_neg h]
  have : 2 ^ (e + 1) ≤ 2 ^ 31 := Nat.pow_le_pow_right (by decide) (by omega)
  rw [IntKind.wrap_u64, show ((n : Int) * 1073741824 % 18446744073709551616) = ((n * 1073741824 : Nat) : Int) by omega]
  simp

theorem or_bit (o b : Nat) (ho : o < 256) (hb : b < 2) : bits .or .i64 ((o : Int) * 2) (b : Int) = ((2 * o + b : Nat) : Int) := by
  have h := (bits_nat .i64 10 (by decide) (fun n h0 h1 => by rw [IntKind.wrap_i64]; omega) (o * 2) b (by omega) (by omega)).2
  rw [show ((o : Int) * 2) = ((o * 2 : Nat) : Int) by omega, h]
  congr 1
  have := Nat.two_pow_add_eq_or_of_lt (b := b) (i := 1) (by omega) o
  rw [Nat.mul_comm o 2, show (2 : Nat) = 2 ^ 1 from rfl, ← this]

def sqAt (X k x o : Nat) : Prop := (M.sqr k X).1 = x ∧ (M.sqr k X).2 = o

set_option maxHeartbeats 4000000 in
theorem Log_pos (n : Nat) (h0 : 0 < n) (h1 : n < 18446744073709551616) (w : World) :
    Calls Try.prog 8 #[.int .u64 n] w fun e w' => e = .returned (.int .i64 (M.logN n)) ∧ Below w.heap.size w w' := by
  refine (callsIn_wide (n := 5)).1 ?_
  have hz : ((n : Int) == 0) = false := by simp; omega
  obtain ⟨e, he, hl, hu, h64⟩ := M.bitLen_spec n h1 h0
  have hx := M.normE_rng e n hl hu
  have hc := fun w => Try.bits_Len64 (n : Int) w (by omega) (by omega)
  rw [Int.toNat_natCast, he] at hc
  have hhi := norm_hi n e
  have hlo := norm_lo n e
  have hres : ((M.logN n : Nat) : Int) = (e : Int) * 256 + ((M.sqr 8 (M.normE e n)).2 : Nat) := by
    unfold M.logN M.expo
    rw [if_neg (by omega), he]
    simp
  generalize M.normE e n = X at *
  have HRES := Lib.hid hres
  have HC := Lib.hid hc
  have HHI := Lib.hid hhi
  have HLO := Lib.hid hlo
  clear he hc hhi hlo hres
  by_cases h30 : 30 < e
  all_goals
    refine callsIn_of_wp_marks Try.func8 rfl trivial ?_
    simp only [Try.ntmps8, List.size_toArray, List.length_cons, List.length_nil, Nat.reduceAdd, Nat.reduceSub, Array.replicate_succ, Array.replicate_zero, List.push_toArray, List.append_toArray, List.nil_append, List.cons_append]
    gi_wp2_with fail
    refine ⟨trivial, callsIn_wide.2 ((HC.out _).mono ?_)⟩
    rintro e w1 ⟨rfl, rfl⟩
    gi_wp2_with fail
    first | rw [HHI.out h30] | rw [HLO.out h30 hu]
    refine ⟨trivial, callsIn_wide.2 ((squares_any _ _).mono ?_)⟩
    rintro e w2 ⟨rfl, rfl⟩
    gi_wp2_with fail
    refine wpIn_range rfl (by decide) (gf := 23) (lb := #[.pointer (some ⟨w1.heap.size + 1, 0, none⟩)]) rfl trivial (enters_of Try.func23 (by kernel_rfl) rfl) ?_
    intro fn hfn W1 hb1 hz1 hD hL
    generalize hrec : recOf fn _ _ _ _ _ = rec at hL ⊢
    have HR := Lib.hid hrec
    clear hrec
    have ko := (Blk.new w1 #[.int .i64 0] 3).alloc (.cells #[.int .u64 X] 22)
    have kx := Blk.new (w1.alloc (.cells #[.int .i64 0] 3)) #[.int .u64 X] 22
    have ko1 := ko.grew hb1
    have kx1 := kx.grew hb1
    have g1 := grow (grow_alloc (grow_alloc (Below.refl _ w1) (.cells #[.int .i64 0] 3)) (.cells #[.int .u64 X] 22)) hb1
    simp only [World.size_alloc] at hD hL kx1 hz1 ⊢
    clear hb1 ko kx
    refine callsIn_of_wp Try.func23 rfl trivial ?_
    simp only [Try.ntmps23, List.size_toArray, List.length_cons, List.length_nil, Nat.reduceAdd, Nat.reduceSub, Array.replicate_succ, Array.replicate_zero, List.push_toArray, List.append_toArray, List.nil_append, List.cons_append]
    gi_wp2_with fail
    gi_loopw [4] (fun i wr => ∃ k x o : Nat, k ≤ 8 ∧ i = .int .i64 k ∧ Blk wr (w1.heap.size + 1) #[.int .u64 x] 22 ∧ Blk wr w1.heap.size #[.int .i64 o] 3 ∧
        wr.heap[w1.heap.size + 1 + 1]? = some (.deferred (some [])) ∧ wr.heap[w1.heap.size + 1 + 1 + 1]? = some (.loop (rec .ready none)) ∧
        Below w1.heap.size w1 wr ∧ sqAt X k x o) (fun i _ => 8 - (intOf i).toNat)
    case atStart => exact ⟨0, X, 0, by omega, rfl, kx1, ko1, hD, hL, g1, rfl, rfl⟩
    case round =>
      obtain ⟨k, x, o, hk, rfl, bx, bo, dD, dL, gB, S⟩ := hrel
      by_cases hlt : k < 8
      · have ht : decide ((k : Int) < 8) = true := by simp; omega
        have fx := bx.one
        have fo := bo.one
        obtain ⟨q, hq, hqb, hq0⟩ : ∃ q : Nat, IntKind.u64.wrap ((x : Int) * (x : Int)) = (q : Int) ∧ q ≤ 4611686018427387903 ∧ x * x = q := by
          have r := M.sqr_rng k X hx.1 hx.2
          rw [S.1] at r
          have := M.sq_lt x r.2.1
          exact ⟨x * x, by rw [IntKind.wrap_u64, ← Int.natCast_mul]; omega, by omega, rfl⟩
        have HQ := Lib.hid hq0
        clear hq0
        have hxr : 1073741824 ≤ x ∧ x < 2147483648 ∧ o < 256 := by
          have r := M.sqr_rng k X hx.1 hx.2
          rw [S.1, S.2] at r
          have : 2 ^ k ≤ 2 ^ 8 := Nat.pow_le_pow_right (by decide) (by omega)
          omega
        obtain ⟨x1, x2, x3⟩ := hxr
        have mo : M.bitOf x = q / 1073741824 / 2147483648 := by rw [← HQ.out]; rfl
        have mn : M.nextOf x = q / 1073741824 / 2 ^ M.bitOf x := by rw [← HQ.out]; rfl
        have hS : sqAt X (k + 1) (M.nextOf x) (2 * o + M.bitOf x) := by
          refine ⟨?_, ?_⟩ <;> simp only [M.sqr, S.1, S.2]
        have MO := Lib.hid mo
        have MN := Lib.hid mn
        clear mo mn
        have hbit := M.bitOf_le x x2
        rcases hbit with hbit | hbit
        · have hb1 : (q : Int) / 1073741824 / 2147483648 = 0 := by have := MO.out; omega
          have hy : (q : Int) / 1073741824 = ((M.nextOf x : Nat) : Int) := by have := MN.out; rw [hbit] at this; omega
          rw [hbit] at hS
          have HY := Lib.hid hy
          clear hbit hy
          gi_wp2_with fail
          refine upon_yield (by intro h; cases h) ?_
          rw [HY.out]
          have bx2 := (bx.set 0 (.int .u64 ((M.nextOf x : Nat) : Int))).set 0 (.int .u64 ((M.nextOf x : Nat) : Int))
          have bo2 := (bo.other (a := ⟨w1.heap.size + 1, 0, none⟩) (by simp) (.int .u64 ((M.nextOf x : Nat) : Int))).other (a := ⟨w1.heap.size + 1, 0, none⟩) (by simp) (.int .u64 ((M.nextOf x : Nat) : Int))
          have dD2 := heap_setCell (heap_setCell dD (b := w1.heap.size + 1) (by omega) 0 (.int .u64 ((M.nextOf x : Nat) : Int))) (b := w1.heap.size + 1) (by omega) 0 (.int .u64 ((M.nextOf x : Nat) : Int))
          have dL2 := heap_setCell (heap_setCell dL (b := w1.heap.size + 1) (by omega) 0 (.int .u64 ((M.nextOf x : Nat) : Int))) (b := w1.heap.size + 1) (by omega) 0 (.int .u64 ((M.nextOf x : Nat) : Int))
          have gB2 := (gB.setCell (p := ⟨w1.heap.size + 1, 0, none⟩) (by simp) (.int .u64 ((M.nextOf x : Nat) : Int))).setCell (p := ⟨w1.heap.size + 1, 0, none⟩) (by simp) (.int .u64 ((M.nextOf x : Nat) : Int))
          generalize (wr.setCell _ _).setCell _ _ = W2 at bx2 bo2 dD2 dL2 gB2 ⊢
          clear bx bo dD dL gB fx fo
          rw [← HR.out] at dL2
          refine yield_of trivial dL2 rfl ?_
          gi_wp2
          refine ⟨dL2, ?_⟩
          intro W3 hT
          have bx3 := bx2.turned dL2 hT
          have bo3 := bo2.turned dL2 hT
          have dD3 := (hT.same _ (by omega)).trans dD2
          have dL3 := hT.at_
          have gB3 := gB2.trans (hT.below (by omega))
          have fo := bo3.one
          clear bx2 bo2 dD2 dL2 gB2
          gi_wp2
          have dL4 := heap_setCell dL3 (b := w1.heap.size) (by omega) 0 (.int .i64 ((2 * o + 0 : Nat) : Int))
          have bx4 := bx3.other (a := ⟨w1.heap.size, 0, none⟩) (by simp) (.int .i64 ((2 * o + 0 : Nat) : Int))
          have bo4 := bo3.set 0 (.int .i64 ((2 * o + 0 : Nat) : Int))
          have dD4 := heap_setCell dD3 (b := w1.heap.size) (by omega) 0 (.int .i64 ((2 * o + 0 : Nat) : Int))
          have gB4 := gB3.setCell (p := ⟨w1.heap.size, 0, none⟩) (by simp) (.int .i64 ((2 * o + 0 : Nat) : Int))
          have hob : bits .or .i64 ((o : Int) * 2) 0 = ((2 * o + 0 : Nat) : Int) := or_bit o 0 x3 (by omega)
          rw [hob]
          refine ⟨dL4, ?_⟩
          intro W5 hT5
          have bx5 := bx4.turned dL4 hT5
          have bo5 := bo4.turned dL4 hT5
          have dD5 := (hT5.same _ (by omega)).trans dD4
          have dL5 := hT5.at_
          have gB5 := gB4.trans (hT5.below (by omega))
          rw [HR.out] at dL5
          clear bx3 bo3 dD3 dL3 gB3 fo bx4 bo4 dD4 dL4 gB4 hT hT5
          gi_wp2
          go_roundw
          case rel => exact ⟨k + 1, M.nextOf x, 2 * o + 0, by omega, by go_num, bx5, bo5, dD5, dL5, gB5, hS⟩
          case measure => simp [intOf]; omega
        · have hb1 : (q : Int) / 1073741824 / 2147483648 = 1 := by have := MO.out; omega
          have hy : (q : Int) / 1073741824 / 2 = ((M.nextOf x : Nat) : Int) := by have := MN.out; rw [hbit] at this; omega
          rw [hbit] at hS
          have HY := Lib.hid hy
          clear hbit hy
          gi_wp2_with fail
          refine upon_yield (by intro h; cases h) ?_
          rw [HY.out]
          have bx2 := (bx.set 0 (.int .u64 ((q : Int) / 1073741824))).set 0 (.int .u64 ((M.nextOf x : Nat) : Int))
          have bo2 := (bo.other (a := ⟨w1.heap.size + 1, 0, none⟩) (by simp) (.int .u64 ((q : Int) / 1073741824))).other (a := ⟨w1.heap.size + 1, 0, none⟩) (by simp) (.int .u64 ((M.nextOf x : Nat) : Int))
          have dD2 := heap_setCell (heap_setCell dD (b := w1.heap.size + 1) (by omega) 0 (.int .u64 ((q : Int) / 1073741824))) (b := w1.heap.size + 1) (by omega) 0 (.int .u64 ((M.nextOf x : Nat) : Int))
          have dL2 := heap_setCell (heap_setCell dL (b := w1.heap.size + 1) (by omega) 0 (.int .u64 ((q : Int) / 1073741824))) (b := w1.heap.size + 1) (by omega) 0 (.int .u64 ((M.nextOf x : Nat) : Int))
          have gB2 := (gB.setCell (p := ⟨w1.heap.size + 1, 0, none⟩) (by simp) (.int .u64 ((q : Int) / 1073741824))).setCell (p := ⟨w1.heap.size + 1, 0, none⟩) (by simp) (.int .u64 ((M.nextOf x : Nat) : Int))
          generalize (wr.setCell _ _).setCell _ _ = W2 at bx2 bo2 dD2 dL2 gB2 ⊢
          clear bx bo dD dL gB fx fo
          rw [← HR.out] at dL2
          refine yield_of trivial dL2 rfl ?_
          gi_wp2
          refine ⟨dL2, ?_⟩
          intro W3 hT
          have bx3 := bx2.turned dL2 hT
          have bo3 := bo2.turned dL2 hT
          have dD3 := (hT.same _ (by omega)).trans dD2
          have dL3 := hT.at_
          have gB3 := gB2.trans (hT.below (by omega))
          have fo := bo3.one
          clear bx2 bo2 dD2 dL2 gB2
          gi_wp2
          have dL4 := heap_setCell dL3 (b := w1.heap.size) (by omega) 0 (.int .i64 ((2 * o + 1 : Nat) : Int))
          have bx4 := bx3.other (a := ⟨w1.heap.size, 0, none⟩) (by simp) (.int .i64 ((2 * o + 1 : Nat) : Int))
          have bo4 := bo3.set 0 (.int .i64 ((2 * o + 1 : Nat) : Int))
          have dD4 := heap_setCell dD3 (b := w1.heap.size) (by omega) 0 (.int .i64 ((2 * o + 1 : Nat) : Int))
          have gB4 := gB3.setCell (p := ⟨w1.heap.size, 0, none⟩) (by simp) (.int .i64 ((2 * o + 1 : Nat) : Int))
          have hob : bits .or .i64 ((o : Int) * 2) 1 = ((2 * o + 1 : Nat) : Int) := or_bit o 1 x3 (by omega)
          rw [hob]
          refine ⟨dL4, ?_⟩
          intro W5 hT5
          have bx5 := bx4.turned dL4 hT5
          have bo5 := bo4.turned dL4 hT5
          have dD5 := (hT5.same _ (by omega)).trans dD4
          have dL5 := hT5.at_
          have gB5 := gB4.trans (hT5.below (by omega))
          rw [HR.out] at dL5
          clear bx3 bo3 dD3 dL3 gB3 fo bx4 bo4 dD4 dL4 gB4 hT hT5
          gi_wp2
          go_roundw
          case rel => exact ⟨k + 1, M.nextOf x, 2 * o + 1, by omega, by go_num, bx5, bo5, dD5, dL5, gB5, hS⟩
          case measure => simp [intOf]; omega
      · obtain rfl : k = 8 := by omega
        have hS2 := S.2
        have ho8 : o < 256 := by
          have r := M.sqr_rng 8 X hx.1 hx.2
          rw [S.2] at r
          exact r.2.2
        have HS := Lib.hid hS2
        clear hS2 bx kx1 ko1 hD hL
        gi_wp2
        go_end0
        refine ⟨⟨_, rfl⟩, Or.inl ⟨dL, ?_⟩⟩
        intro W3 hT
        have bo3 := bo.turned dL hT
        have dD3 := (hT.same _ (by omega)).trans dD
        have gB3 := gB.trans (hT.below (by omega))
        have fo := bo3.one
        clear bo dD dL gB hT
        gi_wp2
        refine ⟨by simp, .inl ⟨_, _, rfl, run_takeDeferred dD3, ?_⟩⟩
        refine ⟨.int .i64 ((e : Int) * 256 + (o : Int)), results_tmp (t := 2) rfl _ _ _, ret_int ?_, gB3.trans ((Turned.put _ dD3).below (by omega))⟩
        rw [HRES.out, HS.out]

theorem Log_any (n : Nat) (h1 : n < 18446744073709551616) (w : World) :
    Calls Try.prog 8 #[.int .u64 n] w fun e w' => e = .returned (.int .i64 (M.logN n)) ∧ Below w.heap.size w w' := by
  by_cases h0 : n = 0
  · subst h0
    go_enter Try.func8, Try.ntmps8
    go_wp2
    go_ret
    exact ⟨rfl, Below.refl _ _⟩
  · exact Log_pos n (by omega) h1 w

end Go.Proofs.Ythdfelhckjeekaa
