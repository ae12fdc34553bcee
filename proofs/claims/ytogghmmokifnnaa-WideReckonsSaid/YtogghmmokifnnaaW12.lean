/- Walks: the reference's carry; row. -/
import Derived.Test.YtogghmmokifnnaaW11
namespace Go.Proofs.Ytogghmmokifnnaa
open Go.RowKit

/-- What so many figures, each with its place's weight, are together. -/
def sumZ (f : Nat → Int) : Nat → Int
  | 0 => 0
  | k + 1 => sumZ f k + f k * 65536 ^ k
theorem fig_more (a c : Int) (k : Nat) : figZ (a + c * 65536 ^ (k + 1)) k = figZ a k := by
  unfold figZ
  have hp : (65536 : Int) ^ k ≠ 0 := Int.ne_of_gt (Int.pow_pos (by decide))
  rw [Int.pow_succ, Int.mul_comm ((65536 : Int) ^ k) 65536, ← Int.mul_assoc, Int.add_mul_ediv_right _ _ hp, Int.add_mul_emod_self_right]
theorem sum_fig (f : Nat → Int) (j : Nat) : ∀ d, figZ (sumZ f (j + 1 + d)) j = figZ (sumZ f (j + 1)) j
  | 0 => rfl
  | d + 1 => by
    have e : sumZ f (j + 1 + (d + 1)) = sumZ f (j + 1 + d) + (f (j + 1 + d) * 65536 ^ d) * 65536 ^ (j + 1) := by
      show sumZ f (j + 1 + d) + f (j + 1 + d) * 65536 ^ (j + 1 + d) = _
      rw [Int.mul_assoc, ← Int.pow_add, Nat.add_comm d (j + 1)]
    rw [e, fig_more]
    exact sum_fig f j d
theorem carry_step (f : Nat → Int) (k : Nat) : (f k + sumZ f k / 65536 ^ k) % 65536 = figZ (sumZ f (k + 1)) k ∧ (f k + sumZ f k / 65536 ^ k) / 65536 = sumZ f (k + 1) / 65536 ^ (k + 1) := by
  have hp : (65536 : Int) ^ k ≠ 0 := Int.ne_of_gt (Int.pow_pos (by decide))
  have e : (sumZ f k + f k * 65536 ^ k) / 65536 ^ k = f k + sumZ f k / 65536 ^ k := by
    rw [Int.add_mul_ediv_right _ _ hp, Int.add_comm]
  constructor
  · show _ = (sumZ f k + f k * 65536 ^ k) / 65536 ^ k % 65536
    rw [e]
  · rw [← fig_next]
    show _ = (sumZ f k + f k * 65536 ^ k) / 65536 ^ k / 65536
    rw [e]

def carTo (f : Nat → Int) (k j : Nat) : Int := if j < k then figZ (sumZ f (j + 1)) j else 0

set_option maxRecDepth 20000 in
set_option maxHeartbeats 4000000 in
theorem carry_any (f : Nat → Int) (hf : ∀ j, j < 8 → -1099511627776 ≤ f j ∧ f j ≤ 1099511627776) (w : World) :
    Calls Try.prog 34 #[.agg (rowC f)] w fun e w' => e = .returned (.agg (rowC (figZ (sumZ f 8)))) ∧ Below w.heap.size w w' := by
  obtain ⟨w0, hw0, p0, p1, g0, z0⟩ := boxes2 w (rowC f) #[.int .i64 0, .int .i64 0, .int .i64 0, .int .i64 0, .int .i64 0, .int .i64 0, .int .i64 0, .int .i64 0] 31 32
  have hR : Blk (w0.alloc (.cells (rowC fun _ => 0) 32)) w0.heap.size (rowC fun _ => 0) 32 := Blk.new w0 _ 32
  have lR0 : w.heap.size + 1 < w0.heap.size := p1.lt
  have B0 := Lib.hid (And.intro hR (And.intro (p1.alloc (.cells (rowC fun _ => 0) 32)) (And.intro (p0.alloc (.cells (rowC fun _ => 0) 32)) (grow_alloc g0 (.cells (rowC fun _ => 0) 32)))))
  obtain ⟨R, hRR⟩ : ∃ R, R = w0.heap.size := ⟨_, rfl⟩
  have HF := Lib.hid hf
  have HW0 : Hid ((w.alloc (.cells (rowC f) 31)).alloc (.cells #[.int .i64 0, .int .i64 0, .int .i64 0, .int .i64 0, .int .i64 0, .int .i64 0, .int .i64 0, .int .i64 0] 32) = w0) := Lib.hid hw0
  rw [rowC_eq f] at hw0
  clear p0 p1 g0 z0 hR hf
  obtain ⟨fa, hfa⟩ : ∃ fa, fa = rowC f := ⟨_, rfl⟩
  have HFA := Lib.hid hfa
  rw [rowC_eq f]
  go_enter Try.func34, Try.ntmps34
  go_wp2
  (try rw [← hRR])
  rw [← hRR] at B0 lR0
  have LR := Lib.hid lR0
  clear lR0 HW0 hfa
  go_loopw [4, 5] (fun v i wr => ∃ (k : Nat) (x : Int), k ≤ 8 ∧ i = .int .i64 k ∧ v = .int .i64 x ∧ Hid (x = sumZ f k / 65536 ^ k ∧ -1099511627776 ≤ x ∧ x ≤ 1099511627776) ∧ Hid (Blk wr R (rowC (carTo f k)) 32 ∧ Blk wr (w.heap.size + 1) #[.int .i64 0, .int .i64 0, .int .i64 0, .int .i64 0, .int .i64 0, .int .i64 0, .int .i64 0, .int .i64 0] 32 ∧ Blk wr w.heap.size (rowC f) 31 ∧ Below w.heap.size w wr)) (fun _ i _ => 8 - (intOf i).toNat)
  case atStart =>
    have e0 : (rowC fun _ => 0) = rowC (carTo f 0) := rowC_congr fun j _ => by
      unfold carTo; rw [if_neg (by omega)]
    rw [e0] at B0
    exact ⟨0, 0, by omega, rfl, rfl, Lib.hid ⟨by rw [Int.pow_zero, Int.ediv_one]; rfl, by omega, by omega⟩, B0⟩
  case round =>
    obtain ⟨k, x, hk, rfl, rfl, HX, B⟩ := hrel
    clear B0 hRR hw0
    by_cases hlt : k < 8
    · obtain ⟨hx, hx0, hx1⟩ := HX.out
      obtain ⟨s1, s2⟩ := carry_step f k
      rw [← hx] at s1 s2
      obtain ⟨f0, f1⟩ := HF.out k hlt
      have cf := (B.out.2.2.1.at k (rowC_get f k hlt)).1
      have hrow1 : ∀ e, e = figZ (sumZ f (k + 1)) k → (rowC (carTo f k)).setIfInBounds k (.int .i64 e) = rowC (carTo f (k + 1)) := fun e he => rowC_put _ _ _ _ fun j _ => by
        unfold carTo
        by_cases hjk : j = k
        · subst hjk; rw [if_pos rfl, if_pos (by omega), he]
        · rw [if_neg hjk]
          by_cases hj : j < k
          · rw [if_pos hj, if_pos (show j < k + 1 by omega)]
          · rw [if_neg hj, if_neg (show ¬ j < k + 1 by omega)]
      generalize f k = fk at *
      obtain ⟨n, hn⟩ : ∃ n, fk + x = n := ⟨_, rfl⟩
      rw [hn] at s1 s2
      obtain ⟨r1, r2, r3⟩ := rest_put n
      obtain ⟨e, hee⟩ : ∃ e, n % 65536 = e := ⟨_, rfl⟩
      obtain ⟨q, hqq⟩ : ∃ q, n / 65536 = q := ⟨_, rfl⟩
      have he0 : 0 ≤ e ∧ e < 65536 := by omega
      have hq0 : -1099511627776 ≤ q ∧ q ≤ 1099511627776 := by omega
      rw [hee] at r1 r2 r3 s1
      rw [hqq] at r3 s2
      have hw0 : IntKind.i64.wrap n = n := by rw [IntKind.wrap_i64]; omega
      have hw1 : IntKind.i64.wrap (n - e) = n - e := by rw [IntKind.wrap_i64]; omega
      have hw2 : IntKind.i64.wrap q = q := by rw [IntKind.wrap_i64]; omega
      have hw3 : IntKind.i64.wrap e = e := by rw [IntKind.wrap_i64]; omega
      have HS := Lib.hid s2
      obtain ⟨v, hv⟩ : ∃ v, (rowC (carTo f k))[k]? = some v := ⟨_, rowC_get _ k hlt⟩
      have cv := B.out.1.at k hv
      have hB1 := B.out.1.set k (.int .i64 e)
      rw [hrow1 e s1] at hB1
      have lR : w.heap.size + 1 < R := LR.out
      have hB2 := B.out.2.1.other (a := ⟨R, k, none⟩) (by show w.heap.size + 1 ≠ R; omega) (.int .i64 e)
      have hB3 := B.out.2.2.1.other (a := ⟨R, k, none⟩) (by show w.heap.size ≠ R; omega) (.int .i64 e)
      have hB4 := B.out.2.2.2.setCell (p := ⟨R, k, none⟩) (by show w.heap.size ≤ R; omega) (.int .i64 e)
      have B2 := Lib.hid (And.intro hB1 (And.intro hB2 (And.intro hB3 hB4)))
      obtain ⟨t, ht⟩ : ∃ t, n.tmod 65536 = t := ⟨_, rfl⟩
      rw [ht] at r1 r2
      have nb : -4398046511104 ≤ n ∧ n ≤ 4398046511104 := by omega
      clear hB1 hB2 hB3 hB4 hrow1 s1 s2 hx HX B hee hqq he0 lR hv f0 f1 hx0 hx1
      by_cases htn : t < 0
      · have hte := r1 htn
        have hwt : IntKind.i64.wrap (t + 65536) = e := by rw [hte]; exact hw3
        clear r1 r2
        go_wp2
        go_round
        case rel => exact ⟨k + 1, q, by omega, val_int rfl, rfl, Lib.hid ⟨HS.out, hq0⟩, B2⟩
        case measure => simp only [intOf]; omega
      · have hte := r2 htn
        subst hte
        clear r1 r2
        go_wp2
        go_round
        case rel => exact ⟨k + 1, q, by omega, val_int rfl, rfl, Lib.hid ⟨HS.out, hq0⟩, B2⟩
        case measure => simp only [intOf]; omega
    · have hk8 : k = 8 := by omega
      subst hk8
      have hrow : rowC (carTo f 8) = rowC (figZ (sumZ f 8)) := rowC_congr fun j hj => by
        unfold carTo
        rw [if_pos hj]
        have := sum_fig f j (8 - (j + 1))
        rw [show j + 1 + (8 - (j + 1)) = 8 by omega] at this
        exact this.symm
      have hB := And.intro B.out.1 (And.intro B.out.2.1 B.out.2.2.2)
      rw [hrow] at hB
      have lR := LR.out
      clear B hrow HX HF HFA
      generalize hf : figZ (sumZ f 8) = f at *
      have c8 := hB.1.eight
      have c9 := hB.2.1
      have c1 := c9.eight
      have r2 := ((((((((c9.set 0 (.int .i64 (f 0))).set 1 (.int .i64 (f 1))).set 2 (.int .i64 (f 2))).set 3 (.int .i64 (f 3))).set 4 (.int .i64 (f 4))).set 5 (.int .i64 (f 5))).set 6 (.int .i64 (f 6))).set 7 (.int .i64 (f 7))).eight
      have hne : ¬ R = (w.heap.size + 1) := by omega
      have HG := Lib.hid hB.2.2
      clear c9 hB
      go_wp2
      refine bodyPost_ret (v := .agg (rowC f)) ?_ rfl ⟨by first | rfl | rw [hf], ?_⟩
      · rw [rowC_eq]
        simp [results, Try.results34, go_sem, r2]
      · exact ((((((((HG.out.setCell (by show w.heap.size ≤ (w.heap.size + 1); omega) _).setCell (by show w.heap.size ≤ (w.heap.size + 1); omega) _).setCell (by show w.heap.size ≤ (w.heap.size + 1); omega) _).setCell (by show w.heap.size ≤ (w.heap.size + 1); omega) _).setCell (by show w.heap.size ≤ (w.heap.size + 1); omega) _).setCell (by show w.heap.size ≤ (w.heap.size + 1); omega) _).setCell (by show w.heap.size ≤ (w.heap.size + 1); omega) _).setCell (by show w.heap.size ≤ (w.heap.size + 1); omega) _)

end Go.Proofs.Ytogghmmokifnnaa
