/- Walks: the reference's rows: Int, Of, row. -/
import Derived.Test.YtogghmmokifnnaaW9
namespace Go.Proofs.Ytogghmmokifnnaa
open Go.RowKit

/-- Eight numbers as cells. -/
def rowC (f : Nat → Int) : Array Value := ((List.range 8).map fun j => Value.int .i64 (f j)).toArray
theorem rowC_size (f : Nat → Int) : (rowC f).size = 8 := by simp [rowC]
theorem rowC_eq (f : Nat → Int) : rowC f = #[.int .i64 (f 0), .int .i64 (f 1), .int .i64 (f 2), .int .i64 (f 3), .int .i64 (f 4), .int .i64 (f 5), .int .i64 (f 6), .int .i64 (f 7)] := rfl
theorem rowC_get (f : Nat → Int) (j : Nat) (h : j < 8) : (rowC f)[j]? = some (.int .i64 (f j)) := by
  unfold rowC
  rw [List.getElem?_toArray, List.getElem?_map, List.getElem?_range h]; rfl
theorem rowC_congr {f g : Nat → Int} (h : ∀ j, j < 8 → f j = g j) : rowC f = rowC g := by
  rw [rowC_eq, rowC_eq, h 0 (by omega), h 1 (by omega), h 2 (by omega), h 3 (by omega), h 4 (by omega), h 5 (by omega), h 6 (by omega), h 7 (by omega)]
theorem rowC_set (f : Nat → Int) (i : Nat) (x : Int) : (rowC f).setIfInBounds i (.int .i64 x) = rowC (fun j => if j = i then x else f j) := by
  refine Array.ext (by simp [rowC_size]) fun j h1 h2 => ?_
  have hj : j < 8 := by simpa [rowC_size] using h1
  have e1 := rowC_get f j hj
  have e2 := rowC_get (fun j => if j = i then x else f j) j hj
  rw [Array.getElem?_eq_getElem (by rw [rowC_size]; exact hj)] at e1 e2
  injection e1 with e1
  injection e2 with e2
  rw [Array.getElem_setIfInBounds (by rw [rowC_size]; exact hj), e2]
  by_cases hij : i = j
  · subst hij
    rw [if_pos rfl, if_pos rfl]
  · rw [if_neg hij, e1, if_neg (fun e => hij e.symm)]

/-- A figure of base 65536. -/
def figZ (n : Int) (j : Nat) : Int := n / 65536 ^ j % 65536
theorem fig_next (n : Int) (k : Nat) : n / 65536 ^ k / 65536 = n / 65536 ^ (k + 1) := by
  rw [Int.pow_succ, Int.ediv_ediv_of_nonneg (Int.le_of_lt (Int.pow_pos (by decide)))]
/-- What Go's rest and quotient tell of a number, put right. -/
theorem rest_put (n : Int) : (n.tmod 65536 < 0 → n.tmod 65536 + 65536 = n % 65536) ∧ (¬ n.tmod 65536 < 0 → n.tmod 65536 = n % 65536) ∧ (n - n % 65536).tdiv 65536 = n / 65536 := by
  have h1 := Int.tmod_add_mul_tdiv n 65536
  have h2 : -65536 < n.tmod 65536 ∧ n.tmod 65536 < 65536 := by
    have a := Int.tmod_lt_of_pos n (show (0 : Int) < 65536 by decide)
    have b := Int.tmod_lt_of_pos (-n) (show (0 : Int) < 65536 by decide)
    rw [Int.neg_tmod] at b
    exact ⟨by omega, a⟩
  refine ⟨fun h => by omega, fun h => by omega, ?_⟩
  have e : n - n % 65536 = n / 65536 * 65536 := by omega
  rw [e, Int.mul_tdiv_cancel _ (by decide)]

set_option maxRecDepth 20000 in
set_option maxHeartbeats 4000000 in
theorem refInt_any (n : Int) (n0 : -9223372036854775808 ≤ n) (n1 : n ≤ 9223372036854775807) (w : World) :
    Calls Try.prog 14 #[.int .i64 n] w fun e w' => e = .returned (.agg (rowC (figZ n))) ∧ Below w.heap.size w w' := by
  obtain ⟨w0, hw0, p0, g0, z0⟩ := boxes1 w #[.int .i64 0, .int .i64 0, .int .i64 0, .int .i64 0, .int .i64 0, .int .i64 0, .int .i64 0, .int .i64 0] 32
  have hR : Blk (w0.alloc (.cells (rowC fun _ => 0) 32)) w0.heap.size (rowC fun _ => 0) 32 := Blk.new w0 _ 32
  have l0 : w.heap.size < w0.heap.size := p0.lt
  have B0 := Lib.hid (And.intro hR (And.intro (p0.alloc (.cells (rowC fun _ => 0) 32)) (grow_alloc g0 (.cells (rowC fun _ => 0) 32))))
  obtain ⟨R, hRR⟩ : ∃ R, R = w0.heap.size := ⟨_, rfl⟩
  clear p0 g0 z0 hR
  go_enter Try.func14, Try.ntmps14
  go_wp2
  (try rw [← hRR])
  rw [← hRR] at B0 l0
  go_loopw [0, 4] (fun v i wr => ∃ (k : Nat) (x : Int), k ≤ 8 ∧ i = .int .i64 k ∧ v = .int .i64 x ∧ Hid (x = n / 65536 ^ k ∧ -9223372036854775808 ≤ x ∧ x ≤ 9223372036854775807) ∧ Hid (Blk wr R (rowC fun j => if j < k then figZ n j else 0) 32 ∧ Blk wr w.heap.size #[.int .i64 0, .int .i64 0, .int .i64 0, .int .i64 0, .int .i64 0, .int .i64 0, .int .i64 0, .int .i64 0] 32 ∧ Below w.heap.size w wr)) (fun _ i _ => 8 - (intOf i).toNat)
  case atStart => exact ⟨0, n, by omega, rfl, rfl, Lib.hid ⟨by rw [Int.pow_zero, Int.ediv_one], n0, n1⟩, B0⟩
  case round =>
    obtain ⟨k, x, hk, rfl, rfl, HX, B⟩ := hrel
    clear B0 hRR hw0
    by_cases hlt : k < 8
    · obtain ⟨hx, hx0, hx1⟩ := HX.out
      obtain ⟨r1, r2, r3⟩ := rest_put x
      have hq : x / 65536 = n / 65536 ^ (k + 1) := by rw [hx, fig_next]
      have he : x % 65536 = figZ n k := by rw [hx]; rfl
      obtain ⟨e, hee⟩ : ∃ e, x % 65536 = e := ⟨_, rfl⟩
      obtain ⟨q, hqq⟩ : ∃ q, x / 65536 = q := ⟨_, rfl⟩
      have he0 : 0 ≤ e ∧ e < 65536 := by omega
      have hq0 : -9223372036854775808 ≤ q ∧ q ≤ 9223372036854775807 := by omega
      rw [hee] at r1 r2 r3 he
      rw [hqq] at r3 hq
      have hw1 : IntKind.i64.wrap (x - e) = x - e := by rw [IntKind.wrap_i64]; omega
      have hw2 : IntKind.i64.wrap q = q := by rw [IntKind.wrap_i64]; omega
      have hw3 : IntKind.i64.wrap e = e := by rw [IntKind.wrap_i64]; omega
      have HS := Lib.hid (And.intro he (And.intro hq hq0))
      obtain ⟨v, hv⟩ : ∃ v, (rowC fun j => if j < k then figZ n j else 0)[k]? = some v := ⟨_, rowC_get _ k hlt⟩
      have cv := B.out.1.at k hv
      obtain ⟨t, ht⟩ : ∃ t, x.tmod 65536 = t := ⟨_, rfl⟩
      rw [ht] at r1 r2
      have hrow : (rowC fun j => if j < k then figZ n j else 0).setIfInBounds k (.int .i64 e) = rowC fun j => if j < k + 1 then figZ n j else 0 := by
        rw [rowC_set]
        refine rowC_congr fun j _ => ?_
        by_cases hjk : j = k
        · subst hjk; rw [if_pos rfl, if_pos (by omega), he]
        · rw [if_neg hjk]
          by_cases hj : j < k
          · rw [if_pos hj, if_pos (by omega)]
          · rw [if_neg hj, if_neg (by omega)]
      have hB := B.out.1.set k (.int .i64 e)
      rw [hrow] at hB
      have lR : w.heap.size < R := l0
      have hB2 := B.out.2.1.other (a := ⟨R, k, none⟩) (by show w.heap.size ≠ R; omega) (.int .i64 e)
      have hB3 := B.out.2.2.setCell (p := ⟨R, k, none⟩) (by show w.heap.size ≤ R; omega) (.int .i64 e)
      have B2 := Lib.hid (And.intro hB (And.intro hB2 hB3))
      clear hB hB2 hB3 hrow he hq hx HX B hee hqq he0 lR
      by_cases htn : t < 0
      · have hte := r1 htn
        have hwt : IntKind.i64.wrap (t + 65536) = e := by rw [hte]; exact hw3
        clear r1 r2
        go_wp2
        go_round
        case rel => exact ⟨k + 1, q, by omega, val_int rfl, rfl, Lib.hid ⟨HS.out.2.1, hq0⟩, B2⟩
        case measure => simp only [intOf]; omega
      · have hte := r2 htn
        subst hte
        clear r1 r2
        go_wp2
        go_round
        case rel => exact ⟨k + 1, q, by omega, val_int rfl, rfl, Lib.hid ⟨HS.out.2.1, hq0⟩, B2⟩
        case measure => simp only [intOf]; omega
    · have hk8 : k = 8 := by omega
      subst hk8
      have hrow : (rowC fun j => if j < 8 then figZ n j else 0) = rowC (figZ n) := rowC_congr fun j hj => if_pos hj
      have hB := B.out
      rw [hrow] at hB
      have c0 := hB.1.eight
      have c1 := hB.2.1.eight
      have r2 := ((((((((hB.2.1.set 0 (.int .i64 (figZ n 0))).set 1 (.int .i64 (figZ n 1))).set 2 (.int .i64 (figZ n 2))).set 3 (.int .i64 (figZ n 3))).set 4 (.int .i64 (figZ n 4))).set 5 (.int .i64 (figZ n 5))).set 6 (.int .i64 (figZ n 6))).set 7 (.int .i64 (figZ n 7))).eight
      have hne : ¬ R = w.heap.size := by omega
      have HG := Lib.hid hB.2.2
      clear B hB hrow HX
      generalize hf : figZ n = f at *
      go_wp2
      refine bodyPost_ret (v := .agg (rowC f)) ?_ rfl ⟨rfl, ?_⟩
      · rw [rowC_eq]
        simp [results, Try.results14, go_sem, r2]
      · exact (((((((HG.out.setCell (by show _ ≤ w.heap.size; omega) _).setCell (by show _ ≤ w.heap.size; omega) _).setCell (by show _ ≤ w.heap.size; omega) _).setCell (by show _ ≤ w.heap.size; omega) _).setCell (by show _ ≤ w.heap.size; omega) _).setCell (by show _ ≤ w.heap.size; omega) _).setCell (by show _ ≤ w.heap.size; omega) _).setCell (by show _ ≤ w.heap.size; omega) _

theorem rowC_put (f : Nat → Int) (i : Nat) (x : Int) (g : Nat → Int) (h : ∀ j, j < 8 → (if j = i then x else f j) = g j) : (rowC f).setIfInBounds i (.int .i64 x) = rowC g := by
  rw [rowC_set]; exact rowC_congr h

/-- The figures of halves. -/
def halfZ (h l : Int) (j : Nat) : Int := if j < 4 then figZ l j else figZ h (j - 4)
def halfTo (h l : Int) (k j : Nat) : Int := if j < k then figZ l j else if 4 ≤ j ∧ j < 4 + k then figZ h (j - 4) else 0
def halfMid (h l : Int) (k j : Nat) : Int := if j < k + 1 then figZ l j else if 4 ≤ j ∧ j < 4 + k then figZ h (j - 4) else 0

set_option maxRecDepth 20000 in
set_option maxHeartbeats 4000000 in
theorem refOf_any (h l : Int) (n0 : -9223372036854775808 ≤ h) (n1 : h ≤ 9223372036854775807) (l0 : 0 ≤ l) (l1 : l ≤ 18446744073709551615) (w : World) :
    Calls Try.prog 32 #[.int .i64 h, .int .u64 l] w fun e w' => e = .returned (.agg (rowC (halfZ h l))) ∧ Below w.heap.size w w' := by
  obtain ⟨w0, hw0, p0, g0, z0⟩ := boxes1 w #[.int .i64 0, .int .i64 0, .int .i64 0, .int .i64 0, .int .i64 0, .int .i64 0, .int .i64 0, .int .i64 0] 32
  have hR : Blk (w0.alloc (.cells (rowC fun _ => 0) 32)) w0.heap.size (rowC fun _ => 0) 32 := Blk.new w0 _ 32
  have lR0 : w.heap.size < w0.heap.size := p0.lt
  have B0 := Lib.hid (And.intro hR (And.intro (p0.alloc (.cells (rowC fun _ => 0) 32)) (grow_alloc g0 (.cells (rowC fun _ => 0) 32))))
  obtain ⟨R, hRR⟩ : ∃ R, R = w0.heap.size := ⟨_, rfl⟩
  clear p0 g0 z0 hR
  go_enter Try.func32, Try.ntmps32
  go_wp2
  (try rw [← hRR])
  rw [← hRR] at B0 lR0
  have LR := Lib.hid lR0
  clear lR0
  go_loopw [0, 1, 6] (fun v u i wr => ∃ (k : Nat) (x y : Int), k ≤ 4 ∧ i = .int .i64 k ∧ v = .int .i64 x ∧ u = .int .u64 y ∧ Hid (x = h / 65536 ^ k ∧ -9223372036854775808 ≤ x ∧ x ≤ 9223372036854775807) ∧ Hid (y = l / 65536 ^ k ∧ 0 ≤ y ∧ y ≤ 18446744073709551615) ∧ Hid (Blk wr R (rowC (halfTo h l k)) 32 ∧ Blk wr w.heap.size #[.int .i64 0, .int .i64 0, .int .i64 0, .int .i64 0, .int .i64 0, .int .i64 0, .int .i64 0, .int .i64 0] 32 ∧ Below w.heap.size w wr)) (fun _ _ i _ => 4 - (intOf i).toNat)
  case atStart =>
    have e0 : (rowC fun _ => 0) = rowC (halfTo h l 0) := rowC_congr fun j _ => by
      unfold halfTo; rw [if_neg (by omega), if_neg (by omega)]
    rw [e0] at B0
    exact ⟨0, h, l, by omega, rfl, rfl, rfl, Lib.hid ⟨by rw [Int.pow_zero, Int.ediv_one], n0, n1⟩, Lib.hid ⟨by rw [Int.pow_zero, Int.ediv_one], l0, l1⟩, B0⟩
  case round =>
    obtain ⟨k, x, y, hk, rfl, rfl, rfl, HX, HY, B⟩ := hrel
    clear B0 hRR hw0
    by_cases hlt : k < 4
    · obtain ⟨hx, hx0, hx1⟩ := HX.out
      obtain ⟨hy, hy0, hy1⟩ := HY.out
      obtain ⟨r1, r2, r3⟩ := rest_put x
      have hq : x / 65536 = h / 65536 ^ (k + 1) := by rw [hx, fig_next]
      have he : x % 65536 = figZ h k := by rw [hx]; rfl
      have hq' : y / 65536 = l / 65536 ^ (k + 1) := by rw [hy, fig_next]
      have he' : y % 65536 = figZ l k := by rw [hy]; rfl
      obtain ⟨e, hee⟩ : ∃ e, x % 65536 = e := ⟨_, rfl⟩
      obtain ⟨q, hqq⟩ : ∃ q, x / 65536 = q := ⟨_, rfl⟩
      obtain ⟨e', hee'⟩ : ∃ e', y % 65536 = e' := ⟨_, rfl⟩
      obtain ⟨q', hqq'⟩ : ∃ q', y / 65536 = q' := ⟨_, rfl⟩
      have he0 : 0 ≤ e ∧ e < 65536 := by omega
      have he0' : 0 ≤ e' ∧ e' < 65536 := by omega
      have hq0 : -9223372036854775808 ≤ q ∧ q ≤ 9223372036854775807 := by omega
      have hq0' : 0 ≤ q' ∧ q' ≤ 18446744073709551615 := by omega
      rw [hee] at r1 r2 r3 he
      rw [hqq] at r3 hq
      rw [hee'] at he'
      rw [hqq'] at hq'
      have t1 : y.tmod 65536 = e' := by rw [Int.tmod_eq_emod_of_nonneg hy0, hee']
      have hw0 : IntKind.u64.wrap e' = e' := by rw [IntKind.wrap_u64]; omega
      have hw0' : IntKind.i64.wrap e' = e' := by rw [IntKind.wrap_i64]; omega
      have hw1 : IntKind.i64.wrap (x - e) = x - e := by rw [IntKind.wrap_i64]; omega
      have hw2 : IntKind.i64.wrap q = q := by rw [IntKind.wrap_i64]; omega
      have hw3 : IntKind.i64.wrap e = e := by rw [IntKind.wrap_i64]; omega
      have hw4 : IntKind.u64.wrap q' = q' := by rw [IntKind.wrap_u64]; omega
      have HS := Lib.hid (And.intro he (And.intro hq hq0))
      have HS' := Lib.hid (And.intro he' (And.intro hq' hq0'))
      obtain ⟨v, hv⟩ : ∃ v, (rowC (halfTo h l k))[k]? = some v := ⟨_, rowC_get _ k (by omega)⟩
      have cv := B.out.1.at k hv
      have hrow1 : (rowC (halfTo h l k)).setIfInBounds k (.int .i64 e') = rowC (halfMid h l k) := rowC_put _ _ _ _ fun j _ => by
        unfold halfTo halfMid
        by_cases hjk : j = k
        · subst hjk; rw [if_pos rfl, if_pos (by omega), he']
        · rw [if_neg hjk]
          by_cases hj : j < k
          · rw [if_pos hj, if_pos (show j < k + 1 by omega)]
          · rw [if_neg hj, if_neg (show ¬ j < k + 1 by omega)]
      have hrow2 : (rowC (halfMid h l k)).setIfInBounds (4 + k) (.int .i64 e) = rowC (halfTo h l (k + 1)) := rowC_put _ _ _ _ fun j _ => by
        unfold halfTo halfMid
        by_cases hjk : j = 4 + k
        · subst hjk; rw [if_pos rfl, if_neg (by omega), if_pos (by omega), he]; congr 1; omega
        · rw [if_neg hjk]
          by_cases hj : j < k + 1
          · rw [if_pos hj, if_pos hj]
          · rw [if_neg hj, if_neg hj]
            by_cases h4 : 4 ≤ j ∧ j < 4 + k
            · rw [if_pos h4, if_pos (by omega)]
            · rw [if_neg h4, if_neg (by omega)]
      have hB1 := B.out.1.set k (.int .i64 e')
      rw [hrow1] at hB1
      have lR : w.heap.size < R := LR.out
      have hB2 := B.out.2.1.other (a := ⟨R, k, none⟩) (by show w.heap.size ≠ R; omega) (.int .i64 e')
      have hB3 := B.out.2.2.setCell (p := ⟨R, k, none⟩) (by show w.heap.size ≤ R; omega) (.int .i64 e')
      obtain ⟨wm, hwm⟩ : ∃ wm, wr.setCell ⟨R, k, none⟩ (.int .i64 e') = wm := ⟨_, rfl⟩
      rw [hwm] at hB1 hB2 hB3
      obtain ⟨ov, hov⟩ : ∃ ov, (rowC (halfMid h l k))[4 + k]? = some ov := ⟨_, rowC_get (halfMid h l k) (4 + k) (by omega)⟩
      obtain ⟨k4, hk4⟩ : ∃ k4, 4 + k = k4 := ⟨_, rfl⟩
      rw [hk4] at hrow2 hov
      have cv2 := hB1.at k4 hov
      have hC1 := hB1.set k4 (.int .i64 e)
      rw [hrow2] at hC1
      have hC2 := hB2.other (a := ⟨R, k4, none⟩) (by show w.heap.size ≠ R; omega) (.int .i64 e)
      have hC3 := hB3.setCell (p := ⟨R, k4, none⟩) (by show w.heap.size ≤ R; omega) (.int .i64 e)
      have B2 := Lib.hid (And.intro hC1 (And.intro hC2 hC3))
      obtain ⟨t, ht⟩ : ∃ t, x.tmod 65536 = t := ⟨_, rfl⟩
      rw [ht] at r1 r2
      have hix : (4 : Int) + (k : Int) = (k4 : Int) := by omega
      have hk48 : k4 < 8 := by omega
      clear hB1 hB2 hB3 hC1 hC2 hC3 hrow1 hrow2 hk4 hov hv he hq hx HX he' hq' hy HY B hee hqq he0 hee' he0' lR
      by_cases htn : t < 0
      · have hte := r1 htn
        have hwt : IntKind.i64.wrap (t + 65536) = e := by rw [hte]; exact hw3
        clear r1 r2
        go_wp2
        go_round
        case rel => exact ⟨k + 1, q, q', by omega, val_int rfl, rfl, val_int hqq', Lib.hid ⟨HS.out.2.1, hq0⟩, Lib.hid ⟨HS'.out.2.1, hq0'⟩, B2⟩
        case measure => simp only [intOf]; omega
      · have hte := r2 htn
        subst hte
        clear r1 r2
        go_wp2
        go_round
        case rel => exact ⟨k + 1, q, q', by omega, val_int rfl, rfl, val_int hqq', Lib.hid ⟨HS.out.2.1, hq0⟩, Lib.hid ⟨HS'.out.2.1, hq0'⟩, B2⟩
        case measure => simp only [intOf]; omega
    · have hk4 : k = 4 := by omega
      subst hk4
      have hrow : rowC (halfTo h l 4) = rowC (halfZ h l) := rowC_congr fun j hj => by
        unfold halfTo halfZ
        by_cases h4 : j < 4
        · rw [if_pos h4, if_pos h4]
        · rw [if_neg h4, if_neg h4, if_pos (by omega)]
      have hB := B.out
      rw [hrow] at hB
      have lR := LR.out
      clear B hrow HX HY
      generalize hf : halfZ h l = f at *
      have c8 := hB.1.eight
      have c9 := hB.2.1
      have c1 := c9.eight
      have r2 := ((((((((c9.set 0 (.int .i64 (f 0))).set 1 (.int .i64 (f 1))).set 2 (.int .i64 (f 2))).set 3 (.int .i64 (f 3))).set 4 (.int .i64 (f 4))).set 5 (.int .i64 (f 5))).set 6 (.int .i64 (f 6))).set 7 (.int .i64 (f 7))).eight
      have hne : ¬ R = w.heap.size := by omega
      have HG := Lib.hid hB.2.2
      clear c9 hB
      go_wp2
      refine bodyPost_ret (v := .agg (rowC f)) ?_ rfl ⟨by first | rfl | rw [hf], ?_⟩
      · rw [rowC_eq]
        simp [results, Try.results32, go_sem, r2]
      · exact ((((((((HG.out.setCell (by show w.heap.size ≤ w.heap.size; omega) _).setCell (by show w.heap.size ≤ w.heap.size; omega) _).setCell (by show w.heap.size ≤ w.heap.size; omega) _).setCell (by show w.heap.size ≤ w.heap.size; omega) _).setCell (by show w.heap.size ≤ w.heap.size; omega) _).setCell (by show w.heap.size ≤ w.heap.size; omega) _).setCell (by show w.heap.size ≤ w.heap.size; omega) _).setCell (by show w.heap.size ≤ w.heap.size; omega) _)

end Go.Proofs.Ytogghmmokifnnaa
