/- Comparisons: numbers, rects, items, things that wait. Printed by mk_s16.py. -/
import Derived.Test.YtfmdmfiljplkoaaGreatSA
namespace Go.Proofs.YtfmdmfiljplkoaaGreat
open Go.RowKit Go.Maps Go.Shelf
set_option maxRecDepth 8000
set_option linter.unusedSimpArgs false
variable {ι : Type} [Bar ι]
section
variable {w0 v v' : World} {L L' : List Bx} {R R' : List Rx} {M M' : Mem} {S S' : Pl} {D D' : Dsk} {K : Ks}
def cmpZ (a b : Int) : Int := if a < b then -1 else if b < a then 1 else 0
def orL : List Int → Int
  | [] => 0
  | x :: l => if x ≠ 0 then x else orL l
def boxesF (r s : Geo.Rc) : Int := orL [cmpZ r.x0 s.x0, cmpZ r.y0 s.y0, cmpZ r.x1 s.x1, cmpZ r.y1 s.y1]
def itemsF (x y : En) : Int := orL [cmpZ x.of y.of, boxesF x.b y.b]
def intsV (l : List Int) : List Value := l.map (.int .i64 ·)
theorem Cmp98_any (a b : Int) (w : World) : Calls Tryz.prog 98 #[.int .i64 a, .int .i64 b] w fun e w' => e = .returned (.int .i64 (cmpZ a b)) ∧ Below w.heap.size w w' := by
  unfold cmpZ
  by_cases h1 : a < b
  · rw [if_pos h1]
    go_enter Tryz.func98, Tryz.ntmps98
    go_wp2
    go_ret
    exact ⟨rfl, Below.refl _ _⟩
  · rw [if_neg h1]
    by_cases h2 : b < a
    · rw [if_pos h2]
      go_enter Tryz.func98, Tryz.ntmps98
      go_wp2
      go_ret
      exact ⟨rfl, Below.refl _ _⟩
    · rw [if_neg h2]
      go_enter Tryz.func98, Tryz.ntmps98
      go_wp2
      go_ret
      exact ⟨rfl, Below.refl _ _⟩
theorem Cmp151_any (a b : Int) (w : World) : Calls Tryz.prog 151 #[.int .i64 a, .int .i64 b] w fun e w' => e = .returned (.int .i64 (cmpZ a b)) ∧ Below w.heap.size w w' := by
  unfold cmpZ
  by_cases h1 : a < b
  · rw [if_pos h1]
    go_enter Tryz.func151, Tryz.ntmps151
    go_wp2
    go_ret
    exact ⟨rfl, Below.refl _ _⟩
  · rw [if_neg h1]
    by_cases h2 : b < a
    · rw [if_pos h2]
      go_enter Tryz.func151, Tryz.ntmps151
      go_wp2
      go_ret
      exact ⟨rfl, Below.refl _ _⟩
    · rw [if_neg h2]
      go_enter Tryz.func151, Tryz.ntmps151
      go_wp2
      go_ret
      exact ⟨rfl, Below.refl _ _⟩
theorem orL_drop {l : List Int} {k : Nat} (hk : k < l.length) : orL (l.drop k) = if l[k] ≠ 0 then l[k] else orL (l.drop (k + 1)) := by
  rw [List.drop_eq_getElem_cons hk]
  rfl
theorem Or_any {w : World} (h : Bxs w0 w L R) {j c : Nat} {A : Option Addr} {l : List Int} (hj : R[j]? = some ⟨3, 1, .slice A l.length c, l.length, intsV l⟩) (hb : l.length ≤ 1000000) :
    Calls Tryz.prog 97 #[.slice A l.length c] w fun e w' => e = .returned (.int .i64 (orL l)) ∧ Below w.heap.size w w' := by
  have HR := Lib.hid (h.row_ hj)
  have HB := Lib.hid hb
  obtain ⟨n, hn⟩ : ∃ n, n = l.length := ⟨_, rfl⟩
  rw [← hn]
  have HNN := Lib.hid hn
  clear h hj hb hn
  go_enter Tryz.func97, Tryz.ntmps97
  go_wp2
  go_loopw [8] (fun iv wr => ∃ k : Nat, k ≤ n ∧ iv = .int .i64 (k : Int) ∧ Hid (orL l = orL (l.drop k)) ∧ wr = w) (fun iv _ => n - (intOf iv).toNat)
  case atStart => exact ⟨0, by omega, rfl, Lib.hid (by simp), rfl⟩
  case round =>
    obtain ⟨k, hk, rfl, HO, rfl⟩ := hrel
    by_cases hlt : k < n
    · have hlt' : (k : Int) < n := by omega
      have hkl : k < l.length := by rw [← HNN.out]; exact hlt
      obtain ⟨g, c2, ea⟩ := row_shape HR.out (show 0 < l.length by omega)
      try dsimp only at ea
      injection ea with e1 e2 e3
      subst e1
      have hc := World.ownsRow.cellAt (HR.out) k (show k < l.length * 1 by omega)
      try dsimp only at hc
      have hv : (intsV l)[k]? = some (.int .i64 l[k]) := by unfold intsV; rw [List.getElem?_map, List.getElem?_eq_getElem hkl]; rfl
      rw [hv] at hc
      have hst := orL_drop hkl
      rw [← HO.out] at hst
      obtain ⟨z, hz⟩ : ∃ z, z = l[k] := ⟨_, rfl⟩
      rw [← hz] at hc hst
      have HST := Lib.hid hst
      clear hv hst hz e2 e3
      by_cases h0 : z = 0
      · subst h0
        go_wp2
        go_roundw
        case rel => exact ⟨k + 1, hlt, rd_num hlt (show n ≤ 2000000 by have := HB.out; have := HNN.out; omega), Lib.hid (by rw [HST.out, if_neg (by simp)]), trivial⟩
        case measure => exact rd_meas hlt (show n ≤ 2000000 by have := HB.out; have := HNN.out; omega)
      · go_wp2
        go_ret
        exact ⟨by rw [HST.out, if_pos h0]; rfl, Below.refl _ _⟩
    · obtain rfl : k = n := by omega
      have hnt : ¬ (k : Int) < k := by omega
      have h0 : orL l = 0 := by rw [HO.out, HNN.out, List.drop_length]; rfl
      go_wp2
      go_ret
      exact ⟨by first | rfl | (rw [h0]; rfl), Below.refl _ _⟩
theorem run_lits (n : Nat) (l : List Int) (hl : l.length = n) (hn : n = 2 ∨ n = 4) (ps : Array (Nat × Value)) (hp : ps = ((List.range n).zip (intsV l)).toArray) (w : World) : (Instr.buildSlice 118 n ps).run Tryz.prog w = .ok (.slice (some ⟨w.heap.size, 0, none⟩) n n) (w.alloc (.cells (intsV l).toArray 3)) := by
  subst hp
  rcases hn with rfl | rfl
  · match l, hl with
    | [a, b], _ => simp [Instr.buildSlice, run_underlying Tryz.underlying118, Tryz.sizeOf3, Tryz.zeroValue3, go_sem, Instr.fill, Value.cells, intsV, List.range, List.range.loop]
  · match l, hl with
    | [a, b, c, d], _ => simp [Instr.buildSlice, run_underlying Tryz.underlying118, Tryz.sizeOf3, Tryz.zeroValue3, go_sem, Instr.fill, Value.cells, intsV, List.range, List.range.loop]
set_option maxHeartbeats 2000000 in
theorem boxes_any (r s : Geo.Rc) (w : World) : Calls Tryz.prog 99 #[Geo.rc r, Geo.rc s] w fun e w' => e = .returned (.int .i64 (boxesF r s)) ∧ Below w.heap.size w w' := by
  have H := Lib.hid (Bxs.start w)
  go_enter Tryz.func99, Tryz.ntmps99
  go_wp2_with (rw [wpl_id]; first
    | (refine wpl_box H 33 _ rfl (by first | exact .inl rfl | exact .inr ⟨_, _, _, _, rfl, rfl, rfl, rfl⟩) (cs := #[.int .i64 r.x0, .int .i64 r.y0, .int .i64 r.x1, .int .i64 r.y1]) rfl (fun b2 w' H2 => ?_); clear H; have H := H2; clear H2)
    | (refine wpl_box H 33 _ rfl (by first | exact .inl rfl | exact .inr ⟨_, _, _, _, rfl, rfl, rfl, rfl⟩) (cs := #[.int .i64 s.x0, .int .i64 s.y0, .int .i64 s.x1, .int .i64 s.y1]) rfl (fun b3 w' H2 => ?_); clear H; have H := H2; clear H2))
  obtain ⟨Sw0, Sw0d⟩ : ∃ S : World → Prop, S = fun v : World => Bxs w v [⟨b3, #[.int .i64 s.x0, .int .i64 s.y0, .int .i64 s.x1, .int .i64 s.y1], 33⟩, ⟨b2, #[.int .i64 r.x0, .int .i64 r.y0, .int .i64 r.x1, .int .i64 r.y1], 33⟩] [] ∧ Blk v b2 #[.int .i64 r.x0, .int .i64 r.y0, .int .i64 r.x1, .int .i64 r.y1] 33 ∧ Blk v b3 #[.int .i64 s.x0, .int .i64 s.y0, .int .i64 s.x1, .int .i64 s.y1] 33 := ⟨_, rfl⟩
  have Sw0t0 : Stands Sw0 := by rw [Sw0d]; exact ((Bxs.stands _ _ _).and ((stands_blk _ _ _).and (stands_blk _ _ _)))
  have Sw0u0 : ∀ v, Sw0 v → Bxs w v [⟨b3, #[.int .i64 s.x0, .int .i64 s.y0, .int .i64 s.x1, .int .i64 s.y1], 33⟩, ⟨b2, #[.int .i64 r.x0, .int .i64 r.y0, .int .i64 r.x1, .int .i64 r.y1], 33⟩] [] ∧ Blk v b2 #[.int .i64 r.x0, .int .i64 r.y0, .int .i64 r.x1, .int .i64 r.y1] 33 ∧ Blk v b3 #[.int .i64 s.x0, .int .i64 s.y0, .int .i64 s.x1, .int .i64 s.y1] 33 := fun v h => by rw [Sw0d] at h; exact h
  have Sw0m0 : ∀ v, (Bxs w v [⟨b3, #[.int .i64 s.x0, .int .i64 s.y0, .int .i64 s.x1, .int .i64 s.y1], 33⟩, ⟨b2, #[.int .i64 r.x0, .int .i64 r.y0, .int .i64 r.x1, .int .i64 r.y1], 33⟩] [] ∧ Blk v b2 #[.int .i64 r.x0, .int .i64 r.y0, .int .i64 r.x1, .int .i64 r.y1] 33 ∧ Blk v b3 #[.int .i64 s.x0, .int .i64 s.y0, .int .i64 s.x1, .int .i64 s.y1] 33) → Sw0 v := fun v h => by rw [Sw0d]; exact h
  have Sw0u := Lib.hid Sw0u0
  have Sw0m := Lib.hid Sw0m0
  have Sw0t := Lib.hid Sw0t0
  clear Sw0d Sw0u0 Sw0m0 Sw0t0
  refine wp_region_X (S := Sw0) (by kernel_rfl) (Sw0m.out _ ⟨H.out.drew, (H.out.at_ (i := 1) rfl).drew, (H.out.at_ (i := 0) rfl).drew⟩) ?_
  refine wpX_take (i := 0) (v := ?_) Sw0t.out rfl rfl (by kernel_rfl) (by kernel_rfl) (by kernel_rfl) (by kernel_rfl) (fun _ _ _ h => h) (SteadyX.value (by rfl) ?_) ?_
  rotate_left
  · (intro w_ hS; go_simp; try with_reducible rfl)
  simp only [List.setIfInBounds_toArray, List.set_cons_zero, List.set_cons_succ]
  refine wpX_take (i := 1) (v := ?_) Sw0t.out rfl rfl (by kernel_rfl) (by kernel_rfl) (by kernel_rfl) (by kernel_rfl) (fun _ _ _ h => h) (SteadyX.value (by rfl) ?_) ?_
  rotate_left
  · (intro w_ hS; obtain ⟨q0, q1, q2⟩ := Sw0u.out _ hS; (clear q0); (have q1 := q1.four); (have q2 := q2.four); go_simp; try with_reducible rfl)
  simp only [List.setIfInBounds_toArray, List.set_cons_zero, List.set_cons_succ]
  refine wpX_take (i := 2) (v := ?_) Sw0t.out rfl rfl (by kernel_rfl) (by kernel_rfl) (by kernel_rfl) (by kernel_rfl) (fun _ _ _ h => h) (SteadyX.value (by rfl) ?_) ?_
  rotate_left
  · (intro w_ hS; go_simp; try with_reducible rfl)
  simp only [List.setIfInBounds_toArray, List.set_cons_zero, List.set_cons_succ]
  refine wpX_take (i := 3) (v := ?_) Sw0t.out rfl rfl (by kernel_rfl) (by kernel_rfl) (by kernel_rfl) (by kernel_rfl) (fun _ _ _ h => h) (SteadyX.value (by rfl) ?_) ?_
  rotate_left
  · (intro w_ hS; obtain ⟨q0, q1, q2⟩ := Sw0u.out _ hS; (clear q0); (have q1 := q1.four); (have q2 := q2.four); go_simp; try with_reducible rfl)
  simp only [List.setIfInBounds_toArray, List.set_cons_zero, List.set_cons_succ]
  refine wpX_take (i := 4) Sw0t.out rfl rfl (by kernel_rfl) (by kernel_rfl) (by kernel_rfl) (by kernel_rfl) (fun _ _ _ h => h) (SteadyX.call (by rfl) (fun w_ hS => Cmp151_any r.x0 s.x0 w_) (fun w_ hS => by (go_simp))) ?_
  simp only [List.setIfInBounds_toArray, List.set_cons_zero, List.set_cons_succ]
  refine wpX_take (i := 5) (v := ?_) Sw0t.out rfl rfl (by kernel_rfl) (by kernel_rfl) (by kernel_rfl) (by kernel_rfl) (fun _ _ _ h => h) (SteadyX.value (by rfl) ?_) ?_
  rotate_left
  · (intro w_ hS; go_simp; try with_reducible rfl)
  simp only [List.setIfInBounds_toArray, List.set_cons_zero, List.set_cons_succ]
  refine wpX_take (i := 6) (v := ?_) Sw0t.out rfl rfl (by kernel_rfl) (by kernel_rfl) (by kernel_rfl) (by kernel_rfl) (fun _ _ _ h => h) (SteadyX.value (by rfl) ?_) ?_
  rotate_left
  · (intro w_ hS; obtain ⟨q0, q1, q2⟩ := Sw0u.out _ hS; (clear q0); (have q1 := q1.four); (have q2 := q2.four); go_simp; try with_reducible rfl)
  simp only [List.setIfInBounds_toArray, List.set_cons_zero, List.set_cons_succ]
  refine wpX_take (i := 7) (v := ?_) Sw0t.out rfl rfl (by kernel_rfl) (by kernel_rfl) (by kernel_rfl) (by kernel_rfl) (fun _ _ _ h => h) (SteadyX.value (by rfl) ?_) ?_
  rotate_left
  · (intro w_ hS; go_simp; try with_reducible rfl)
  simp only [List.setIfInBounds_toArray, List.set_cons_zero, List.set_cons_succ]
  refine wpX_take (i := 8) (v := ?_) Sw0t.out rfl rfl (by kernel_rfl) (by kernel_rfl) (by kernel_rfl) (by kernel_rfl) (fun _ _ _ h => h) (SteadyX.value (by rfl) ?_) ?_
  rotate_left
  · (intro w_ hS; obtain ⟨q0, q1, q2⟩ := Sw0u.out _ hS; (clear q0); (have q1 := q1.four); (have q2 := q2.four); go_simp; try with_reducible rfl)
  simp only [List.setIfInBounds_toArray, List.set_cons_zero, List.set_cons_succ]
  refine wpX_take (i := 9) Sw0t.out rfl rfl (by kernel_rfl) (by kernel_rfl) (by kernel_rfl) (by kernel_rfl) (fun _ _ _ h => h) (SteadyX.call (by rfl) (fun w_ hS => Cmp151_any r.y0 s.y0 w_) (fun w_ hS => by (go_simp))) ?_
  simp only [List.setIfInBounds_toArray, List.set_cons_zero, List.set_cons_succ]
  refine wpX_take (i := 10) (v := ?_) Sw0t.out rfl rfl (by kernel_rfl) (by kernel_rfl) (by kernel_rfl) (by kernel_rfl) (fun _ _ _ h => h) (SteadyX.value (by rfl) ?_) ?_
  rotate_left
  · (intro w_ hS; go_simp; try with_reducible rfl)
  simp only [List.setIfInBounds_toArray, List.set_cons_zero, List.set_cons_succ]
  refine wpX_take (i := 11) (v := ?_) Sw0t.out rfl rfl (by kernel_rfl) (by kernel_rfl) (by kernel_rfl) (by kernel_rfl) (fun _ _ _ h => h) (SteadyX.value (by rfl) ?_) ?_
  rotate_left
  · (intro w_ hS; obtain ⟨q0, q1, q2⟩ := Sw0u.out _ hS; (clear q0); (have q1 := q1.four); (have q2 := q2.four); go_simp; try with_reducible rfl)
  simp only [List.setIfInBounds_toArray, List.set_cons_zero, List.set_cons_succ]
  refine wpX_take (i := 12) (v := ?_) Sw0t.out rfl rfl (by kernel_rfl) (by kernel_rfl) (by kernel_rfl) (by kernel_rfl) (fun _ _ _ h => h) (SteadyX.value (by rfl) ?_) ?_
  rotate_left
  · (intro w_ hS; go_simp; try with_reducible rfl)
  simp only [List.setIfInBounds_toArray, List.set_cons_zero, List.set_cons_succ]
  refine wpX_take (i := 13) (v := ?_) Sw0t.out rfl rfl (by kernel_rfl) (by kernel_rfl) (by kernel_rfl) (by kernel_rfl) (fun _ _ _ h => h) (SteadyX.value (by rfl) ?_) ?_
  rotate_left
  · (intro w_ hS; obtain ⟨q0, q1, q2⟩ := Sw0u.out _ hS; (clear q0); (have q1 := q1.four); (have q2 := q2.four); go_simp; try with_reducible rfl)
  simp only [List.setIfInBounds_toArray, List.set_cons_zero, List.set_cons_succ]
  refine wpX_take (i := 14) Sw0t.out rfl rfl (by kernel_rfl) (by kernel_rfl) (by kernel_rfl) (by kernel_rfl) (fun _ _ _ h => h) (SteadyX.call (by rfl) (fun w_ hS => Cmp151_any r.x1 s.x1 w_) (fun w_ hS => by (go_simp))) ?_
  simp only [List.setIfInBounds_toArray, List.set_cons_zero, List.set_cons_succ]
  refine wpX_take (i := 15) (v := ?_) Sw0t.out rfl rfl (by kernel_rfl) (by kernel_rfl) (by kernel_rfl) (by kernel_rfl) (fun _ _ _ h => h) (SteadyX.value (by rfl) ?_) ?_
  rotate_left
  · (intro w_ hS; go_simp; try with_reducible rfl)
  simp only [List.setIfInBounds_toArray, List.set_cons_zero, List.set_cons_succ]
  refine wpX_take (i := 16) (v := ?_) Sw0t.out rfl rfl (by kernel_rfl) (by kernel_rfl) (by kernel_rfl) (by kernel_rfl) (fun _ _ _ h => h) (SteadyX.value (by rfl) ?_) ?_
  rotate_left
  · (intro w_ hS; obtain ⟨q0, q1, q2⟩ := Sw0u.out _ hS; (clear q0); (have q1 := q1.four); (have q2 := q2.four); go_simp; try with_reducible rfl)
  simp only [List.setIfInBounds_toArray, List.set_cons_zero, List.set_cons_succ]
  refine wpX_take (i := 17) (v := ?_) Sw0t.out rfl rfl (by kernel_rfl) (by kernel_rfl) (by kernel_rfl) (by kernel_rfl) (fun _ _ _ h => h) (SteadyX.value (by rfl) ?_) ?_
  rotate_left
  · (intro w_ hS; go_simp; try with_reducible rfl)
  simp only [List.setIfInBounds_toArray, List.set_cons_zero, List.set_cons_succ]
  refine wpX_take (i := 18) (v := ?_) Sw0t.out rfl rfl (by kernel_rfl) (by kernel_rfl) (by kernel_rfl) (by kernel_rfl) (fun _ _ _ h => h) (SteadyX.value (by rfl) ?_) ?_
  rotate_left
  · (intro w_ hS; obtain ⟨q0, q1, q2⟩ := Sw0u.out _ hS; (clear q0); (have q1 := q1.four); (have q2 := q2.four); go_simp; try with_reducible rfl)
  simp only [List.setIfInBounds_toArray, List.set_cons_zero, List.set_cons_succ]
  refine wpX_take (i := 19) Sw0t.out rfl rfl (by kernel_rfl) (by kernel_rfl) (by kernel_rfl) (by kernel_rfl) (fun _ _ _ h => h) (SteadyX.call (by rfl) (fun w_ hS => Cmp151_any r.y1 s.y1 w_) (fun w_ hS => by (go_simp))) ?_
  simp only [List.setIfInBounds_toArray, List.set_cons_zero, List.set_cons_succ]
  refine wpX_one (i := 20) (by kernel_rfl) (fun w_ hS => ?_)
  obtain ⟨q0, q1, q2⟩ := Sw0u.out _ hS
  have hbn := (Below.refl w_.heap.size w_).alloc (Nat.le_refl _) (.cells (intsV [cmpZ r.x0 s.x0, cmpZ r.y0 s.y0, cmpZ r.x1 s.x1, cmpZ r.y1 s.y1]).toArray 3)
  have hrw : (w_.alloc (.cells (intsV [cmpZ r.x0 s.x0, cmpZ r.y0 s.y0, cmpZ r.x1 s.x1, cmpZ r.y1 s.y1]).toArray 3)).ownsRow w_.heap.size 3 1 (.slice (some ⟨w_.heap.size, 0, none⟩) 4 4) 4 (intsV [cmpZ r.x0 s.x0, cmpZ r.y0 s.y0, cmpZ r.x1 s.x1, cmpZ r.y1 s.y1]) := World.ownsRow_lit w_ (intsV [cmpZ r.x0 s.x0, cmpZ r.y0 s.y0, cmpZ r.x1 s.x1, cmpZ r.y1 s.y1]).toArray 4 (Nat.le_refl _) (by simp [maxLen]) rfl
  have qn := q0.own hbn hrw
  obtain ⟨bl, hbl⟩ : ∃ bl, bl = w_.heap.size := ⟨_, rfl⟩
  rw [← hbl] at qn
  obtain ⟨Sw1, Sw1d⟩ : ∃ S : World → Prop, S = fun v : World => Bxs w v [⟨b3, #[.int .i64 s.x0, .int .i64 s.y0, .int .i64 s.x1, .int .i64 s.y1], 33⟩, ⟨b2, #[.int .i64 r.x0, .int .i64 r.y0, .int .i64 r.x1, .int .i64 r.y1], 33⟩] [] ∧ Blk v b2 #[.int .i64 r.x0, .int .i64 r.y0, .int .i64 r.x1, .int .i64 r.y1] 33 ∧ Blk v b3 #[.int .i64 s.x0, .int .i64 s.y0, .int .i64 s.x1, .int .i64 s.y1] 33 ∧ Bxs w v [⟨b3, #[.int .i64 s.x0, .int .i64 s.y0, .int .i64 s.x1, .int .i64 s.y1], 33⟩, ⟨b2, #[.int .i64 r.x0, .int .i64 r.y0, .int .i64 r.x1, .int .i64 r.y1], 33⟩] [⟨3, 1, .slice (some ⟨bl, 0, none⟩) 4 4, 4, intsV [cmpZ r.x0 s.x0, cmpZ r.y0 s.y0, cmpZ r.x1 s.x1, cmpZ r.y1 s.y1]⟩] := ⟨_, rfl⟩
  have Sw1t0 : Stands Sw1 := by rw [Sw1d]; exact ((Bxs.stands _ _ _).and ((stands_blk _ _ _).and ((stands_blk _ _ _).and (Bxs.stands _ _ _))))
  have Sw1u0 : ∀ v, Sw1 v → Bxs w v [⟨b3, #[.int .i64 s.x0, .int .i64 s.y0, .int .i64 s.x1, .int .i64 s.y1], 33⟩, ⟨b2, #[.int .i64 r.x0, .int .i64 r.y0, .int .i64 r.x1, .int .i64 r.y1], 33⟩] [] ∧ Blk v b2 #[.int .i64 r.x0, .int .i64 r.y0, .int .i64 r.x1, .int .i64 r.y1] 33 ∧ Blk v b3 #[.int .i64 s.x0, .int .i64 s.y0, .int .i64 s.x1, .int .i64 s.y1] 33 ∧ Bxs w v [⟨b3, #[.int .i64 s.x0, .int .i64 s.y0, .int .i64 s.x1, .int .i64 s.y1], 33⟩, ⟨b2, #[.int .i64 r.x0, .int .i64 r.y0, .int .i64 r.x1, .int .i64 r.y1], 33⟩] [⟨3, 1, .slice (some ⟨bl, 0, none⟩) 4 4, 4, intsV [cmpZ r.x0 s.x0, cmpZ r.y0 s.y0, cmpZ r.x1 s.x1, cmpZ r.y1 s.y1]⟩] := fun v h => by rw [Sw1d] at h; exact h
  have Sw1m0 : ∀ v, (Bxs w v [⟨b3, #[.int .i64 s.x0, .int .i64 s.y0, .int .i64 s.x1, .int .i64 s.y1], 33⟩, ⟨b2, #[.int .i64 r.x0, .int .i64 r.y0, .int .i64 r.x1, .int .i64 r.y1], 33⟩] [] ∧ Blk v b2 #[.int .i64 r.x0, .int .i64 r.y0, .int .i64 r.x1, .int .i64 r.y1] 33 ∧ Blk v b3 #[.int .i64 s.x0, .int .i64 s.y0, .int .i64 s.x1, .int .i64 s.y1] 33 ∧ Bxs w v [⟨b3, #[.int .i64 s.x0, .int .i64 s.y0, .int .i64 s.x1, .int .i64 s.y1], 33⟩, ⟨b2, #[.int .i64 r.x0, .int .i64 r.y0, .int .i64 r.x1, .int .i64 r.y1], 33⟩] [⟨3, 1, .slice (some ⟨bl, 0, none⟩) 4 4, 4, intsV [cmpZ r.x0 s.x0, cmpZ r.y0 s.y0, cmpZ r.x1 s.x1, cmpZ r.y1 s.y1]⟩]) → Sw1 v := fun v h => by rw [Sw1d]; exact h
  have Sw1u := Lib.hid Sw1u0
  have Sw1m := Lib.hid Sw1m0
  have Sw1t := Lib.hid Sw1t0
  clear Sw1d Sw1u0 Sw1m0 Sw1t0
  have st_ : Sw1 (w_.alloc (.cells (intsV [cmpZ r.x0 s.x0, cmpZ r.y0 s.y0, cmpZ r.x1 s.x1, cmpZ r.y1 s.y1]).toArray 3)) := Sw1m.out _ ⟨(Bxs.stands _ _ _) _ _ hbn q0, (stands_blk _ _ _) _ _ hbn q1, (stands_blk _ _ _) _ _ hbn q2, qn⟩
  refine wpX_run (i := 20) (v := .slice (some ⟨bl, 0, none⟩) 4 4) (w' := (w_.alloc (.cells (intsV [cmpZ r.x0 s.x0, cmpZ r.y0 s.y0, cmpZ r.x1 s.x1, cmpZ r.y1 s.y1]).toArray 3))) Sw1 rfl rfl (by rfl) (by subst hbl; exact exec_lit rfl (ps := #[(0, .int .i64 (cmpZ r.x0 s.x0)), (1, .int .i64 (cmpZ r.y0 s.y0)), (2, .int .i64 (cmpZ r.x1 s.x1)), (3, .int .i64 (cmpZ r.y1 s.y1))]) (by simp only [List.map_toArray, List.map_cons, List.map_nil]; rfl) (run_lits 4 [cmpZ r.x0 s.x0, cmpZ r.y0 s.y0, cmpZ r.x1 s.x1, cmpZ r.y1 s.y1] rfl (by decide) _ rfl w_)) Sw1t.out (.inr fun v h => Sw0m.out _ (by obtain ⟨q0, q1, q2, q3⟩ := Sw1u.out _ h; exact ⟨q0, q1, q2⟩)) st_ ?_
  clear hS st_ hbn hrw qn hbl q0 q1 q2
  clear w_
  simp only [List.setIfInBounds_toArray, List.set_cons_zero, List.set_cons_succ]
  refine wpX_take (i := 21) Sw1t.out rfl rfl (by kernel_rfl) (by kernel_rfl) (by kernel_rfl) (by kernel_rfl) (fun _ _ _ h => h) (SteadyX.call (by rfl) (fun w_ hS => by obtain ⟨q0, q1, q2, q3⟩ := Sw1u.out _ hS; exact (Or_any q3 (l := [cmpZ r.x0 s.x0, cmpZ r.y0 s.y0, cmpZ r.x1 s.x1, cmpZ r.y1 s.y1]) (j := 0) rfl (by simp))) (fun w_ hS => by (go_simp))) ?_
  simp only [List.setIfInBounds_toArray, List.set_cons_zero, List.set_cons_succ]
  refine wpX_take (i := 22) (v := ?_) Sw1t.out rfl rfl (by kernel_rfl) (by kernel_rfl) (by kernel_rfl) (by kernel_rfl) (fun _ _ _ h => h) (SteadyX.value (by rfl) ?_) ?_
  rotate_left
  · (intro w_ hS; go_simp; try with_reducible rfl)
  simp only [List.setIfInBounds_toArray, List.set_cons_zero, List.set_cons_succ]
  refine wpX_done (by kernel_rfl) (fun W hS => ?_) _
  obtain ⟨q0, q1, q2, q3⟩ := Sw1u.out _ hS
  clear hS Sw0u Sw0m Sw0t Sw1u Sw1m Sw1t
  clear Sw0 Sw1
  go_wp2
  go_ret
  exact ⟨rfl, q0.low⟩
set_option maxHeartbeats 2000000 in
theorem items_any (x y : En) (w : World) : Calls Tryz.prog 44 #[.agg #[.int .i64 x.b.x0, .int .i64 x.b.y0, .int .i64 x.b.x1, .int .i64 x.b.y1, .int .i64 x.of], .agg #[.int .i64 y.b.x0, .int .i64 y.b.y0, .int .i64 y.b.x1, .int .i64 y.b.y1, .int .i64 y.of]] w fun e w' => e = .returned (.int .i64 (itemsF x y)) ∧ Below w.heap.size w w' := by
  have H := Lib.hid (Bxs.start w)
  go_enter Tryz.func44, Tryz.ntmps44
  go_wp2_with (rw [wpl_id]; first
    | (refine wpl_box H 35 _ rfl (by first | exact .inl rfl | exact .inr ⟨_, _, _, _, rfl, rfl, rfl, rfl⟩) (cs := #[.int .i64 x.b.x0, .int .i64 x.b.y0, .int .i64 x.b.x1, .int .i64 x.b.y1, .int .i64 x.of]) rfl (fun b2 w' H2 => ?_); clear H; have H := H2; clear H2)
    | (refine wpl_box H 35 _ rfl (by first | exact .inl rfl | exact .inr ⟨_, _, _, _, rfl, rfl, rfl, rfl⟩) (cs := #[.int .i64 y.b.x0, .int .i64 y.b.y0, .int .i64 y.b.x1, .int .i64 y.b.y1, .int .i64 y.of]) rfl (fun b3 w' H2 => ?_); clear H; have H := H2; clear H2))
  obtain ⟨Sw0, Sw0d⟩ : ∃ S : World → Prop, S = fun v : World => Bxs w v [⟨b3, #[.int .i64 y.b.x0, .int .i64 y.b.y0, .int .i64 y.b.x1, .int .i64 y.b.y1, .int .i64 y.of], 35⟩, ⟨b2, #[.int .i64 x.b.x0, .int .i64 x.b.y0, .int .i64 x.b.x1, .int .i64 x.b.y1, .int .i64 x.of], 35⟩] [] ∧ Blk v b2 #[.int .i64 x.b.x0, .int .i64 x.b.y0, .int .i64 x.b.x1, .int .i64 x.b.y1, .int .i64 x.of] 35 ∧ Blk v b3 #[.int .i64 y.b.x0, .int .i64 y.b.y0, .int .i64 y.b.x1, .int .i64 y.b.y1, .int .i64 y.of] 35 := ⟨_, rfl⟩
  have Sw0t0 : Stands Sw0 := by rw [Sw0d]; exact ((Bxs.stands _ _ _).and ((stands_blk _ _ _).and (stands_blk _ _ _)))
  have Sw0u0 : ∀ v, Sw0 v → Bxs w v [⟨b3, #[.int .i64 y.b.x0, .int .i64 y.b.y0, .int .i64 y.b.x1, .int .i64 y.b.y1, .int .i64 y.of], 35⟩, ⟨b2, #[.int .i64 x.b.x0, .int .i64 x.b.y0, .int .i64 x.b.x1, .int .i64 x.b.y1, .int .i64 x.of], 35⟩] [] ∧ Blk v b2 #[.int .i64 x.b.x0, .int .i64 x.b.y0, .int .i64 x.b.x1, .int .i64 x.b.y1, .int .i64 x.of] 35 ∧ Blk v b3 #[.int .i64 y.b.x0, .int .i64 y.b.y0, .int .i64 y.b.x1, .int .i64 y.b.y1, .int .i64 y.of] 35 := fun v h => by rw [Sw0d] at h; exact h
  have Sw0m0 : ∀ v, (Bxs w v [⟨b3, #[.int .i64 y.b.x0, .int .i64 y.b.y0, .int .i64 y.b.x1, .int .i64 y.b.y1, .int .i64 y.of], 35⟩, ⟨b2, #[.int .i64 x.b.x0, .int .i64 x.b.y0, .int .i64 x.b.x1, .int .i64 x.b.y1, .int .i64 x.of], 35⟩] [] ∧ Blk v b2 #[.int .i64 x.b.x0, .int .i64 x.b.y0, .int .i64 x.b.x1, .int .i64 x.b.y1, .int .i64 x.of] 35 ∧ Blk v b3 #[.int .i64 y.b.x0, .int .i64 y.b.y0, .int .i64 y.b.x1, .int .i64 y.b.y1, .int .i64 y.of] 35) → Sw0 v := fun v h => by rw [Sw0d]; exact h
  have Sw0u := Lib.hid Sw0u0
  have Sw0m := Lib.hid Sw0m0
  have Sw0t := Lib.hid Sw0t0
  clear Sw0d Sw0u0 Sw0m0 Sw0t0
  refine wp_region_X (S := Sw0) (by kernel_rfl) (Sw0m.out _ ⟨H.out.drew, (H.out.at_ (i := 1) rfl).drew, (H.out.at_ (i := 0) rfl).drew⟩) ?_
  refine wpX_take (i := 0) (v := ?_) Sw0t.out rfl rfl (by kernel_rfl) (by kernel_rfl) (by kernel_rfl) (by kernel_rfl) (fun _ _ _ h => h) (SteadyX.value (by rfl) ?_) ?_
  rotate_left
  · (intro w_ hS; go_simp; try with_reducible rfl)
  simp only [List.setIfInBounds_toArray, List.set_cons_zero, List.set_cons_succ]
  refine wpX_take (i := 1) (v := ?_) Sw0t.out rfl rfl (by kernel_rfl) (by kernel_rfl) (by kernel_rfl) (by kernel_rfl) (fun _ _ _ h => h) (SteadyX.value (by rfl) ?_) ?_
  rotate_left
  · (intro w_ hS; obtain ⟨q0, q1, q2⟩ := Sw0u.out _ hS; (clear q0); (have q1 := q1.five); (have q2 := q2.five); go_simp; try with_reducible rfl)
  simp only [List.setIfInBounds_toArray, List.set_cons_zero, List.set_cons_succ]
  refine wpX_take (i := 2) (v := ?_) Sw0t.out rfl rfl (by kernel_rfl) (by kernel_rfl) (by kernel_rfl) (by kernel_rfl) (fun _ _ _ h => h) (SteadyX.value (by rfl) ?_) ?_
  rotate_left
  · (intro w_ hS; go_simp; try with_reducible rfl)
  simp only [List.setIfInBounds_toArray, List.set_cons_zero, List.set_cons_succ]
  refine wpX_take (i := 3) (v := ?_) Sw0t.out rfl rfl (by kernel_rfl) (by kernel_rfl) (by kernel_rfl) (by kernel_rfl) (fun _ _ _ h => h) (SteadyX.value (by rfl) ?_) ?_
  rotate_left
  · (intro w_ hS; obtain ⟨q0, q1, q2⟩ := Sw0u.out _ hS; (clear q0); (have q1 := q1.five); (have q2 := q2.five); go_simp; try with_reducible rfl)
  simp only [List.setIfInBounds_toArray, List.set_cons_zero, List.set_cons_succ]
  refine wpX_take (i := 4) Sw0t.out rfl rfl (by kernel_rfl) (by kernel_rfl) (by kernel_rfl) (by kernel_rfl) (fun _ _ _ h => h) (SteadyX.call (by rfl) (fun w_ hS => Cmp98_any x.of y.of w_) (fun w_ hS => by (go_simp))) ?_
  simp only [List.setIfInBounds_toArray, List.set_cons_zero, List.set_cons_succ]
  refine wpX_take (i := 5) (v := ?_) Sw0t.out rfl rfl (by kernel_rfl) (by kernel_rfl) (by kernel_rfl) (by kernel_rfl) (fun _ _ _ h => h) (SteadyX.value (by rfl) ?_) ?_
  rotate_left
  · (intro w_ hS; go_simp; try with_reducible rfl)
  simp only [List.setIfInBounds_toArray, List.set_cons_zero, List.set_cons_succ]
  refine wpX_take (i := 6) (v := .agg #[.int .i64 x.b.x0, .int .i64 x.b.y0, .int .i64 x.b.x1, .int .i64 x.b.y1]) Sw0t.out rfl rfl (by kernel_rfl) (by kernel_rfl) (by kernel_rfl) (by kernel_rfl) (fun _ _ _ h => h) (SteadyX.value (by rfl) (fun w_ hS => by obtain ⟨q0, q1, q2⟩ := Sw0u.out _ hS; exact exec_load 33 (.tmp 10) rfl rfl (run_load_agg (Tryz.isAgg33 _) (Tryz.sizeOf33 _) q1 (by simp)))) ?_
  simp only [List.setIfInBounds_toArray, List.set_cons_zero, List.set_cons_succ]
  refine wpX_take (i := 7) (v := ?_) Sw0t.out rfl rfl (by kernel_rfl) (by kernel_rfl) (by kernel_rfl) (by kernel_rfl) (fun _ _ _ h => h) (SteadyX.value (by rfl) ?_) ?_
  rotate_left
  · (intro w_ hS; go_simp; try with_reducible rfl)
  simp only [List.setIfInBounds_toArray, List.set_cons_zero, List.set_cons_succ]
  refine wpX_take (i := 8) (v := .agg #[.int .i64 y.b.x0, .int .i64 y.b.y0, .int .i64 y.b.x1, .int .i64 y.b.y1]) Sw0t.out rfl rfl (by kernel_rfl) (by kernel_rfl) (by kernel_rfl) (by kernel_rfl) (fun _ _ _ h => h) (SteadyX.value (by rfl) (fun w_ hS => by obtain ⟨q0, q1, q2⟩ := Sw0u.out _ hS; exact exec_load 33 (.tmp 12) rfl rfl (run_load_agg (Tryz.isAgg33 _) (Tryz.sizeOf33 _) q2 (by simp)))) ?_
  simp only [List.setIfInBounds_toArray, List.set_cons_zero, List.set_cons_succ]
  refine wpX_take (i := 9) Sw0t.out rfl rfl (by kernel_rfl) (by kernel_rfl) (by kernel_rfl) (by kernel_rfl) (fun _ _ _ h => h) (SteadyX.call (by rfl) (fun w_ hS => boxes_any x.b y.b w_) (fun w_ hS => by (go_simp))) ?_
  simp only [List.setIfInBounds_toArray, List.set_cons_zero, List.set_cons_succ]
  refine wpX_one (i := 10) (by kernel_rfl) (fun w_ hS => ?_)
  obtain ⟨q0, q1, q2⟩ := Sw0u.out _ hS
  have hbn := (Below.refl w_.heap.size w_).alloc (Nat.le_refl _) (.cells (intsV [cmpZ x.of y.of, boxesF x.b y.b]).toArray 3)
  have hrw : (w_.alloc (.cells (intsV [cmpZ x.of y.of, boxesF x.b y.b]).toArray 3)).ownsRow w_.heap.size 3 1 (.slice (some ⟨w_.heap.size, 0, none⟩) 2 2) 2 (intsV [cmpZ x.of y.of, boxesF x.b y.b]) := World.ownsRow_lit w_ (intsV [cmpZ x.of y.of, boxesF x.b y.b]).toArray 2 (Nat.le_refl _) (by simp [maxLen]) rfl
  have qn := q0.own hbn hrw
  obtain ⟨bl, hbl⟩ : ∃ bl, bl = w_.heap.size := ⟨_, rfl⟩
  rw [← hbl] at qn
  obtain ⟨Sw1, Sw1d⟩ : ∃ S : World → Prop, S = fun v : World => Bxs w v [⟨b3, #[.int .i64 y.b.x0, .int .i64 y.b.y0, .int .i64 y.b.x1, .int .i64 y.b.y1, .int .i64 y.of], 35⟩, ⟨b2, #[.int .i64 x.b.x0, .int .i64 x.b.y0, .int .i64 x.b.x1, .int .i64 x.b.y1, .int .i64 x.of], 35⟩] [] ∧ Blk v b2 #[.int .i64 x.b.x0, .int .i64 x.b.y0, .int .i64 x.b.x1, .int .i64 x.b.y1, .int .i64 x.of] 35 ∧ Blk v b3 #[.int .i64 y.b.x0, .int .i64 y.b.y0, .int .i64 y.b.x1, .int .i64 y.b.y1, .int .i64 y.of] 35 ∧ Bxs w v [⟨b3, #[.int .i64 y.b.x0, .int .i64 y.b.y0, .int .i64 y.b.x1, .int .i64 y.b.y1, .int .i64 y.of], 35⟩, ⟨b2, #[.int .i64 x.b.x0, .int .i64 x.b.y0, .int .i64 x.b.x1, .int .i64 x.b.y1, .int .i64 x.of], 35⟩] [⟨3, 1, .slice (some ⟨bl, 0, none⟩) 2 2, 2, intsV [cmpZ x.of y.of, boxesF x.b y.b]⟩] := ⟨_, rfl⟩
  have Sw1t0 : Stands Sw1 := by rw [Sw1d]; exact ((Bxs.stands _ _ _).and ((stands_blk _ _ _).and ((stands_blk _ _ _).and (Bxs.stands _ _ _))))
  have Sw1u0 : ∀ v, Sw1 v → Bxs w v [⟨b3, #[.int .i64 y.b.x0, .int .i64 y.b.y0, .int .i64 y.b.x1, .int .i64 y.b.y1, .int .i64 y.of], 35⟩, ⟨b2, #[.int .i64 x.b.x0, .int .i64 x.b.y0, .int .i64 x.b.x1, .int .i64 x.b.y1, .int .i64 x.of], 35⟩] [] ∧ Blk v b2 #[.int .i64 x.b.x0, .int .i64 x.b.y0, .int .i64 x.b.x1, .int .i64 x.b.y1, .int .i64 x.of] 35 ∧ Blk v b3 #[.int .i64 y.b.x0, .int .i64 y.b.y0, .int .i64 y.b.x1, .int .i64 y.b.y1, .int .i64 y.of] 35 ∧ Bxs w v [⟨b3, #[.int .i64 y.b.x0, .int .i64 y.b.y0, .int .i64 y.b.x1, .int .i64 y.b.y1, .int .i64 y.of], 35⟩, ⟨b2, #[.int .i64 x.b.x0, .int .i64 x.b.y0, .int .i64 x.b.x1, .int .i64 x.b.y1, .int .i64 x.of], 35⟩] [⟨3, 1, .slice (some ⟨bl, 0, none⟩) 2 2, 2, intsV [cmpZ x.of y.of, boxesF x.b y.b]⟩] := fun v h => by rw [Sw1d] at h; exact h
  have Sw1m0 : ∀ v, (Bxs w v [⟨b3, #[.int .i64 y.b.x0, .int .i64 y.b.y0, .int .i64 y.b.x1, .int .i64 y.b.y1, .int .i64 y.of], 35⟩, ⟨b2, #[.int .i64 x.b.x0, .int .i64 x.b.y0, .int .i64 x.b.x1, .int .i64 x.b.y1, .int .i64 x.of], 35⟩] [] ∧ Blk v b2 #[.int .i64 x.b.x0, .int .i64 x.b.y0, .int .i64 x.b.x1, .int .i64 x.b.y1, .int .i64 x.of] 35 ∧ Blk v b3 #[.int .i64 y.b.x0, .int .i64 y.b.y0, .int .i64 y.b.x1, .int .i64 y.b.y1, .int .i64 y.of] 35 ∧ Bxs w v [⟨b3, #[.int .i64 y.b.x0, .int .i64 y.b.y0, .int .i64 y.b.x1, .int .i64 y.b.y1, .int .i64 y.of], 35⟩, ⟨b2, #[.int .i64 x.b.x0, .int .i64 x.b.y0, .int .i64 x.b.x1, .int .i64 x.b.y1, .int .i64 x.of], 35⟩] [⟨3, 1, .slice (some ⟨bl, 0, none⟩) 2 2, 2, intsV [cmpZ x.of y.of, boxesF x.b y.b]⟩]) → Sw1 v := fun v h => by rw [Sw1d]; exact h
  have Sw1u := Lib.hid Sw1u0
  have Sw1m := Lib.hid Sw1m0
  have Sw1t := Lib.hid Sw1t0
  clear Sw1d Sw1u0 Sw1m0 Sw1t0
  have st_ : Sw1 (w_.alloc (.cells (intsV [cmpZ x.of y.of, boxesF x.b y.b]).toArray 3)) := Sw1m.out _ ⟨(Bxs.stands _ _ _) _ _ hbn q0, (stands_blk _ _ _) _ _ hbn q1, (stands_blk _ _ _) _ _ hbn q2, qn⟩
  refine wpX_run (i := 10) (v := .slice (some ⟨bl, 0, none⟩) 2 2) (w' := (w_.alloc (.cells (intsV [cmpZ x.of y.of, boxesF x.b y.b]).toArray 3))) Sw1 rfl rfl (by rfl) (by subst hbl; exact exec_lit rfl (ps := #[(0, .int .i64 (cmpZ x.of y.of)), (1, .int .i64 (boxesF x.b y.b))]) (by simp only [List.map_toArray, List.map_cons, List.map_nil]; rfl) (run_lits 2 [cmpZ x.of y.of, boxesF x.b y.b] rfl (by decide) _ rfl w_)) Sw1t.out (.inr fun v h => Sw0m.out _ (by obtain ⟨q0, q1, q2, q3⟩ := Sw1u.out _ h; exact ⟨q0, q1, q2⟩)) st_ ?_
  clear hS st_ hbn hrw qn hbl q0 q1 q2
  clear w_
  simp only [List.setIfInBounds_toArray, List.set_cons_zero, List.set_cons_succ]
  refine wpX_take (i := 11) Sw1t.out rfl rfl (by kernel_rfl) (by kernel_rfl) (by kernel_rfl) (by kernel_rfl) (fun _ _ _ h => h) (SteadyX.call (by rfl) (fun w_ hS => by obtain ⟨q0, q1, q2, q3⟩ := Sw1u.out _ hS; exact (Or_any q3 (l := [cmpZ x.of y.of, boxesF x.b y.b]) (j := 0) rfl (by simp))) (fun w_ hS => by (go_simp))) ?_
  simp only [List.setIfInBounds_toArray, List.set_cons_zero, List.set_cons_succ]
  refine wpX_take (i := 12) (v := ?_) Sw1t.out rfl rfl (by kernel_rfl) (by kernel_rfl) (by kernel_rfl) (by kernel_rfl) (fun _ _ _ h => h) (SteadyX.value (by rfl) ?_) ?_
  rotate_left
  · (intro w_ hS; go_simp; try with_reducible rfl)
  simp only [List.setIfInBounds_toArray, List.set_cons_zero, List.set_cons_succ]
  refine wpX_done (by kernel_rfl) (fun W hS => ?_) _
  obtain ⟨q0, q1, q2, q3⟩ := Sw1u.out _ hS
  clear hS Sw0u Sw0m Sw0t Sw1u Sw1m Sw1t
  clear Sw0 Sw1
  go_wp2
  go_ret
  exact ⟨rfl, q0.low⟩
/-- A thing that waits. -/
structure Th where
  near : Int
  row : Bool
  e : En
def tyT (b : Bool) : TypeId := if b then 82 else 96
def thA (t : Th) : Array Value := #[.int .u64 t.near, .int .i64 t.e.b.x0, .int .i64 t.e.b.y0, .int .i64 t.e.b.x1, .int .i64 t.e.b.y1, .iface (tyT t.row) (.int .i64 t.e.of)]
def befF (x y : Th) : Bool := if x.near ≠ y.near then decide (x.near < y.near) else if x.row ≠ y.row then y.row else if x.row = false then false else decide (itemsF x.e y.e < 0)
set_option maxHeartbeats 2000000 in
theorem before_true_true (a b : Int) (x y : En) (w : World) : Calls Tryz.prog 101 #[.agg #[.int .u64 a, .int .i64 x.b.x0, .int .i64 x.b.y0, .int .i64 x.b.x1, .int .i64 x.b.y1, .iface 82 (.int .i64 x.of)], .agg #[.int .u64 b, .int .i64 y.b.x0, .int .i64 y.b.y0, .int .i64 y.b.x1, .int .i64 y.b.y1, .iface 82 (.int .i64 y.of)]] w fun e w' => e = .returned (.bool (befF ⟨a, true, x⟩ ⟨b, true, y⟩)) ∧ Below w.heap.size w w' := by
  have H := Lib.hid (Bxs.start w)
  have Y1 := ta_is (.int .i64 x.of)
  have Y2 := ta_is (.int .i64 y.of)
  by_cases h : a = b
  · subst h
    have HB := Lib.hid (show befF ⟨a, true, x⟩ ⟨a, true, y⟩ = decide (itemsF x y < 0) from by simp [befF])
    go_enter Tryz.func101, Tryz.ntmps101
    go_wp2_with (rw [wpl_id]; first
      | (refine wpl_box H 164 _ rfl (by first | exact .inl rfl | exact .inr ⟨_, _, _, _, rfl, rfl, rfl, rfl⟩) (cs := #[.int .u64 a, .int .i64 x.b.x0, .int .i64 x.b.y0, .int .i64 x.b.x1, .int .i64 x.b.y1, .iface 82 (.int .i64 x.of)]) rfl (fun b2 w' H2 => ?_); clear H; have H := H2; clear H2)
      | (refine wpl_box H 164 _ rfl (by first | exact .inl rfl | exact .inr ⟨_, _, _, _, rfl, rfl, rfl, rfl⟩) (cs := #[.int .u64 a, .int .i64 y.b.x0, .int .i64 y.b.y0, .int .i64 y.b.x1, .int .i64 y.b.y1, .iface 82 (.int .i64 y.of)]) rfl (fun b3 w' H2 => ?_); clear H; have H := H2; clear H2)
      | (refine wpl_ld H 1 rfl _ _ rfl (by first | exact .inl rfl | exact .inr ⟨_, _, _, _, rfl, rfl, rfl, rfl⟩) (by exact rfl) Tryz.isAgg20 rfl ?_)
      | (refine wpl_ld H 0 rfl _ _ rfl (by first | exact .inl rfl | exact .inr ⟨_, _, _, _, rfl, rfl, rfl, rfl⟩) (by exact rfl) Tryz.isAgg20 rfl ?_)
      | (refine wpl_ld H 1 rfl _ _ rfl (by first | exact .inl rfl | exact .inr ⟨_, _, _, _, rfl, rfl, rfl, rfl⟩) (by exact rfl) Tryz.isAgg45 rfl ?_)
      | (refine wpl_ld H 0 rfl _ _ rfl (by first | exact .inl rfl | exact .inr ⟨_, _, _, _, rfl, rfl, rfl, rfl⟩) (by exact rfl) Tryz.isAgg45 rfl ?_)
      | (refine wpl_lda H 1 rfl _ _ rfl (by first | exact .inl rfl | exact .inr ⟨_, _, _, _, rfl, rfl, rfl, rfl⟩) (by exact rfl) Tryz.isAgg33 Tryz.sizeOf33 (by kernel_rfl) (cs := #[.int .i64 x.b.x0, .int .i64 x.b.y0, .int .i64 x.b.x1, .int .i64 x.b.y1]) rfl ?_)
      | (refine wpl_lda H 0 rfl _ _ rfl (by first | exact .inl rfl | exact .inr ⟨_, _, _, _, rfl, rfl, rfl, rfl⟩) (by exact rfl) Tryz.isAgg33 Tryz.sizeOf33 (by kernel_rfl) (cs := #[.int .i64 y.b.x0, .int .i64 y.b.y0, .int .i64 y.b.x1, .int .i64 y.b.y1]) rfl ?_))
    refine (items_any x y _).mono ?_
    rintro e w1 ⟨rfl, hb⟩
    have H2 := Lib.hid (H.out.grew hb)
    clear hb
    clear H
    have H := H2
    clear H2
    go_wp2
    go_ret
    exact ⟨by rw [HB.out]; rfl, H.out.low⟩
  · have HB := Lib.hid (show befF ⟨a, true, x⟩ ⟨b, true, y⟩ = decide (a < b) from by simp [befF, h])
    go_enter Tryz.func101, Tryz.ntmps101
    go_wp2_with (rw [wpl_id]; first
      | (refine wpl_box H 164 _ rfl (by first | exact .inl rfl | exact .inr ⟨_, _, _, _, rfl, rfl, rfl, rfl⟩) (cs := #[.int .u64 a, .int .i64 x.b.x0, .int .i64 x.b.y0, .int .i64 x.b.x1, .int .i64 x.b.y1, .iface 82 (.int .i64 x.of)]) rfl (fun b2 w' H2 => ?_); clear H; have H := H2; clear H2)
      | (refine wpl_box H 164 _ rfl (by first | exact .inl rfl | exact .inr ⟨_, _, _, _, rfl, rfl, rfl, rfl⟩) (cs := #[.int .u64 b, .int .i64 y.b.x0, .int .i64 y.b.y0, .int .i64 y.b.x1, .int .i64 y.b.y1, .iface 82 (.int .i64 y.of)]) rfl (fun b3 w' H2 => ?_); clear H; have H := H2; clear H2)
      | (refine wpl_ld H 1 rfl _ _ rfl (by first | exact .inl rfl | exact .inr ⟨_, _, _, _, rfl, rfl, rfl, rfl⟩) (by exact rfl) Tryz.isAgg20 rfl ?_)
      | (refine wpl_ld H 0 rfl _ _ rfl (by first | exact .inl rfl | exact .inr ⟨_, _, _, _, rfl, rfl, rfl, rfl⟩) (by exact rfl) Tryz.isAgg20 rfl ?_)
      | (refine wpl_ld H 1 rfl _ _ rfl (by first | exact .inl rfl | exact .inr ⟨_, _, _, _, rfl, rfl, rfl, rfl⟩) (by exact rfl) Tryz.isAgg45 rfl ?_)
      | (refine wpl_ld H 0 rfl _ _ rfl (by first | exact .inl rfl | exact .inr ⟨_, _, _, _, rfl, rfl, rfl, rfl⟩) (by exact rfl) Tryz.isAgg45 rfl ?_))
    go_ret
    exact ⟨by rw [HB.out]; rfl, H.out.low⟩
set_option maxHeartbeats 2000000 in
theorem before_true_false (a b : Int) (x y : En) (w : World) : Calls Tryz.prog 101 #[.agg #[.int .u64 a, .int .i64 x.b.x0, .int .i64 x.b.y0, .int .i64 x.b.x1, .int .i64 x.b.y1, .iface 82 (.int .i64 x.of)], .agg #[.int .u64 b, .int .i64 y.b.x0, .int .i64 y.b.y0, .int .i64 y.b.x1, .int .i64 y.b.y1, .iface 96 (.int .i64 y.of)]] w fun e w' => e = .returned (.bool (befF ⟨a, true, x⟩ ⟨b, false, y⟩)) ∧ Below w.heap.size w w' := by
  have H := Lib.hid (Bxs.start w)
  have Y1 := ta_is (.int .i64 x.of)
  have Y2 := ta_not (.int .i64 y.of)
  by_cases h : a = b
  · subst h
    have HB := Lib.hid (show befF ⟨a, true, x⟩ ⟨a, false, y⟩ = false from by simp [befF])
    go_enter Tryz.func101, Tryz.ntmps101
    go_wp2_with (rw [wpl_id]; first
      | (refine wpl_box H 164 _ rfl (by first | exact .inl rfl | exact .inr ⟨_, _, _, _, rfl, rfl, rfl, rfl⟩) (cs := #[.int .u64 a, .int .i64 x.b.x0, .int .i64 x.b.y0, .int .i64 x.b.x1, .int .i64 x.b.y1, .iface 82 (.int .i64 x.of)]) rfl (fun b2 w' H2 => ?_); clear H; have H := H2; clear H2)
      | (refine wpl_box H 164 _ rfl (by first | exact .inl rfl | exact .inr ⟨_, _, _, _, rfl, rfl, rfl, rfl⟩) (cs := #[.int .u64 a, .int .i64 y.b.x0, .int .i64 y.b.y0, .int .i64 y.b.x1, .int .i64 y.b.y1, .iface 96 (.int .i64 y.of)]) rfl (fun b3 w' H2 => ?_); clear H; have H := H2; clear H2)
      | (refine wpl_ld H 1 rfl _ _ rfl (by first | exact .inl rfl | exact .inr ⟨_, _, _, _, rfl, rfl, rfl, rfl⟩) (by exact rfl) Tryz.isAgg20 rfl ?_)
      | (refine wpl_ld H 0 rfl _ _ rfl (by first | exact .inl rfl | exact .inr ⟨_, _, _, _, rfl, rfl, rfl, rfl⟩) (by exact rfl) Tryz.isAgg20 rfl ?_)
      | (refine wpl_ld H 1 rfl _ _ rfl (by first | exact .inl rfl | exact .inr ⟨_, _, _, _, rfl, rfl, rfl, rfl⟩) (by exact rfl) Tryz.isAgg45 rfl ?_)
      | (refine wpl_ld H 0 rfl _ _ rfl (by first | exact .inl rfl | exact .inr ⟨_, _, _, _, rfl, rfl, rfl, rfl⟩) (by exact rfl) Tryz.isAgg45 rfl ?_)
      | (refine wpl_lda H 1 rfl _ _ rfl (by first | exact .inl rfl | exact .inr ⟨_, _, _, _, rfl, rfl, rfl, rfl⟩) (by exact rfl) Tryz.isAgg33 Tryz.sizeOf33 (by kernel_rfl) (cs := #[.int .i64 x.b.x0, .int .i64 x.b.y0, .int .i64 x.b.x1, .int .i64 x.b.y1]) rfl ?_)
      | (refine wpl_lda H 0 rfl _ _ rfl (by first | exact .inl rfl | exact .inr ⟨_, _, _, _, rfl, rfl, rfl, rfl⟩) (by exact rfl) Tryz.isAgg33 Tryz.sizeOf33 (by kernel_rfl) (cs := #[.int .i64 y.b.x0, .int .i64 y.b.y0, .int .i64 y.b.x1, .int .i64 y.b.y1]) rfl ?_))
    go_ret
    exact ⟨by rw [HB.out]; rfl, H.out.low⟩
  · have HB := Lib.hid (show befF ⟨a, true, x⟩ ⟨b, false, y⟩ = decide (a < b) from by simp [befF, h])
    go_enter Tryz.func101, Tryz.ntmps101
    go_wp2_with (rw [wpl_id]; first
      | (refine wpl_box H 164 _ rfl (by first | exact .inl rfl | exact .inr ⟨_, _, _, _, rfl, rfl, rfl, rfl⟩) (cs := #[.int .u64 a, .int .i64 x.b.x0, .int .i64 x.b.y0, .int .i64 x.b.x1, .int .i64 x.b.y1, .iface 82 (.int .i64 x.of)]) rfl (fun b2 w' H2 => ?_); clear H; have H := H2; clear H2)
      | (refine wpl_box H 164 _ rfl (by first | exact .inl rfl | exact .inr ⟨_, _, _, _, rfl, rfl, rfl, rfl⟩) (cs := #[.int .u64 b, .int .i64 y.b.x0, .int .i64 y.b.y0, .int .i64 y.b.x1, .int .i64 y.b.y1, .iface 96 (.int .i64 y.of)]) rfl (fun b3 w' H2 => ?_); clear H; have H := H2; clear H2)
      | (refine wpl_ld H 1 rfl _ _ rfl (by first | exact .inl rfl | exact .inr ⟨_, _, _, _, rfl, rfl, rfl, rfl⟩) (by exact rfl) Tryz.isAgg20 rfl ?_)
      | (refine wpl_ld H 0 rfl _ _ rfl (by first | exact .inl rfl | exact .inr ⟨_, _, _, _, rfl, rfl, rfl, rfl⟩) (by exact rfl) Tryz.isAgg20 rfl ?_)
      | (refine wpl_ld H 1 rfl _ _ rfl (by first | exact .inl rfl | exact .inr ⟨_, _, _, _, rfl, rfl, rfl, rfl⟩) (by exact rfl) Tryz.isAgg45 rfl ?_)
      | (refine wpl_ld H 0 rfl _ _ rfl (by first | exact .inl rfl | exact .inr ⟨_, _, _, _, rfl, rfl, rfl, rfl⟩) (by exact rfl) Tryz.isAgg45 rfl ?_))
    go_ret
    exact ⟨by rw [HB.out]; rfl, H.out.low⟩
set_option maxHeartbeats 2000000 in
theorem before_false_true (a b : Int) (x y : En) (w : World) : Calls Tryz.prog 101 #[.agg #[.int .u64 a, .int .i64 x.b.x0, .int .i64 x.b.y0, .int .i64 x.b.x1, .int .i64 x.b.y1, .iface 96 (.int .i64 x.of)], .agg #[.int .u64 b, .int .i64 y.b.x0, .int .i64 y.b.y0, .int .i64 y.b.x1, .int .i64 y.b.y1, .iface 82 (.int .i64 y.of)]] w fun e w' => e = .returned (.bool (befF ⟨a, false, x⟩ ⟨b, true, y⟩)) ∧ Below w.heap.size w w' := by
  have H := Lib.hid (Bxs.start w)
  have Y1 := ta_not (.int .i64 x.of)
  have Y2 := ta_is (.int .i64 y.of)
  by_cases h : a = b
  · subst h
    have HB := Lib.hid (show befF ⟨a, false, x⟩ ⟨a, true, y⟩ = true from by simp [befF])
    go_enter Tryz.func101, Tryz.ntmps101
    go_wp2_with (rw [wpl_id]; first
      | (refine wpl_box H 164 _ rfl (by first | exact .inl rfl | exact .inr ⟨_, _, _, _, rfl, rfl, rfl, rfl⟩) (cs := #[.int .u64 a, .int .i64 x.b.x0, .int .i64 x.b.y0, .int .i64 x.b.x1, .int .i64 x.b.y1, .iface 96 (.int .i64 x.of)]) rfl (fun b2 w' H2 => ?_); clear H; have H := H2; clear H2)
      | (refine wpl_box H 164 _ rfl (by first | exact .inl rfl | exact .inr ⟨_, _, _, _, rfl, rfl, rfl, rfl⟩) (cs := #[.int .u64 a, .int .i64 y.b.x0, .int .i64 y.b.y0, .int .i64 y.b.x1, .int .i64 y.b.y1, .iface 82 (.int .i64 y.of)]) rfl (fun b3 w' H2 => ?_); clear H; have H := H2; clear H2)
      | (refine wpl_ld H 1 rfl _ _ rfl (by first | exact .inl rfl | exact .inr ⟨_, _, _, _, rfl, rfl, rfl, rfl⟩) (by exact rfl) Tryz.isAgg20 rfl ?_)
      | (refine wpl_ld H 0 rfl _ _ rfl (by first | exact .inl rfl | exact .inr ⟨_, _, _, _, rfl, rfl, rfl, rfl⟩) (by exact rfl) Tryz.isAgg20 rfl ?_)
      | (refine wpl_ld H 1 rfl _ _ rfl (by first | exact .inl rfl | exact .inr ⟨_, _, _, _, rfl, rfl, rfl, rfl⟩) (by exact rfl) Tryz.isAgg45 rfl ?_)
      | (refine wpl_ld H 0 rfl _ _ rfl (by first | exact .inl rfl | exact .inr ⟨_, _, _, _, rfl, rfl, rfl, rfl⟩) (by exact rfl) Tryz.isAgg45 rfl ?_)
      | (refine wpl_lda H 1 rfl _ _ rfl (by first | exact .inl rfl | exact .inr ⟨_, _, _, _, rfl, rfl, rfl, rfl⟩) (by exact rfl) Tryz.isAgg33 Tryz.sizeOf33 (by kernel_rfl) (cs := #[.int .i64 x.b.x0, .int .i64 x.b.y0, .int .i64 x.b.x1, .int .i64 x.b.y1]) rfl ?_)
      | (refine wpl_lda H 0 rfl _ _ rfl (by first | exact .inl rfl | exact .inr ⟨_, _, _, _, rfl, rfl, rfl, rfl⟩) (by exact rfl) Tryz.isAgg33 Tryz.sizeOf33 (by kernel_rfl) (cs := #[.int .i64 y.b.x0, .int .i64 y.b.y0, .int .i64 y.b.x1, .int .i64 y.b.y1]) rfl ?_))
    go_ret
    exact ⟨by rw [HB.out]; rfl, H.out.low⟩
  · have HB := Lib.hid (show befF ⟨a, false, x⟩ ⟨b, true, y⟩ = decide (a < b) from by simp [befF, h])
    go_enter Tryz.func101, Tryz.ntmps101
    go_wp2_with (rw [wpl_id]; first
      | (refine wpl_box H 164 _ rfl (by first | exact .inl rfl | exact .inr ⟨_, _, _, _, rfl, rfl, rfl, rfl⟩) (cs := #[.int .u64 a, .int .i64 x.b.x0, .int .i64 x.b.y0, .int .i64 x.b.x1, .int .i64 x.b.y1, .iface 96 (.int .i64 x.of)]) rfl (fun b2 w' H2 => ?_); clear H; have H := H2; clear H2)
      | (refine wpl_box H 164 _ rfl (by first | exact .inl rfl | exact .inr ⟨_, _, _, _, rfl, rfl, rfl, rfl⟩) (cs := #[.int .u64 b, .int .i64 y.b.x0, .int .i64 y.b.y0, .int .i64 y.b.x1, .int .i64 y.b.y1, .iface 82 (.int .i64 y.of)]) rfl (fun b3 w' H2 => ?_); clear H; have H := H2; clear H2)
      | (refine wpl_ld H 1 rfl _ _ rfl (by first | exact .inl rfl | exact .inr ⟨_, _, _, _, rfl, rfl, rfl, rfl⟩) (by exact rfl) Tryz.isAgg20 rfl ?_)
      | (refine wpl_ld H 0 rfl _ _ rfl (by first | exact .inl rfl | exact .inr ⟨_, _, _, _, rfl, rfl, rfl, rfl⟩) (by exact rfl) Tryz.isAgg20 rfl ?_)
      | (refine wpl_ld H 1 rfl _ _ rfl (by first | exact .inl rfl | exact .inr ⟨_, _, _, _, rfl, rfl, rfl, rfl⟩) (by exact rfl) Tryz.isAgg45 rfl ?_)
      | (refine wpl_ld H 0 rfl _ _ rfl (by first | exact .inl rfl | exact .inr ⟨_, _, _, _, rfl, rfl, rfl, rfl⟩) (by exact rfl) Tryz.isAgg45 rfl ?_))
    go_ret
    exact ⟨by rw [HB.out]; rfl, H.out.low⟩
set_option maxHeartbeats 2000000 in
theorem before_false_false (a b : Int) (x y : En) (w : World) : Calls Tryz.prog 101 #[.agg #[.int .u64 a, .int .i64 x.b.x0, .int .i64 x.b.y0, .int .i64 x.b.x1, .int .i64 x.b.y1, .iface 96 (.int .i64 x.of)], .agg #[.int .u64 b, .int .i64 y.b.x0, .int .i64 y.b.y0, .int .i64 y.b.x1, .int .i64 y.b.y1, .iface 96 (.int .i64 y.of)]] w fun e w' => e = .returned (.bool (befF ⟨a, false, x⟩ ⟨b, false, y⟩)) ∧ Below w.heap.size w w' := by
  have H := Lib.hid (Bxs.start w)
  have Y1 := ta_not (.int .i64 x.of)
  have Y2 := ta_not (.int .i64 y.of)
  by_cases h : a = b
  · subst h
    have HB := Lib.hid (show befF ⟨a, false, x⟩ ⟨a, false, y⟩ = false from by simp [befF])
    go_enter Tryz.func101, Tryz.ntmps101
    go_wp2_with (rw [wpl_id]; first
      | (refine wpl_box H 164 _ rfl (by first | exact .inl rfl | exact .inr ⟨_, _, _, _, rfl, rfl, rfl, rfl⟩) (cs := #[.int .u64 a, .int .i64 x.b.x0, .int .i64 x.b.y0, .int .i64 x.b.x1, .int .i64 x.b.y1, .iface 96 (.int .i64 x.of)]) rfl (fun b2 w' H2 => ?_); clear H; have H := H2; clear H2)
      | (refine wpl_box H 164 _ rfl (by first | exact .inl rfl | exact .inr ⟨_, _, _, _, rfl, rfl, rfl, rfl⟩) (cs := #[.int .u64 a, .int .i64 y.b.x0, .int .i64 y.b.y0, .int .i64 y.b.x1, .int .i64 y.b.y1, .iface 96 (.int .i64 y.of)]) rfl (fun b3 w' H2 => ?_); clear H; have H := H2; clear H2)
      | (refine wpl_ld H 1 rfl _ _ rfl (by first | exact .inl rfl | exact .inr ⟨_, _, _, _, rfl, rfl, rfl, rfl⟩) (by exact rfl) Tryz.isAgg20 rfl ?_)
      | (refine wpl_ld H 0 rfl _ _ rfl (by first | exact .inl rfl | exact .inr ⟨_, _, _, _, rfl, rfl, rfl, rfl⟩) (by exact rfl) Tryz.isAgg20 rfl ?_)
      | (refine wpl_ld H 1 rfl _ _ rfl (by first | exact .inl rfl | exact .inr ⟨_, _, _, _, rfl, rfl, rfl, rfl⟩) (by exact rfl) Tryz.isAgg45 rfl ?_)
      | (refine wpl_ld H 0 rfl _ _ rfl (by first | exact .inl rfl | exact .inr ⟨_, _, _, _, rfl, rfl, rfl, rfl⟩) (by exact rfl) Tryz.isAgg45 rfl ?_)
      | (refine wpl_lda H 1 rfl _ _ rfl (by first | exact .inl rfl | exact .inr ⟨_, _, _, _, rfl, rfl, rfl, rfl⟩) (by exact rfl) Tryz.isAgg33 Tryz.sizeOf33 (by kernel_rfl) (cs := #[.int .i64 x.b.x0, .int .i64 x.b.y0, .int .i64 x.b.x1, .int .i64 x.b.y1]) rfl ?_)
      | (refine wpl_lda H 0 rfl _ _ rfl (by first | exact .inl rfl | exact .inr ⟨_, _, _, _, rfl, rfl, rfl, rfl⟩) (by exact rfl) Tryz.isAgg33 Tryz.sizeOf33 (by kernel_rfl) (cs := #[.int .i64 y.b.x0, .int .i64 y.b.y0, .int .i64 y.b.x1, .int .i64 y.b.y1]) rfl ?_))
    go_ret
    exact ⟨by rw [HB.out]; rfl, H.out.low⟩
  · have HB := Lib.hid (show befF ⟨a, false, x⟩ ⟨b, false, y⟩ = decide (a < b) from by simp [befF, h])
    go_enter Tryz.func101, Tryz.ntmps101
    go_wp2_with (rw [wpl_id]; first
      | (refine wpl_box H 164 _ rfl (by first | exact .inl rfl | exact .inr ⟨_, _, _, _, rfl, rfl, rfl, rfl⟩) (cs := #[.int .u64 a, .int .i64 x.b.x0, .int .i64 x.b.y0, .int .i64 x.b.x1, .int .i64 x.b.y1, .iface 96 (.int .i64 x.of)]) rfl (fun b2 w' H2 => ?_); clear H; have H := H2; clear H2)
      | (refine wpl_box H 164 _ rfl (by first | exact .inl rfl | exact .inr ⟨_, _, _, _, rfl, rfl, rfl, rfl⟩) (cs := #[.int .u64 b, .int .i64 y.b.x0, .int .i64 y.b.y0, .int .i64 y.b.x1, .int .i64 y.b.y1, .iface 96 (.int .i64 y.of)]) rfl (fun b3 w' H2 => ?_); clear H; have H := H2; clear H2)
      | (refine wpl_ld H 1 rfl _ _ rfl (by first | exact .inl rfl | exact .inr ⟨_, _, _, _, rfl, rfl, rfl, rfl⟩) (by exact rfl) Tryz.isAgg20 rfl ?_)
      | (refine wpl_ld H 0 rfl _ _ rfl (by first | exact .inl rfl | exact .inr ⟨_, _, _, _, rfl, rfl, rfl, rfl⟩) (by exact rfl) Tryz.isAgg20 rfl ?_)
      | (refine wpl_ld H 1 rfl _ _ rfl (by first | exact .inl rfl | exact .inr ⟨_, _, _, _, rfl, rfl, rfl, rfl⟩) (by exact rfl) Tryz.isAgg45 rfl ?_)
      | (refine wpl_ld H 0 rfl _ _ rfl (by first | exact .inl rfl | exact .inr ⟨_, _, _, _, rfl, rfl, rfl, rfl⟩) (by exact rfl) Tryz.isAgg45 rfl ?_))
    go_ret
    exact ⟨by rw [HB.out]; rfl, H.out.low⟩
theorem before_any (x y : Th) (w : World) : Calls Tryz.prog 101 #[.agg (thA x), .agg (thA y)] w fun e w' => e = .returned (.bool (befF x y)) ∧ Below w.heap.size w w' := by
  obtain ⟨a, xr, xe⟩ := x
  obtain ⟨b, yr, ye⟩ := y
  cases xr <;> cases yr
  · exact before_false_false a b xe ye w
  · exact before_false_true a b xe ye w
  · exact before_true_false a b xe ye w
  · exact before_true_true a b xe ye w
end
end Go.Proofs.YtfmdmfiljplkoaaGreat
