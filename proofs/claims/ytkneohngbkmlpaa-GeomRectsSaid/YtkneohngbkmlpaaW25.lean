/- Walks: Bounds. -/
import Derived.Test.YtkneohngbkmlpaaFree
import Derived.Test.YtkneohngbkmlpaaW24
namespace Go.Proofs.Ytkneohngbkmlpaa
open Go.RowKit

def ptR (p : Pt) : Rc := ⟨p.x, p.y, p.x, p.y⟩
def bndL : List Pt → Rc
  | [] => zeroR
  | p :: l => (p :: l).foldl (fun o q => joinR o (ptR q)) (ptR p)
theorem span_self (p : Pt) : spanR p p = ptR p := by
  unfold spanR ptR
  simp

set_option maxRecDepth 20000 in
set_option maxHeartbeats 4000000 in
theorem Bounds_loop (l : List Pt) (A : Option Addr) (n c : Nat) (w : World) (hn : l.length = n) (hr : Pts w w.heap.size A l) (hn0 : (0 : Int) < n) (hn1 : (n : Int) ≤ 1000) (hm : ∀ q ∈ l, May q) :
    Calls Try.prog 25 #[.slice A n c] w fun e w' => e = .returned (.tuple #[rc (bndL l), .bool true]) ∧ Below w.heap.size w w' := by
  have ka : ∀ w', Below w.heap.size w w' → Calls Try.prog 39 #[.slice A n c] w' fun e w'' => e = .returned (.bool true) ∧ Below w'.heap.size w' w'' := fun w' hb => by
    have h := all_any A l n c w' hn (fun hne => by
      obtain ⟨p, e, h1, h2⟩ := hr hne
      exact ⟨p, e, Nat.lt_of_lt_of_le h1 hb.size, fun k hk => ⟨(hb.cell (by rw [add_block]; exact h1)).trans (h2 k hk).1, (hb.cell (by rw [add_block, add_block]; exact h1)).trans (h2 k hk).2⟩⟩) (by omega)
    rwa [decide_eq_true hm] at h
  have ks : ∀ x y w, Calls Try.prog 48 #[.agg #[.int .i64 x, .int .i64 y], .agg #[.int .i64 x, .int .i64 y]] w fun e w' => e = .returned (.agg #[.int .i64 x, .int .i64 y, .int .i64 x, .int .i64 y]) ∧ Below w.heap.size w w' := fun x y w => by
    have h := span_any ⟨x, y⟩ ⟨x, y⟩ w
    rw [span_self] at h; exact h
  have KA := Lib.hid ka
  have KS := Lib.hid ks
  have HR := Lib.hid hr
  have HN := Lib.hid hn
  have h0 : 0 < l.length := by omega
  obtain ⟨p, e, hpl, h1, h2⟩ := hr.get h0
  subst e
  have hne0 : ((n : Int) == 0) = false := by simp; omega
  have hnn : 0 < n := by omega
  obtain ⟨⟨ax, ay⟩, ha⟩ : ∃ a, l[0] = a := ⟨_, rfl⟩
  rw [ha] at h1 h2
  have HA := Lib.hid ha
  have HPL := Lib.hid hpl
  clear ka ks hr hn ha hm hpl
  rw [add_one] at h2
  simp only [Nat.zero_mul] at h1 h2
  have e0 : p.add 0 = p := by unfold Addr.add; simp
  rw [e0] at h1 h2
  clear e0
  obtain ⟨w0, hw0, p0, g0, z0⟩ := boxes1 w #[.int .i64 0, .int .i64 0, .int .i64 0, .int .i64 0] 38
  have C0 := Lib.hid (And.intro ((g0.cell (p := p) HPL.out).trans h1) (And.intro ((g0.cell (p := ⟨p.block, p.off + 1, none⟩) HPL.out).trans h2) (And.intro p0 g0)))
  clear p0 g0 z0 h1 h2
  go_enter Try.func25, Try.ntmps25
  go_wp2_with fail
  refine (KA.out _ C0.out.2.2.2).mono ?_
  rintro e w1 ⟨rfl, hb⟩
  (try clear hw0)
  have C1 := Lib.hid (And.intro (cell_grew C0.out.1 hb) (And.intro (cell_grew C0.out.2.1 hb) (And.intro (C0.out.2.2.1.grew hb) (grow C0.out.2.2.2 hb))))
  clear hb C0
  go_wp2_with fail
  obtain ⟨S0, S0d⟩ : ∃ S : World → Prop, S = fun v : World => v.cell? p = some (.int .i64 ax) ∧ v.cell? ⟨p.block, p.off + 1, none⟩ = some (.int .i64 ay) ∧ Blk v w.heap.size #[.int .i64 0, .int .i64 0, .int .i64 0, .int .i64 0] 38 ∧ Below w.heap.size w v := ⟨_, rfl⟩
  have S0t0 : Stands S0 := by rw [S0d]; exact ((stands_cell _ _).and ((stands_cell _ _).and ((stands_blk _ _ _).and (stands_below _))))
  have S0u0 : ∀ v, S0 v → v.cell? p = some (.int .i64 ax) ∧ v.cell? ⟨p.block, p.off + 1, none⟩ = some (.int .i64 ay) ∧ Blk v w.heap.size #[.int .i64 0, .int .i64 0, .int .i64 0, .int .i64 0] 38 ∧ Below w.heap.size w v := fun v h => by rw [S0d] at h; exact h
  have S0m0 : ∀ v, (v.cell? p = some (.int .i64 ax) ∧ v.cell? ⟨p.block, p.off + 1, none⟩ = some (.int .i64 ay) ∧ Blk v w.heap.size #[.int .i64 0, .int .i64 0, .int .i64 0, .int .i64 0] 38 ∧ Below w.heap.size w v) → S0 v := fun v h => by rw [S0d]; exact h
  have S0u := Lib.hid S0u0
  have S0m := Lib.hid S0m0
  have S0t := Lib.hid S0t0
  clear S0d S0u0 S0m0 S0t0
  refine wp_region_X (S := S0) (by kernel_rfl) (S0m.out _ ⟨C1.out.1, C1.out.2.1, C1.out.2.2.1.drew, C1.out.2.2.2.drew⟩) ?_
  clear C1
  refine wpX_take (i := 0) (v := ?_) S0t.out rfl rfl (by kernel_rfl) (by kernel_rfl) (by kernel_rfl) (fun _ _ _ h => h) (SteadyX.value (by rfl) ?_) ?_
  rotate_left
  · (intro w_ hS; obtain ⟨q0, q1, q2, q3⟩ := S0u.out _ hS; (have q2 := q2.four); (clear q3); go_simp; try with_reducible rfl)
  simp only [List.setIfInBounds_toArray, List.set_cons_zero, List.set_cons_succ]
  refine wpX_take (i := 1) (v := ?_) S0t.out rfl rfl (by kernel_rfl) (by kernel_rfl) (by kernel_rfl) (fun _ _ _ h => h) (SteadyX.value (by rfl) ?_) ?_
  rotate_left
  · (intro w_ hS; obtain ⟨q0, q1, q2, q3⟩ := S0u.out _ hS; (have q2 := q2.four); (clear q3); go_simp; try with_reducible rfl)
  simp only [List.setIfInBounds_toArray, List.set_cons_zero, List.set_cons_succ]
  refine wpX_take (i := 2) (v := ?_) S0t.out rfl rfl (by kernel_rfl) (by kernel_rfl) (by kernel_rfl) (fun _ _ _ h => h) (SteadyX.value (by rfl) ?_) ?_
  rotate_left
  · (intro w_ hS; obtain ⟨q0, q1, q2, q3⟩ := S0u.out _ hS; (have q2 := q2.four); (clear q3); go_simp; try with_reducible rfl)
  simp only [List.setIfInBounds_toArray, List.set_cons_zero, List.set_cons_succ]
  refine wpX_take (i := 3) (v := ?_) S0t.out rfl rfl (by kernel_rfl) (by kernel_rfl) (by kernel_rfl) (fun _ _ _ h => h) (SteadyX.value (by rfl) ?_) ?_
  rotate_left
  · (intro w_ hS; obtain ⟨q0, q1, q2, q3⟩ := S0u.out _ hS; (have q2 := q2.four); (clear q3); go_simp; try with_reducible rfl)
  simp only [List.setIfInBounds_toArray, List.set_cons_zero, List.set_cons_succ]
  refine wpX_take (i := 4) (v := ?_) S0t.out rfl rfl (by kernel_rfl) (by kernel_rfl) (by kernel_rfl) (fun _ _ _ h => h) (SteadyX.value (by rfl) ?_) ?_
  rotate_left
  · (intro w_ hS; obtain ⟨q0, q1, q2, q3⟩ := S0u.out _ hS; (have q2 := q2.four); (clear q3); go_simp; try with_reducible rfl)
  simp only [List.setIfInBounds_toArray, List.set_cons_zero, List.set_cons_succ]
  refine wpX_take (i := 5) (v := ?_) S0t.out rfl rfl (by kernel_rfl) (by kernel_rfl) (by kernel_rfl) (fun _ _ _ h => h) (SteadyX.value (by rfl) ?_) ?_
  rotate_left
  · (intro w_ hS; obtain ⟨q0, q1, q2, q3⟩ := S0u.out _ hS; (have q2 := q2.four); (clear q3); go_simp; try with_reducible rfl)
  simp only [List.setIfInBounds_toArray, List.set_cons_zero, List.set_cons_succ]
  refine wpX_take (i := 6) S0t.out rfl rfl (by kernel_rfl) (by kernel_rfl) (by kernel_rfl) (fun _ _ _ h => h) (SteadyX.call (by rfl) (fun w_ hS => KS.out ax ay w_) (fun w_ hS => by (obtain ⟨q0, q1, q2, q3⟩ := S0u.out _ hS; (have q2 := q2.four); (clear q3); go_simp))) ?_
  simp only [List.setIfInBounds_toArray, List.set_cons_zero, List.set_cons_succ]
  refine wpX_one (i := 7) (by kernel_rfl) (fun w_ hS => ?_)
  obtain ⟨q0, q1, q2, q3⟩ := S0u.out _ hS
  obtain ⟨R, hR⟩ : ∃ R, R = w_.heap.size := ⟨_, rfl⟩
  have ltR_2 : w.heap.size < R := by rw [hR]; exact q2.lt
  have ltR_b : w.heap.size ≤ R := by rw [hR]; exact q3.size
  obtain ⟨S1, S1d⟩ : ∃ S : World → Prop, S = fun v : World => v.cell? p = some (.int .i64 ax) ∧ v.cell? ⟨p.block, p.off + 1, none⟩ = some (.int .i64 ay) ∧ Blk v w.heap.size #[.int .i64 0, .int .i64 0, .int .i64 0, .int .i64 0] 38 ∧ Below w.heap.size w v ∧ Blk v R #[.int .i64 0, .int .i64 0, .int .i64 0, .int .i64 0] 38 := ⟨_, rfl⟩
  have S1t0 : Stands S1 := by rw [S1d]; exact ((stands_cell _ _).and ((stands_cell _ _).and ((stands_blk _ _ _).and ((stands_below _).and (stands_blk _ _ _)))))
  have S1u0 : ∀ v, S1 v → v.cell? p = some (.int .i64 ax) ∧ v.cell? ⟨p.block, p.off + 1, none⟩ = some (.int .i64 ay) ∧ Blk v w.heap.size #[.int .i64 0, .int .i64 0, .int .i64 0, .int .i64 0] 38 ∧ Below w.heap.size w v ∧ Blk v R #[.int .i64 0, .int .i64 0, .int .i64 0, .int .i64 0] 38 := fun v h => by rw [S1d] at h; exact h
  have S1m0 : ∀ v, (v.cell? p = some (.int .i64 ax) ∧ v.cell? ⟨p.block, p.off + 1, none⟩ = some (.int .i64 ay) ∧ Blk v w.heap.size #[.int .i64 0, .int .i64 0, .int .i64 0, .int .i64 0] 38 ∧ Below w.heap.size w v ∧ Blk v R #[.int .i64 0, .int .i64 0, .int .i64 0, .int .i64 0] 38) → S1 v := fun v h => by rw [S1d]; exact h
  have S1u := Lib.hid S1u0
  have S1m := Lib.hid S1m0
  have S1t := Lib.hid S1t0
  clear S1d S1u0 S1m0 S1t0
  refine wpX_run (i := 7) (v := .pointer (some ⟨R, 0, none⟩)) (w' := w_.alloc (.cells #[.int .i64 0, .int .i64 0, .int .i64 0, .int .i64 0] 38)) S1 rfl rfl (by rfl) (by (subst hR; go_simp)) S1t.out (.inr fun v h => S0m.out _ (by obtain ⟨q0, q1, q2, q3, q4⟩ := S1u.out _ h; exact ⟨q0, q1, q2, q3⟩)) (S1m.out _ ⟨(stands_cell _ _) _ _ ((Below.refl _ w_).alloc (Nat.le_refl _) _) q0, (stands_cell _ _) _ _ ((Below.refl _ w_).alloc (Nat.le_refl _) _) q1, (stands_blk _ _ _) _ _ ((Below.refl _ w_).alloc (Nat.le_refl _) _) q2, (stands_below _) _ _ ((Below.refl _ w_).alloc (Nat.le_refl _) _) q3, Blk.new' w_ _ _ hR⟩) ?_
  clear hS q0 q1 q2 q3 hR
  clear w_
  simp only [List.setIfInBounds_toArray, List.set_cons_zero, List.set_cons_succ]
  have hpR : p.block < w.heap.size := HPL.out
  refine wpX_one (i := 8) (by kernel_rfl) (fun w_ hS => ?_)
  obtain ⟨q0, q1, q2, q3, q4⟩ := S1u.out _ hS
  obtain ⟨S2, S2d⟩ : ∃ S : World → Prop, S = fun v : World => v.cell? p = some (.int .i64 ax) ∧ v.cell? ⟨p.block, p.off + 1, none⟩ = some (.int .i64 ay) ∧ Blk v w.heap.size #[.int .i64 0, .int .i64 0, .int .i64 0, .int .i64 0] 38 ∧ Below w.heap.size w v ∧ Blk v R #[.int .i64 ax, .int .i64 ay, .int .i64 ax, .int .i64 ay] 38 := ⟨_, rfl⟩
  have S2t0 : Stands S2 := by rw [S2d]; exact ((stands_cell _ _).and ((stands_cell _ _).and ((stands_blk _ _ _).and ((stands_below _).and (stands_blk _ _ _)))))
  have S2u0 : ∀ v, S2 v → v.cell? p = some (.int .i64 ax) ∧ v.cell? ⟨p.block, p.off + 1, none⟩ = some (.int .i64 ay) ∧ Blk v w.heap.size #[.int .i64 0, .int .i64 0, .int .i64 0, .int .i64 0] 38 ∧ Below w.heap.size w v ∧ Blk v R #[.int .i64 ax, .int .i64 ay, .int .i64 ax, .int .i64 ay] 38 := fun v h => by rw [S2d] at h; exact h
  have S2m0 : ∀ v, (v.cell? p = some (.int .i64 ax) ∧ v.cell? ⟨p.block, p.off + 1, none⟩ = some (.int .i64 ay) ∧ Blk v w.heap.size #[.int .i64 0, .int .i64 0, .int .i64 0, .int .i64 0] 38 ∧ Below w.heap.size w v ∧ Blk v R #[.int .i64 ax, .int .i64 ay, .int .i64 ax, .int .i64 ay] 38) → S2 v := fun v h => by rw [S2d]; exact h
  have S2u := Lib.hid S2u0
  have S2m := Lib.hid S2m0
  have S2t := Lib.hid S2t0
  clear S2d S2u0 S2m0 S2t0
  have n4 : Blk ((((w_.setCell ⟨R, 0, none⟩ (.int .i64 ax)).setCell ⟨R, 1, none⟩ (.int .i64 ay)).setCell ⟨R, 2, none⟩ (.int .i64 ax)).setCell ⟨R, 3, none⟩ (.int .i64 ay)) R #[.int .i64 ax, .int .i64 ay, .int .i64 ax, .int .i64 ay] 38 := by have h := ((((q4.set 0 (.int .i64 ax)).set 1 (.int .i64 ay)).set 2 (.int .i64 ax)).set 3 (.int .i64 ay)); simpa using h
  have st_ : S2 ((((w_.setCell ⟨R, 0, none⟩ (.int .i64 ax)).setCell ⟨R, 1, none⟩ (.int .i64 ay)).setCell ⟨R, 2, none⟩ (.int .i64 ax)).setCell ⟨R, 3, none⟩ (.int .i64 ay)) := S2m.out _ ⟨(cell_set (cell_set (cell_set (cell_set q0 (by show R ≠ p.block; omega)) (by show R ≠ p.block; omega)) (by show R ≠ p.block; omega)) (by show R ≠ p.block; omega)), (cell_set (cell_set (cell_set (cell_set q1 (by show R ≠ p.block; omega)) (by show R ≠ p.block; omega)) (by show R ≠ p.block; omega)) (by show R ≠ p.block; omega)), ((((((((q2).other (a := ⟨R, 0, none⟩) (by show w.heap.size ≠ R; omega) _)).other (a := ⟨R, 1, none⟩) (by show w.heap.size ≠ R; omega) _)).other (a := ⟨R, 2, none⟩) (by show w.heap.size ≠ R; omega) _)).other (a := ⟨R, 3, none⟩) (by show w.heap.size ≠ R; omega) _), ((((((((q3).setCell (p := ⟨R, 0, none⟩) (by show w.heap.size ≤ R; omega) _)).setCell (p := ⟨R, 1, none⟩) (by show w.heap.size ≤ R; omega) _)).setCell (p := ⟨R, 2, none⟩) (by show w.heap.size ≤ R; omega) _)).setCell (p := ⟨R, 3, none⟩) (by show w.heap.size ≤ R; omega) _), n4⟩
  have r_ := q4.four
  refine wpX_store (i := 8) (w' := ((((w_.setCell ⟨R, 0, none⟩ (.int .i64 ax)).setCell ⟨R, 1, none⟩ (.int .i64 ay)).setCell ⟨R, 2, none⟩ (.int .i64 ax)).setCell ⟨R, 3, none⟩ (.int .i64 ay))) S2 rfl rfl (by rfl) (by go_simp) S2t.out (.inl (by kernel_rfl)) st_ ?_
  clear r_ hS st_ q0 q1 q2 q3 q4 n4
  clear w_
  refine wpX_done (by kernel_rfl) (fun W hS => ?_) _
  obtain ⟨q0, q1, q2, q3, q4⟩ := S2u.out _ hS
  have HB0 := Lib.hid (And.intro q4 (And.intro q2 q3))
  have HLR := Lib.hid ltR_2
  have HLB := Lib.hid ltR_b
  clear q0 q1 q2 q3 q4 hS ltR_2 ltR_b hpR
  go_wp2
  go_loopw [25] (fun i wr => ∃ (k : Nat) (x0 y0 x1 y1 : Int), k ≤ n ∧ i = .int .i64 k ∧ Hid (Blk wr R #[.int .i64 x0, .int .i64 y0, .int .i64 x1, .int .i64 y1] 38 ∧ Blk wr w.heap.size #[.int .i64 0, .int .i64 0, .int .i64 0, .int .i64 0] 38 ∧ Below w.heap.size w wr) ∧ Hid ((l.take k).foldl (fun o q => joinR o (ptR q)) (ptR ⟨ax, ay⟩) = ⟨x0, y0, x1, y1⟩)) (fun i _ => n - (intOf i).toNat)
  case atStart => exact ⟨0, ax, ay, ax, ay, by omega, rfl, HB0, Lib.hid rfl⟩
  case round =>
    obtain ⟨k, x0, y0, x1, y1, hk, rfl, HB, HF⟩ := hrel
    clear HB0
    by_cases hlt : k < n
    · have hkl : k < l.length := by rw [HN.out]; exact hlt
      obtain ⟨p', e, _, h1, h2⟩ := (HR.out.below HB.out.2.2 (Nat.le_refl _)).get hkl
      cases e
      obtain ⟨q, hq⟩ : ∃ q, l[k] = q := ⟨_, rfl⟩
      rw [hq] at h1 h2
      obtain ⟨qx, qy⟩ := q
      dsimp only at h1 h2
      rw [add_one] at h2
      obtain ⟨z, hz⟩ : ∃ z, joinR ⟨x0, y0, x1, y1⟩ (ptR ⟨qx, qy⟩) = z := ⟨_, rfl⟩
      have kj := join_any ⟨x0, y0, x1, y1⟩ ⟨qx, qy, qx, qy⟩
      have hz' : joinR ⟨x0, y0, x1, y1⟩ ⟨qx, qy, qx, qy⟩ = z := hz
      rw [hz'] at kj
      obtain ⟨z0, z1, z2, z3⟩ := z
      have HF1 : Hid ((l.take (k + 1)).foldl (fun o q => joinR o (ptR q)) (ptR ⟨ax, ay⟩) = ⟨z0, z1, z2, z3⟩) := Lib.hid (by
        rw [List.take_succ_eq_append_getElem hkl, List.foldl_append, HF.out, hq]; exact hz)
      have KJ := Lib.hid kj
      clear hz hz' hq kj HF
      go_wp2_with fail
      obtain ⟨Q, hQ⟩ : ∃ Q, Q = wr.heap.size := ⟨_, rfl⟩
      have lQ : w.heap.size < Q := by rw [hQ]; exact HB.out.2.1.lt
      have lR : R < Q := by rw [hQ]; exact HB.out.1.lt
      have HB1 : Hid (Blk (wr.alloc (.cells #[.int .i64 qx, .int .i64 qy] 24)) Q #[.int .i64 qx, .int .i64 qy] 24 ∧ Blk (wr.alloc (.cells #[.int .i64 qx, .int .i64 qy] 24)) R #[.int .i64 x0, .int .i64 y0, .int .i64 x1, .int .i64 y1] 38 ∧ Blk (wr.alloc (.cells #[.int .i64 qx, .int .i64 qy] 24)) w.heap.size #[.int .i64 0, .int .i64 0, .int .i64 0, .int .i64 0] 38 ∧ Below w.heap.size w (wr.alloc (.cells #[.int .i64 qx, .int .i64 qy] 24))) :=
        Lib.hid ⟨Blk.new' wr _ _ hQ, HB.out.1.alloc _, HB.out.2.1.alloc _, grow_alloc HB.out.2.2 _⟩
      rw [← hQ]
      clear hQ h1 h2 HB
      generalize wr.alloc (.cells #[.int .i64 qx, .int .i64 qy] 24) = wq at *
      have lWR : w.heap.size < R := HLR.out
      clear wr
      obtain ⟨Sa0, Sa0d⟩ : ∃ S : World → Prop, S = fun v : World => Blk v Q #[.int .i64 qx, .int .i64 qy] 24 ∧ Blk v R #[.int .i64 x0, .int .i64 y0, .int .i64 x1, .int .i64 y1] 38 ∧ Blk v w.heap.size #[.int .i64 0, .int .i64 0, .int .i64 0, .int .i64 0] 38 ∧ Below w.heap.size w v := ⟨_, rfl⟩
      have Sa0t0 : Stands Sa0 := by rw [Sa0d]; exact ((stands_blk _ _ _).and ((stands_blk _ _ _).and ((stands_blk _ _ _).and (stands_below _))))
      have Sa0u0 : ∀ v, Sa0 v → Blk v Q #[.int .i64 qx, .int .i64 qy] 24 ∧ Blk v R #[.int .i64 x0, .int .i64 y0, .int .i64 x1, .int .i64 y1] 38 ∧ Blk v w.heap.size #[.int .i64 0, .int .i64 0, .int .i64 0, .int .i64 0] 38 ∧ Below w.heap.size w v := fun v h => by rw [Sa0d] at h; exact h
      have Sa0m0 : ∀ v, (Blk v Q #[.int .i64 qx, .int .i64 qy] 24 ∧ Blk v R #[.int .i64 x0, .int .i64 y0, .int .i64 x1, .int .i64 y1] 38 ∧ Blk v w.heap.size #[.int .i64 0, .int .i64 0, .int .i64 0, .int .i64 0] 38 ∧ Below w.heap.size w v) → Sa0 v := fun v h => by rw [Sa0d]; exact h
      have Sa0u := Lib.hid Sa0u0
      have Sa0m := Lib.hid Sa0m0
      have Sa0t := Lib.hid Sa0t0
      clear Sa0d Sa0u0 Sa0m0 Sa0t0
      refine wp_region_X (S := Sa0) (by kernel_rfl) (Sa0m.out _ ⟨HB1.out.1.drew, HB1.out.2.1.drew, HB1.out.2.2.1.drew, HB1.out.2.2.2.drew⟩) ?_
      clear HB1
      refine wpX_take (i := 0) (v := ?_) Sa0t.out rfl rfl (by kernel_rfl) (by kernel_rfl) (by kernel_rfl) (fun _ _ _ h => h) (SteadyX.value (by rfl) ?_) ?_
      rotate_left
      · (intro w_ hS; obtain ⟨q0, q1, q2, q3⟩ := Sa0u.out _ hS; (have q0 := q0.two); (have q1 := q1.four); (have q2 := q2.four); (clear q3); go_simp; try with_reducible rfl)
      simp only [List.setIfInBounds_toArray, List.set_cons_zero, List.set_cons_succ]
      refine wpX_take (i := 1) (v := ?_) Sa0t.out rfl rfl (by kernel_rfl) (by kernel_rfl) (by kernel_rfl) (fun _ _ _ h => h) (SteadyX.value (by rfl) ?_) ?_
      rotate_left
      · (intro w_ hS; obtain ⟨q0, q1, q2, q3⟩ := Sa0u.out _ hS; (have q0 := q0.two); (have q1 := q1.four); (have q2 := q2.four); (clear q3); go_simp; try with_reducible rfl)
      simp only [List.setIfInBounds_toArray, List.set_cons_zero, List.set_cons_succ]
      refine wpX_take (i := 2) (v := ?_) Sa0t.out rfl rfl (by kernel_rfl) (by kernel_rfl) (by kernel_rfl) (fun _ _ _ h => h) (SteadyX.value (by rfl) ?_) ?_
      rotate_left
      · (intro w_ hS; obtain ⟨q0, q1, q2, q3⟩ := Sa0u.out _ hS; (have q0 := q0.two); (have q1 := q1.four); (have q2 := q2.four); (clear q3); go_simp; try with_reducible rfl)
      simp only [List.setIfInBounds_toArray, List.set_cons_zero, List.set_cons_succ]
      refine wpX_take (i := 3) Sa0t.out rfl rfl (by kernel_rfl) (by kernel_rfl) (by kernel_rfl) (fun _ _ _ h => h) (SteadyX.call (by rfl) (fun w_ hS => KS.out qx qy w_) (fun w_ hS => by (obtain ⟨q0, q1, q2, q3⟩ := Sa0u.out _ hS; (have q0 := q0.two); (have q1 := q1.four); (have q2 := q2.four); (clear q3); go_simp))) ?_
      simp only [List.setIfInBounds_toArray, List.set_cons_zero, List.set_cons_succ]
      refine wpX_take (i := 4) Sa0t.out rfl rfl (by kernel_rfl) (by kernel_rfl) (by kernel_rfl) (fun _ _ _ h => h) (SteadyX.call (by rfl) (fun w_ hS => KJ.out w_) (fun w_ hS => by (obtain ⟨q0, q1, q2, q3⟩ := Sa0u.out _ hS; (have q0 := q0.two); (have q1 := q1.four); (have q2 := q2.four); (clear q3); go_simp))) ?_
      simp only [List.setIfInBounds_toArray, List.set_cons_zero, List.set_cons_succ]
      refine wpX_one (i := 5) (by kernel_rfl) (fun w_ hS => ?_)
      obtain ⟨q0, q1, q2, q3⟩ := Sa0u.out _ hS
      obtain ⟨Sa1, Sa1d⟩ : ∃ S : World → Prop, S = fun v : World => Blk v Q #[.int .i64 qx, .int .i64 qy] 24 ∧ Blk v R #[.int .i64 z0, .int .i64 z1, .int .i64 z2, .int .i64 z3] 38 ∧ Blk v w.heap.size #[.int .i64 0, .int .i64 0, .int .i64 0, .int .i64 0] 38 ∧ Below w.heap.size w v := ⟨_, rfl⟩
      have Sa1t0 : Stands Sa1 := by rw [Sa1d]; exact ((stands_blk _ _ _).and ((stands_blk _ _ _).and ((stands_blk _ _ _).and (stands_below _))))
      have Sa1u0 : ∀ v, Sa1 v → Blk v Q #[.int .i64 qx, .int .i64 qy] 24 ∧ Blk v R #[.int .i64 z0, .int .i64 z1, .int .i64 z2, .int .i64 z3] 38 ∧ Blk v w.heap.size #[.int .i64 0, .int .i64 0, .int .i64 0, .int .i64 0] 38 ∧ Below w.heap.size w v := fun v h => by rw [Sa1d] at h; exact h
      have Sa1m0 : ∀ v, (Blk v Q #[.int .i64 qx, .int .i64 qy] 24 ∧ Blk v R #[.int .i64 z0, .int .i64 z1, .int .i64 z2, .int .i64 z3] 38 ∧ Blk v w.heap.size #[.int .i64 0, .int .i64 0, .int .i64 0, .int .i64 0] 38 ∧ Below w.heap.size w v) → Sa1 v := fun v h => by rw [Sa1d]; exact h
      have Sa1u := Lib.hid Sa1u0
      have Sa1m := Lib.hid Sa1m0
      have Sa1t := Lib.hid Sa1t0
      clear Sa1d Sa1u0 Sa1m0 Sa1t0
      have n1 : Blk ((((w_.setCell ⟨R, 0, none⟩ (.int .i64 z0)).setCell ⟨R, 1, none⟩ (.int .i64 z1)).setCell ⟨R, 2, none⟩ (.int .i64 z2)).setCell ⟨R, 3, none⟩ (.int .i64 z3)) R #[.int .i64 z0, .int .i64 z1, .int .i64 z2, .int .i64 z3] 38 := by have h := ((((q1.set 0 (.int .i64 z0)).set 1 (.int .i64 z1)).set 2 (.int .i64 z2)).set 3 (.int .i64 z3)); simpa using h
      have st_ : Sa1 ((((w_.setCell ⟨R, 0, none⟩ (.int .i64 z0)).setCell ⟨R, 1, none⟩ (.int .i64 z1)).setCell ⟨R, 2, none⟩ (.int .i64 z2)).setCell ⟨R, 3, none⟩ (.int .i64 z3)) := Sa1m.out _ ⟨((((((((q0).other (a := ⟨R, 0, none⟩) (by show Q ≠ R; omega) _)).other (a := ⟨R, 1, none⟩) (by show Q ≠ R; omega) _)).other (a := ⟨R, 2, none⟩) (by show Q ≠ R; omega) _)).other (a := ⟨R, 3, none⟩) (by show Q ≠ R; omega) _), n1, ((((((((q2).other (a := ⟨R, 0, none⟩) (by show w.heap.size ≠ R; omega) _)).other (a := ⟨R, 1, none⟩) (by show w.heap.size ≠ R; omega) _)).other (a := ⟨R, 2, none⟩) (by show w.heap.size ≠ R; omega) _)).other (a := ⟨R, 3, none⟩) (by show w.heap.size ≠ R; omega) _), ((((((((q3).setCell (p := ⟨R, 0, none⟩) (by show w.heap.size ≤ R; omega) _)).setCell (p := ⟨R, 1, none⟩) (by show w.heap.size ≤ R; omega) _)).setCell (p := ⟨R, 2, none⟩) (by show w.heap.size ≤ R; omega) _)).setCell (p := ⟨R, 3, none⟩) (by show w.heap.size ≤ R; omega) _)⟩
      have r_ := q1.four
      refine wpX_store (i := 5) (w' := ((((w_.setCell ⟨R, 0, none⟩ (.int .i64 z0)).setCell ⟨R, 1, none⟩ (.int .i64 z1)).setCell ⟨R, 2, none⟩ (.int .i64 z2)).setCell ⟨R, 3, none⟩ (.int .i64 z3))) Sa1 rfl rfl (by rfl) (by go_simp) Sa1t.out (.inl (by kernel_rfl)) st_ ?_
      clear r_ hS st_ q0 q1 q2 q3 n1
      clear w_
      refine wpX_done (by kernel_rfl) (fun W hS => ?_) _
      obtain ⟨q0, q1, q2, q3⟩ := Sa1u.out _ hS
      have HB2 := Lib.hid (And.intro q1 (And.intro q2 q3))
      clear q0 q1 q2 q3 hS
      go_wp2
      go_round
      case rel => exact ⟨k + 1, z0, z1, z2, z3, by omega, val_int rfl, HB2, HF1⟩
      case measure => simp only [intOf]; omega
    · have hkn : k = n := by omega
      have hres : bndL l = ⟨x0, y0, x1, y1⟩ := by
        have h := HF.out
        rw [hkn, ← HN.out, List.take_length] at h
        have hl := HN.out
        have ha := HA.out
        cases l with
        | nil => simp at hl; omega
        | cons a l => simp only [List.getElem_cons_zero] at ha; subst ha; exact h
      have lWR : w.heap.size < R := HLR.out
      have hne : ¬ R = w.heap.size := by omega
      have c0 := HB.out.1.four
      have c1 := HB.out.2.1.four
      have r2 := ((((HB.out.2.1.set 0 (.int .i64 x0)).set 1 (.int .i64 y0)).set 2 (.int .i64 x1)).set 3 (.int .i64 y1)).four
      have HG := Lib.hid HB.out.2.2
      clear HB
      go_wp2
      refine bodyPost_ret (v := .tuple #[rc (bndL l), .bool true]) ?_ rfl ⟨rfl, ?_⟩
      · rw [hres]
        simp [results, Try.results25, go_sem, r2]
      · exact (((HG.out.setCell (by show _ ≤ w.heap.size; omega) _).setCell (by show _ ≤ w.heap.size; omega) _).setCell (by show _ ≤ w.heap.size; omega) _).setCell (by show _ ≤ w.heap.size; omega) _
end Go.Proofs.Ytkneohngbkmlpaa
