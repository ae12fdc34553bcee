/- Walks: GeomShifts: the loop and what stands behind it. -/
import Derived.Test.YtkneohngbkmlpaaW29
namespace Go.Proofs.Ytkneohngbkmlpaa
open Go.RowKit

set_option maxRecDepth 20000 in
set_option maxHeartbeats 16000000 in
theorem Shifts_loop (px py vx vy : Int) (l : List Pt) (A : Option Addr) (n c : Nat) (w : World) (hn : l.length = n) (hr : Pts w w.heap.size A l) (hn0 : 0 < n) (hn1 : (n : Int) ≤ 60) (hp : May ⟨px, py⟩) (hv : May ⟨vx, vy⟩) :
    Calls Try.prog 4 #[.slice A n c, .agg #[.int .i64 px, .int .i64 py], .agg #[.int .i64 vx, .int .i64 vy]] w fun e w' => e = .returned (.bool true) ∧ Below w.heap.size w w' := by
  have kp := May_any ⟨px, py⟩
  have kv := May_any ⟨vx, vy⟩
  rw [decide_eq_true hp] at kp
  rw [decide_eq_true hv] at kv
  have ki : ∀ w', Below w.heap.size w w' → Calls Try.prog 13 #[.slice A n c, .agg #[.int .i64 px, .int .i64 py]] w' fun e w'' => e = .returned (.int .i64 (InsideF l ⟨px, py⟩)) ∧ Below w'.heap.size w' w'' := fun w' hb =>
    Inside_any A l n c ⟨px, py⟩ w' hn (hr.onto hb) (by omega)
  have KP := Lib.hid kp
  have KV := Lib.hid kv
  have KI := Lib.hid ki
  have HR := Lib.hid hr
  have HN := Lib.hid hn
  have HMP := Lib.hid hp
  have HMV := Lib.hid hv
  have v0 := hv.1
  have v1 := hv.2.1
  have v2 := hv.2.2.1
  have v3 := hv.2.2.2
  dsimp only at v0 v1 v2 v3
  have b0 := hp.1
  have b1 := hp.2.1
  have b2 := hp.2.2.1
  have b3 := hp.2.2.2
  dsimp only at b0 b1 b2 b3
  have hwx : IntKind.i64.wrap (px + vx) = px + vx := by rw [IntKind.wrap_i64]; omega
  have hwy : IntKind.i64.wrap (py + vy) = py + vy := by rw [IntKind.wrap_i64]; omega
  have HWX := Lib.hid hwx
  have HWY := Lib.hid hwy
  have HV := Lib.hid (And.intro v0 (And.intro v1 (And.intro v2 v3)))
  clear kp kv ki hr hn hp hv v0 v1 v2 v3 b0 b1 b2 b3 hwx hwy
  obtain ⟨ri, hri⟩ : ∃ r, InsideF l ⟨px, py⟩ = r := ⟨_, rfl⟩
  rw [hri] at KI
  have HRI := Lib.hid hri
  clear hri
  have hne0 : ((n : Int) == 0) = false := by simp; omega
  obtain ⟨w0, hw0, p0, p1, g0, z0⟩ := boxes2 w #[.int .i64 px, .int .i64 py] #[.int .i64 vx, .int .i64 vy] 24 24
  have c0 := p0.two
  have c1 := p1.two
  have B0 := Lib.hid (And.intro p0 (And.intro p1 g0))
  clear p0 p1 g0 z0
  go_enter Try.func4, Try.ntmps4
  go_wp2_with fail
  refine (KV.out _).mono ?_
  rintro e w1 ⟨rfl, hb⟩
  (try clear hw0)
  have B1 := Lib.hid (And.intro (B0.out.1.grew hb) (And.intro (B0.out.2.1.grew hb) (grow B0.out.2.2 hb)))
  clear hb c0 c1 B0
  have c0 := B1.out.1.two
  have c1 := B1.out.2.1.two
  go_wp2_with fail
  refine (KP.out _).mono ?_
  rintro e w2 ⟨rfl, hb⟩
  have B2 := Lib.hid (And.intro (B1.out.1.grew hb) (And.intro (B1.out.2.1.grew hb) (grow B1.out.2.2 hb)))
  clear hb c0 c1 B1
  go_wp2
  go_loopw [7, 8, 9, 10, 11] (fun v7 v8 v9 mb i wr => ∃ (k : Nat) (m7 m8 m9 : Value), m7 = v7 ∧ m8 = v8 ∧ m9 = v9 ∧ k ≤ n ∧ i = .int .i64 k ∧ mb = .bool (mayAll (movedBy ⟨vx, vy⟩ (l.take k))) ∧ Hid (∀ q ∈ l.take k, May q) ∧
    Hid (Rows3 wr (w.heap.size + 2) m7 m8 m9 (movedBy ⟨vx, vy⟩ (l.take k)) (turnedTo l k) (backedTo l k)) ∧
    Hid (Blk wr w.heap.size #[.int .i64 px, .int .i64 py] 24 ∧ Blk wr (w.heap.size + 1) #[.int .i64 vx, .int .i64 vy] 24 ∧ Below w.heap.size w wr)) (fun _ _ _ _ i _ => n - (intOf i).toNat)
  case atStart => exact ⟨0, _, _, _, rfl, rfl, rfl, by omega, rfl, rfl, Lib.hid (fun q hq => absurd hq (by simp)), Lib.hid (Rows3.start _ _ (by have := B2.out.2.1.lt; omega)), B2⟩
  case round =>
    obtain ⟨k, m7, m8, m9, rfl, rfl, rfl, hk, rfl, rfl, HM, R3, HB⟩ := hrel
    obtain ⟨mb, hmb⟩ : ∃ b, mayAll (movedBy ⟨vx, vy⟩ (l.take k)) = b := ⟨_, rfl⟩
    rw [hmb]
    have HMB := Lib.hid hmb
    clear B2 hmb
    by_cases hlt : k < n
    · have hkl : k < l.length := by rw [HN.out]; exact hlt
      obtain ⟨p, e, hpl, h1, h2⟩ := (HR.out.below HB.out.2.2 (Nat.le_refl _)).get hkl
      cases e
      have hq1 := Inside_not l ⟨px, py⟩ k hkl
      have hq2 : (∀ q ∈ l.take k, May q) → May l[k] → ∀ q ∈ l.take (k + 1), May q := fun a b q hq => by
        rw [List.take_succ_eq_append_getElem hkl] at hq
        rcases List.mem_append.1 hq with hq | hq
        · exact a q hq
        · rw [List.mem_singleton.1 hq]; exact b
      have hq3 := take_moved ⟨vx, vy⟩ l k hkl
      generalize l[k] = q at *
      obtain ⟨qx, qy⟩ := q
      dsimp only at h1 h2 hq3
      rw [add_one] at h2
      have km := May_any ⟨qx, qy⟩
      have KM := Lib.hid km
      have H1 := Lib.hid hq1
      have H2 := Lib.hid hq2
      have H3 := Lib.hid hq3
      clear km hq1 hq2 hq3
      by_cases hm : May ⟨qx, qy⟩
      · rw [decide_eq_true hm] at KM
        have hall := Lib.hid (H2.out HM.out hm)
        have m0 := hm.1
        have m1 := hm.2.1
        have m2 := hm.2.2.1
        have m3 := hm.2.2.2
        dsimp only at m0 m1 m2 m3
        have hv := HV.out
        have hzx : IntKind.i64.wrap (qx + vx) = qx + vx := by rw [IntKind.wrap_i64]; omega
        have hzy : IntKind.i64.wrap (qy + vy) = qy + vy := by rw [IntKind.wrap_i64]; omega
        clear H1 H2 HM hm m0 m1 m2 m3 hv
        go_wp2_with fail
        refine (KM.out _).mono ?_
        rintro e w3 ⟨rfl, hb⟩
        have C3 : Hid (w3.cell? (p.add (k * 2)) = some (.int .i64 qx) ∧ w3.cell? ⟨(p.add (k * 2)).block, (p.add (k * 2)).off + 1, none⟩ = some (.int .i64 qy) ∧ Blk w3 (w.heap.size + 1) #[.int .i64 vx, .int .i64 vy] 24 ∧ Blk w3 w.heap.size #[.int .i64 px, .int .i64 py] 24 ∧ Below w.heap.size w w3) :=
          Lib.hid ⟨cell_grew h1 hb, cell_grew h2 hb, HB.out.2.1.grew hb, HB.out.1.grew hb, grow HB.out.2.2 hb⟩
        have R3b := Lib.hid (R3.out.grew hb)
        clear hb h1 h2 HB R3 KM
        have hnn : 0 < n := by omega
        go_wp2_with fail
        obtain ⟨S0, S0d⟩ : ∃ S : World → Prop, S = fun v : World => v.cell? (p.add (k * 2)) = some (.int .i64 qx) ∧ v.cell? ⟨(p.add (k * 2)).block, (p.add (k * 2)).off + 1, none⟩ = some (.int .i64 qy) ∧ Blk v (w.heap.size + 1) #[.int .i64 vx, .int .i64 vy] 24 ∧ Below w3.heap.size w3 v := ⟨_, rfl⟩
        have S0t0 : Stands S0 := by rw [S0d]; exact ((stands_cell _ _).and ((stands_cell _ _).and ((stands_blk _ _ _).and (stands_below _))))
        have S0u0 : ∀ v, S0 v → v.cell? (p.add (k * 2)) = some (.int .i64 qx) ∧ v.cell? ⟨(p.add (k * 2)).block, (p.add (k * 2)).off + 1, none⟩ = some (.int .i64 qy) ∧ Blk v (w.heap.size + 1) #[.int .i64 vx, .int .i64 vy] 24 ∧ Below w3.heap.size w3 v := fun v h => by rw [S0d] at h; exact h
        have S0m0 : ∀ v, (v.cell? (p.add (k * 2)) = some (.int .i64 qx) ∧ v.cell? ⟨(p.add (k * 2)).block, (p.add (k * 2)).off + 1, none⟩ = some (.int .i64 qy) ∧ Blk v (w.heap.size + 1) #[.int .i64 vx, .int .i64 vy] 24 ∧ Below w3.heap.size w3 v) → S0 v := fun v h => by rw [S0d]; exact h
        have S0u := Lib.hid S0u0
        have S0m := Lib.hid S0m0
        have S0t := Lib.hid S0t0
        clear S0d S0u0 S0m0 S0t0
        refine wp_region_X (S := S0) (by kernel_rfl) (S0m.out _ ⟨C3.out.1, C3.out.2.1, C3.out.2.2.1.drew, (Below.refl _ w3).drew⟩) ?_
        refine wpX_take (i := 0) (v := ?_) S0t.out rfl rfl (by kernel_rfl) (by kernel_rfl) (by kernel_rfl) (fun _ _ _ h => h) (SteadyX.value (by rfl) ?_) ?_
        rotate_left
        · (intro w_ hS; obtain ⟨q0, q1, q2, q3⟩ := S0u.out _ hS; (have q2 := q2.two); (clear q3); go_simp; try with_reducible rfl)
        simp only [List.setIfInBounds_toArray, List.set_cons_zero, List.set_cons_succ]
        refine wpX_take (i := 1) (v := ?_) S0t.out rfl rfl (by kernel_rfl) (by kernel_rfl) (by kernel_rfl) (fun _ _ _ h => h) (SteadyX.value (by rfl) ?_) ?_
        rotate_left
        · (intro w_ hS; obtain ⟨q0, q1, q2, q3⟩ := S0u.out _ hS; (have q2 := q2.two); (clear q3); go_simp; try with_reducible rfl)
        simp only [List.setIfInBounds_toArray, List.set_cons_zero, List.set_cons_succ]
        refine wpX_take (i := 2) (v := ?_) S0t.out rfl rfl (by kernel_rfl) (by kernel_rfl) (by kernel_rfl) (fun _ _ _ h => h) (SteadyX.value (by rfl) ?_) ?_
        rotate_left
        · (intro w_ hS; obtain ⟨q0, q1, q2, q3⟩ := S0u.out _ hS; (have q2 := q2.two); (clear q3); go_simp; try with_reducible rfl)
        simp only [List.setIfInBounds_toArray, List.set_cons_zero, List.set_cons_succ]
        refine wpX_take (i := 3) (v := ?_) S0t.out rfl rfl (by kernel_rfl) (by kernel_rfl) (by kernel_rfl) (fun _ _ _ h => h) (SteadyX.value (by rfl) ?_) ?_
        rotate_left
        · (intro w_ hS; obtain ⟨q0, q1, q2, q3⟩ := S0u.out _ hS; (have q2 := q2.two); (clear q3); go_simp; try with_reducible rfl)
        simp only [List.setIfInBounds_toArray, List.set_cons_zero, List.set_cons_succ]
        refine wpX_take (i := 4) (v := ?_) S0t.out rfl rfl (by kernel_rfl) (by kernel_rfl) (by kernel_rfl) (fun _ _ _ h => h) (SteadyX.value (by rfl) ?_) ?_
        rotate_left
        · (intro w_ hS; obtain ⟨q0, q1, q2, q3⟩ := S0u.out _ hS; (have q2 := q2.two); (clear q3); go_simp; try with_reducible rfl)
        simp only [List.setIfInBounds_toArray, List.set_cons_zero, List.set_cons_succ]
        refine wpX_take (i := 5) (v := ?_) S0t.out rfl rfl (by kernel_rfl) (by kernel_rfl) (by kernel_rfl) (fun _ _ _ h => h) (SteadyX.value (by rfl) ?_) ?_
        rotate_left
        · (intro w_ hS; obtain ⟨q0, q1, q2, q3⟩ := S0u.out _ hS; (have q2 := q2.two); (clear q3); go_simp; try with_reducible rfl)
        simp only [List.setIfInBounds_toArray, List.set_cons_zero, List.set_cons_succ]
        refine wpX_take (i := 6) (v := ?_) S0t.out rfl rfl (by kernel_rfl) (by kernel_rfl) (by kernel_rfl) (fun _ _ _ h => h) (SteadyX.value (by rfl) ?_) ?_
        rotate_left
        · (intro w_ hS; obtain ⟨q0, q1, q2, q3⟩ := S0u.out _ hS; (have q2 := q2.two); (clear q3); go_simp; try with_reducible rfl)
        simp only [List.setIfInBounds_toArray, List.set_cons_zero, List.set_cons_succ]
        refine wpX_take (i := 7) (v := ?_) S0t.out rfl rfl (by kernel_rfl) (by kernel_rfl) (by kernel_rfl) (fun _ _ _ h => h) (SteadyX.value (by rfl) ?_) ?_
        rotate_left
        · (intro w_ hS; obtain ⟨q0, q1, q2, q3⟩ := S0u.out _ hS; (have q2 := q2.two); (clear q3); go_simp; try with_reducible rfl)
        simp only [List.setIfInBounds_toArray, List.set_cons_zero, List.set_cons_succ]
        refine wpX_take (i := 8) (v := ?_) S0t.out rfl rfl (by kernel_rfl) (by kernel_rfl) (by kernel_rfl) (fun _ _ _ h => h) (SteadyX.value (by rfl) ?_) ?_
        rotate_left
        · (intro w_ hS; obtain ⟨q0, q1, q2, q3⟩ := S0u.out _ hS; (have q2 := q2.two); (clear q3); go_simp; try with_reducible rfl)
        simp only [List.setIfInBounds_toArray, List.set_cons_zero, List.set_cons_succ]
        refine wpX_take (i := 9) (v := ?_) S0t.out rfl rfl (by kernel_rfl) (by kernel_rfl) (by kernel_rfl) (fun _ _ _ h => h) (SteadyX.value (by rfl) ?_) ?_
        rotate_left
        · (intro w_ hS; obtain ⟨q0, q1, q2, q3⟩ := S0u.out _ hS; (have q2 := q2.two); (clear q3); go_simp; try with_reducible rfl)
        simp only [List.setIfInBounds_toArray, List.set_cons_zero, List.set_cons_succ]
        refine wpX_take (i := 10) (v := ?_) S0t.out rfl rfl (by kernel_rfl) (by kernel_rfl) (by kernel_rfl) (fun _ _ _ h => h) (SteadyX.value (by rfl) ?_) ?_
        rotate_left
        · (intro w_ hS; obtain ⟨q0, q1, q2, q3⟩ := S0u.out _ hS; (have q2 := q2.two); (clear q3); go_simp; try with_reducible rfl)
        simp only [List.setIfInBounds_toArray, List.set_cons_zero, List.set_cons_succ]
        refine wpX_take (i := 11) (v := ?_) S0t.out rfl rfl (by kernel_rfl) (by kernel_rfl) (by kernel_rfl) (fun _ _ _ h => h) (SteadyX.value (by rfl) ?_) ?_
        rotate_left
        · (intro w_ hS; obtain ⟨q0, q1, q2, q3⟩ := S0u.out _ hS; (have q2 := q2.two); (clear q3); go_simp; try with_reducible rfl)
        simp only [List.setIfInBounds_toArray, List.set_cons_zero, List.set_cons_succ]
        refine wpX_take (i := 12) (v := ?_) S0t.out rfl rfl (by kernel_rfl) (by kernel_rfl) (by kernel_rfl) (fun _ _ _ h => h) (SteadyX.value (by rfl) ?_) ?_
        rotate_left
        · (intro w_ hS; obtain ⟨q0, q1, q2, q3⟩ := S0u.out _ hS; (have q2 := q2.two); (clear q3); go_simp; try with_reducible rfl)
        simp only [List.setIfInBounds_toArray, List.set_cons_zero, List.set_cons_succ]
        refine wpX_take (i := 13) (v := ?_) S0t.out rfl rfl (by kernel_rfl) (by kernel_rfl) (by kernel_rfl) (fun _ _ _ h => h) (SteadyX.value (by rfl) ?_) ?_
        rotate_left
        · (intro w_ hS; obtain ⟨q0, q1, q2, q3⟩ := S0u.out _ hS; (have q2 := q2.two); (clear q3); go_simp; try with_reducible rfl)
        simp only [List.setIfInBounds_toArray, List.set_cons_zero, List.set_cons_succ]
        refine wpX_take (i := 14) (v := ?_) S0t.out rfl rfl (by kernel_rfl) (by kernel_rfl) (by kernel_rfl) (fun _ _ _ h => h) (SteadyX.value (by rfl) ?_) ?_
        rotate_left
        · (intro w_ hS; obtain ⟨q0, q1, q2, q3⟩ := S0u.out _ hS; (have q2 := q2.two); (clear q3); go_simp; try with_reducible rfl)
        simp only [List.setIfInBounds_toArray, List.set_cons_zero, List.set_cons_succ]
        refine wpX_take (i := 15) (v := ?_) S0t.out rfl rfl (by kernel_rfl) (by kernel_rfl) (by kernel_rfl) (fun _ _ _ h => h) (SteadyX.value (by rfl) ?_) ?_
        rotate_left
        · (intro w_ hS; obtain ⟨q0, q1, q2, q3⟩ := S0u.out _ hS; (have q2 := q2.two); (clear q3); go_simp; try with_reducible rfl)
        simp only [List.setIfInBounds_toArray, List.set_cons_zero, List.set_cons_succ]
        refine wpX_take (i := 16) S0t.out rfl rfl (by kernel_rfl) (by kernel_rfl) (by kernel_rfl) (fun _ _ _ h => h) (SteadyX.call (by rfl) (fun w_ hS => at_any (qx + vx) (qy + vy) w_) (fun w_ hS => by (obtain ⟨q0, q1, q2, q3⟩ := S0u.out _ hS; (have q2 := q2.two); (clear q3); go_simp))) ?_
        simp only [List.setIfInBounds_toArray, List.set_cons_zero, List.set_cons_succ]
        refine wpX_one (i := 17) (by kernel_rfl) (fun w_ hS => ?_)
        obtain ⟨q0, q1, q2, q3⟩ := S0u.out _ hS
        obtain ⟨Q, hQ⟩ : ∃ R, R = w_.heap.size := ⟨_, rfl⟩
        have ltQ_2 : (w.heap.size + 1) < Q := by rw [hQ]; exact q2.lt
        have ltQ_3 : w3.heap.size ≤ Q := by rw [hQ]; exact q3.size
        obtain ⟨S1, S1d⟩ : ∃ S : World → Prop, S = fun v : World => v.cell? (p.add (k * 2)) = some (.int .i64 qx) ∧ v.cell? ⟨(p.add (k * 2)).block, (p.add (k * 2)).off + 1, none⟩ = some (.int .i64 qy) ∧ Blk v (w.heap.size + 1) #[.int .i64 vx, .int .i64 vy] 24 ∧ Below w3.heap.size w3 v ∧ Blk v Q #[.int .i64 0, .int .i64 0] 24 := ⟨_, rfl⟩
        have S1t0 : Stands S1 := by rw [S1d]; exact ((stands_cell _ _).and ((stands_cell _ _).and ((stands_blk _ _ _).and ((stands_below _).and (stands_blk _ _ _)))))
        have S1u0 : ∀ v, S1 v → v.cell? (p.add (k * 2)) = some (.int .i64 qx) ∧ v.cell? ⟨(p.add (k * 2)).block, (p.add (k * 2)).off + 1, none⟩ = some (.int .i64 qy) ∧ Blk v (w.heap.size + 1) #[.int .i64 vx, .int .i64 vy] 24 ∧ Below w3.heap.size w3 v ∧ Blk v Q #[.int .i64 0, .int .i64 0] 24 := fun v h => by rw [S1d] at h; exact h
        have S1m0 : ∀ v, (v.cell? (p.add (k * 2)) = some (.int .i64 qx) ∧ v.cell? ⟨(p.add (k * 2)).block, (p.add (k * 2)).off + 1, none⟩ = some (.int .i64 qy) ∧ Blk v (w.heap.size + 1) #[.int .i64 vx, .int .i64 vy] 24 ∧ Below w3.heap.size w3 v ∧ Blk v Q #[.int .i64 0, .int .i64 0] 24) → S1 v := fun v h => by rw [S1d]; exact h
        have S1u := Lib.hid S1u0
        have S1m := Lib.hid S1m0
        have S1t := Lib.hid S1t0
        clear S1d S1u0 S1m0 S1t0
        refine wpX_run (i := 17) (v := .pointer (some ⟨Q, 0, none⟩)) (w' := w_.alloc (.cells #[.int .i64 0, .int .i64 0] 24)) S1 rfl rfl (by rfl) (by (subst hQ; go_simp)) S1t.out (.inr fun v h => S0m.out _ (by obtain ⟨q0, q1, q2, q3, q4⟩ := S1u.out _ h; exact ⟨q0, q1, q2, q3⟩)) (S1m.out _ ⟨(stands_cell _ _) _ _ ((Below.refl _ w_).alloc (Nat.le_refl _) _) q0, (stands_cell _ _) _ _ ((Below.refl _ w_).alloc (Nat.le_refl _) _) q1, (stands_blk _ _ _) _ _ ((Below.refl _ w_).alloc (Nat.le_refl _) _) q2, (stands_below _) _ _ ((Below.refl _ w_).alloc (Nat.le_refl _) _) q3, Blk.new' w_ _ _ hQ⟩) ?_
        clear hS q0 q1 q2 q3 hQ
        clear w_
        simp only [List.setIfInBounds_toArray, List.set_cons_zero, List.set_cons_succ]
        have hpQ : (p.add (k * 2)).block < Q := Nat.lt_of_lt_of_le (Nat.lt_of_lt_of_le (by rw [add_block]; exact hpl) C3.out.2.2.2.2.size) ltQ_3
        refine wpX_one (i := 18) (by kernel_rfl) (fun w_ hS => ?_)
        obtain ⟨q0, q1, q2, q3, q4⟩ := S1u.out _ hS
        obtain ⟨S2, S2d⟩ : ∃ S : World → Prop, S = fun v : World => v.cell? (p.add (k * 2)) = some (.int .i64 qx) ∧ v.cell? ⟨(p.add (k * 2)).block, (p.add (k * 2)).off + 1, none⟩ = some (.int .i64 qy) ∧ Blk v (w.heap.size + 1) #[.int .i64 vx, .int .i64 vy] 24 ∧ Below w3.heap.size w3 v ∧ Blk v Q #[.int .i64 (qx + vx), .int .i64 (qy + vy)] 24 := ⟨_, rfl⟩
        have S2t0 : Stands S2 := by rw [S2d]; exact ((stands_cell _ _).and ((stands_cell _ _).and ((stands_blk _ _ _).and ((stands_below _).and (stands_blk _ _ _)))))
        have S2u0 : ∀ v, S2 v → v.cell? (p.add (k * 2)) = some (.int .i64 qx) ∧ v.cell? ⟨(p.add (k * 2)).block, (p.add (k * 2)).off + 1, none⟩ = some (.int .i64 qy) ∧ Blk v (w.heap.size + 1) #[.int .i64 vx, .int .i64 vy] 24 ∧ Below w3.heap.size w3 v ∧ Blk v Q #[.int .i64 (qx + vx), .int .i64 (qy + vy)] 24 := fun v h => by rw [S2d] at h; exact h
        have S2m0 : ∀ v, (v.cell? (p.add (k * 2)) = some (.int .i64 qx) ∧ v.cell? ⟨(p.add (k * 2)).block, (p.add (k * 2)).off + 1, none⟩ = some (.int .i64 qy) ∧ Blk v (w.heap.size + 1) #[.int .i64 vx, .int .i64 vy] 24 ∧ Below w3.heap.size w3 v ∧ Blk v Q #[.int .i64 (qx + vx), .int .i64 (qy + vy)] 24) → S2 v := fun v h => by rw [S2d]; exact h
        have S2u := Lib.hid S2u0
        have S2m := Lib.hid S2m0
        have S2t := Lib.hid S2t0
        clear S2d S2u0 S2m0 S2t0
        have n4 : Blk ((w_.setCell ⟨Q, 0, none⟩ (.int .i64 (qx + vx))).setCell ⟨Q, 1, none⟩ (.int .i64 (qy + vy))) Q #[.int .i64 (qx + vx), .int .i64 (qy + vy)] 24 := by have h := ((q4.set 0 (.int .i64 (qx + vx))).set 1 (.int .i64 (qy + vy))); simpa using h
        have st_ : S2 ((w_.setCell ⟨Q, 0, none⟩ (.int .i64 (qx + vx))).setCell ⟨Q, 1, none⟩ (.int .i64 (qy + vy))) := S2m.out _ ⟨(cell_set (cell_set q0 (by show Q ≠ (p.add (k * 2)).block; omega)) (by show Q ≠ (p.add (k * 2)).block; omega)), (cell_set (cell_set q1 (by show Q ≠ (p.add (k * 2)).block; omega)) (by show Q ≠ (p.add (k * 2)).block; omega)), ((((q2).other (a := ⟨Q, 0, none⟩) (by show (w.heap.size + 1) ≠ Q; omega) _)).other (a := ⟨Q, 1, none⟩) (by show (w.heap.size + 1) ≠ Q; omega) _), ((((q3).setCell (p := ⟨Q, 0, none⟩) (by show w3.heap.size ≤ Q; omega) _)).setCell (p := ⟨Q, 1, none⟩) (by show w3.heap.size ≤ Q; omega) _), n4⟩
        have r_ := q4.two
        refine wpX_store (i := 18) (w' := ((w_.setCell ⟨Q, 0, none⟩ (.int .i64 (qx + vx))).setCell ⟨Q, 1, none⟩ (.int .i64 (qy + vy)))) S2 rfl rfl (by rfl) (by go_simp) S2t.out (.inl (by kernel_rfl)) st_ ?_
        clear r_ hS st_ q0 q1 q2 q3 q4 n4
        clear w_
        refine wpX_done (by kernel_rfl) (fun W hS => ?_) _
        obtain ⟨q0, q1, q2, q3, q4⟩ := S2u.out _ hS
        clear hS S0u S0m S0t S1u S1m S1t S2u S2m S2t
        clear S0 S1 S2
        have D : Hid (Rows3 W (w.heap.size + 2) m7 m8 m9 (movedBy ⟨vx, vy⟩ (l.take k)) (turnedTo l k) (backedTo l k) ∧ Blk W w.heap.size #[.int .i64 px, .int .i64 py] 24 ∧ Blk W (w.heap.size + 1) #[.int .i64 vx, .int .i64 vy] 24 ∧ Below w.heap.size w W ∧ Blk W Q #[.int .i64 (qx + vx), .int .i64 (qy + vy)] 24) :=
          Lib.hid ⟨R3b.out.grew q3, C3.out.2.2.2.1.grew q3, q2, grow C3.out.2.2.2.2 q3, q4⟩
        clear hpQ ltQ_2 ltQ_3 R3b C3 q0 q1 q2 q3 q4
        clear w3
        have t0 : (k + 1) % n < n := Nat.mod_lt _ hnn
        have hnl : l.length = n := HN.out
        have t1 : (k + 1) % l.length < l.length := by rw [hnl]; exact t0
        have t2 : l.length - 1 - k < l.length := by omega
        have hT := turnedTo_step l k t1
        have hK := backedTo_step l k t2
        have hrem : (IntKind.i64.wrap ((k : Int) + 1)).tmod (n : Int) = (((k + 1) % n : Nat) : Int) := by
          have hw : IntKind.i64.wrap ((k : Int) + 1) = ((k : Int) + 1) := by rw [IntKind.wrap_i64]; omega
          rw [hw, Int.tmod_eq_emod_of_nonneg (by omega), Int.natCast_emod, Int.natCast_add]; rfl
        have hrem' : ((k : Int) + 1).tmod (n : Int) = (((k + 1) % n : Nat) : Int) := by
          rw [Int.tmod_eq_emod_of_nonneg (by omega), Int.natCast_emod, Int.natCast_add]; rfl
        have hsub : (n : Int) - 1 - (k : Int) = ((n - 1 - k : Nat) : Int) := by omega
        have hrow : ∀ wc : World, Below W.heap.size W wc → ∃ u1 u2 u3 x1 x2 x3, 
            (Builtin.append_ #[22, 22] 22 #[m7, .slice (some ⟨wc.heap.size, 0, none⟩) 1 1]).run Try.prog (wc.alloc (.cells #[.int .i64 (qx + vx), .int .i64 (qy + vy)] 24)) = .ok u1 x1 ∧
            x1.cell? (p.add ((k + 1) % n * 2)) = some (.int .i64 (l[(k + 1) % l.length]'t1).x) ∧ x1.cell? ((p.add ((k + 1) % n * 2)).add 1) = some (.int .i64 (l[(k + 1) % l.length]'t1).y) ∧
            (Builtin.append_ #[22, 22] 22 #[m8, .slice (some ⟨x1.heap.size, 0, none⟩) 1 1]).run Try.prog (x1.alloc (.cells #[.int .i64 (l[(k + 1) % l.length]'t1).x, .int .i64 (l[(k + 1) % l.length]'t1).y] 24)) = .ok u2 x2 ∧
            x2.cell? (p.add ((n - 1 - k) * 2)) = some (.int .i64 (l[l.length - 1 - k]'t2).x) ∧ x2.cell? ((p.add ((n - 1 - k) * 2)).add 1) = some (.int .i64 (l[l.length - 1 - k]'t2).y) ∧
            (Builtin.append_ #[22, 22] 22 #[m9, .slice (some ⟨x2.heap.size, 0, none⟩) 1 1]).run Try.prog (x2.alloc (.cells #[.int .i64 (l[l.length - 1 - k]'t2).x, .int .i64 (l[l.length - 1 - k]'t2).y] 24)) = .ok u3 x3 ∧
            Rows3 x3 (w.heap.size + 2) u1 u2 u3 (movedBy ⟨vx, vy⟩ (l.take (k + 1))) (turnedTo l (k + 1)) (backedTo l (k + 1)) ∧
            Blk x3 w.heap.size #[.int .i64 px, .int .i64 py] 24 ∧ Blk x3 (w.heap.size + 1) #[.int .i64 vx, .int .i64 vy] 24 ∧ Below w.heap.size w x3 := by
          intro wc hb
          have g := D.out.1.grew hb
          have hbw := grow D.out.2.2.2.1 hb
          obtain ⟨u1, x1, r1, g1, e1⟩ := g.push (qx + vx) (qy + vy) (by rw [movedBy_length, List.length_take]; omega)
          obtain ⟨u2, x2, r2, g2, e2⟩ := g1.rot.push (l[(k + 1) % l.length]'t1).x (l[(k + 1) % l.length]'t1).y (by rw [turnedTo_length]; omega)
          obtain ⟨u3, x3, r3, g3, e3⟩ := g2.rot.push (l[l.length - 1 - k]'t2).x (l[l.length - 1 - k]'t2).y (by rw [backedTo_length]; omega)
          have b1 : Below w.heap.size w x1 := hbw.trans (e1.mono (by omega))
          have b2 : Below w.heap.size w x2 := b1.trans (e2.mono (by omega))
          obtain ⟨p', e, _, c1, c2⟩ := (HR.out.below b1 (Nat.le_refl _)).get t1
          cases e
          obtain ⟨p', e, _, c3, c4⟩ := (HR.out.below b2 (Nat.le_refl _)).get t2
          cases e
          have hn1 : (k + 1) % n = (k + 1) % l.length := by rw [hnl]
          have hn2 : n - 1 - k = l.length - 1 - k := by rw [hnl]
          refine ⟨u1, u2, u3, x1, x2, x3, r1, by rw [hn1]; exact c1, by rw [hn1]; exact c2, r2, by rw [hn2]; exact c3, by rw [hn2]; exact c4, r3, ?_, ?_, ?_, b2.trans (e3.mono (by omega))⟩
          · rw [H3.out, hT, hK]
            exact g3.rot
          · exact ((((D.out.2.1.grew hb).below e1 (by omega)).below e2 (by omega)).below e3 (by omega))
          · exact ((((D.out.2.2.1.grew hb).below e1 (by omega)).below e2 (by omega)).below e3 (by omega))
        generalize l[(k + 1) % l.length] = a1 at *
        generalize l[l.length - 1 - k] = a2 at *
        generalize (k + 1) % n = j1 at *
        generalize n - 1 - k = j2 at *
        obtain ⟨a1x, a1y⟩ := a1
        obtain ⟨a2x, a2y⟩ := a2
        dsimp only at hrow
        have HROW := Lib.hid hrow
        have hj2 : j2 < n := by omega
        have KQ := Lib.hid (May_any ⟨qx + vx, qy + vy⟩)
        clear hT hK t1 t2 hnl hrow
        have cq := D.out.2.2.2.2.two
        cases mb
        · obtain ⟨u1, u2, u3, x1, x2, x3, r1, c1, c2, r2, c3, c4, r3, G, E⟩ := HROW.out W (Below.refl _ W)
          rw [add_one] at c2 c4
          have R1 := Lib.hid r1
          have R2 := Lib.hid r2
          have R3 := Lib.hid r3
          have G := Lib.hid G
          have E := Lib.hid E
          clear r1 r2 r3 HROW D
          have hne2 : ¬ (n : Int) = 0 := by omega
          go_wp2_with (first
            | (at_builtin; refine Lib.wpList_append_run _ rfl (.tmp 80) (.tmp 82) 22 22 rfl _ _ rfl rfl u1 x1 R1.out ?_)
            | (at_builtin; refine Lib.wpList_append_run _ rfl (.tmp 84) (.tmp 93) 22 22 rfl _ _ rfl rfl u2 x2 R2.out ?_)
            | (at_builtin; refine Lib.wpList_append_run _ rfl (.tmp 95) (.tmp 104) 22 22 rfl _ _ rfl rfl u3 x3 R3.out ?_))
          go_round
          case rel =>
            have hz : false = mayAll (movedBy ⟨vx, vy⟩ (l.take (k + 1))) := by rw [H3.out, mayAll_push, HMB.out]; simp
            exact ⟨k + 1, _, _, _, rfl, rfl, rfl, by omega, val_int rfl, val_bool hz, hall, G, E⟩
          case measure => simp only [intOf]; omega
        · go_wp2_with fail
          refine (KQ.out _).mono ?_
          rintro e wc ⟨rfl, hb⟩
          obtain ⟨u1, u2, u3, x1, x2, x3, r1, c1, c2, r2, c3, c4, r3, G, E⟩ := HROW.out wc hb
          have cc := (D.out.2.2.2.2.grew hb).two
          clear hb
          rw [add_one] at c2 c4
          have R1 := Lib.hid r1
          have R2 := Lib.hid r2
          have R3 := Lib.hid r3
          have G := Lib.hid G
          have E := Lib.hid E
          clear r1 r2 r3 HROW D cq
          have hne2 : ¬ (n : Int) = 0 := by omega
          go_wp2_with (first
            | (at_builtin; refine Lib.wpList_append_run _ rfl (.tmp 80) (.tmp 82) 22 22 rfl _ _ rfl rfl u1 x1 R1.out ?_)
            | (at_builtin; refine Lib.wpList_append_run _ rfl (.tmp 84) (.tmp 93) 22 22 rfl _ _ rfl rfl u2 x2 R2.out ?_)
            | (at_builtin; refine Lib.wpList_append_run _ rfl (.tmp 95) (.tmp 104) 22 22 rfl _ _ rfl rfl u3 x3 R3.out ?_))
          go_round
          case rel =>
            have hz : (true && decide (May ⟨qx + vx, qy + vy⟩)) = mayAll (movedBy ⟨vx, vy⟩ (l.take (k + 1))) := by rw [H3.out, mayAll_push, HMB.out]
            exact ⟨k + 1, _, _, _, rfl, rfl, rfl, by omega, val_int rfl, val_bool (Eq.trans (Bool.true_and _).symm hz), hall, G, E⟩
          case measure => simp only [intOf]; omega
      · rw [decide_eq_false hm] at KM
        have h0 := H1.out hm
        have h00 : ri = 0 := by rw [← HRI.out]; exact h0
        subst h00
        clear H1 H2 H3 h0 hm
        go_wp2_with fail
        refine (KM.out _).mono ?_
        rintro e w3 ⟨rfl, hb⟩
        have E3 := Lib.hid (And.intro (HB.out.1.grew hb) (grow HB.out.2.2 hb))
        have c3 := E3.out.1.two
        clear hb h1 h2
        go_wp2_with fail
        refine (KI.out _ E3.out.2).mono ?_
        rintro e w4 ⟨rfl, hb⟩
        have E4 := Lib.hid (grow E3.out.2 hb)
        clear hb c3
        go_wp2_with fail
        refine (awake_any _).mono ?_
        rintro e w5 ⟨rfl, hb⟩
        have E5 := Lib.hid (grow E4.out hb)
        clear hb
        go_wp2
        go_ret
        exact ⟨rfl, E5.out⟩
    · have hkn : k = n := by omega
      subst hkn
      have hnl : l.length = k := HN.out
      have htk : l.take k = l := by rw [← hnl, List.take_length]
      have htt : turnedTo l k = turned l := by rw [← hnl]; rfl
      have hbb : backedTo l k = backed l := by rw [← hnl]; rfl
      rw [htk] at HM HMB
      rw [htk, htt, hbb] at R3
      obtain ⟨A7, c7, e7, P7⟩ := R3.out.r1.form
      obtain ⟨A8, c8, e8, P8⟩ := R3.out.r2.form
      obtain ⟨A9, c9, e9, P9⟩ := R3.out.r3.form
      have hML := HM.out
      have hLp : l.length ≤ 60 := by omega
      have k7 : mb = true → May ⟨px + vx, py + vy⟩ → ∀ w', Below wr.heap.size wr w' → Calls Try.prog 13 #[m7, .agg #[.int .i64 (px + vx), .int .i64 (py + vy)]] w' fun e w'' => e = .returned (.int .i64 ri) ∧ Below w'.heap.size w' w'' := fun hb1 hq w' hb => by
        have hall : ∀ q ∈ movedBy ⟨vx, vy⟩ l, May q := of_decide_eq_true (HMB.out.trans hb1)
        have h := Inside_any A7 (movedBy ⟨vx, vy⟩ l) _ c7 ⟨px + vx, py + vy⟩ w' rfl (P7.onto hb) (by rw [movedBy_length]; omega)
        rw [Inside_moved ⟨vx, vy⟩ l ⟨px, py⟩ HMP.out hML hq hall, HRI.out] at h
        rw [e7]; exact h
      have k8 : ∀ w', Below wr.heap.size wr w' → Calls Try.prog 13 #[m8, .agg #[.int .i64 px, .int .i64 py]] w' fun e w'' => e = .returned (.int .i64 ri) ∧ Below w'.heap.size w' w'' := fun w' hb => by
        have h := Inside_any A8 (turned l) _ c8 ⟨px, py⟩ w' rfl (P8.onto hb) (by simp [turned]; omega)
        rw [Inside_turned l ⟨px, py⟩ hML, HRI.out] at h
        rw [e8]; exact h
      have k9 : ∀ w', Below wr.heap.size wr w' → Calls Try.prog 13 #[m9, .agg #[.int .i64 px, .int .i64 py]] w' fun e w'' => e = .returned (.int .i64 ri) ∧ Below w'.heap.size w' w'' := fun w' hb => by
        have h := Inside_any A9 (backed l) _ c9 ⟨px, py⟩ w' rfl (P9.onto hb) (by simp [backed]; omega)
        rw [Inside_backed l ⟨px, py⟩ hML, HRI.out] at h
        rw [e9]; exact h
      have K7 := Lib.hid k7
      have K8 := Lib.hid k8
      have K9 := Lib.hid k9
      clear k7 k8 k9 P7 P8 P9 e7 e8 e9 hML hLp R3 HM HMB htk htt hbb
      have KQ := Lib.hid (May_any ⟨px + vx, py + vy⟩)
      have c0 := HB.out.1.two
      have c1 := HB.out.2.1.two
      go_wp2_with fail
      refine (KI.out _ HB.out.2.2).mono ?_
      rintro e w3 ⟨rfl, hb⟩
      have D1 := Lib.hid (And.intro (HB.out.1.grew hb) (And.intro (HB.out.2.1.grew hb) (And.intro (grow HB.out.2.2 hb) hb)))
      clear hb c0 c1 HB
      have c0 := D1.out.1.two
      have c1 := D1.out.2.1.two
      have hwx := HWX.out
      have hwy := HWY.out
      go_wp2_with fail
      refine (at_any (px + vx) (py + vy) _).mono ?_
      rintro e w4 ⟨rfl, hb⟩
      obtain ⟨Q, hQ⟩ : ∃ Q, Q = w4.heap.size := ⟨_, rfl⟩
      have D2 : Hid (Blk (w4.alloc (.cells #[.int .i64 (px + vx), .int .i64 (py + vy)] 24)) Q #[.int .i64 (px + vx), .int .i64 (py + vy)] 24 ∧ Blk (w4.alloc (.cells #[.int .i64 (px + vx), .int .i64 (py + vy)] 24)) w.heap.size #[.int .i64 px, .int .i64 py] 24 ∧ Below w.heap.size w (w4.alloc (.cells #[.int .i64 (px + vx), .int .i64 (py + vy)] 24)) ∧ Below wr.heap.size wr (w4.alloc (.cells #[.int .i64 (px + vx), .int .i64 (py + vy)] 24))) :=
        Lib.hid ⟨Blk.new' w4 _ 24 hQ, (D1.out.1.grew hb).alloc _, grow_alloc (grow D1.out.2.2.1 hb) _, grow_alloc (grow D1.out.2.2.2 hb) _⟩
      clear hb c0 c1 D1 hwx hwy
      have c2 := D2.out.1.two
      have c0 := D2.out.2.1.two
      have c2' := D2.out.1.two
      rw [hQ] at c2
      cases mb
      · have D3 := Lib.hid (And.intro D2.out.2.1 (And.intro D2.out.2.2.1 D2.out.2.2.2))
        clear D2
        go_wp2_with fail
        (try rw [← hQ])
        clear hQ c2
        generalize w4.alloc (.cells #[.int .i64 (px + vx), .int .i64 (py + vy)] 24) = W at *
        clear w4
        have c2 := c2'
        clear c2'
        clear c0 c2
        refine (K8.out _ D3.out.2.2).mono ?_
        rintro e x1 ⟨rfl, hb⟩
        have F1 := Lib.hid (And.intro (D3.out.1.grew hb) (And.intro (grow D3.out.2.1 hb) (grow D3.out.2.2 hb)))
        clear hb
        have c0 := F1.out.1.two
        go_wp2_with fail
        refine (K9.out _ F1.out.2.2).mono ?_
        rintro e x2 ⟨rfl, hb⟩
        have F2 := Lib.hid (grow F1.out.2.1 hb)
        clear hb c0
        go_wp2_with fail
        refine (awake_any _).mono ?_
        rintro e x3 ⟨rfl, hb⟩
        have F3 := Lib.hid (grow F2.out hb)
        clear hb
        go_wp2
        go_ret
        exact ⟨rfl, F3.out⟩
      · by_cases hq : May ⟨px + vx, py + vy⟩
        · rw [decide_eq_true hq] at KQ
          have K7q := Lib.hid (K7.out rfl hq)
          clear K7 hq
          go_wp2_with fail
          (try rw [← hQ])
          clear hQ c2
          generalize w4.alloc (.cells #[.int .i64 (px + vx), .int .i64 (py + vy)] 24) = W at *
          clear w4
          have c2 := c2'
          clear c2'
          refine (KQ.out _).mono ?_
          rintro e x0 ⟨rfl, hb⟩
          have D3 := Lib.hid (And.intro (D2.out.2.1.grew hb) (And.intro (grow D2.out.2.2.1 hb) (grow D2.out.2.2.2 hb)))
          have D4 := Lib.hid (D2.out.1.grew hb)
          clear hb c0 c2 D2
          have c0 := D3.out.1.two
          have c2 := D4.out.two
          go_wp2_with fail
          refine (K7q.out _ D3.out.2.2).mono ?_
          rintro e y0 ⟨rfl, hb⟩
          have D5 := Lib.hid (And.intro (D3.out.1.grew hb) (And.intro (grow D3.out.2.1 hb) (grow D3.out.2.2 hb)))
          clear hb c0 c2 D3 D4
          have c0 := D5.out.1.two
          go_wp2_with fail
          clear c0
          refine (K8.out _ D5.out.2.2).mono ?_
          rintro e x1 ⟨rfl, hb⟩
          have F1 := Lib.hid (And.intro (D5.out.1.grew hb) (And.intro (grow D5.out.2.1 hb) (grow D5.out.2.2 hb)))
          clear hb
          have c0 := F1.out.1.two
          go_wp2_with fail
          refine (K9.out _ F1.out.2.2).mono ?_
          rintro e x2 ⟨rfl, hb⟩
          have F2 := Lib.hid (grow F1.out.2.1 hb)
          clear hb c0
          go_wp2_with fail
          refine (awake_any _).mono ?_
          rintro e x3 ⟨rfl, hb⟩
          have F3 := Lib.hid (grow F2.out hb)
          clear hb
          go_wp2
          go_ret
          exact ⟨rfl, F3.out⟩
        · rw [decide_eq_false hq] at KQ
          clear K7 hq
          go_wp2_with fail
          (try rw [← hQ])
          clear hQ c2
          generalize w4.alloc (.cells #[.int .i64 (px + vx), .int .i64 (py + vy)] 24) = W at *
          clear w4
          have c2 := c2'
          clear c2'
          refine (KQ.out _).mono ?_
          rintro e x0 ⟨rfl, hb⟩
          have D3 := Lib.hid (And.intro (D2.out.2.1.grew hb) (And.intro (grow D2.out.2.2.1 hb) (grow D2.out.2.2.2 hb)))
          have D4 := Lib.hid (D2.out.1.grew hb)
          clear hb c0 c2 D2
          have c0 := D3.out.1.two
          go_wp2_with fail
          clear c0
          refine (K8.out _ D3.out.2.2).mono ?_
          rintro e x1 ⟨rfl, hb⟩
          have F1 := Lib.hid (And.intro (D3.out.1.grew hb) (And.intro (grow D3.out.2.1 hb) (grow D3.out.2.2 hb)))
          clear hb
          have c0 := F1.out.1.two
          go_wp2_with fail
          refine (K9.out _ F1.out.2.2).mono ?_
          rintro e x2 ⟨rfl, hb⟩
          have F2 := Lib.hid (grow F1.out.2.1 hb)
          clear hb c0
          go_wp2_with fail
          refine (awake_any _).mono ?_
          rintro e x3 ⟨rfl, hb⟩
          have F3 := Lib.hid (grow F2.out hb)
          clear hb
          go_wp2
          go_ret
          exact ⟨rfl, F3.out⟩
end Go.Proofs.Ytkneohngbkmlpaa
