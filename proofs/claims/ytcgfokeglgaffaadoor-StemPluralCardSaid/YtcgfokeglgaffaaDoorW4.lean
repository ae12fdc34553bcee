/- Walks: alike, closed. Printed by mk_w4.py. -/
import Derived.Test.YtcgfokeglgaffaaDoorW3
import Derived.Test.YtcgfokeglgaffaaDoorFreeDeep
namespace Go.Proofs.YtcgfokeglgaffaaDoor
open Go.RowKit

theorem idx_S (t : W) (j : Nat) (h : j < t.length) (w : World) : (Instr.index 9 (.string (S t)) (.int .i64 (j : Int))).run Tryd.prog w = .ok (.int .u8 (t[j].toNat : Nat)) w := by
  have hs : j < (S t).size := by rw [S_size]; exact h
  have hg := S_get t j hs
  have hj : (j : Int) < (S t).size := by omega
  rw [← hg]
  clear hg
  go_simp
/-- sounds of letters: a row with a place. -/
theorem sounds_row (t : W) (ht : Letters t) (hl : (t.length : Int) ≤ 100000) (h0 : 0 < t.length) (w : World) : Calls Tryd.prog 11 #[.string (S t)] w fun e w' => ∃ v, e = .returned v ∧ ∃ g c, v = .slice (some ⟨g, 0, none⟩) t.length c ∧ t.length ≤ c ∧ (∀ k (hk : k < t.length), w'.cell? ⟨g, k, none⟩ = some (.bool ((sndL t)[k]'(by rw [sndL_len]; exact hk)))) ∧ Below w.heap.size w w' := by
  refine (sounds_any (S t) (by rw [S_size]; exact hl) w).mono ?_
  rintro e w' ⟨v, rfl, hown, hb⟩
  rw [snd_letters t ht] at hown
  have hn := sndL_len t
  rcases hown.2 with ⟨_, h1⟩ | ⟨g, cap, cur, rfl, hbg, hg, hcap, _⟩
  · omega
  · refine ⟨_, rfl, g, cap, by rw [hn], by omega, fun k hk => ?_, hb⟩
    have e : ∀ j, (⟨g, 0, none⟩ : Addr).add j = ⟨g, j, none⟩ := fun j => by unfold Addr.add; split <;> simp_all
    have h1 := World.ownsRow.cells hown (g := g) rfl k (.bool ((sndL t)[k]'(by omega))) (by simp [List.getElem?_eq_getElem (show k < (sndL t).length by omega)])
    rwa [e] at h1

set_option maxHeartbeats 4000000 in
theorem alike_any (t : W) (ht : Letters t) (hl : (t.length : Int) ≤ 100000) (w : World) : Calls Tryd.prog 26 #[.string (S t)] w fun e w' => e = .returned (.bool (alikeL t)) ∧ Below w.heap.size w w' := by
  obtain ⟨B, hB⟩ : ∃ B, B = alikeL t := ⟨_, rfl⟩
  rw [← hB]
  unfold alikeL at hB
  obtain ⟨n, hn⟩ : ∃ n, n = t.length := ⟨_, rfl⟩
  have hz : (S t).size = n := by rw [S_size, hn]
  have hnb : (n : Int) ≤ 100000 := by omega
  by_cases h1 : 1 < n
  · obtain ⟨j1, hj1⟩ : ∃ j1, n = j1 + 1 := ⟨n - 1, by omega⟩
    obtain ⟨j2, hj2⟩ : ∃ j2, j1 = j2 + 1 := ⟨j1 - 1, by omega⟩
    have i1 := idx_S t j1 (by omega)
    have i2 := idx_S t j2 (by omega)
    have hs := fun w => sounds_row t ht hl (by omega) w
    obtain ⟨x1, hx1⟩ : ∃ x1, x1 = (t[j1]'(by omega)).toNat := ⟨_, rfl⟩
    obtain ⟨x2, hx2⟩ : ∃ x2, x2 = (t[j2]'(by omega)).toNat := ⟨_, rfl⟩
    obtain ⟨b1, hb1⟩ : ∃ b1, b1 = (sndL t)[j1]'(by rw [sndL_len]; omega) := ⟨_, rfl⟩
    have l1 : lastL t 1 = x1 := by unfold lastL; rw [show t.length - 1 = j1 by omega, List.getElem?_eq_getElem (by omega), hx1]; rfl
    have l2 : lastL t 2 = x2 := by unfold lastL; rw [show t.length - 2 = j2 by omega, List.getElem?_eq_getElem (by omega), hx2]; rfl
    have l3 : lastV t 1 = b1 := by unfold lastV; rw [show t.length - 1 = j1 by omega, List.getElem?_eq_getElem (by rw [sndL_len]; omega), hb1]; rfl
    rw [l1, l2, l3, show decide (1 < t.length ∧ x1 = x2) = decide (x1 = x2) from by rw [decide_eq_decide]; omega] at hB
    rw [← hx1] at i1
    rw [← hx2] at i2
    have g1 : IntKind.i64.wrap ((n : Int) - 1) = (j1 : Int) := by rw [IntKind.wrap_i64]; omega
    have g2 : IntKind.i64.wrap ((n : Int) - 2) = (j2 : Int) := by rw [IntKind.wrap_i64]; omega
    have g3 : decide ((1 : Int) < n) = true := decide_eq_true (by omega)
    have hjn : (j1 : Int) < n := by omega
    have HS : Hid (∀ w, Calls Tryd.prog 11 #[.string (S t)] w fun e w' => ∃ v, e = .returned v ∧ ∃ g c, v = .slice (some ⟨g, 0, none⟩) n c ∧ w'.cell? ⟨g, j1, none⟩ = some (.bool b1) ∧ Below w.heap.size w w') := Lib.hid (fun w => (hs w).mono (by
      rintro e w' ⟨v, rfl, g, c, rfl, _, hc, hb⟩
      exact ⟨_, rfl, g, c, by rw [hn], by rw [hb1]; exact hc j1 (by omega), hb⟩))
    have HBE := Lib.hid hB
    clear hs hB l1 l2 l3 hb1 hx1 hx2 hj1 hj2 ht hn hl h1
    by_cases hx : x1 = x2
    · have g4 : ((x1 : Int) == x2) = true := by simp; omega
      go_enter Tryd.func26, Tryd.ntmps26
      go_wp2_with fail
      obtain ⟨S0, S0d⟩ : ∃ S : World → Prop, S = fun v : World => Below w.heap.size w v ∧ w.heap.size ≤ v.heap.size := ⟨_, rfl⟩
      have S0t0 : Stands S0 := by rw [S0d]; exact ((stands_below _).and (stands_size _))
      have S0u0 : ∀ v, S0 v → Below w.heap.size w v ∧ w.heap.size ≤ v.heap.size := fun v h => by rw [S0d] at h; exact h
      have S0m0 : ∀ v, (Below w.heap.size w v ∧ w.heap.size ≤ v.heap.size) → S0 v := fun v h => by rw [S0d]; exact h
      have S0u := Lib.hid S0u0
      have S0m := Lib.hid S0m0
      have S0t := Lib.hid S0t0
      clear S0d S0u0 S0m0 S0t0
      refine wp_region_X (S := S0) (by kernel_rfl) (S0m.out _ ⟨(Below.refl _ w).drew, Nat.le_refl _⟩) ?_
      refine wpX_take (i := 0) (v := ?_) S0t.out rfl rfl (by kernel_rfl) (by kernel_rfl) (by kernel_rfl) (by kernel_rfl) (fun _ _ _ h => h) (SteadyX.value (by rfl) ?_) ?_
      rotate_left
      · (intro w_ hS; go_simp; try with_reducible rfl)
      simp only [List.setIfInBounds_toArray, List.set_cons_zero, List.set_cons_succ]
      refine wpX_take (i := 1) (v := ?_) S0t.out rfl rfl (by kernel_rfl) (by kernel_rfl) (by kernel_rfl) (by kernel_rfl) (fun _ _ _ h => h) (SteadyX.value (by rfl) ?_) ?_
      rotate_left
      · (intro w_ hS; go_simp; try with_reducible rfl)
      simp only [List.setIfInBounds_toArray, List.set_cons_zero, List.set_cons_succ]
      refine wpX_take (i := 2) (v := ?_) S0t.out rfl rfl (by kernel_rfl) (by kernel_rfl) (by kernel_rfl) (by kernel_rfl) (fun _ _ _ h => h) (SteadyX.value (by rfl) ?_) ?_
      rotate_left
      · (intro w_ hS; go_simp; try with_reducible rfl)
      simp only [List.setIfInBounds_toArray, List.set_cons_zero, List.set_cons_succ]
      refine wpX_take (i := 3) (v := ?_) S0t.out rfl rfl (by kernel_rfl) (by kernel_rfl) (by kernel_rfl) (by kernel_rfl) (fun _ _ _ h => h) (SteadyX.value (by rfl) ?_) ?_
      rotate_left
      · (intro w_ hS; go_simp; try with_reducible rfl)
      simp only [List.setIfInBounds_toArray, List.set_cons_zero, List.set_cons_succ]
      refine wpX_take (i := 4) (v := ?_) S0t.out rfl rfl (by kernel_rfl) (by kernel_rfl) (by kernel_rfl) (by kernel_rfl) (fun _ _ _ h => h) (SteadyX.value (by rfl) ?_) ?_
      rotate_left
      · (intro w_ hS; go_simp; try with_reducible rfl)
      simp only [List.setIfInBounds_toArray, List.set_cons_zero, List.set_cons_succ]
      refine wpX_take (i := 5) (v := ?_) S0t.out rfl rfl (by kernel_rfl) (by kernel_rfl) (by kernel_rfl) (by kernel_rfl) (fun _ _ _ h => h) (SteadyX.value (by rfl) ?_) ?_
      rotate_left
      · (intro w_ hS; go_simp; try with_reducible rfl)
      simp only [List.setIfInBounds_toArray, List.set_cons_zero, List.set_cons_succ]
      refine wpX_take (i := 6) (v := ?_) S0t.out rfl rfl (by kernel_rfl) (by kernel_rfl) (by kernel_rfl) (by kernel_rfl) (fun _ _ _ h => h) (SteadyX.value (by rfl) ?_) ?_
      rotate_left
      · (intro w_ hS; obtain ⟨q0, q1⟩ := S0u.out _ hS; (clear q0); (clear q1); go_simp; try with_reducible rfl)
      simp only [List.setIfInBounds_toArray, List.set_cons_zero, List.set_cons_succ]
      refine wpX_take (i := 7) (v := ?_) S0t.out rfl rfl (by kernel_rfl) (by kernel_rfl) (by kernel_rfl) (by kernel_rfl) (fun _ _ _ h => h) (SteadyX.value (by rfl) ?_) ?_
      rotate_left
      · (intro w_ hS; go_simp; try with_reducible rfl)
      simp only [List.setIfInBounds_toArray, List.set_cons_zero, List.set_cons_succ]
      refine wpX_take (i := 8) (v := ?_) S0t.out rfl rfl (by kernel_rfl) (by kernel_rfl) (by kernel_rfl) (by kernel_rfl) (fun _ _ _ h => h) (SteadyX.value (by rfl) ?_) ?_
      rotate_left
      · (intro w_ hS; go_simp; try with_reducible rfl)
      simp only [List.setIfInBounds_toArray, List.set_cons_zero, List.set_cons_succ]
      refine wpX_take (i := 9) (v := ?_) S0t.out rfl rfl (by kernel_rfl) (by kernel_rfl) (by kernel_rfl) (by kernel_rfl) (fun _ _ _ h => h) (SteadyX.value (by rfl) ?_) ?_
      rotate_left
      · (intro w_ hS; go_simp; try with_reducible rfl)
      simp only [List.setIfInBounds_toArray, List.set_cons_zero, List.set_cons_succ]
      refine wpX_take (i := 10) (v := ?_) S0t.out rfl rfl (by kernel_rfl) (by kernel_rfl) (by kernel_rfl) (by kernel_rfl) (fun _ _ _ h => h) (SteadyX.value (by rfl) ?_) ?_
      rotate_left
      · (intro w_ hS; obtain ⟨q0, q1⟩ := S0u.out _ hS; (clear q0); (clear q1); go_simp; try with_reducible rfl)
      simp only [List.setIfInBounds_toArray, List.set_cons_zero, List.set_cons_succ]
      refine wpX_take (i := 11) (v := ?_) S0t.out rfl rfl (by kernel_rfl) (by kernel_rfl) (by kernel_rfl) (by kernel_rfl) (fun _ _ _ h => h) (SteadyX.value (by rfl) ?_) ?_
      rotate_left
      · (intro w_ hS; go_simp; try with_reducible rfl)
      simp only [List.setIfInBounds_toArray, List.set_cons_zero, List.set_cons_succ]
      refine wpX_take (i := 12) (v := ?_) S0t.out rfl rfl (by kernel_rfl) (by kernel_rfl) (by kernel_rfl) (by kernel_rfl) (fun _ _ _ h => h) (SteadyX.value (by rfl) ?_) ?_
      rotate_left
      · (intro w_ hS; go_simp; try with_reducible rfl)
      simp only [List.setIfInBounds_toArray, List.set_cons_zero, List.set_cons_succ]
      refine wpX_take (i := 13) (v := ?_) S0t.out rfl rfl (by kernel_rfl) (by kernel_rfl) (by kernel_rfl) (by kernel_rfl) (fun _ _ _ h => h) (SteadyX.value (by rfl) ?_) ?_
      rotate_left
      · (intro w_ hS; go_simp; try with_reducible rfl)
      simp only [List.setIfInBounds_toArray, List.set_cons_zero, List.set_cons_succ]
      refine wpX_take (i := 14) (v := ?_) S0t.out rfl rfl (by kernel_rfl) (by kernel_rfl) (by kernel_rfl) (by kernel_rfl) (fun _ _ _ h => h) (SteadyX.value (by rfl) ?_) ?_
      rotate_left
      · (intro w_ hS; go_simp; try with_reducible rfl)
      simp only [List.setIfInBounds_toArray, List.set_cons_zero, List.set_cons_succ]
      refine wpX_take (i := 16) (v := ?_) S0t.out rfl rfl (by kernel_rfl) (by kernel_rfl) (by kernel_rfl) (by kernel_rfl) (fun _ _ _ h => h) (SteadyX.value (by rfl) ?_) ?_
      rotate_left
      · (intro w_ hS; go_simp; try with_reducible rfl)
      simp only [List.setIfInBounds_toArray, List.set_cons_zero, List.set_cons_succ]
      refine wpX_take (i := 17) (v := ?_) S0t.out rfl rfl (by kernel_rfl) (by kernel_rfl) (by kernel_rfl) (by kernel_rfl) (fun _ _ _ h => h) (SteadyX.value (by rfl) ?_) ?_
      rotate_left
      · (intro w_ hS; go_simp; try with_reducible rfl)
      simp only [List.setIfInBounds_toArray, List.set_cons_zero, List.set_cons_succ]
      refine wpX_one (i := 15) (by kernel_rfl) (fun w_ hS => ?_)
      obtain ⟨q0, q1⟩ := S0u.out _ hS
      refine wpX_call rfl rfl (by rfl) (HS.out w_) (by go_simp) ?_
      rintro _ w1_ ⟨g, cp, rfl, hcl, hb⟩
      obtain ⟨S1, S1d⟩ : ∃ S : World → Prop, S = fun v : World => Below w.heap.size w v ∧ w.heap.size ≤ v.heap.size ∧ v.cell? ⟨g, j1, none⟩ = some (.bool b1) := ⟨_, rfl⟩
      have S1t0 : Stands S1 := by rw [S1d]; exact ((stands_below _).and ((stands_size _).and (stands_cell _ _)))
      have S1u0 : ∀ v, S1 v → Below w.heap.size w v ∧ w.heap.size ≤ v.heap.size ∧ v.cell? ⟨g, j1, none⟩ = some (.bool b1) := fun v h => by rw [S1d] at h; exact h
      have S1m0 : ∀ v, (Below w.heap.size w v ∧ w.heap.size ≤ v.heap.size ∧ v.cell? ⟨g, j1, none⟩ = some (.bool b1)) → S1 v := fun v h => by rw [S1d]; exact h
      have S1u := Lib.hid S1u0
      have S1m := Lib.hid S1m0
      have S1t := Lib.hid S1t0
      clear S1d S1u0 S1m0 S1t0
      refine ⟨S1, S1t.out, .inr (fun v h => S0m.out _ (by obtain ⟨q0, q1, q2⟩ := S1u.out _ h; exact ⟨q0, q1⟩)), S1m.out _ ⟨(stands_below _) _ _ hb q0, (stands_size _) _ _ hb q1, hcl⟩, ?_⟩
      clear hS q0 q1
      clear hcl hb
      clear w1_ w_
      simp only [List.setIfInBounds_toArray, List.set_cons_zero, List.set_cons_succ]
      refine wpX_take (i := 18) (v := ?_) S1t.out rfl rfl (by kernel_rfl) (by kernel_rfl) (by kernel_rfl) (by kernel_rfl) (fun _ _ _ h => h) (SteadyX.value (by rfl) ?_) ?_
      rotate_left
      · (intro w_ hS; go_simp; try with_reducible rfl)
      simp only [List.setIfInBounds_toArray, List.set_cons_zero, List.set_cons_succ]
      refine wpX_take (i := 19) (v := ?_) S1t.out rfl rfl (by kernel_rfl) (by kernel_rfl) (by kernel_rfl) (by kernel_rfl) (fun _ _ _ h => h) (SteadyX.value (by rfl) ?_) ?_
      rotate_left
      · (intro w_ hS; obtain ⟨q0, q1, q2⟩ := S1u.out _ hS; (clear q0); (clear q1); go_simp; try with_reducible rfl)
      simp only [List.setIfInBounds_toArray, List.set_cons_zero, List.set_cons_succ]
      refine wpX_take (i := 20) (v := ?_) S1t.out rfl rfl (by kernel_rfl) (by kernel_rfl) (by kernel_rfl) (by kernel_rfl) (fun _ _ _ h => h) (SteadyX.value (by rfl) ?_) ?_
      rotate_left
      · (intro w_ hS; go_simp; try with_reducible rfl)
      simp only [List.setIfInBounds_toArray, List.set_cons_zero, List.set_cons_succ]
      refine wpX_take (i := 21) (v := ?_) S1t.out rfl rfl (by kernel_rfl) (by kernel_rfl) (by kernel_rfl) (by kernel_rfl) (fun _ _ _ h => h) (SteadyX.value (by rfl) ?_) ?_
      rotate_left
      · (intro w_ hS; go_simp; try with_reducible rfl)
      simp only [List.setIfInBounds_toArray, List.set_cons_zero, List.set_cons_succ]
      refine wpX_take (i := 22) (v := ?_) S1t.out rfl rfl (by kernel_rfl) (by kernel_rfl) (by kernel_rfl) (by kernel_rfl) (fun _ _ _ h => h) (SteadyX.value (by rfl) ?_) ?_
      rotate_left
      · (intro w_ hS; go_simp; try with_reducible rfl)
      simp only [List.setIfInBounds_toArray, List.set_cons_zero, List.set_cons_succ]
      refine wpX_done (by kernel_rfl) (fun W hS => ?_) _
      obtain ⟨q0, q1, q2⟩ := S1u.out _ hS
      clear hS S0u S0m S0t S1u S1m S1t
      clear S0 S1
      have HBW := Lib.hid q0
      obtain rfl : B = !b1 := by rw [HBE.out, decide_eq_true hx]; rfl
      clear HBE q0 q1 q2 g1 g2 g3 g4
      go_wp2
      go_ret
      exact ⟨rfl, HBW.out⟩
    · have g4 : ((x1 : Int) == x2) = false := by simp; omega
      go_enter Tryd.func26, Tryd.ntmps26
      go_wp2_with fail
      obtain ⟨S0, S0d⟩ : ∃ S : World → Prop, S = fun v : World => Below w.heap.size w v ∧ w.heap.size ≤ v.heap.size := ⟨_, rfl⟩
      have S0t0 : Stands S0 := by rw [S0d]; exact ((stands_below _).and (stands_size _))
      have S0u0 : ∀ v, S0 v → Below w.heap.size w v ∧ w.heap.size ≤ v.heap.size := fun v h => by rw [S0d] at h; exact h
      have S0m0 : ∀ v, (Below w.heap.size w v ∧ w.heap.size ≤ v.heap.size) → S0 v := fun v h => by rw [S0d]; exact h
      have S0u := Lib.hid S0u0
      have S0m := Lib.hid S0m0
      have S0t := Lib.hid S0t0
      clear S0d S0u0 S0m0 S0t0
      refine wp_region_X (S := S0) (by kernel_rfl) (S0m.out _ ⟨(Below.refl _ w).drew, Nat.le_refl _⟩) ?_
      refine wpX_take (i := 0) (v := ?_) S0t.out rfl rfl (by kernel_rfl) (by kernel_rfl) (by kernel_rfl) (by kernel_rfl) (fun _ _ _ h => h) (SteadyX.value (by rfl) ?_) ?_
      rotate_left
      · (intro w_ hS; go_simp; try with_reducible rfl)
      simp only [List.setIfInBounds_toArray, List.set_cons_zero, List.set_cons_succ]
      refine wpX_take (i := 1) (v := ?_) S0t.out rfl rfl (by kernel_rfl) (by kernel_rfl) (by kernel_rfl) (by kernel_rfl) (fun _ _ _ h => h) (SteadyX.value (by rfl) ?_) ?_
      rotate_left
      · (intro w_ hS; go_simp; try with_reducible rfl)
      simp only [List.setIfInBounds_toArray, List.set_cons_zero, List.set_cons_succ]
      refine wpX_take (i := 2) (v := ?_) S0t.out rfl rfl (by kernel_rfl) (by kernel_rfl) (by kernel_rfl) (by kernel_rfl) (fun _ _ _ h => h) (SteadyX.value (by rfl) ?_) ?_
      rotate_left
      · (intro w_ hS; go_simp; try with_reducible rfl)
      simp only [List.setIfInBounds_toArray, List.set_cons_zero, List.set_cons_succ]
      refine wpX_take (i := 3) (v := ?_) S0t.out rfl rfl (by kernel_rfl) (by kernel_rfl) (by kernel_rfl) (by kernel_rfl) (fun _ _ _ h => h) (SteadyX.value (by rfl) ?_) ?_
      rotate_left
      · (intro w_ hS; go_simp; try with_reducible rfl)
      simp only [List.setIfInBounds_toArray, List.set_cons_zero, List.set_cons_succ]
      refine wpX_take (i := 4) (v := ?_) S0t.out rfl rfl (by kernel_rfl) (by kernel_rfl) (by kernel_rfl) (by kernel_rfl) (fun _ _ _ h => h) (SteadyX.value (by rfl) ?_) ?_
      rotate_left
      · (intro w_ hS; go_simp; try with_reducible rfl)
      simp only [List.setIfInBounds_toArray, List.set_cons_zero, List.set_cons_succ]
      refine wpX_take (i := 5) (v := ?_) S0t.out rfl rfl (by kernel_rfl) (by kernel_rfl) (by kernel_rfl) (by kernel_rfl) (fun _ _ _ h => h) (SteadyX.value (by rfl) ?_) ?_
      rotate_left
      · (intro w_ hS; go_simp; try with_reducible rfl)
      simp only [List.setIfInBounds_toArray, List.set_cons_zero, List.set_cons_succ]
      refine wpX_take (i := 6) (v := ?_) S0t.out rfl rfl (by kernel_rfl) (by kernel_rfl) (by kernel_rfl) (by kernel_rfl) (fun _ _ _ h => h) (SteadyX.value (by rfl) ?_) ?_
      rotate_left
      · (intro w_ hS; obtain ⟨q0, q1⟩ := S0u.out _ hS; (clear q0); (clear q1); go_simp; try with_reducible rfl)
      simp only [List.setIfInBounds_toArray, List.set_cons_zero, List.set_cons_succ]
      refine wpX_take (i := 7) (v := ?_) S0t.out rfl rfl (by kernel_rfl) (by kernel_rfl) (by kernel_rfl) (by kernel_rfl) (fun _ _ _ h => h) (SteadyX.value (by rfl) ?_) ?_
      rotate_left
      · (intro w_ hS; go_simp; try with_reducible rfl)
      simp only [List.setIfInBounds_toArray, List.set_cons_zero, List.set_cons_succ]
      refine wpX_take (i := 8) (v := ?_) S0t.out rfl rfl (by kernel_rfl) (by kernel_rfl) (by kernel_rfl) (by kernel_rfl) (fun _ _ _ h => h) (SteadyX.value (by rfl) ?_) ?_
      rotate_left
      · (intro w_ hS; go_simp; try with_reducible rfl)
      simp only [List.setIfInBounds_toArray, List.set_cons_zero, List.set_cons_succ]
      refine wpX_take (i := 9) (v := ?_) S0t.out rfl rfl (by kernel_rfl) (by kernel_rfl) (by kernel_rfl) (by kernel_rfl) (fun _ _ _ h => h) (SteadyX.value (by rfl) ?_) ?_
      rotate_left
      · (intro w_ hS; go_simp; try with_reducible rfl)
      simp only [List.setIfInBounds_toArray, List.set_cons_zero, List.set_cons_succ]
      refine wpX_take (i := 10) (v := ?_) S0t.out rfl rfl (by kernel_rfl) (by kernel_rfl) (by kernel_rfl) (by kernel_rfl) (fun _ _ _ h => h) (SteadyX.value (by rfl) ?_) ?_
      rotate_left
      · (intro w_ hS; obtain ⟨q0, q1⟩ := S0u.out _ hS; (clear q0); (clear q1); go_simp; try with_reducible rfl)
      simp only [List.setIfInBounds_toArray, List.set_cons_zero, List.set_cons_succ]
      refine wpX_take (i := 11) (v := ?_) S0t.out rfl rfl (by kernel_rfl) (by kernel_rfl) (by kernel_rfl) (by kernel_rfl) (fun _ _ _ h => h) (SteadyX.value (by rfl) ?_) ?_
      rotate_left
      · (intro w_ hS; go_simp; try with_reducible rfl)
      simp only [List.setIfInBounds_toArray, List.set_cons_zero, List.set_cons_succ]
      refine wpX_take (i := 12) (v := ?_) S0t.out rfl rfl (by kernel_rfl) (by kernel_rfl) (by kernel_rfl) (by kernel_rfl) (fun _ _ _ h => h) (SteadyX.value (by rfl) ?_) ?_
      rotate_left
      · (intro w_ hS; go_simp; try with_reducible rfl)
      simp only [List.setIfInBounds_toArray, List.set_cons_zero, List.set_cons_succ]
      refine wpX_take (i := 13) (v := ?_) S0t.out rfl rfl (by kernel_rfl) (by kernel_rfl) (by kernel_rfl) (by kernel_rfl) (fun _ _ _ h => h) (SteadyX.value (by rfl) ?_) ?_
      rotate_left
      · (intro w_ hS; go_simp; try with_reducible rfl)
      simp only [List.setIfInBounds_toArray, List.set_cons_zero, List.set_cons_succ]
      refine wpX_take (i := 14) (v := undef) S0t.out rfl rfl (by kernel_rfl) (by kernel_rfl) (by kernel_rfl) (by kernel_rfl) (fun _ _ _ h => h) (SteadyX.off (by rfl)) ?_
      simp only [List.setIfInBounds_toArray, List.set_cons_zero, List.set_cons_succ]
      refine wpX_take (i := 15) (v := undef) S0t.out rfl rfl (by kernel_rfl) (by kernel_rfl) (by kernel_rfl) (by kernel_rfl) (fun _ _ _ h => h) (SteadyX.off (by rfl)) ?_
      simp only [List.setIfInBounds_toArray, List.set_cons_zero, List.set_cons_succ]
      refine wpX_take (i := 16) (v := undef) S0t.out rfl rfl (by kernel_rfl) (by kernel_rfl) (by kernel_rfl) (by kernel_rfl) (fun _ _ _ h => h) (SteadyX.off (by rfl)) ?_
      simp only [List.setIfInBounds_toArray, List.set_cons_zero, List.set_cons_succ]
      refine wpX_take (i := 17) (v := undef) S0t.out rfl rfl (by kernel_rfl) (by kernel_rfl) (by kernel_rfl) (by kernel_rfl) (fun _ _ _ h => h) (SteadyX.off (by rfl)) ?_
      simp only [List.setIfInBounds_toArray, List.set_cons_zero, List.set_cons_succ]
      refine wpX_take (i := 18) (v := undef) S0t.out rfl rfl (by kernel_rfl) (by kernel_rfl) (by kernel_rfl) (by kernel_rfl) (fun _ _ _ h => h) (SteadyX.off (by rfl)) ?_
      simp only [List.setIfInBounds_toArray, List.set_cons_zero, List.set_cons_succ]
      refine wpX_take (i := 19) (v := undef) S0t.out rfl rfl (by kernel_rfl) (by kernel_rfl) (by kernel_rfl) (by kernel_rfl) (fun _ _ _ h => h) (SteadyX.off (by rfl)) ?_
      simp only [List.setIfInBounds_toArray, List.set_cons_zero, List.set_cons_succ]
      refine wpX_take (i := 20) (v := undef) S0t.out rfl rfl (by kernel_rfl) (by kernel_rfl) (by kernel_rfl) (by kernel_rfl) (fun _ _ _ h => h) (SteadyX.off (by rfl)) ?_
      simp only [List.setIfInBounds_toArray, List.set_cons_zero, List.set_cons_succ]
      refine wpX_take (i := 21) (v := ?_) S0t.out rfl rfl (by kernel_rfl) (by kernel_rfl) (by kernel_rfl) (by kernel_rfl) (fun _ _ _ h => h) (SteadyX.value (by rfl) ?_) ?_
      rotate_left
      · (intro w_ hS; go_simp; try with_reducible rfl)
      simp only [List.setIfInBounds_toArray, List.set_cons_zero, List.set_cons_succ]
      refine wpX_take (i := 22) (v := ?_) S0t.out rfl rfl (by kernel_rfl) (by kernel_rfl) (by kernel_rfl) (by kernel_rfl) (fun _ _ _ h => h) (SteadyX.value (by rfl) ?_) ?_
      rotate_left
      · (intro w_ hS; go_simp; try with_reducible rfl)
      simp only [List.setIfInBounds_toArray, List.set_cons_zero, List.set_cons_succ]
      refine wpX_done (by kernel_rfl) (fun W hS => ?_) _
      obtain ⟨q0, q1⟩ := S0u.out _ hS
      clear hS S0u S0m S0t
      clear S0
      have HBW := Lib.hid q0
      obtain rfl : B = false := by rw [HBE.out, decide_eq_false hx]; rfl
      clear HBE q0 q1 g1 g2 g3 g4
      go_wp2
      go_ret
      exact ⟨rfl, HBW.out⟩
  · have g3 : decide ((1 : Int) < n) = false := decide_eq_false (by omega)
    obtain rfl : B = false := by rw [hB, decide_eq_false (by omega)]; rfl
    clear hB hn hl ht
    go_enter Tryd.func26, Tryd.ntmps26
    go_wp2_with fail
    obtain ⟨S0, S0d⟩ : ∃ S : World → Prop, S = fun v : World => Below w.heap.size w v ∧ w.heap.size ≤ v.heap.size := ⟨_, rfl⟩
    have S0t0 : Stands S0 := by rw [S0d]; exact ((stands_below _).and (stands_size _))
    have S0u0 : ∀ v, S0 v → Below w.heap.size w v ∧ w.heap.size ≤ v.heap.size := fun v h => by rw [S0d] at h; exact h
    have S0m0 : ∀ v, (Below w.heap.size w v ∧ w.heap.size ≤ v.heap.size) → S0 v := fun v h => by rw [S0d]; exact h
    have S0u := Lib.hid S0u0
    have S0m := Lib.hid S0m0
    have S0t := Lib.hid S0t0
    clear S0d S0u0 S0m0 S0t0
    refine wp_region_X (S := S0) (by kernel_rfl) (S0m.out _ ⟨(Below.refl _ w).drew, Nat.le_refl _⟩) ?_
    refine wpX_take (i := 0) (v := ?_) S0t.out rfl rfl (by kernel_rfl) (by kernel_rfl) (by kernel_rfl) (by kernel_rfl) (fun _ _ _ h => h) (SteadyX.value (by rfl) ?_) ?_
    rotate_left
    · (intro w_ hS; go_simp; try with_reducible rfl)
    simp only [List.setIfInBounds_toArray, List.set_cons_zero, List.set_cons_succ]
    refine wpX_take (i := 1) (v := ?_) S0t.out rfl rfl (by kernel_rfl) (by kernel_rfl) (by kernel_rfl) (by kernel_rfl) (fun _ _ _ h => h) (SteadyX.value (by rfl) ?_) ?_
    rotate_left
    · (intro w_ hS; go_simp; try with_reducible rfl)
    simp only [List.setIfInBounds_toArray, List.set_cons_zero, List.set_cons_succ]
    refine wpX_take (i := 2) (v := ?_) S0t.out rfl rfl (by kernel_rfl) (by kernel_rfl) (by kernel_rfl) (by kernel_rfl) (fun _ _ _ h => h) (SteadyX.value (by rfl) ?_) ?_
    rotate_left
    · (intro w_ hS; go_simp; try with_reducible rfl)
    simp only [List.setIfInBounds_toArray, List.set_cons_zero, List.set_cons_succ]
    refine wpX_take (i := 3) (v := undef) S0t.out rfl rfl (by kernel_rfl) (by kernel_rfl) (by kernel_rfl) (by kernel_rfl) (fun _ _ _ h => h) (SteadyX.off (by rfl)) ?_
    simp only [List.setIfInBounds_toArray, List.set_cons_zero, List.set_cons_succ]
    refine wpX_take (i := 4) (v := undef) S0t.out rfl rfl (by kernel_rfl) (by kernel_rfl) (by kernel_rfl) (by kernel_rfl) (fun _ _ _ h => h) (SteadyX.off (by rfl)) ?_
    simp only [List.setIfInBounds_toArray, List.set_cons_zero, List.set_cons_succ]
    refine wpX_take (i := 5) (v := undef) S0t.out rfl rfl (by kernel_rfl) (by kernel_rfl) (by kernel_rfl) (by kernel_rfl) (fun _ _ _ h => h) (SteadyX.off (by rfl)) ?_
    simp only [List.setIfInBounds_toArray, List.set_cons_zero, List.set_cons_succ]
    refine wpX_take (i := 6) (v := undef) S0t.out rfl rfl (by kernel_rfl) (by kernel_rfl) (by kernel_rfl) (by kernel_rfl) (fun _ _ _ h => h) (SteadyX.off (by rfl)) ?_
    simp only [List.setIfInBounds_toArray, List.set_cons_zero, List.set_cons_succ]
    refine wpX_take (i := 7) (v := undef) S0t.out rfl rfl (by kernel_rfl) (by kernel_rfl) (by kernel_rfl) (by kernel_rfl) (fun _ _ _ h => h) (SteadyX.off (by rfl)) ?_
    simp only [List.setIfInBounds_toArray, List.set_cons_zero, List.set_cons_succ]
    refine wpX_take (i := 8) (v := undef) S0t.out rfl rfl (by kernel_rfl) (by kernel_rfl) (by kernel_rfl) (by kernel_rfl) (fun _ _ _ h => h) (SteadyX.off (by rfl)) ?_
    simp only [List.setIfInBounds_toArray, List.set_cons_zero, List.set_cons_succ]
    refine wpX_take (i := 9) (v := undef) S0t.out rfl rfl (by kernel_rfl) (by kernel_rfl) (by kernel_rfl) (by kernel_rfl) (fun _ _ _ h => h) (SteadyX.off (by rfl)) ?_
    simp only [List.setIfInBounds_toArray, List.set_cons_zero, List.set_cons_succ]
    refine wpX_take (i := 10) (v := undef) S0t.out rfl rfl (by kernel_rfl) (by kernel_rfl) (by kernel_rfl) (by kernel_rfl) (fun _ _ _ h => h) (SteadyX.off (by rfl)) ?_
    simp only [List.setIfInBounds_toArray, List.set_cons_zero, List.set_cons_succ]
    refine wpX_take (i := 11) (v := undef) S0t.out rfl rfl (by kernel_rfl) (by kernel_rfl) (by kernel_rfl) (by kernel_rfl) (fun _ _ _ h => h) (SteadyX.off (by rfl)) ?_
    simp only [List.setIfInBounds_toArray, List.set_cons_zero, List.set_cons_succ]
    refine wpX_take (i := 12) (v := ?_) S0t.out rfl rfl (by kernel_rfl) (by kernel_rfl) (by kernel_rfl) (by kernel_rfl) (fun _ _ _ h => h) (SteadyX.value (by rfl) ?_) ?_
    rotate_left
    · (intro w_ hS; go_simp; try with_reducible rfl)
    simp only [List.setIfInBounds_toArray, List.set_cons_zero, List.set_cons_succ]
    refine wpX_take (i := 13) (v := ?_) S0t.out rfl rfl (by kernel_rfl) (by kernel_rfl) (by kernel_rfl) (by kernel_rfl) (fun _ _ _ h => h) (SteadyX.value (by rfl) ?_) ?_
    rotate_left
    · (intro w_ hS; go_simp; try with_reducible rfl)
    simp only [List.setIfInBounds_toArray, List.set_cons_zero, List.set_cons_succ]
    refine wpX_take (i := 14) (v := undef) S0t.out rfl rfl (by kernel_rfl) (by kernel_rfl) (by kernel_rfl) (by kernel_rfl) (fun _ _ _ h => h) (SteadyX.off (by rfl)) ?_
    simp only [List.setIfInBounds_toArray, List.set_cons_zero, List.set_cons_succ]
    refine wpX_take (i := 15) (v := undef) S0t.out rfl rfl (by kernel_rfl) (by kernel_rfl) (by kernel_rfl) (by kernel_rfl) (fun _ _ _ h => h) (SteadyX.off (by rfl)) ?_
    simp only [List.setIfInBounds_toArray, List.set_cons_zero, List.set_cons_succ]
    refine wpX_take (i := 16) (v := undef) S0t.out rfl rfl (by kernel_rfl) (by kernel_rfl) (by kernel_rfl) (by kernel_rfl) (fun _ _ _ h => h) (SteadyX.off (by rfl)) ?_
    simp only [List.setIfInBounds_toArray, List.set_cons_zero, List.set_cons_succ]
    refine wpX_take (i := 17) (v := undef) S0t.out rfl rfl (by kernel_rfl) (by kernel_rfl) (by kernel_rfl) (by kernel_rfl) (fun _ _ _ h => h) (SteadyX.off (by rfl)) ?_
    simp only [List.setIfInBounds_toArray, List.set_cons_zero, List.set_cons_succ]
    refine wpX_take (i := 18) (v := undef) S0t.out rfl rfl (by kernel_rfl) (by kernel_rfl) (by kernel_rfl) (by kernel_rfl) (fun _ _ _ h => h) (SteadyX.off (by rfl)) ?_
    simp only [List.setIfInBounds_toArray, List.set_cons_zero, List.set_cons_succ]
    refine wpX_take (i := 19) (v := undef) S0t.out rfl rfl (by kernel_rfl) (by kernel_rfl) (by kernel_rfl) (by kernel_rfl) (fun _ _ _ h => h) (SteadyX.off (by rfl)) ?_
    simp only [List.setIfInBounds_toArray, List.set_cons_zero, List.set_cons_succ]
    refine wpX_take (i := 20) (v := undef) S0t.out rfl rfl (by kernel_rfl) (by kernel_rfl) (by kernel_rfl) (by kernel_rfl) (fun _ _ _ h => h) (SteadyX.off (by rfl)) ?_
    simp only [List.setIfInBounds_toArray, List.set_cons_zero, List.set_cons_succ]
    refine wpX_take (i := 21) (v := ?_) S0t.out rfl rfl (by kernel_rfl) (by kernel_rfl) (by kernel_rfl) (by kernel_rfl) (fun _ _ _ h => h) (SteadyX.value (by rfl) ?_) ?_
    rotate_left
    · (intro w_ hS; go_simp; try with_reducible rfl)
    simp only [List.setIfInBounds_toArray, List.set_cons_zero, List.set_cons_succ]
    refine wpX_take (i := 22) (v := ?_) S0t.out rfl rfl (by kernel_rfl) (by kernel_rfl) (by kernel_rfl) (by kernel_rfl) (fun _ _ _ h => h) (SteadyX.value (by rfl) ?_) ?_
    rotate_left
    · (intro w_ hS; go_simp; try with_reducible rfl)
    simp only [List.setIfInBounds_toArray, List.set_cons_zero, List.set_cons_succ]
    refine wpX_done (by kernel_rfl) (fun W hS => ?_) _
    obtain ⟨q0, q1⟩ := S0u.out _ hS
    clear hS S0u S0m S0t
    clear S0
    have HBW := Lib.hid q0
    clear q0 q1 g3
    go_wp2
    go_ret
    exact ⟨rfl, HBW.out⟩
end Go.Proofs.YtcgfokeglgaffaaDoor
