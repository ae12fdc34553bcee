/- Walks: the laws of the measure and of the stem. Printed by mk_w15.py. -/
import Derived.Test.YtcgfokeglgaffaaDoorMath3
namespace Go.Proofs.YtcgfokeglgaffaaDoor
open Go.RowKit

set_option maxHeartbeats 2000000 in
theorem Measures_any (s : ByteArray) (w : World) (ht : Tab w) : Calls Tryd.prog 3 #[.string s] w fun e w' => e = .returned (.bool true) ∧ Below w.heap.size w w' := by
  have HT := Lib.hid ht
  clear ht
  by_cases h200 : s.size ≤ 200
  · obtain ⟨t, rfl⟩ : ∃ t : W, s = S t := ⟨s.data.toList, (S_of s).symm⟩
    rw [S_size] at h200
    have hz := S_size t
    have HX := Lib.hid (fun (i : Nat) (h : i < t.length) => idx_S t i h)
    have HM := Lib.hid (Measure_any (S t) (by rw [hz]; omega))
    have HR := Lib.hid (refMeasure_any t (by omega))
    have HE := Lib.hid (meas_letters t)
    have hm : (0 : Int) ≤ (meas (S t) : Int) := by omega
    obtain ⟨n, hn⟩ : ∃ n, n = t.length := ⟨_, rfl⟩
    rw [← hn] at hz h200
    have HN := Lib.hid hn
    have h200' : (n : Int) ≤ 200 := by omega
    clear hn
    generalize meas (S t) = m at *
    go_enter Tryd.func3, Tryd.ntmps3
    go_wp2
    go_loop [3] (fun iv => ∃ i : Nat, i ≤ n ∧ iv = .int .i64 i ∧ Hid (∀ j (h : j < t.length), j < i → 97 ≤ t[j].toNat ∧ t[j].toNat ≤ 122)) (fun iv => n - (intOf iv).toNat)
    case atStart => exact ⟨0, by omega, rfl, Lib.hid (fun j _ h => by omega)⟩
    case round =>
      obtain ⟨i, hi, rfl, H⟩ := hrel
      by_cases hlt : i < n
      · have hil : i < t.length := by rw [← HN.out]; exact hlt
        have hx := HX.out i hil
        have hlt' : (i : Int) < n := by omega
        obtain ⟨c, hc⟩ : ∃ c, c = t[i].toNat := ⟨_, rfl⟩
        rw [← hc] at hx
        have HC := Lib.hid hc
        clear hc
        by_cases h1 : 97 ≤ c ∧ c ≤ 122
        · have H2 : Hid (∀ j (h : j < t.length), j < i + 1 → 97 ≤ t[j].toNat ∧ t[j].toNat ≤ 122) := Lib.hid (fun j h hj => by
            by_cases e : j = i
            · subst e; rw [← HC.out]; exact h1
            · exact H.out j h (by omega))
          have t1 : decide ((c : Int) < 97) = false := decide_eq_false (by omega)
          have t2 : decide ((122 : Int) < c) = false := decide_eq_false (by omega)
          clear h1 H HC
          go_wp2
          go_round
          case rel => exact ⟨i + 1, by omega, by go_num, H2⟩
          case measure => simp [intOf]; omega
        · clear HC H HE HR
          by_cases h2 : c < 97
          · have t1 : decide ((c : Int) < 97) = true := decide_eq_true (by omega)
            clear h1
            go_wp2_with fail
            refine (HM.out w).mono ?_
            rintro e w1 ⟨rfl, hb1⟩
            have HB1 := Lib.hid hb1
            have HA := Lib.hid (awake_any w1 (HT.out.grew hb1))
            clear hb1 HM
            go_wp2_with fail
            refine HA.out.mono ?_
            rintro e w2 ⟨rfl, hb2⟩
            have HB2 := Lib.hid (grow HB1.out hb2)
            clear hb2 HA
            go_wp2
            go_ret
            exact ⟨rfl, HB2.out⟩
          · have t1 : decide ((c : Int) < 97) = false := decide_eq_false (by omega)
            have t2 : decide ((122 : Int) < c) = true := decide_eq_true (by omega)
            clear h1
            go_wp2_with fail
            refine (HM.out w).mono ?_
            rintro e w1 ⟨rfl, hb1⟩
            have HB1 := Lib.hid hb1
            have HA := Lib.hid (awake_any w1 (HT.out.grew hb1))
            clear hb1 HM
            go_wp2_with fail
            refine HA.out.mono ?_
            rintro e w2 ⟨rfl, hb2⟩
            have HB2 := Lib.hid (grow HB1.out hb2)
            clear hb2 HA
            go_wp2
            go_ret
            exact ⟨rfl, HB2.out⟩
      · have hlt' : ¬ (i : Int) < n := by omega
        have hlet : Letters t := by
          intro b hb
          obtain ⟨j, hj, e⟩ := List.getElem_of_mem hb
          have hn := HN.out
          have := H.out j hj (by omega)
          rw [e] at this
          exact this
        obtain rfl : m = measL t := HE.out hlet
        clear hlet H HE
        go_wp2_with fail
        refine (HM.out w).mono ?_
        rintro e w1 ⟨rfl, hb1⟩
        have HB1 := Lib.hid hb1
        have HA := Lib.hid (awake_any w1 (HT.out.grew hb1))
        clear hb1 HM
        go_wp2_with fail
        refine (HR.out w1).mono ?_
        rintro e w1' ⟨rfl, hw1⟩
        obtain rfl := hw1
        clear HR
        go_wp2_with fail
        refine HA.out.mono ?_
        rintro e w2 ⟨rfl, hb2⟩
        have HB2 := Lib.hid (grow HB1.out hb2)
        clear hb2 HA
        go_wp2
        go_ret
        exact ⟨rfl, HB2.out⟩
  · have hb : (200 : Int) < s.size := by omega
    have hbel : Below w.heap.size w w := Below.refl _ _
    clear HT
    go_enter Tryd.func3, Tryd.ntmps3
    go_wp2
    go_ret
    exact ⟨rfl, hbel⟩

set_option maxHeartbeats 2000000 in
theorem Short_any (s : ByteArray) (w : World) (ht : Tab w) : Calls Tryd.prog 4 #[.string s] w fun e w' => e = .returned (.bool true) ∧ Below w.heap.size w w' := by
  have HT := Lib.hid ht
  clear ht
  by_cases h200 : s.size ≤ 200
  · obtain ⟨t, rfl⟩ : ∃ t : W, s = S t := ⟨s.data.toList, (S_of s).symm⟩
    rw [S_size] at h200
    have hz := S_size t
    have HS := Lib.hid (fun w => Stem_any t (by omega) w)
    have HP := Lib.hid (lawPlain_any t (by omega))
    have hz2 := S_size (stemL t)
    have h200' : (t.length : Int) ≤ 200 := by omega
    by_cases hp : plainB t = true
    · have hk := stem_kept t hp
      obtain ⟨x, hx⟩ : ∃ x, x = stemL t := ⟨_, rfl⟩
      rw [← hx] at hk HS hz2
      rw [hp] at HP
      have hle : (x.length : Int) ≤ t.length := by have := hk.le; omega
      have hx0 : 0 < x.length := List.length_pos_iff.2 hk.ne
      have ht0 : 0 < t.length := by omega
      have i1 := idx_S x 0 hx0
      have i2 := idx_S t 0 ht0
      have he : x[0].toNat = t[0].toNat := by
        have h1 := hk.hd
        rw [List.head?_eq_getElem?, List.head?_eq_getElem?, List.getElem?_eq_getElem hx0, List.getElem?_eq_getElem ht0, Option.some.injEq] at h1
        rw [h1]
      rw [he] at i1
      simp only [Int.cast_ofNat_Int] at i1 i2
      have hx1 : (1 : Int) ≤ x.length := by omega
      generalize t[0].toNat = c at *
      clear hk he hx hp h200
      go_enter Tryd.func4, Tryd.ntmps4
      go_wp2_with fail
      refine (HS.out w HT.out).mono ?_
      rintro e w1 ⟨rfl, hb1⟩
      have HB3 := Lib.hid hb1
      clear hb1 HS
      go_wp2_with fail
      refine (HP.out w1).mono ?_
      rintro e w1' ⟨rfl, hw1⟩
      obtain rfl := hw1
      clear HP
      go_wp2_with fail
      refine wp_region_H (fun _ => True) (by kernel_rfl) (fun v0 hv0 => ?_)
      have hS0 : (fun _ => True) v0 := trivial
      have HBV : Hid (Below w.heap.size w v0) := Lib.hid (by subst hv0; exact HB3.out.trans ((Below.refl _ _).drew.mono HB3.out.size))
      clear hv0
      refine wpH_take (i := 0) (v := ?_) rfl rfl (by kernel_rfl) (by kernel_rfl) (by kernel_rfl) (fun _ _ _ h => h) (Or.inl ⟨by rfl, ?_⟩) hS0 ?_
      rotate_left
      · (intro w_ hw_; go_simp; try with_reducible rfl)
      simp only [List.setIfInBounds_toArray, List.set_cons_zero, List.set_cons_succ]
      refine wpH_take (i := 1) (v := ?_) rfl rfl (by kernel_rfl) (by kernel_rfl) (by kernel_rfl) (fun _ _ _ h => h) (Or.inl ⟨by rfl, ?_⟩) hS0 ?_
      rotate_left
      · (intro w_ hw_; skip; go_simp; try with_reducible rfl)
      simp only [List.setIfInBounds_toArray, List.set_cons_zero, List.set_cons_succ]
      refine wpH_take (i := 2) (v := ?_) rfl rfl (by kernel_rfl) (by kernel_rfl) (by kernel_rfl) (fun _ _ _ h => h) (Or.inl ⟨by rfl, ?_⟩) hS0 ?_
      rotate_left
      · (intro w_ hw_; go_simp; try with_reducible rfl)
      simp only [List.setIfInBounds_toArray, List.set_cons_zero, List.set_cons_succ]
      refine wpH_take (i := 3) (v := ?_) rfl rfl (by kernel_rfl) (by kernel_rfl) (by kernel_rfl) (fun _ _ _ h => h) (Or.inl ⟨by rfl, ?_⟩) hS0 ?_
      rotate_left
      · (intro w_ hw_; skip; go_simp; try with_reducible rfl)
      simp only [List.setIfInBounds_toArray, List.set_cons_zero, List.set_cons_succ]
      refine wpH_take (i := 4) (v := ?_) rfl rfl (by kernel_rfl) (by kernel_rfl) (by kernel_rfl) (fun _ _ _ h => h) (Or.inl ⟨by rfl, ?_⟩) hS0 ?_
      rotate_left
      · (intro w_ hw_; go_simp; try with_reducible rfl)
      simp only [List.setIfInBounds_toArray, List.set_cons_zero, List.set_cons_succ]
      refine wpH_take (i := 5) (v := ?_) rfl rfl (by kernel_rfl) (by kernel_rfl) (by kernel_rfl) (fun _ _ _ h => h) (Or.inl ⟨by rfl, ?_⟩) hS0 ?_
      rotate_left
      · (intro w_ hw_; go_simp; try with_reducible rfl)
      simp only [List.setIfInBounds_toArray, List.set_cons_zero, List.set_cons_succ]
      refine wpH_take (i := 6) (v := ?_) rfl rfl (by kernel_rfl) (by kernel_rfl) (by kernel_rfl) (fun _ _ _ h => h) (Or.inl ⟨by rfl, ?_⟩) hS0 ?_
      rotate_left
      · (intro w_ hw_; go_simp; try with_reducible rfl)
      simp only [List.setIfInBounds_toArray, List.set_cons_zero, List.set_cons_succ]
      refine wpH_take (i := 7) (v := ?_) rfl rfl (by kernel_rfl) (by kernel_rfl) (by kernel_rfl) (fun _ _ _ h => h) (Or.inl ⟨by rfl, ?_⟩) hS0 ?_
      rotate_left
      · (intro w_ hw_; skip; go_simp; try with_reducible rfl)
      simp only [List.setIfInBounds_toArray, List.set_cons_zero, List.set_cons_succ]
      refine wpH_take (i := 8) (v := ?_) rfl rfl (by kernel_rfl) (by kernel_rfl) (by kernel_rfl) (fun _ _ _ h => h) (Or.inl ⟨by rfl, ?_⟩) hS0 ?_
      rotate_left
      · (intro w_ hw_; go_simp; try with_reducible rfl)
      simp only [List.setIfInBounds_toArray, List.set_cons_zero, List.set_cons_succ]
      refine wpH_take (i := 9) (v := ?_) rfl rfl (by kernel_rfl) (by kernel_rfl) (by kernel_rfl) (fun _ _ _ h => h) (Or.inl ⟨by rfl, ?_⟩) hS0 ?_
      rotate_left
      · (intro w_ hw_; go_simp; try with_reducible rfl)
      simp only [List.setIfInBounds_toArray, List.set_cons_zero, List.set_cons_succ]
      refine wpH_take (i := 10) (v := ?_) rfl rfl (by kernel_rfl) (by kernel_rfl) (by kernel_rfl) (fun _ _ _ h => h) (Or.inl ⟨by rfl, ?_⟩) hS0 ?_
      rotate_left
      · (intro w_ hw_; go_simp; try with_reducible rfl)
      simp only [List.setIfInBounds_toArray, List.set_cons_zero, List.set_cons_succ]
      refine wpH_take (i := 11) (v := ?_) rfl rfl (by kernel_rfl) (by kernel_rfl) (by kernel_rfl) (fun _ _ _ h => h) (Or.inl ⟨by rfl, ?_⟩) hS0 ?_
      rotate_left
      · (intro w_ hw_; go_simp; try with_reducible rfl)
      simp only [List.setIfInBounds_toArray, List.set_cons_zero, List.set_cons_succ]
      refine wpH_take (i := 12) (v := ?_) rfl rfl (by kernel_rfl) (by kernel_rfl) (by kernel_rfl) (fun _ _ _ h => h) (Or.inl ⟨by rfl, ?_⟩) hS0 ?_
      rotate_left
      · (intro w_ hw_; skip; go_simp; try with_reducible rfl)
      simp only [List.setIfInBounds_toArray, List.set_cons_zero, List.set_cons_succ]
      refine wpH_take (i := 13) (v := ?_) rfl rfl (by kernel_rfl) (by kernel_rfl) (by kernel_rfl) (fun _ _ _ h => h) (Or.inl ⟨by rfl, ?_⟩) hS0 ?_
      rotate_left
      · (intro w_ hw_; go_simp; try with_reducible rfl)
      simp only [List.setIfInBounds_toArray, List.set_cons_zero, List.set_cons_succ]
      refine wpH_take (i := 14) (v := ?_) rfl rfl (by kernel_rfl) (by kernel_rfl) (by kernel_rfl) (fun _ _ _ h => h) (Or.inl ⟨by rfl, ?_⟩) hS0 ?_
      rotate_left
      · (intro w_ hw_; skip; go_simp; try with_reducible rfl)
      simp only [List.setIfInBounds_toArray, List.set_cons_zero, List.set_cons_succ]
      refine wpH_take (i := 15) (v := ?_) rfl rfl (by kernel_rfl) (by kernel_rfl) (by kernel_rfl) (fun _ _ _ h => h) (Or.inl ⟨by rfl, ?_⟩) hS0 ?_
      rotate_left
      · (intro w_ hw_; go_simp; try with_reducible rfl)
      simp only [List.setIfInBounds_toArray, List.set_cons_zero, List.set_cons_succ]
      refine wpH_take (i := 16) (v := ?_) rfl rfl (by kernel_rfl) (by kernel_rfl) (by kernel_rfl) (fun _ _ _ h => h) (Or.inl ⟨by rfl, ?_⟩) hS0 ?_
      rotate_left
      · (intro w_ hw_; go_simp; try with_reducible rfl)
      simp only [List.setIfInBounds_toArray, List.set_cons_zero, List.set_cons_succ]
      refine wpH_take (i := 17) (v := ?_) rfl rfl (by kernel_rfl) (by kernel_rfl) (by kernel_rfl) (fun _ _ _ h => h) (Or.inl ⟨by rfl, ?_⟩) hS0 ?_
      rotate_left
      · (intro w_ hw_; go_simp; try with_reducible rfl)
      simp only [List.setIfInBounds_toArray, List.set_cons_zero, List.set_cons_succ]
      refine wpH_call (i := 18) (by kernel_rfl) rfl rfl (by rfl) (awake_any v0 (HT.out.grew HBV.out)) (by go_simp) (fun w4 hR => ?_)
      have hS1 : (fun _ => True) w4 := trivial
      clear hS0
      refine ⟨hS1, ?_⟩
      simp only [List.setIfInBounds_toArray, List.set_cons_zero, List.set_cons_succ]
      have HB4 := Lib.hid (grow HBV.out hR)
      clear hR HBV
      refine wpH_take (i := 19) (v := ?_) rfl rfl (by kernel_rfl) (by kernel_rfl) (by kernel_rfl) (fun _ _ _ h => h) (Or.inl ⟨by rfl, ?_⟩) hS1 ?_
      rotate_left
      · (intro w_ hw_; go_simp; try with_reducible rfl)
      simp only [List.setIfInBounds_toArray, List.set_cons_zero, List.set_cons_succ]
      refine wpH_take (i := 20) (v := ?_) rfl rfl (by kernel_rfl) (by kernel_rfl) (by kernel_rfl) (fun _ _ _ h => h) (Or.inl ⟨by rfl, ?_⟩) hS1 ?_
      rotate_left
      · (intro w_ hw_; go_simp; try with_reducible rfl)
      simp only [List.setIfInBounds_toArray, List.set_cons_zero, List.set_cons_succ]
      clear hS1
      refine wpAnyH_done (by kernel_rfl) ?_ _
      go_wp2
      go_ret
      exact ⟨rfl, HB4.out⟩
    · have hp' : plainB t = false := by simpa using hp
      rw [hp'] at HP
      rw [stem_none t hp'] at HS
      clear hp hp' hz2
      go_enter Tryd.func4, Tryd.ntmps4
      go_wp2_with fail
      refine (HS.out w HT.out).mono ?_
      rintro e w1 ⟨rfl, hb1⟩
      have HB1 := Lib.hid hb1
      have HA := Lib.hid (awake_any w1 (HT.out.grew hb1))
      clear hb1 HS
      go_wp2_with fail
      refine (HP.out w1).mono ?_
      rintro e w1' ⟨rfl, hw1⟩
      obtain rfl := hw1
      clear HP
      go_wp2_with fail
      refine HA.out.mono ?_
      rintro e w2 ⟨rfl, hb2⟩
      have HB2 := Lib.hid (grow HB1.out hb2)
      clear hb2 HA
      go_wp2
      go_ret
      exact ⟨rfl, HB2.out⟩
  · have hb : (200 : Int) < s.size := by omega
    have hbel : Below w.heap.size w w := Below.refl _ _
    clear HT
    go_enter Tryd.func4, Tryd.ntmps4
    go_wp2
    go_ret
    exact ⟨rfl, hbel⟩
end Go.Proofs.YtcgfokeglgaffaaDoor
