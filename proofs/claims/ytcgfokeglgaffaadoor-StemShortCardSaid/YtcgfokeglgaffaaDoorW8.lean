/- Walks: the conditions of the steps. Printed by mk_w8.py. -/
import Derived.Test.YtcgfokeglgaffaaDoorW7
namespace Go.Proofs.YtcgfokeglgaffaaDoor
open Go.RowKit

theorem plurals1_any (a e : ByteArray) (w : World) : Calls Tryd.prog 29 #[.string a, .string e] w fun r w' => r = .returned (.bool true) ∧ w' = w := by
  go_enter Tryd.func29, Tryd.ntmps29
  go_wp2
  go_ret
  exact ⟨rfl, rfl⟩
theorem above_any (n : Int) (w : World) : Calls Tryd.prog 21 #[.int .i64 n] w fun r w' => r = .returned (.func (.func 33) #[] #[.pointer (some ⟨w.heap.size, 0, none⟩)]) ∧ w' = w.alloc (.cells #[.int .i64 n] 3) := by
  go_enter Tryd.func21, Tryd.ntmps21
  go_wp2
  go_ret
  exact ⟨rfl, rfl⟩
theorem measure_w (a : W) (ha : Letters a) (hl : (a.length : Int) ≤ 100000) (w : World) : Calls Tryd.prog 6 #[.string (S a)] w fun r w' => r = .returned (.int .i64 (measL a)) ∧ Below w.heap.size w w' := by
  have := Measure_any (S a) (by rw [S_size]; exact hl) w
  rwa [meas_letters a ha] at this
theorem measL_le (a : W) : measL a ≤ a.length := by
  have := measGo_le (sndL a) false
  rw [sndL_len] at this
  exact this
theorem above1_any (a e : W) (ha : Letters a) (hl : (a.length : Int) ≤ 100000) (b : Nat) (w : World) (c0 : w.cell? ⟨b, 0, none⟩ = some (.int .i64 0)) : Calls Tryd.prog 33 #[.string (S a), .string (S e), .pointer (some ⟨b, 0, none⟩)] w fun r w' => r = .returned (.bool (aboveMay a e)) ∧ Below w.heap.size w w' := by
  have HM := Lib.hid (measure_w a ha hl)
  unfold aboveMay
  have hz : (measL a : Int) ≤ 100000 := by have := measL_le a; omega
  generalize measL a = m at *
  have hd : decide ((0 : Int) < m) = decide (0 < m) := by rw [decide_eq_decide]; omega
  rw [← hd]
  clear ha hd
  go_enter Tryd.func33, Tryd.ntmps33
  go_wp2_with fail
  obtain ⟨S0, S0d⟩ : ∃ S : World → Prop, S = fun v : World => Below w.heap.size w v ∧ v.cell? ⟨b, 0, none⟩ = some (.int .i64 0) := ⟨_, rfl⟩
  have S0t0 : Stands S0 := by rw [S0d]; exact ((stands_below _).and (stands_cell _ _))
  have S0u0 : ∀ v, S0 v → Below w.heap.size w v ∧ v.cell? ⟨b, 0, none⟩ = some (.int .i64 0) := fun v h => by rw [S0d] at h; exact h
  have S0m0 : ∀ v, (Below w.heap.size w v ∧ v.cell? ⟨b, 0, none⟩ = some (.int .i64 0)) → S0 v := fun v h => by rw [S0d]; exact h
  have S0u := Lib.hid S0u0
  have S0m := Lib.hid S0m0
  have S0t := Lib.hid S0t0
  clear S0d S0u0 S0m0 S0t0
  refine wp_region_X (S := S0) (by kernel_rfl) (S0m.out _ ⟨(Below.refl _ w).drew, c0⟩) ?_
  refine wpX_take (i := 0) (v := ?_) S0t.out rfl rfl (by kernel_rfl) (by kernel_rfl) (by kernel_rfl) (by kernel_rfl) (fun _ _ _ h => h) (SteadyX.value (by rfl) ?_) ?_
  rotate_left
  · (intro w_ hS; go_simp; try with_reducible rfl)
  simp only [List.setIfInBounds_toArray, List.set_cons_zero, List.set_cons_succ]
  refine wpX_take (i := 1) S0t.out rfl rfl (by kernel_rfl) (by kernel_rfl) (by kernel_rfl) (by kernel_rfl) (fun _ _ _ h => h) (SteadyX.call (by rfl) (fun w_ hS => HM.out w_) (fun w_ hS => by (go_simp))) ?_
  simp only [List.setIfInBounds_toArray, List.set_cons_zero, List.set_cons_succ]
  refine wpX_take (i := 2) (v := ?_) S0t.out rfl rfl (by kernel_rfl) (by kernel_rfl) (by kernel_rfl) (by kernel_rfl) (fun _ _ _ h => h) (SteadyX.value (by rfl) ?_) ?_
  rotate_left
  · (intro w_ hS; obtain ⟨q0, q1⟩ := S0u.out _ hS; (clear q0); go_simp; try with_reducible rfl)
  simp only [List.setIfInBounds_toArray, List.set_cons_zero, List.set_cons_succ]
  refine wpX_take (i := 3) (v := ?_) S0t.out rfl rfl (by kernel_rfl) (by kernel_rfl) (by kernel_rfl) (by kernel_rfl) (fun _ _ _ h => h) (SteadyX.value (by rfl) ?_) ?_
  rotate_left
  · (intro w_ hS; go_simp; try with_reducible rfl)
  simp only [List.setIfInBounds_toArray, List.set_cons_zero, List.set_cons_succ]
  refine wpX_take (i := 4) (v := ?_) S0t.out rfl rfl (by kernel_rfl) (by kernel_rfl) (by kernel_rfl) (by kernel_rfl) (fun _ _ _ h => h) (SteadyX.value (by rfl) ?_) ?_
  rotate_left
  · (intro w_ hS; go_simp; try with_reducible rfl)
  simp only [List.setIfInBounds_toArray, List.set_cons_zero, List.set_cons_succ]
  refine wpX_done (by kernel_rfl) (fun W hS => ?_) _
  obtain ⟨q0, q1⟩ := S0u.out _ hS
  clear hS S0u S0m S0t
  clear S0
  clear q1
  have HB := Lib.hid q0
  clear q0
  go_wp2
  go_ret
  exact ⟨(by first | rfl | (congr 2; simp)), HB.out⟩
theorem stem1_any (a e : W) (ha : Letters a) (hl : (a.length : Int) ≤ 100000) (w : World) : Calls Tryd.prog 18 #[.string (S a), .string (S e)] w fun r w' => r = .returned (.bool (voicedL a)) ∧ Below w.heap.size w w' := by
  have HV := Lib.hid (voiced_any a ha hl)
  generalize voicedL a = v at *
  go_enter Tryd.func18, Tryd.ntmps18
  go_wp2_with fail
  refine (HV.out _).mono ?_
  rintro r w1 ⟨rfl, hb⟩
  have HB := Lib.hid hb
  clear hb
  go_wp2
  go_ret
  exact ⟨rfl, HB.out⟩
theorem S_s : S (bs "s") = ⟨#[115]⟩ := by decide +kernel
theorem S_t : S (bs "t") = ⟨#[116]⟩ := by decide +kernel
theorem beq_dec (a b : W) : (a == b) = decide (a = b) := by rw [Bool.eq_iff_iff]; simp
theorem stem2_any (a e : W) (ha : Letters a) (hl : (a.length : Int) ≤ 100000) (w : World) : Calls Tryd.prog 22 #[.string (S a), .string (S e)] w fun r w' => r = .returned (.bool (thirdMay a e)) ∧ Below w.heap.size w w' := by
  obtain ⟨B, hB⟩ : ∃ B, B = thirdMay a e := ⟨_, rfl⟩
  rw [← hB]
  unfold thirdMay at hB
  have HM := Lib.hid (measure_w a ha hl)
  have hz : (measL a : Int) ≤ 100000 := by have := measL_le a; omega
  have h1 := Suffix_any a (bs "s") (by omega)
  have h2 := Suffix_any a (bs "t") (by omega)
  simp only [S_s] at h1
  simp only [S_t] at h2
  have H1 := Lib.hid h1
  have H2 := Lib.hid h2
  have hen : ((S e).toList == [105, 111, 110]) = decide (e = bs "ion") := by rw [S_list, show bs "ion" = [105, 111, 110] from by decide +kernel, beq_dec]
  generalize decide (e = bs "ion") = q at *
  generalize measL a = m at *
  generalize endsL a (bs "s") = s1 at *
  generalize endsL a (bs "t") = s2 at *
  have HB := Lib.hid hB
  clear hB ha h1 h2
  by_cases hm : 1 < m
  · have hd : decide ((1 : Int) < m) = true := decide_eq_true (by omega)
    have HM1 := Lib.hid hm
    clear hm
    cases q
    · obtain rfl : B = true := by rw [HB.out, decide_eq_true HM1.out]; rfl
      clear HB H1 H2
      go_enter Tryd.func22, Tryd.ntmps22
      go_wp2_with fail
      refine (HM.out _).mono ?_
      rintro r w1 ⟨rfl, hb⟩
      have HBW := Lib.hid hb
      clear hb HM
      go_wp2
      go_ret
      exact ⟨rfl, HBW.out⟩
    · cases s1
      · obtain rfl : B = s2 := by rw [HB.out, decide_eq_true HM1.out]; rfl
        clear HB
        go_enter Tryd.func22, Tryd.ntmps22
        go_wp2_with fail
        refine (HM.out _).mono ?_
        rintro r w1 ⟨rfl, hb⟩
        have HBW := Lib.hid hb
        clear hb HM
        go_wp2_with fail
        refine (H1.out w1).mono ?_
        rintro r w2 ⟨rfl, hw2⟩
        obtain rfl := hw2
        go_wp2_with fail
        refine (H2.out w2).mono ?_
        rintro r w3 ⟨rfl, hw3⟩
        obtain rfl := hw3
        go_wp2
        go_ret
        exact ⟨rfl, HBW.out⟩
      · obtain rfl : B = true := by rw [HB.out, decide_eq_true HM1.out]; rfl
        clear HB
        go_enter Tryd.func22, Tryd.ntmps22
        go_wp2_with fail
        refine (HM.out _).mono ?_
        rintro r w1 ⟨rfl, hb⟩
        have HBW := Lib.hid hb
        clear hb HM
        go_wp2_with fail
        refine (H1.out w1).mono ?_
        rintro r w2 ⟨rfl, hw2⟩
        obtain rfl := hw2
        go_wp2
        go_ret
        exact ⟨rfl, HBW.out⟩
  · have hd : decide ((1 : Int) < m) = false := decide_eq_false (by omega)
    obtain rfl : B = false := by rw [HB.out, decide_eq_false hm]; rfl
    clear HB hm
    go_enter Tryd.func22, Tryd.ntmps22
    go_wp2_with fail
    refine (HM.out _).mono ?_
    rintro r w1 ⟨rfl, hb⟩
    have HBW := Lib.hid hb
    clear hb HM
    go_wp2
    go_ret
    exact ⟨rfl, HBW.out⟩
theorem ends1_any (a e : W) (ha : Letters a) (hl : (a.length : Int) ≤ 100000) (w : World) : Calls Tryd.prog 35 #[.string (S a), .string (S e)] w fun r w' => r = .returned (.bool (lastMay a e)) ∧ Below w.heap.size w w' := by
  obtain ⟨B, hB⟩ : ∃ B, B = lastMay a e := ⟨_, rfl⟩
  rw [← hB]
  unfold lastMay at hB
  have HM := Lib.hid (measure_w a ha hl)
  have HC := Lib.hid (closed_any a ha hl)
  have hz : (measL a : Int) ≤ 100000 := by have := measL_le a; omega
  generalize measL a = m at *
  generalize closedL a = c at *
  have HB := Lib.hid hB
  clear hB ha
  by_cases hm : 1 < m
  · have hd : decide ((1 : Int) < m) = true := decide_eq_true (by omega)
    obtain rfl : B = true := by rw [HB.out, decide_eq_true hm]; rfl
    clear HB hm HC
    go_enter Tryd.func35, Tryd.ntmps35
    go_wp2_with fail
    refine (HM.out _).mono ?_
    rintro r w1 ⟨rfl, hb⟩
    have HBW := Lib.hid hb
    clear hb HM
    go_wp2
    go_ret
    exact ⟨rfl, HBW.out⟩
  · have hd : decide ((1 : Int) < m) = false := decide_eq_false (by omega)
    by_cases hm2 : m = 1
    · have hd2 : ((m : Int) == 1) = true := by simp; omega
      obtain rfl : B = !c := by rw [HB.out, decide_eq_false hm, decide_eq_true hm2]; rfl
      clear HB hm hm2
      go_enter Tryd.func35, Tryd.ntmps35
      go_wp2_with fail
      refine (HM.out _).mono ?_
      rintro r w1 ⟨rfl, hb⟩
      have HBW := Lib.hid hb
      clear hb HM
      go_wp2_with fail
      refine (HC.out _).mono ?_
      rintro r w2 ⟨rfl, hb2⟩
      have HBW2 := Lib.hid (grow HBW.out hb2)
      clear hb2 HC
      go_wp2
      go_ret
      exact ⟨rfl, HBW2.out⟩
    · have hd2 : ((m : Int) == 1) = false := by simp; omega
      obtain rfl : B = false := by rw [HB.out, decide_eq_false hm, decide_eq_false hm2]; rfl
      clear HB hm hm2 HC
      go_enter Tryd.func35, Tryd.ntmps35
      go_wp2_with fail
      refine (HM.out _).mono ?_
      rintro r w1 ⟨rfl, hb⟩
      have HBW := Lib.hid hb
      clear hb HM
      go_wp2
      go_ret
      exact ⟨rfl, HBW.out⟩
/-- What pasts' condition does to the box that it writes. -/
def PastQ (B b : Nat) (v : Option Bool) (w1 w2 : World) : Prop :=
  Below B w1 w2 ∧ (∀ k, k ≠ b → k < w1.heap.size → w2.heap[k]? = w1.heap[k]?) ∧ (∀ x, Blk w1 b #[.bool x] 4 → Blk w2 b #[.bool (v.getD x)] 4)
theorem pasts1_any (a e : W) (ha : Letters a) (hl : (a.length : Int) ≤ 100000) (B b : Nat) (hB : B ≤ b) (x : Bool) (w : World) (hb : Blk w b #[.bool x] 4) : Calls Tryd.prog 25 #[.string (S a), .string (S e), .pointer (some ⟨b, 0, none⟩)] w fun r w' => r = .returned (.bool (pastMay a e)) ∧ PastQ B b (if e = bs "eed" then none else some (voicedL a)) w w' := by
  have HM := Lib.hid (measure_w a ha hl)
  have HV := Lib.hid (voiced_any a ha hl)
  have hz : (measL a : Int) ≤ 100000 := by have := measL_le a; omega
  have hbs : bs "eed" = [101, 101, 100] := by decide +kernel
  have hlt := hb.lt
  unfold pastMay
  by_cases he : e = bs "eed"
  · have h1 : ((S e).toList == [101, 101, 100]) = true := by rw [S_list, he, hbs]; rfl
    rw [if_pos he, if_pos he]
    generalize measL a = m at *
    have hd : decide ((0 : Int) < m) = decide (0 < m) := by rw [decide_eq_decide]; omega
    rw [← hd]
    have HBL := Lib.hid hb
    have HLT := Lib.hid hlt
    clear he hbs hd ha hb hlt HV
    go_enter Tryd.func25, Tryd.ntmps25
    go_wp2_with fail
    refine (HM.out _).mono ?_
    rintro r w1 ⟨rfl, hb1⟩
    have HB1 := Lib.hid hb1
    clear hb1 HM
    go_wp2
    go_ret
    exact ⟨(by first | rfl | (congr 2; simp)), HB1.out.mono (by have := HLT.out; omega), fun k _ hk => HB1.out.block k hk, fun y hy => hy.grew HB1.out⟩
  · have h1 : ((S e).toList == [101, 101, 100]) = false := by
      rw [S_list]
      rw [hbs] at he
      simpa using he
    rw [if_neg he, if_neg he]
    have HBL := Lib.hid hb
    have HLT := Lib.hid hlt
    clear he hbs ha hb hlt HM
    generalize voicedL a = v at *
    go_enter Tryd.func25, Tryd.ntmps25
    go_wp2_with fail
    refine (HV.out _).mono ?_
    rintro r w1 ⟨rfl, hb1⟩
    have HBB := Lib.hid (HBL.out.grew hb1)
    have HB1 := Lib.hid hb1
    have fb := HBB.out.one
    clear hb1 HV
    go_wp2
    go_ret
    refine ⟨rfl, (HB1.out.mono (by have := HLT.out; omega)).setCell (p := ⟨b, 0, none⟩) hB _, fun k hk hk2 => (Below.heap_setCell w1 ⟨b, 0, none⟩ _ k hk).trans (HB1.out.block k hk2), fun y hy => ?_⟩
    exact (hy.grew HB1.out).set 0 _
end Go.Proofs.YtcgfokeglgaffaaDoor
