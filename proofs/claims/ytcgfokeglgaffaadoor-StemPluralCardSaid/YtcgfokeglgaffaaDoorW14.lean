/- Walks: the document's Vowel and Measure; the law's plain. Printed by mk_w14.py. -/
import Derived.Test.YtcgfokeglgaffaaDoorW13
namespace Go.Proofs.YtcgfokeglgaffaaDoor
open Go.RowKit

theorem sndGo_get : ∀ (l : List Nat) (st la : Bool) (i : Nat) (h : i < l.length), (sndGo st la l)[i]? = some (if i = 0 then nextV st la (l[i]'h) else nextV true (((sndGo st la l)[i - 1]?).getD false) (l[i]'h))
  | [], _, _, _, h => by simp at h
  | c :: r, st, la, 0, _ => by simp [sndGo]
  | c :: r, st, la, 1, h => by
    have h' : 0 < r.length := by simpa using h
    have := sndGo_get r true (nextV st la c) 0 h'
    simp only [sndGo, List.getElem?_cons_succ, List.getElem_cons_succ] at *
    rw [this]; simp
  | c :: r, st, la, i + 2, h => by
    have h' : i + 1 < r.length := by simp only [List.length_cons] at h; omega
    have := sndGo_get r true (nextV st la c) (i + 1) h'
    simp only [sndGo, List.getElem?_cons_succ, List.getElem_cons_succ] at *
    rw [this]; simp
/-- The sound of a place. -/
def sV (t : W) (i : Nat) : Bool := ((sndL t)[i]?).getD false
theorem sV_eq (t : W) (i : Nat) (h : i < t.length) : sV t i = if vow t[i].toNat then true else if t[i].toNat = 121 then decide (0 < i) && !sV t (i - 1) else false := by
  unfold sV sndL
  rw [sndGo_get _ _ _ i (by simpa using h), Option.getD_some]
  simp only [List.getElem_map]
  by_cases h0 : i = 0
  · subst h0; simp [nextV]
  · rw [if_neg h0]
    have : 0 < i := by omega
    simp [nextV, this]
theorem Vowel_any (t : W) (hl : (t.length : Int) ≤ 100000) : ∀ i : Nat, i < t.length → ∀ w : World, Calls Tryd.prog 12 #[.string (S t), .int .i64 i] w fun e w' => e = .returned (.bool (sV t i)) ∧ w' = w := by
  intro i
  induction i with
  | zero =>
    intro h w
    have hx := idx_S t 0 h
    have hv := sV_eq t 0 h
    generalize sV t 0 = V at *
    generalize t[0].toNat = c at *
    have HV := Lib.hid hv
    clear hv
    simp only [Int.cast_ofNat_Int] at hx ⊢
    by_cases h0 : c = 97
    · have t0 : ((c : Int) == 97) = true := by rw [h0]; rfl
      obtain rfl : V = true := by rw [HV.out]; rw [h0]; rfl
      clear HV
      go_enter Tryd.func12, Tryd.ntmps12
      go_wp2
      go_ret
      exact ⟨rfl, rfl⟩
    · have t0 : ((c : Int) == 97) = false := by simp; omega
      by_cases h1 : c = 101
      · have t1 : ((c : Int) == 101) = true := by rw [h1]; rfl
        obtain rfl : V = true := by rw [HV.out]; rw [h1]; rfl
        clear HV
        go_enter Tryd.func12, Tryd.ntmps12
        go_wp2
        go_ret
        exact ⟨rfl, rfl⟩
      · have t1 : ((c : Int) == 101) = false := by simp; omega
        by_cases h2 : c = 105
        · have t2 : ((c : Int) == 105) = true := by rw [h2]; rfl
          obtain rfl : V = true := by rw [HV.out]; rw [h2]; rfl
          clear HV
          go_enter Tryd.func12, Tryd.ntmps12
          go_wp2
          go_ret
          exact ⟨rfl, rfl⟩
        · have t2 : ((c : Int) == 105) = false := by simp; omega
          by_cases h3 : c = 111
          · have t3 : ((c : Int) == 111) = true := by rw [h3]; rfl
            obtain rfl : V = true := by rw [HV.out]; rw [h3]; rfl
            clear HV
            go_enter Tryd.func12, Tryd.ntmps12
            go_wp2
            go_ret
            exact ⟨rfl, rfl⟩
          · have t3 : ((c : Int) == 111) = false := by simp; omega
            by_cases h4 : c = 117
            · have t4 : ((c : Int) == 117) = true := by rw [h4]; rfl
              obtain rfl : V = true := by rw [HV.out]; rw [h4]; rfl
              clear HV
              go_enter Tryd.func12, Tryd.ntmps12
              go_wp2
              go_ret
              exact ⟨rfl, rfl⟩
            · have t4 : ((c : Int) == 117) = false := by simp; omega
              have hv : vow c = false := by unfold vow; exact decide_eq_false (by omega)
              by_cases h5 : c = 121
              · have t5 : ((c : Int) == 121) = true := by rw [h5]; rfl
                obtain rfl : V = false := by rw [HV.out]; rw [hv, h5]; rfl
                clear HV
                go_enter Tryd.func12, Tryd.ntmps12
                go_wp2
                go_ret
                exact ⟨rfl, rfl⟩
              · have t5 : ((c : Int) == 121) = false := by simp; omega
                obtain rfl : V = false := by rw [HV.out]; rw [hv, if_neg (by decide), if_neg h5]
                clear HV
                go_enter Tryd.func12, Tryd.ntmps12
                go_wp2
                go_ret
                exact ⟨rfl, rfl⟩
  | succ i ih =>
    intro h w
    have hx := idx_S t (i + 1) h
    have hv := sV_eq t (i + 1) h
    rw [Nat.add_sub_cancel] at hv
    have HI := Lib.hid (fun w => ih (by omega) w)
    generalize sV t (i + 1) = V at *
    generalize sV t i = P at *
    generalize t[i + 1].toNat = c at *
    have HV := Lib.hid hv
    have hib : (i : Int) + 1 ≤ 100000 := by omega
    clear hv ih
    rw [show ((i + 1 : Nat) : Int) = (i : Int) + 1 by omega] at hx ⊢
    by_cases h0 : c = 97
    · have t0 : ((c : Int) == 97) = true := by rw [h0]; rfl
      clear HI
      obtain rfl : V = true := by rw [HV.out]; rw [h0]; rfl
      clear HV
      go_enter Tryd.func12, Tryd.ntmps12
      go_wp2
      go_ret
      exact ⟨rfl, rfl⟩
    · have t0 : ((c : Int) == 97) = false := by simp; omega
      by_cases h1 : c = 101
      · have t1 : ((c : Int) == 101) = true := by rw [h1]; rfl
        clear HI
        obtain rfl : V = true := by rw [HV.out]; rw [h1]; rfl
        clear HV
        go_enter Tryd.func12, Tryd.ntmps12
        go_wp2
        go_ret
        exact ⟨rfl, rfl⟩
      · have t1 : ((c : Int) == 101) = false := by simp; omega
        by_cases h2 : c = 105
        · have t2 : ((c : Int) == 105) = true := by rw [h2]; rfl
          clear HI
          obtain rfl : V = true := by rw [HV.out]; rw [h2]; rfl
          clear HV
          go_enter Tryd.func12, Tryd.ntmps12
          go_wp2
          go_ret
          exact ⟨rfl, rfl⟩
        · have t2 : ((c : Int) == 105) = false := by simp; omega
          by_cases h3 : c = 111
          · have t3 : ((c : Int) == 111) = true := by rw [h3]; rfl
            clear HI
            obtain rfl : V = true := by rw [HV.out]; rw [h3]; rfl
            clear HV
            go_enter Tryd.func12, Tryd.ntmps12
            go_wp2
            go_ret
            exact ⟨rfl, rfl⟩
          · have t3 : ((c : Int) == 111) = false := by simp; omega
            by_cases h4 : c = 117
            · have t4 : ((c : Int) == 117) = true := by rw [h4]; rfl
              clear HI
              obtain rfl : V = true := by rw [HV.out]; rw [h4]; rfl
              clear HV
              go_enter Tryd.func12, Tryd.ntmps12
              go_wp2
              go_ret
              exact ⟨rfl, rfl⟩
            · have t4 : ((c : Int) == 117) = false := by simp; omega
              have hv : vow c = false := by unfold vow; exact decide_eq_false (by omega)
              by_cases h5 : c = 121
              · have t5 : ((c : Int) == 121) = true := by rw [h5]; rfl
                obtain rfl : V = !P := by rw [HV.out, hv, h5]; simp
                clear HV hv
                have hpos : (0 : Int) < (i : Int) + 1 := by omega
                have hsub : (i : Int) + 1 - 1 = i := by omega
                go_enter Tryd.func12, Tryd.ntmps12
                go_wp2_with fail
                refine (HI.out _).mono ?_
                rintro e w1 ⟨rfl, rfl⟩
                go_wp2
                go_ret
                exact ⟨rfl, rfl⟩
              · have t5 : ((c : Int) == 121) = false := by simp; omega
                clear HI
                obtain rfl : V = false := by rw [HV.out]; rw [hv, if_neg (by decide), if_neg h5]
                clear HV
                go_enter Tryd.func12, Tryd.ntmps12
                go_wp2
                go_ret
                exact ⟨rfl, rfl⟩

theorem refMeasure_any (t : W) (hl : (t.length : Int) ≤ 100000) (w : World) : Calls Tryd.prog 8 #[.string (S t)] w fun e w' => e = .returned (.int .i64 (measL t)) ∧ w' = w := by
  obtain ⟨M, hM⟩ : ∃ M, M = measL t := ⟨_, rfl⟩
  have hle : M ≤ t.length := by rw [hM]; have := measGo_le (sndL t) false; rw [sndL_len] at this; exact this
  rw [← hM]
  have hsl := sndL_len t
  have hget : ∀ i (h : i < (sndL t).length), sV t i = (sndL t)[i]'h := fun i h => by unfold sV; rw [List.getElem?_eq_getElem h]; rfl
  have h0 : 0 < t.length → 0 + measGo (sV t 0) ((sndL t).drop 1) = M := by
    intro h
    rw [hM, hget 0 (by omega)]
    unfold measL
    have := measGo_drop (sndL t) false 0 (by omega)
    rw [List.drop_zero] at this
    rw [this]; simp
  have hz0 : ¬ 0 < t.length → M = 0 := by
    intro h
    have : t = [] := List.eq_nil_of_length_eq_zero (by omega)
    rw [hM, this]; rfl
  have hstep : ∀ i, 1 ≤ i → i < t.length → measGo (sV t (i - 1)) ((sndL t).drop i) = (if sV t (i - 1) && !sV t i then 1 else 0) + measGo (sV t i) ((sndL t).drop (i + 1)) := by
    intro i _ h2
    rw [measGo_drop (sndL t) _ i (by omega), hget i (by omega)]
  have hend : ∀ v, measGo v ((sndL t).drop t.length) = 0 := fun v => by rw [List.drop_eq_nil_of_le (by omega)]; rfl
  obtain ⟨n, hn⟩ : ∃ n, n = t.length := ⟨_, rfl⟩
  have hz := S_size t
  have HV := Lib.hid (Vowel_any t hl)
  rw [← hn] at hz hend h0 hz0 hstep hl hle HV
  have H0 := Lib.hid h0
  have HZ0 := Lib.hid hz0
  have HST := Lib.hid hstep
  have HEN := Lib.hid hend
  clear hM hsl hget h0 hz0 hstep hend hn
  go_enter Tryd.func8, Tryd.ntmps8
  go_wp2
  go_loop [3, 4] (fun m iv => ∃ i x : Nat, 1 ≤ i ∧ (x : Int) ≤ M ∧ iv = .int .i64 i ∧ m = .int .i64 x ∧ (i : Int) ≤ 100001 ∧ Hid ((i ≤ n ∨ n = 0) ∧ (0 < n → x + measGo (sV t (i - 1)) ((sndL t).drop i) = M) ∧ (n = 0 → x = M))) (fun _ iv => n - (intOf iv).toNat)
  case atStart => exact ⟨1, 0, by omega, by omega, rfl, rfl, by omega, Lib.hid ⟨by omega, fun h => H0.out h, fun h => (HZ0.out (by omega)).symm⟩⟩
  case round =>
    obtain ⟨i, x, hi1, hx, rfl, rfl, hib, H⟩ := hrel
    by_cases hlt : i < n
    · have hlt' : (i : Int) < n := by omega
      have hst := H.out.2.1 (by omega)
      rw [HST.out i hi1 hlt] at hst
      have HV1 := Lib.hid (fun w => HV.out (i - 1) (by omega) w)
      have HV2 := Lib.hid (fun w => HV.out i (by omega) w)
      have hsub : (i : Int) - 1 = ((i - 1 : Nat) : Int) := by omega
      have hxx : (x : Int) + 1 ≤ 100001 := by omega
      generalize sV t (i - 1) = v1 at *
      have HS2 := Lib.hid hst
      have HI1 := Lib.hid hi1
      clear hst hi1 H
      generalize hgi : i - 1 = j at *
      have HG := Lib.hid hgi
      clear hgi
      go_wp2_with fail
      refine (HV1.out _).mono ?_
      rintro e w1 ⟨rfl, hw1⟩
      obtain rfl := hw1
      cases v1
      · have h2 := HS2.out
        simp only [Bool.false_and, Bool.false_eq_true, if_false] at h2
        have HN : Hid (x + measGo (sV t (i + 1 - 1)) ((sndL t).drop (i + 1)) = M) := Lib.hid (by rw [Nat.add_sub_cancel, ← h2]; omega)
        clear h2 HS2
        go_wp2
        go_round
        case rel => exact ⟨i + 1, x, by omega, hx, by go_num, rfl, by omega, Lib.hid ⟨by omega, fun _ => HN.out, fun h => by omega⟩⟩
        case measure => simp [intOf]; omega
      · go_wp2_with fail
        refine (HV2.out _).mono ?_
        rintro e w2 ⟨rfl, hw2⟩
        obtain rfl := hw2
        cases hb : sV t i
        · have h2 := HS2.out
          rw [hb] at h2
          simp only [Bool.not_false, Bool.and_true, if_true] at h2
          have HN : Hid ((x + 1) + measGo (sV t (i + 1 - 1)) ((sndL t).drop (i + 1)) = M) := Lib.hid (by rw [Nat.add_sub_cancel, hb, ← h2]; omega)
          have hx1 : ((x + 1 : Nat) : Int) ≤ M := by have := HN.out; omega
          clear h2 HS2 hb
          go_wp2
          go_round
          case rel => exact ⟨i + 1, x + 1, by omega, hx1, by go_num, by go_num, by omega, Lib.hid ⟨by omega, fun _ => HN.out, fun h => by omega⟩⟩
          case measure => simp [intOf]; omega
        · have h2 := HS2.out
          rw [hb] at h2
          simp only [Bool.not_true, Bool.and_false, Bool.false_eq_true, if_false] at h2
          have HN : Hid (x + measGo (sV t (i + 1 - 1)) ((sndL t).drop (i + 1)) = M) := Lib.hid (by rw [Nat.add_sub_cancel, hb, ← h2]; omega)
          clear h2 HS2 hb
          go_wp2
          go_round
          case rel => exact ⟨i + 1, x, by omega, hx, by go_num, rfl, by omega, Lib.hid ⟨by omega, fun _ => HN.out, fun h => by omega⟩⟩
          case measure => simp [intOf]; omega
    · have hlt' : ¬ (i : Int) < n := by omega
      have hr : x = M := by
        by_cases h0 : n = 0
        · exact H.out.2.2 h0
        · have := H.out.2.1 (by omega)
          have hin : i = n := by have := H.out.1; omega
          rw [hin, HEN.out] at this
          exact this
      subst hr
      clear H
      go_wp2
      go_ret
      exact ⟨rfl, rfl⟩

theorem letB_le (b : UInt8) : letB b = (decide (97 ≤ b.toNat) && decide (b.toNat ≤ 122)) := by unfold letB; rw [Bool.decide_and]
/-- The law's plain. -/
theorem lawPlain_any (t : W) (hl : (t.length : Int) ≤ 100000) (w : World) : Calls Tryd.prog 10 #[.string (S t)] w fun e w' => e = .returned (.bool (plainB t)) ∧ w' = w := by
  obtain ⟨B, hB⟩ : ∃ B, B = plainB t := ⟨_, rfl⟩
  rw [← hB]
  have HB := Lib.hid hB
  have hz := S_size t
  have HX := Lib.hid (fun (i : Nat) (h : i < t.length) => idx_S t i h)
  obtain ⟨n, hn⟩ : ∃ n, n = t.length := ⟨_, rfl⟩
  rw [← hn] at hz hl
  have HN := Lib.hid hn
  clear hB hn
  go_enter Tryd.func10, Tryd.ntmps10
  go_wp2
  go_loop [3] (fun iv => ∃ i : Nat, i ≤ n ∧ iv = .int .i64 i ∧ Hid (∀ j (h : j < t.length), j < i → 97 ≤ t[j].toNat ∧ t[j].toNat ≤ 122)) (fun iv => n - (intOf iv).toNat)
  case atStart => exact ⟨0, by omega, rfl, Lib.hid (fun j _ h => by omega)⟩
  case round =>
    obtain ⟨i, hi, rfl, H⟩ := hrel
    by_cases hlt : i < n
    · have hil : i < t.length := by rw [← HN.out]; exact hlt
      have hx := HX.out i hil
      have hlt' : (i : Int) < n := by omega
      obtain ⟨c, hc⟩ : ∃ c, c = t[i].toNat := ⟨_, rfl⟩
      rw [← hc] at hx
      have HC := Lib.hid hc
      clear hc
      by_cases h1 : 97 ≤ c ∧ c ≤ 122
      · have H2 : Hid (∀ j (h : j < t.length), j < i + 1 → 97 ≤ t[j].toNat ∧ t[j].toNat ≤ 122) := Lib.hid (fun j h hj => by
          by_cases e : j = i
          · subst e; rw [← HC.out]; exact h1
          · exact H.out j h (by omega))
        have t1 : decide ((c : Int) < 97) = false := decide_eq_false (by omega)
        have t2 : decide ((122 : Int) < c) = false := decide_eq_false (by omega)
        clear h1 H HC
        go_wp2
        go_round
        case rel => exact ⟨i + 1, by omega, by go_num, H2⟩
        case measure => simp [intOf]; omega
      · obtain rfl : B = false := by
          rw [HB.out]
          unfold plainB
          have : ¬ ∀ b ∈ t, 97 ≤ b.toNat ∧ b.toNat ≤ 122 := fun h => h1 (by rw [HC.out]; exact h _ (List.getElem_mem hil))
          rw [decide_eq_false this]; rfl
        clear HB HC
        by_cases h2 : c < 97
        · have t1 : decide ((c : Int) < 97) = true := decide_eq_true (by omega)
          clear h1 H
          go_wp2
          go_ret
          exact ⟨rfl, rfl⟩
        · have t1 : decide ((c : Int) < 97) = false := decide_eq_false (by omega)
          have t2 : decide ((122 : Int) < c) = true := decide_eq_true (by omega)
          clear h1 H
          go_wp2
          go_ret
          exact ⟨rfl, rfl⟩
    · have hlt' : ¬ (i : Int) < n := by omega
      have hr : B = decide ((3 : Int) ≤ n) := by
        rw [HB.out]
        unfold plainB
        have h1 : ∀ b ∈ t, 97 ≤ b.toNat ∧ b.toNat ≤ 122 := by
          intro b hb
          obtain ⟨j, hj, e⟩ := List.getElem_of_mem hb
          have hn := HN.out
          have := H.out j hj (by omega)
          rw [e] at this
          exact this
        rw [decide_eq_true h1, Bool.true_and, decide_eq_decide, HN.out]
        omega
      subst hr
      clear HB H
      go_wp2
      go_ret
      exact ⟨rfl, rfl⟩
end Go.Proofs.YtcgfokeglgaffaaDoor
