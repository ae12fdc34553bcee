/- Walks: Fold. -/
import Derived.Test.YtmdmejfcknaokaaDoorW5
namespace Go.Proofs.YtmdmejfcknaokaaDoor
open Go.RowKit

theorem enc_ok (c : Int) (h0 : 0 ≤ c) (h : Utf8.valid c = true) : Utf8.encode c = str (enc c.toNat) := by
  obtain ⟨n, rfl⟩ := Int.eq_ofNat_of_zero_le h0
  exact encode_eq n h
theorem valid_small (c : Int) (h0 : 0 ≤ c) (h : c ≤ 200) : Utf8.valid c = true := by
  unfold Utf8.valid; simp; omega
theorem Fold_lower (c : Int) (h0 : 97 ≤ c) (h1 : c ≤ 122) (w : World) : Calls Tryd.prog 8 #[.int .i32 c] w fun e w' => e = .returned (.string (str (enc c.toNat))) ∧ Below w.heap.size w w' := by
  have he := Lib.hid (enc_ok c (by omega) (valid_small c (by omega) (by omega)))
  go_enter Tryd.func8, Tryd.ntmps8
  go_wp2
  go_ret
  exact ⟨by rw [← he.out]; rfl, Below.refl _ _⟩
theorem Fold_digit (c : Int) (h0 : 48 ≤ c) (h1 : c ≤ 57) (w : World) : Calls Tryd.prog 8 #[.int .i32 c] w fun e w' => e = .returned (.string (str (enc c.toNat))) ∧ Below w.heap.size w w' := by
  have he := Lib.hid (enc_ok c (by omega) (valid_small c (by omega) (by omega)))
  have h2 : ¬ 97 ≤ c := by omega
  go_enter Tryd.func8, Tryd.ntmps8
  go_wp2
  go_ret
  exact ⟨by rw [← he.out]; rfl, Below.refl _ _⟩
theorem Fold_upper (c : Int) (h0 : 65 ≤ c) (h1 : c ≤ 90) (w : World) : Calls Tryd.prog 8 #[.int .i32 c] w fun e w' => e = .returned (.string (str (enc (c + 32).toNat))) ∧ Below w.heap.size w w' := by
  have he := Lib.hid (enc_ok (c + 32) (by omega) (valid_small (c + 32) (by omega) (by omega)))
  have h2 : ¬ 97 ≤ c := by omega
  have h3 : ¬ c ≤ 57 := by omega
  have h4 : 48 ≤ c := by omega
  go_enter Tryd.func8, Tryd.ntmps8
  go_wp2
  go_ret
  exact ⟨by rw [← he.out]; rfl, Below.refl _ _⟩
theorem apart_valid (c : Int) (h : apart c = false) : Utf8.valid c = true := by
  unfold apart at h
  simp at h
  exact h.2
theorem Fold_high (c : Int) (h0 : 384 ≤ c) (w : World) : Calls Tryd.prog 8 #[.int .i32 c] w fun e w' => e = .returned (.string (str (if apart c then [] else enc c.toNat))) ∧ Below w.heap.size w w' := by
  have HA := Lib.hid (apart_any c w)
  have hv := apart_valid c
  have h2 : 97 ≤ c := by omega
  have h3 : ¬ c ≤ 122 := by omega
  have h4 : 48 ≤ c := by omega
  have h5 : ¬ c ≤ 57 := by omega
  have h6 : 65 ≤ c := by omega
  have h7 : ¬ c ≤ 90 := by omega
  cases hap : apart c with
  | true =>
    have HP := Lib.hid hap
    clear hap hv
    go_enter Tryd.func8, Tryd.ntmps8
    go_wp2_with fail
    refine HA.out.mono ?_
    rintro e w1 ⟨rfl, hw⟩
    rw [HP.out]
    subst hw
    go_wp2
    go_ret
    exact ⟨rfl, Below.refl _ _⟩
  | false =>
    have he := Lib.hid (enc_ok c (by omega) (hv hap))
    have HP := Lib.hid hap
    clear hap hv
    go_enter Tryd.func8, Tryd.ntmps8
    go_wp2_with fail
    refine HA.out.mono ?_
    rintro e w1 ⟨rfl, hw⟩
    rw [HP.out]
    subst hw
    go_wp2
    go_ret
    exact ⟨by rw [← he.out]; rfl, Below.refl _ _⟩
theorem run_at (k : Nat) (h : k < runsT.length) (T : Array Value) (hT : T = tableV) (w : World) :
    (Instr.index 38 (.agg T) (.int .i64 (k : Int))).run Tryd.prog w = .ok (.agg #[.int .i32 (runsT[k].1 : Int), .int .i32 (runsT[k].2.1 : Int), .string (str runsT[k].2.2)]) w := by
  subst hT; exact index_any k h w
set_option maxHeartbeats 4000000 in
theorem Fold_low (c : Int) (h0 : c < 384) (h1 : ¬ (97 ≤ c ∧ c ≤ 122)) (h2 : ¬ (48 ≤ c ∧ c ≤ 57)) (h3 : ¬ (65 ≤ c ∧ c ≤ 90)) (w : World) :
    Calls Tryd.prog 8 #[.int .i32 c] w fun e w' => e = .returned (.string (str (lookT (if 0xE0 ≤ c ∧ c ≤ 0xFE then c - 32 else c) runsT))) ∧ Below w.heap.size w w' := by
  obtain ⟨d, hd⟩ : ∃ d, d = (if 0xE0 ≤ c ∧ c ≤ 0xFE then c - 32 else c) := ⟨_, rfl⟩
  rw [← hd]
  obtain ⟨R, hR⟩ : ∃ R, R = lookT d (runsT.drop 0) := ⟨_, rfl⟩
  have hR' : lookT d runsT = R := hR.symm
  rw [hR']
  have HR := Lib.hid hR
  have HT := Lib.hid (fun w => table_any w)
  have hlen : runsT.length = 40 := rfl
  have HL := Lib.hid hlen
  have HD := Lib.hid hd
  have hdb : d ≤ 384 := by rw [hd]; split <;> omega
  have g1 : decide (97 ≤ c) = true → c ≤ 122 → False := by simp; omega
  obtain ⟨T, hT⟩ : ∃ T, T = tableV := ⟨_, rfl⟩
  have HTV := Lib.hid hT
  have h40 : ¬ 384 ≤ c := by omega
  clear hR hR' hlen hd hT g1
  have key : ∀ (w1 : World), Below w.heap.size w w1 → True := fun _ _ => trivial
  clear key
  by_cases a1 : 97 ≤ c <;> by_cases a2 : c ≤ 122 <;> by_cases a3 : 48 ≤ c <;> by_cases a4 : c ≤ 57 <;> by_cases a5 : 65 ≤ c <;> by_cases a6 : c ≤ 90 <;> by_cases a7 : 224 ≤ c <;> by_cases a8 : c ≤ 254
  all_goals first
    | omega
    | (obtain rfl : d = c - 32 := by have := HD.out; rw [if_pos ⟨a7, a8⟩] at this; exact this
       clear h1 h2 h3 HD
       go_enter Tryd.func8, Tryd.ntmps8
       go_wp2_with fail
       refine (HT.out _).mono ?_
       rintro e w1 ⟨rfl, hb1⟩
       rw [← HTV.out]
       go_wp2
       go_loopw [47] (fun i wr => ∃ k : Nat, k ≤ 40 ∧ i = .int .i64 k ∧ Below w.heap.size w wr ∧ Hid (R = lookT (c - 32) (runsT.drop k))) (fun i _ => 40 - (intOf i).toNat)
       case atStart => exact ⟨0, by omega, rfl, hb1, HR⟩
       case round =>
         clear HR HT
         obtain ⟨k, hk, rfl, hb, H⟩ := hrel
         by_cases hlt : k < 40
         · have hkl : k < runsT.length := by rw [HL.out]; exact hlt
           have hidx := run_at k hkl T HTV.out
           have hdrop := look_drop (c - 32) k hkl
           have hsm := runs_ok _ (List.getElem_mem hkl)
           have hR2 := H.out
           rw [hdrop] at hR2
           rcases hrow : runsT[k] with ⟨a, b, t⟩
           simp only [hrow] at hidx hR2 hsm
           have hsm1 : (a : Int) ≤ 383 := by omega
           have hsm2 : (b : Int) ≤ 383 := by omega
           have HR2 := Lib.hid hR2
           have HX := Lib.hid hrow
           clear hR2 hrow hdrop hsm
           have hlt' : (k : Int) < 40 := by omega
           by_cases b1 : (a : Int) ≤ (c - 32) <;> by_cases b2 : (c - 32) ≤ b
           · have hr : R = t := by have := HR2.out; rw [if_pos ⟨b1, b2⟩] at this; exact this
             subst hr
             clear HR2 H HX
             go_wp2
             go_ret
             exact ⟨rfl, hb.alloc hb.size _⟩
           all_goals
             have hr : R = lookT (c - 32) (runsT.drop (k + 1)) := by have := HR2.out; rw [if_neg (by omega)] at this; exact this
             have HN := Lib.hid hr
             clear hr HR2 H HX
             go_wp2
             go_roundw
             case rel => exact ⟨k + 1, by omega, by go_num, hb.alloc hb.size _, HN⟩
             case measure => simp [intOf]; omega
         · have hr : R = [] := by
             have := H.out
             rw [List.drop_eq_nil_of_le (by rw [HL.out]; omega)] at this
             exact this
           subst hr
           clear H
           have hk40 : ¬ (k : Int) < 40 := by omega
           go_wp2
           go_ret
           exact ⟨rfl, hb⟩)
    | (obtain rfl : d = c := by have := HD.out; rw [if_neg (by omega)] at this; exact this
       clear h1 h2 h3 HD
       go_enter Tryd.func8, Tryd.ntmps8
       go_wp2_with fail
       refine (HT.out _).mono ?_
       rintro e w1 ⟨rfl, hb1⟩
       rw [← HTV.out]
       go_wp2
       go_loopw [47] (fun i wr => ∃ k : Nat, k ≤ 40 ∧ i = .int .i64 k ∧ Below w.heap.size w wr ∧ Hid (R = lookT d (runsT.drop k))) (fun i _ => 40 - (intOf i).toNat)
       case atStart => exact ⟨0, by omega, rfl, hb1, HR⟩
       case round =>
         clear HR HT
         obtain ⟨k, hk, rfl, hb, H⟩ := hrel
         by_cases hlt : k < 40
         · have hkl : k < runsT.length := by rw [HL.out]; exact hlt
           have hidx := run_at k hkl T HTV.out
           have hdrop := look_drop d k hkl
           have hsm := runs_ok _ (List.getElem_mem hkl)
           have hR2 := H.out
           rw [hdrop] at hR2
           rcases hrow : runsT[k] with ⟨a, b, t⟩
           simp only [hrow] at hidx hR2 hsm
           have hsm1 : (a : Int) ≤ 383 := by omega
           have hsm2 : (b : Int) ≤ 383 := by omega
           have HR2 := Lib.hid hR2
           have HX := Lib.hid hrow
           clear hR2 hrow hdrop hsm
           have hlt' : (k : Int) < 40 := by omega
           by_cases b1 : (a : Int) ≤ d <;> by_cases b2 : d ≤ b
           · have hr : R = t := by have := HR2.out; rw [if_pos ⟨b1, b2⟩] at this; exact this
             subst hr
             clear HR2 H HX
             go_wp2
             go_ret
             exact ⟨rfl, hb.alloc hb.size _⟩
           all_goals
             have hr : R = lookT d (runsT.drop (k + 1)) := by have := HR2.out; rw [if_neg (by omega)] at this; exact this
             have HN := Lib.hid hr
             clear hr HR2 H HX
             go_wp2
             go_roundw
             case rel => exact ⟨k + 1, by omega, by go_num, hb.alloc hb.size _, HN⟩
             case measure => simp [intOf]; omega
         · have hr : R = [] := by
             have := H.out
             rw [List.drop_eq_nil_of_le (by rw [HL.out]; omega)] at this
             exact this
           subst hr
           clear H
           have hk40 : ¬ (k : Int) < 40 := by omega
           go_wp2
           go_ret
           exact ⟨rfl, hb⟩)

theorem Fold_any (c : Int) (w : World) : Calls Tryd.prog 8 #[.int .i32 c] w fun e w' => e = .returned (.string (str (fold c))) ∧ Below w.heap.size w w' := by
  unfold fold
  by_cases h1 : 97 ≤ c ∧ c ≤ 122 ∨ 48 ≤ c ∧ c ≤ 57
  · rw [if_pos h1]
    rcases h1 with h | h
    · exact Fold_lower c h.1 h.2 w
    · exact Fold_digit c h.1 h.2 w
  · rw [if_neg h1]
    by_cases h2 : 65 ≤ c ∧ c ≤ 90
    · rw [if_pos h2]; exact Fold_upper c h2.1 h2.2 w
    · rw [if_neg h2]
      by_cases h3 : 384 ≤ c
      · rw [if_pos h3]; exact Fold_high c h3 w
      · rw [if_neg h3]
        exact Fold_low c (by omega) (fun h => h1 (Or.inl h)) (fun h => h1 (Or.inr h)) h2 w
end Go.Proofs.YtmdmejfcknaokaaDoor
