/- Walks: closed. -/
import Derived.Test.YtcgfokeglgaffaaDoorW4
namespace Go.Proofs.YtcgfokeglgaffaaDoor
open Go.RowKit

theorem drop_last (t : W) (j : Nat) (h : t.length = j + 1) : (S t).extract j t.length = S [t[j]] := by
  rw [S_drop, List.drop_eq_getElem_cons (by omega), List.drop_eq_nil_of_le (by omega)]
set_option maxHeartbeats 4000000 in
theorem closed_any (t : W) (ht : Letters t) (hl : (t.length : Int) ≤ 100000) (w : World) : Calls Tryd.prog 28 #[.string (S t)] w fun e w' => e = .returned (.bool (closedL t)) ∧ Below w.heap.size w w' := by
  obtain ⟨B, hB⟩ : ∃ B, B = closedL t := ⟨_, rfl⟩
  rw [← hB]
  unfold closedL at hB
  obtain ⟨n, hn⟩ : ∃ n, n = t.length := ⟨_, rfl⟩
  have hz : (S t).size = n := by rw [S_size, hn]
  have hnb : (n : Int) ≤ 100000 := by omega
  by_cases h3 : 3 ≤ n
  · obtain ⟨j3, hj3⟩ : ∃ j3, n = j3 + 3 := ⟨n - 3, by omega⟩
    have hs := fun w => sounds_row t ht hl (by omega) w
    obtain ⟨x1, hx1⟩ : ∃ x1, x1 = t[j3 + 2]'(by omega) := ⟨_, rfl⟩
    have hx := drop_last t (j3 + 2) (by omega)
    rw [← hx1, ← hn] at hx
    obtain ⟨b3, hb3⟩ : ∃ b, b = (sndL t)[j3]'(by rw [sndL_len]; omega) := ⟨_, rfl⟩
    obtain ⟨b2, hb2⟩ : ∃ b, b = (sndL t)[j3 + 1]'(by rw [sndL_len]; omega) := ⟨_, rfl⟩
    obtain ⟨b1, hb1⟩ : ∃ b, b = (sndL t)[j3 + 2]'(by rw [sndL_len]; omega) := ⟨_, rfl⟩
    have l1 : lastL t 1 = x1.toNat := by unfold lastL; rw [show t.length - 1 = j3 + 2 by omega, List.getElem?_eq_getElem (by omega), hx1]; rfl
    have v1 : lastV t 1 = b1 := by unfold lastV; rw [show t.length - 1 = j3 + 2 by omega, List.getElem?_eq_getElem (by rw [sndL_len]; omega), hb1]; rfl
    have v2 : lastV t 2 = b2 := by unfold lastV; rw [show t.length - 2 = j3 + 1 by omega, List.getElem?_eq_getElem (by rw [sndL_len]; omega), hb2]; rfl
    have v3 : lastV t 3 = b3 := by unfold lastV; rw [show t.length - 3 = j3 by omega, List.getElem?_eq_getElem (by rw [sndL_len]; omega), hb3]; rfl
    have hcon := fun w => Contains_one 119 120 121 x1 w
    have hxx : decide (x1 = 119 ∨ x1 = 120 ∨ x1 = 121) = decide (x1.toNat = 119 ∨ x1.toNat = 120 ∨ x1.toNat = 121) := by
      rw [decide_eq_decide, ← UInt8.toNat_inj, ← UInt8.toNat_inj, ← UInt8.toNat_inj]; rfl
    rw [index_three, hxx, ← l1] at hcon
    rw [v1, v2, v3, decide_eq_true (show 3 ≤ t.length by omega), Bool.true_and] at hB
    obtain ⟨q, hq⟩ : ∃ q, q = decide (lastL t 1 = 119 ∨ lastL t 1 = 120 ∨ lastL t 1 = 121) := ⟨_, rfl⟩
    rw [← hq] at hcon hB
    have HCON : Hid (∀ w, Calls Tryd.prog 27 #[.string ⟨#[119, 120, 121]⟩, .string (S [x1])] w fun e w' => e = .returned (.bool q) ∧ w' = w) := Lib.hid hcon
    have HS : Hid (∀ w, Calls Tryd.prog 11 #[.string (S t)] w fun e w' => ∃ v, e = .returned v ∧ ∃ g c, v = .slice (some ⟨g, 0, none⟩) n c ∧ (n : Int) ≤ c ∧ w'.cell? ⟨g, j3, none⟩ = some (.bool b3) ∧ w'.cell? ⟨g, j3 + 1, none⟩ = some (.bool b2) ∧ w'.cell? ⟨g, j3 + 2, none⟩ = some (.bool b1) ∧ Below w.heap.size w w') := Lib.hid (fun w => (hs w).mono (by
      rintro e w' ⟨v, rfl, g, c, rfl, h4, hc, hb⟩
      exact ⟨_, rfl, g, c, by rw [hn], by omega, by rw [hb3]; exact hc j3 (by omega), by rw [hb2]; exact hc (j3 + 1) (by omega), by rw [hb1]; exact hc (j3 + 2) (by omega), hb⟩))
    have HBE := Lib.hid hB
    have g1 : (n : Int) - 3 = j3 := by omega
    have g2 : (n : Int) - 1 = ((j3 + 2 : Nat) : Int) := by omega
    have hn3 : ¬ (n : Int) < 3 := by omega
    have hj : (j3 : Int) + 3 ≤ n := by omega
    clear hs hB l1 v1 v2 v3 hb1 hb2 hb3 hx1 ht hn hl h3 hcon hxx hq hj3
    go_enter Tryd.func28, Tryd.ntmps28
    go_wp2_with fail
    refine (HS.out _).mono ?_
    rintro e w1 ⟨v, rfl, g, c, rfl, hcap, c3, c2, c1, hb⟩
    have HB := Lib.hid hb
    clear HS hb
    cases b3 <;> cases b2 <;> cases b1
    all_goals first
      | (obtain rfl : B = false := HBE.out
         clear HBE HCON
         go_wp2
         go_ret
         exact ⟨rfl, HB.out⟩)
      | (go_wp2_with fail
         refine (HCON.out _).mono ?_
         rintro e w2 ⟨rfl, hw2⟩
         obtain rfl := hw2
         obtain rfl : B = !q := HBE.out
         clear HBE HCON
         go_wp2
         go_ret
         exact ⟨rfl, HB.out⟩)
  · obtain rfl : B = false := by rw [hB, decide_eq_false (by omega)]; rfl
    have hn3 : (n : Int) < 3 := by omega
    clear hB hn hl ht h3
    go_enter Tryd.func28, Tryd.ntmps28
    go_wp2
    go_ret
    exact ⟨rfl, Below.refl _ _⟩
end Go.Proofs.YtcgfokeglgaffaaDoor
