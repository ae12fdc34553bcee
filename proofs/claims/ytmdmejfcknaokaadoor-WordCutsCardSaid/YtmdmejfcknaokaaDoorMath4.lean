/- Plain laws: words of a part, of two texts, of a word. -/
import Derived.Test.YtmdmejfcknaokaaDoorMath2
namespace Go.Proofs.YtmdmejfcknaokaaDoor

/-! ### A sign hangs on its own bytes alone -/

/-- A sign of a text that lies in another one, which goes on with no byte of a sign. -/
theorem sign_embed (s t : ByteArray) (k i : Nat) (hi : i < s.size) (hb : ∀ j, j < s.size → byteAt t (k + j) = byteAt s j) (hk : k + s.size ≤ t.size) (hc : contB t (k + s.size) = false) : signR t (k + i) = signR s i := by
  have cont : ∀ j, j < s.size → contB t (k + j) = contB s j := by
    intro j hj
    unfold contB
    rw [hb j hj, decide_eq_decide]
    omega
  have out : ∀ j, s.size ≤ j → contB s j = false := by
    intro j hj
    unfold contB
    exact decide_eq_false (by omega)
  have c1 : contB t (k + i + 1) = contB s (i + 1) := by
    by_cases h : i + 1 < s.size
    · rw [Nat.add_assoc]; exact cont _ h
    · have : k + i + 1 = k + s.size := by omega
      rw [this, hc, out _ (by omega)]
  have c2 : contB s (i + 1) = true → contB t (k + i + 2) = contB s (i + 2) := by
    intro h1
    have := contB_lt h1
    by_cases h : i + 2 < s.size
    · rw [Nat.add_assoc]; exact cont _ h
    · have : k + i + 2 = k + s.size := by omega
      rw [this, hc, out _ (by omega)]
  have c3 : contB s (i + 1) = true → contB s (i + 2) = true → contB t (k + i + 3) = contB s (i + 3) := by
    intro _ h1
    have := contB_lt h1
    by_cases h : i + 3 < s.size
    · rw [Nat.add_assoc]; exact cont _ h
    · have : k + i + 3 = k + s.size := by omega
      rw [this, hc, out _ (by omega)]
  have b : ∀ j, contB s (i + j) = true → byteAt t (k + i + j) = byteAt s (i + j) := by
    intro j h
    rw [Nat.add_assoc]
    exact hb _ (contB_lt h)
  unfold signR
  simp only [hb i hi, c1]
  cases h1 : contB s (i + 1) with
  | false => simp
  | true =>
    rw [c2 h1]
    cases h2 : contB s (i + 2) with
    | false => simp [b 1 h1]
    | true =>
      rw [c3 h1 h2]
      cases h3 : contB s (i + 3) with
      | false => simp [b 1 h1, b 2 h2]
      | true => simp [b 1 h1, b 2 h2, b 3 h3]

/-- A sign that is one reads the same wherever its bytes lie. -/
theorem sign_own (s t : ByteArray) (i j : Nat) (h0 : (signR s i).1 ≠ -1) (hb : ∀ m, m < (signR s i).2 → byteAt t (j + m) = byteAt s (i + m)) (ht : j + (signR s i).2 ≤ t.size) : signR t j = signR s i := by
  have cont : ∀ m, m < (signR s i).2 → contB s (i + m) = true → contB t (j + m) = true := by
    intro m hm h
    unfold contB at h ⊢
    have := of_decide_eq_true h
    rw [hb m hm]
    exact decide_eq_true ⟨by omega, this.2⟩
  have hb0 : byteAt t j = byteAt s i := by
    have := hb 0 (by have := sign_pos s i; omega)
    simpa using this
  by_cases g0 : byteAt s i < 128
  · unfold signR
    simp only [hb0, g0, if_true]
  · by_cases g1 : 194 ≤ byteAt s i ∧ byteAt s i < 224
    · cases c1 : contB s (i + 1) with
      | false => exact absurd (by unfold signR; simp [g0, g1, c1]) h0
      | true =>
        by_cases ok : okB 128 (64 * (byteAt s i - 192) + (byteAt s (i + 1) - 128)) = true
        · have e : signR s i = (((64 * (byteAt s i - 192) + (byteAt s (i + 1) - 128) : Nat) : Int), 2) := by unfold signR; simp [g0, g1, c1, ok]
          rw [e] at hb cont
          have d1 := cont 1 (by show 1 < 2; decide) c1
          have b1 := hb 1 (by show 1 < 2; decide)
          rw [e]
          unfold signR
          simp [hb0, g0, g1, d1, b1, ok]
        · exact absurd (by unfold signR; simp [g0, g1, c1, ok]) h0
    · by_cases g2 : 224 ≤ byteAt s i ∧ byteAt s i < 240
      · cases c1 : contB s (i + 1) && contB s (i + 2) with
        | false => exact absurd (by unfold signR; simp [g0, g1, g2, c1]) h0
        | true =>
          by_cases ok : okB 2048 (64 * (64 * (byteAt s i - 224) + (byteAt s (i + 1) - 128)) + (byteAt s (i + 2) - 128)) = true
          · have e : signR s i = (((64 * (64 * (byteAt s i - 224) + (byteAt s (i + 1) - 128)) + (byteAt s (i + 2) - 128) : Nat) : Int), 3) := by unfold signR; simp [g0, g1, g2, c1, ok]
            rw [Bool.and_eq_true] at c1
            rw [e] at hb cont
            have d1 := cont 1 (by show 1 < 3; decide) c1.1
            have d2 := cont 2 (by show 2 < 3; decide) c1.2
            have b1 := hb 1 (by show 1 < 3; decide)
            have b2 := hb 2 (by show 2 < 3; decide)
            rw [e]
            unfold signR
            simp [hb0, g0, g1, g2, d1, d2, b1, b2, ok]
          · exact absurd (by unfold signR; simp [g0, g1, g2, c1, ok]) h0
      · by_cases g3 : 240 ≤ byteAt s i ∧ byteAt s i < 245
        · cases c1 : contB s (i + 1) && contB s (i + 2) && contB s (i + 3) with
          | false => exact absurd (by unfold signR; simp [g0, g1, g2, g3, c1]) h0
          | true =>
            by_cases ok : okB 65536 (64 * (64 * (64 * (byteAt s i - 240) + (byteAt s (i + 1) - 128)) + (byteAt s (i + 2) - 128)) + (byteAt s (i + 3) - 128)) = true
            · have e : signR s i = (((64 * (64 * (64 * (byteAt s i - 240) + (byteAt s (i + 1) - 128)) + (byteAt s (i + 2) - 128)) + (byteAt s (i + 3) - 128) : Nat) : Int), 4) := by unfold signR; simp [g0, g1, g2, g3, c1, ok]
              rw [Bool.and_eq_true, Bool.and_eq_true] at c1
              rw [e] at hb cont
              have d1 := cont 1 (by show 1 < 4; decide) c1.1.1
              have d2 := cont 2 (by show 2 < 4; decide) c1.1.2
              have d3 := cont 3 (by show 3 < 4; decide) c1.2
              have b1 := hb 1 (by show 1 < 4; decide)
              have b2 := hb 2 (by show 2 < 4; decide)
              have b3 := hb 3 (by show 3 < 4; decide)
              rw [e]
              unfold signR
              simp [hb0, g0, g1, g2, g3, d1, d2, d3, b1, b2, b3, ok]
            · exact absurd (by unfold signR; simp [g0, g1, g2, g3, c1, ok]) h0
        · exact absurd (by unfold signR; simp [g0, g1, g2, g3]) h0
theorem fold_none : fold (-1) = [] := by decide +kernel
theorem fold_blank : fold 32 = [] := by decide +kernel

/-! ### Runs -/

/-- Where the word that goes on at a place ends. -/
def endW (s : ByteArray) (i : Nat) : Nat := if i < s.size ∧ fold (signR s i).1 ≠ [] then endW s (i + (signR s i).2) else i
termination_by s.size - i
decreasing_by
  have := sign_pos s i
  omega
/-- .. and what its text is then. -/
def runW (s : ByteArray) (i : Nat) (t : List Nat) (c : Bool) : List Nat := if i < s.size ∧ fold (signR s i).1 ≠ [] then runW s (i + (signR s i).2) (putW t c (fold (signR s i).1)) (cutW t c (fold (signR s i).1)) else t
termination_by s.size - i
decreasing_by
  have := sign_pos s i
  omega
theorem endW_go (s : ByteArray) (i : Nat) (h : i < s.size ∧ fold (signR s i).1 ≠ []) : endW s i = endW s (i + (signR s i).2) := by rw [endW, if_pos h]
theorem endW_stop (s : ByteArray) (i : Nat) (h : ¬ (i < s.size ∧ fold (signR s i).1 ≠ [])) : endW s i = i := by rw [endW, if_neg h]
theorem runW_go (s : ByteArray) (i : Nat) (t : List Nat) (c : Bool) (h : i < s.size ∧ fold (signR s i).1 ≠ []) : runW s i t c = runW s (i + (signR s i).2) (putW t c (fold (signR s i).1)) (cutW t c (fold (signR s i).1)) := by rw [runW, if_pos h]
theorem runW_stop (s : ByteArray) (i : Nat) (t : List Nat) (c : Bool) (h : ¬ (i < s.size ∧ fold (signR s i).1 ≠ [])) : runW s i t c = t := by rw [runW, if_neg h]
theorem endW_le (s : ByteArray) : ∀ (k i : Nat), s.size - i ≤ k → i ≤ s.size → i ≤ endW s i ∧ endW s i ≤ s.size
  | k, i, hk, hi => by
    by_cases h : i < s.size ∧ fold (signR s i).1 ≠ []
    · have hp := sign_pos s i
      have he := sign_end s i h.1
      rw [endW_go s i h]
      cases k with
      | zero => omega
      | succ k =>
        have := endW_le s k (i + (signR s i).2) (by omega) he
        omega
    · rw [endW_stop s i h]; omega
/-- What is begun ends, and the rest goes on from there. -/
theorem wm_run (s : ByteArray) (a : Nat) : ∀ (k i : Nat) (t : List Nat) (c : Bool), s.size - i ≤ k → i ≤ s.size → wm (toks s i) (some (a, t, c)) = (runW s i t c, a, endW s i) :: wm (toks s (endW s i)) none
  | k, i, t, c, hk, hi => by
    by_cases h : i < s.size ∧ fold (signR s i).1 ≠ []
    · have hp := sign_pos s i
      have he := sign_end s i h.1
      rw [endW_go s i h, runW_go s i t c h, toks_lt s i h.1, wm_go h.2]
      cases k with
      | zero => omega
      | succ k => exact wm_run s a k _ _ _ (by omega) he
    · rw [endW_stop s i h, runW_stop s i t c h]
      by_cases hl : i < s.size
      · have hf : fold (signR s i).1 = [] := Decidable.byContradiction fun e => h ⟨hl, e⟩
        rw [toks_lt s i hl, wm_stop hf, wm_skip hf]
      · have : i = s.size := by omega
        rw [toks_end s i hl, wm_stop rfl, wm_skip rfl, this]
/-- The words from a place on. -/
theorem words_from (s : ByteArray) : ∀ (k i : Nat), s.size - i ≤ k → i ≤ s.size →
    (∀ w ∈ wm (toks s i) none, ∃ a, i ≤ a ∧ a < s.size ∧ fold (signR s a).1 ≠ [] ∧ w = (runW s a [] false, a, endW s a)) ∧ (wm (toks s i) none).Pairwise (fun x y => x.2.2 ≤ y.2.1)
  | k, i, hk, hi => by
    by_cases hl : i < s.size
    · have hp := sign_pos s i
      have he := sign_end s i hl
      by_cases hf : fold (signR s i).1 = []
      · rw [toks_lt s i hl, wm_skip hf]
        cases k with
        | zero => omega
        | succ k =>
          have ih := words_from s k (i + (signR s i).2) (by omega) he
          refine ⟨fun w hw => ?_, ih.2⟩
          obtain ⟨a, h1, h2⟩ := ih.1 w hw
          exact ⟨a, by omega, h2⟩
      · have h : i < s.size ∧ fold (signR s i).1 ≠ [] := ⟨hl, hf⟩
        have e0 : wm (toks s i) none = wm (toks s i) (some (i, [], false)) := by rw [toks_lt s i hl]; exact wm_start hf
        have hle := endW_le s s.size (i + (signR s i).2) (by omega) he
        rw [e0, wm_run s i s.size i [] false (by omega) hi]
        have e1 := endW_go s i h
        cases k with
        | zero => omega
        | succ k =>
          have ih := words_from s k (endW s i) (by omega) (by omega)
          refine ⟨fun w hw => ?_, ?_⟩
          · rcases List.mem_cons.1 hw with rfl | hw
            · exact ⟨i, by omega, hl, hf, rfl⟩
            · obtain ⟨a, h1, h2⟩ := ih.1 w hw
              exact ⟨a, by omega, h2⟩
          · refine List.pairwise_cons.2 ⟨fun w hw => ?_, ih.2⟩
            obtain ⟨a, h1, _, _, rfl⟩ := ih.1 w hw
            exact h1
    · rw [toks_end s i hl, wm_skip rfl]
      exact ⟨fun w hw => by simp [wm] at hw, List.Pairwise.nil⟩
end Go.Proofs.YtmdmejfcknaokaaDoor
