/- Plain laws: letters, lengths and first letters through the steps. -/
import Derived.Test.YtcgfokeglgaffaaDoorW7
namespace Go.Proofs.YtcgfokeglgaffaaDoor

theorem Letters.take {t : W} (h : Letters t) (n : Nat) : Letters (t.take n) := fun b hb => h b (List.mem_of_mem_take hb)
theorem Letters.append {a b : W} (h : Letters a) (k : Letters b) : Letters (a ++ b) := fun x hx => by
  rcases List.mem_append.1 hx with h1 | h1
  · exact h x h1
  · exact k x h1
/-- Rules that do not make longer. -/
def Good (l : List Rule) : Prop := ∀ r ∈ l, Letters r.2 ∧ r.2.length ≤ r.1.length ∧ r.1.length ≤ 100
def goodB (l : List Rule) : Bool := l.all fun r => r.2.all (fun b => decide (97 ≤ b.toNat) && decide (b.toNat ≤ 122)) && decide (r.2.length ≤ r.1.length) && decide (r.1.length ≤ 100)
theorem good_of {l : List Rule} (h : goodB l = true) : Good l := by
  intro r hr
  have := List.all_eq_true.1 h r hr
  simp only [Bool.and_eq_true, decide_eq_true_eq] at this
  obtain ⟨⟨h1, h2⟩, h3⟩ := this
  refine ⟨fun b hb => ?_, h2, h3⟩
  have := List.all_eq_true.1 h1 b hb
  simpa using this
theorem best_mem (w : W) : ∀ (l : List Rule) (b : Rule), bestL w l b ∈ l ∨ bestL w l b = b
  | [], _ => Or.inr rfl
  | r :: l, b => by
    unfold bestL
    split
    · rcases best_mem w l r with h | h
      · exact Or.inl (by simp [h])
      · exact Or.inl (by simp [h])
    · rcases best_mem w l b with h | h
      · exact Or.inl (by simp [h])
      · exact Or.inr h
/-- What a step makes: the word, or a head and what an end becomes. -/
theorem step_cases (t : W) (l : List Rule) (M : W → W → Bool) : (stepL t l M = (t, false)) ∨
    ∃ r ∈ l, r = bestL t l ([], []) ∧ r.1 ≠ [] ∧ r.1.length ≤ t.length ∧ M (t.take (t.length - r.1.length)) r.1 = true ∧ stepL t l M = (t.take (t.length - r.1.length) ++ r.2, true) := by
  unfold stepL
  simp only
  split
  · exact Or.inl rfl
  · rename_i h
    rw [not_or] at h
    right
    refine ⟨_, ?_, rfl, h.1, best_le t l _ (by simp), by simpa using h.2, rfl⟩
    rcases best_mem t l ([], []) with hm | hm
    · exact hm
    · exact absurd (by rw [hm]) h.1
theorem step_good (t : W) (l : List Rule) (M : W → W → Bool) (hl : Good l) (ht : Letters t) : Letters (stepL t l M).1 ∧ (stepL t l M).1.length ≤ t.length := by
  rcases step_cases t l M with h | ⟨r, hr, _, _, hle, _, h⟩
  · rw [h]; exact ⟨ht, Nat.le_refl _⟩
  · rw [h]
    obtain ⟨h1, h2, _⟩ := hl r hr
    refine ⟨(ht.take _).append h1, ?_⟩
    simp only [List.length_append, List.length_take]
    omega
/-- .. where the condition wants something ahead: it begins as it did. -/
theorem step_head (t : W) (l : List Rule) (M : W → W → Bool) (hM : ∀ a e, M a e = true → a ≠ []) (ht : t ≠ []) : (stepL t l M).1 ≠ [] ∧ (stepL t l M).1.head? = t.head? := by
  rcases step_cases t l M with h | ⟨r, _, _, _, hle, hm, h⟩
  · rw [h]; exact ⟨ht, rfl⟩
  · rw [h]
    have hne := hM _ _ hm
    refine ⟨fun e => hne (List.append_eq_nil_iff.1 e).1, ?_⟩
    cases t with
    | nil => exact absurd rfl ht
    | cons x t =>
      cases hk : (x :: t).length - r.1.length with
      | zero => rw [hk] at hne; simp at hne
      | succ k => simp
theorem meas_nil : measL [] = 0 := rfl
theorem voiced_nil : voicedL [] = false := rfl
theorem good_plurals : Good (rulesL pluralsP) := good_of (by decide +kernel)
theorem good_pasts : Good (rulesL pastsP) := good_of (by decide +kernel)
theorem good_ends : Good (rulesL endsP) := good_of (by decide +kernel)
theorem good_y : Good (rulesL yP) := good_of (by decide +kernel)
theorem good_tab : ∀ i < 3, Good (rulesL (tabP.getD i [])) := by
  intro i hi
  have : ∀ i < 3, goodB (rulesL (tabP.getD i [])) = true := by decide +kernel
  exact good_of (this i hi)
end Go.Proofs.YtcgfokeglgaffaaDoor
