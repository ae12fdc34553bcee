/- Plain laws: a stem is short, and a plural's is the word's. -/
import Derived.Test.YtcgfokeglgaffaaDoorW14
namespace Go.Proofs.YtcgfokeglgaffaaDoor

theorem best_ends (w : W) : ∀ (l : List Rule) (b : Rule), endsL w b.1 = true → endsL w (bestL w l b).1 = true
  | [], _, h => h
  | r :: l, b, h => by
    unfold bestL
    split
    · rename_i h1
      rw [Bool.and_eq_true] at h1
      exact best_ends w l r h1.1
    · exact best_ends w l b h
theorem ends_nil (w : W) : endsL w [] = true := by unfold endsL; rw [← Lib.hasSuffix_of_drop]; simp
theorem ends_drop {w e : W} (h : endsL w e = true) : e.length ≤ w.length ∧ w.drop (w.length - e.length) = e := by
  unfold endsL at h
  rw [← Lib.hasSuffix_of_drop] at h
  simpa using h

/-- What a stem keeps of a word. -/
structure Kept (t x : W) : Prop where
  ne : x ≠ []
  hd : x.head? = t.head?
  le : x.length ≤ t.length
theorem Kept.trans {a b c : W} (h : Kept a b) (k : Kept b c) : Kept a c := ⟨k.ne, k.hd.trans h.hd, Nat.le_trans k.le h.le⟩
theorem Kept.refl {a : W} (h : a ≠ []) : Kept a a := ⟨h, rfl, Nat.le_refl _⟩
theorem kept_step (t : W) (l : List Rule) (M : W → W → Bool) (hl : Good l) (ht : Letters t) (h0 : t ≠ []) (hM : ∀ a e, M a e = true → a ≠ []) : Kept t (stepL t l M).1 ∧ Letters (stepL t l M).1 :=
  ⟨⟨(step_head t l M hM h0).1, (step_head t l M hM h0).2, (step_good t l M hl ht).2⟩, (step_good t l M hl ht).1⟩
theorem plural_rules : rulesL pluralsP = [(bs "sses", bs "ss"), (bs "ies", bs "i"), (bs "ss", bs "ss"), (bs "s", [])] := by decide +kernel
theorem past_rules : rulesL pastsP = [(bs "eed", bs "ee"), (bs "ed", []), (bs "ing", [])] := by decide +kernel
theorem head_take {t : W} {n : Nat} (h : 0 < n) (ht : t ≠ []) : t.take n ≠ [] ∧ (t.take n).head? = t.head? := by
  cases t with
  | nil => exact absurd rfl ht
  | cons x t =>
    obtain ⟨k, rfl⟩ : ∃ k, n = k + 1 := ⟨n - 1, by omega⟩
    simp
theorem head_append {a b : W} (h : a ≠ []) : (a ++ b) ≠ [] ∧ (a ++ b).head? = a.head? := by
  cases a with
  | nil => exact absurd rfl h
  | cons x a => simp
theorem kept_plural (t : W) (ht : Letters t) (h3 : 3 ≤ t.length) : Kept t (pluralsL t) ∧ Letters (pluralsL t) := by
  have h0 : t ≠ [] := by intro e; rw [e] at h3; simp at h3
  have hg := step_good t (rulesL pluralsP) (fun _ _ => true) good_plurals ht
  change Letters (pluralsL t) ∧ (pluralsL t).length ≤ t.length at hg
  refine ⟨?_, hg.1⟩
  rcases step_cases t (rulesL pluralsP) (fun _ _ => true) with h | ⟨r, hr, hb, hne, hle, _, h⟩
  · have e : pluralsL t = t := by unfold pluralsL; rw [h]
    rw [e]; exact Kept.refl h0
  · have e : pluralsL t = t.take (t.length - r.1.length) ++ r.2 := by unfold pluralsL; rw [h]
    by_cases hp : 0 < t.length - r.1.length
    · have k := head_take hp h0
      have k2 := head_append (b := r.2) k.1
      rw [← e] at k2
      exact ⟨k2.1, k2.2.trans k.2, hg.2⟩
    · have hlen : r.1.length = t.length := by omega
      have he := best_ends t (rulesL pluralsP) ([], []) (ends_nil t)
      rw [← hb] at he
      have hd := (ends_drop he).2
      rw [hlen, Nat.sub_self, List.drop_zero] at hd
      rw [plural_rules] at hr
      simp only [List.mem_cons, List.mem_nil_iff, or_false] at hr
      have hls : (bs "ss").length = 2 := by decide +kernel
      have hl1 : (bs "s").length = 1 := by decide +kernel
      rcases hr with rfl | rfl | rfl | rfl
      · have e2 : pluralsL t = bs "ss" := by rw [e, hlen, Nat.sub_self]; rfl
        refine ⟨?_, ?_, hg.2⟩
        · rw [e2]; decide +kernel
        · rw [e2, hd]; decide +kernel
      · have e2 : pluralsL t = bs "i" := by rw [e, hlen, Nat.sub_self]; rfl
        refine ⟨?_, ?_, hg.2⟩
        · rw [e2]; decide +kernel
        · rw [e2, hd]; decide +kernel
      · simp only [hls] at hlen; omega
      · simp only [hl1] at hlen; omega
theorem past_may (a e : W) (h : pastMay a e = true) : a ≠ [] := by
  rintro rfl
  unfold pastMay at h
  rw [meas_nil, voiced_nil] at h
  simp at h
theorem kept_past (t : W) (ht : Letters t) (h0 : t ≠ []) : Kept t (pastsL t) ∧ Letters (pastsL t) := by
  refine ⟨?_, (pasts_good t ht).1⟩
  have hk := (kept_step t (rulesL pastsP) pastMay good_pasts ht h0 past_may).1
  have hs : (stepL t (rulesL pastsP) pastMay).2 = true → pastCut t = true → (stepL t (rulesL pastsP) pastMay).1.length + 2 ≤ t.length := by
    intro h1 h2
    rcases step_cases t (rulesL pastsP) pastMay with h | ⟨r, hr, hb, hne, hle, _, h⟩
    · rw [h] at h1; cases h1
    · rw [h]
      unfold pastCut at h2
      simp only [← hb, Bool.and_eq_true, decide_eq_true_eq] at h2
      rw [past_rules] at hr
      simp only [List.mem_cons, List.mem_nil_iff, or_false] at hr
      have hls : (bs "ed").length = 2 := by decide +kernel
      have hl1 : (bs "ing").length = 3 := by decide +kernel
      rcases hr with rfl | rfl | rfl
      · exact absurd rfl h2.1.2
      · simp only [hls] at hle
        simp only [List.append_nil, List.length_take, hls]; omega
      · simp only [hl1] at hle
        simp only [List.append_nil, List.length_take, hl1]; omega
  have hel : (bs "e").length = 1 := by decide +kernel
  unfold pastsL
  simp only
  generalize stepL t (rulesL pastsP) pastMay = r at *
  split
  · exact hk
  · rename_i h
    rw [not_or] at h
    have hs' := hs (by simpa using h.1) (by simpa using h.2)
    have ha := head_append (b := bs "e") hk.ne
    split
    · exact ⟨ha.1, ha.2.trans hk.hd, by rw [List.length_append, hel]; omega⟩
    · split
      · rename_i hal
        have h2 : 1 < r.1.length := by
          rw [Bool.and_eq_true] at hal
          have := hal.1
          unfold alikeL at this
          simp at this
          exact this.1.1
        have k := head_take (t := r.1) (n := r.1.length - 1) (by omega) hk.ne
        exact ⟨k.1, k.2.trans hk.hd, by rw [List.length_take]; omega⟩
      · split
        · exact ⟨ha.1, ha.2.trans hk.hd, by rw [List.length_append, hel]; omega⟩
        · exact hk
theorem kept_ends (t : W) (ht : Letters t) (h0 : t ≠ []) : Kept t (endsF t) := by
  have hM : ∀ a e, lastMay a e = true → a ≠ [] := by
    rintro a e h rfl
    unfold lastMay at h
    rw [meas_nil] at h
    simp at h
  have hk := (kept_step t (rulesL endsP) lastMay good_ends ht h0 hM).1
  unfold endsF
  simp only
  generalize stepL t (rulesL endsP) lastMay = r at *
  split
  · rename_i h
    rw [Bool.and_eq_true, decide_eq_true_eq] at h
    have hm : measL r.1 ≤ r.1.length := by
      have := measGo_le (sndL r.1) false
      rw [sndL_len] at this
      exact this
    have k := head_take (t := r.1) (n := r.1.length - 1) (by omega) hk.ne
    exact ⟨k.1, k.2.trans hk.hd, by have := hk.le; rw [List.length_take]; omega⟩
  · exact hk
theorem stem_kept (t : W) (hp : plainB t = true) : Kept t (stemL t) := by
  unfold plainB at hp
  have hp' := hp
  rw [Bool.and_eq_true, decide_eq_true_eq, decide_eq_true_eq] at hp'
  have hs : stemL t = restL (pluralsL t) := by unfold stemL plainB; rw [if_pos hp]
  rw [hs]
  have k1 := kept_plural t hp'.1 hp'.2
  refine k1.1.trans ?_
  have n1 := k1.1.ne
  have l1 := k1.2
  clear k1 hs hp hp'
  generalize pluralsL t = x at *
  have k2 := kept_past x l1 n1
  have k3 := kept_step (pastsL x) (rulesL yP) (fun a _ => voicedL a) good_y k2.2 k2.1.ne (fun a e h => by rintro rfl; rw [voiced_nil] at h; cases h)
  have ha : ∀ a e, aboveMay a e = true → a ≠ [] := by
    rintro a e h rfl
    unfold aboveMay at h
    rw [meas_nil] at h
    simp at h
  have ht : ∀ a e, thirdMay a e = true → a ≠ [] := by
    rintro a e h rfl
    unfold thirdMay at h
    rw [meas_nil] at h
    simp at h
  have k4 := kept_step _ _ aboveMay (good_tab 0 (by omega)) k3.2 k3.1.ne ha
  have k5 := kept_step _ _ aboveMay (good_tab 1 (by omega)) k4.2 k4.1.ne ha
  have k6 := kept_step _ _ thirdMay (good_tab 2 (by omega)) k5.2 k5.1.ne ht
  have k7 := kept_ends _ k6.2 k6.1.ne
  exact k2.1.trans (k3.1.trans (k4.1.trans (k5.1.trans (k6.1.trans k7))))
theorem stem_none (t : W) (hp : plainB t = false) : stemL t = t := by unfold stemL; rw [hp]; rfl

theorem best_none (w : W) : ∀ (l : List Rule) (b : Rule), (∀ r ∈ l, endsL w r.1 = false) → bestL w l b = b
  | [], _, _ => rfl
  | r :: l, b, h => by
    unfold bestL
    rw [h r (by simp)]
    exact best_none w l b (fun x hx => h x (by simp [hx]))
theorem ends_snoc (t e : W) (c : UInt8) : endsL (t ++ [c]) (e ++ [c]) = endsL t e := by
  unfold endsL
  rw [← Lib.hasSuffix_of_drop, ← Lib.hasSuffix_of_drop]
  simp only [List.length_append, List.length_singleton, Nat.add_sub_add_right, Nat.add_le_add_iff_right]
  by_cases h : e.length ≤ t.length
  · have : (t ++ [c]).drop (t.length - e.length) = t.drop (t.length - e.length) ++ [c] := by rw [List.drop_append_of_le_length (by omega)]
    rw [this]
    congr 1
    rw [Bool.eq_iff_iff, beq_iff_eq, beq_iff_eq]
    exact List.append_left_inj _
  · simp [h]
theorem ends_last (t e : W) (c : UInt8) (h : endsL t (e ++ [c]) = true) : t.getLast? = some c := by
  have := ends_drop h
  have h2 : (t.drop (t.length - (e ++ [c]).length)).getLast? = some c := by rw [this.2]; simp
  rw [List.getLast?_drop] at h2
  split at h2
  · cases h2
  · exact h2
theorem plural_same (t : W) (hp : plainB t = true) (hs : t.getLast? ≠ some 115) (hie : endsL t (bs "ie") = false) (hsse : endsL t (bs "sse") = false) : stemL (t ++ [115]) = stemL t := by
  have hp2 : plainB (t ++ [115]) = true := by
    unfold plainB at *
    rw [Bool.and_eq_true, decide_eq_true_eq, decide_eq_true_eq] at *
    refine ⟨fun b hb => ?_, by simp; omega⟩
    rcases List.mem_append.1 hb with h | h
    · exact hp.1 b h
    · simp at h; subst h; decide
  have e4 : bs "sses" = bs "sse" ++ [115] := by decide +kernel
  have e3 : bs "ies" = bs "ie" ++ [115] := by decide +kernel
  have e2 : bs "ss" = [115] ++ [115] := by decide +kernel
  have e1 : bs "s" = [] ++ [115] := by decide +kernel
  have no : ∀ e : W, endsL t (e ++ [115]) = false := fun e => by
    cases h : endsL t (e ++ [115]) with
    | false => rfl
    | true => exact absurd (ends_last t e 115 h) hs
  have h1 : pluralsL t = t := by
    unfold pluralsL stepL
    rw [best_none t _ _ (by
      rw [plural_rules, e4, e3, e2, e1]
      intro r hr
      simp only [List.mem_cons, List.mem_nil_iff, or_false] at hr
      rcases hr with rfl | rfl | rfl | rfl <;> exact no _)]
    simp
  have h2 : pluralsL (t ++ [115]) = t := by
    have hb : bestL (t ++ [115]) (rulesL pluralsP) ([], []) = (bs "s", []) := by
      rw [plural_rules]
      have q4 : endsL (t ++ [115]) (bs "sses") = false := by rw [e4, ends_snoc]; exact hsse
      have q3 : endsL (t ++ [115]) (bs "ies") = false := by rw [e3, ends_snoc]; exact hie
      have q2 : endsL (t ++ [115]) (bs "ss") = false := by rw [e2, ends_snoc]; exact no []
      have q1 : endsL (t ++ [115]) (bs "s") = true := by rw [e1, ends_snoc]; exact ends_nil t
      have hl : decide (([] : W).length < (bs "s").length) = true := by decide +kernel
      simp only [bestL, q4, q3, q2, q1, hl, Bool.false_and, Bool.true_and, Bool.false_eq_true, if_false, if_true]
    unfold pluralsL stepL
    rw [hb]
    have hl : (bs "s").length = 1 := by decide +kernel
    have hn : bs "s" ≠ [] := by decide +kernel
    simp [hl, hn]
  unfold stemL
  rw [hp2, hp, h1, h2, if_pos rfl, if_pos rfl]
end Go.Proofs.YtcgfokeglgaffaaDoor
