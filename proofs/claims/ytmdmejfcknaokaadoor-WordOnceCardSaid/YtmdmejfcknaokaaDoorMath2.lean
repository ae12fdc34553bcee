/- Plain laws: a text's signs, its words. -/
import Derived.Test.YtmdmejfcknaokaaDoorMath
namespace Go.Proofs.YtmdmejfcknaokaaDoor

theorem sign_pos (s : ByteArray) (i : Nat) : 1 ≤ (signR s i).2 ∧ (signR s i).2 ≤ 4 := by
  unfold signR
  simp only
  repeat' split
  all_goals simp
theorem contB_lt {s : ByteArray} {i : Nat} (h : contB s i = true) : i < s.size := (of_decide_eq_true h).1
theorem sign_last (s : ByteArray) (i : Nat) : (signR s i).2 = 1 ∨ contB s (i + ((signR s i).2 - 1)) = true := by
  unfold signR
  simp only
  split
  · exact Or.inl rfl
  · split
    · split
      · rename_i h
        split
        · exact Or.inr h
        · exact Or.inl rfl
      · exact Or.inl rfl
    · split
      · split
        · rename_i h
          split
          · exact Or.inr (by rw [Bool.and_eq_true] at h; exact h.2)
          · exact Or.inl rfl
        · exact Or.inl rfl
      · split
        · split
          · rename_i h
            split
            · exact Or.inr (by rw [Bool.and_eq_true] at h; exact h.2)
            · exact Or.inl rfl
          · exact Or.inl rfl
        · exact Or.inl rfl
theorem sign_end (s : ByteArray) (i : Nat) (hi : i < s.size) : i + (signR s i).2 ≤ s.size := by
  have h1 := sign_pos s i
  rcases sign_last s i with h | h
  · omega
  · have := contB_lt h
    omega

/-- What a text's signs become, and where each stands; the last one is nothing, at the end. -/
def toks (s : ByteArray) (i : Nat) : List (Nat × List Nat) :=
  if i < s.size then (i, fold (signR s i).1) :: toks s (i + (signR s i).2) else [(s.size, [])]
termination_by s.size - i
decreasing_by
  have := sign_pos s i
  omega
theorem toks_lt (s : ByteArray) (i : Nat) (h : i < s.size) : toks s i = (i, fold (signR s i).1) :: toks s (i + (signR s i).2) := by
  rw [toks, if_pos h]
theorem toks_end (s : ByteArray) (i : Nat) (h : ¬ i < s.size) : toks s i = [(s.size, [])] := by
  rw [toks, if_neg h]

abbrev Wd := List Nat × Nat × Nat
def cutW (t : List Nat) (c : Bool) (f : List Nat) : Bool := c || decide (32 < t.length + f.length)
def putW (t : List Nat) (c : Bool) (f : List Nat) : List Nat := if cutW t c f then t else t ++ f
/-- The words of a row of signs. -/
def wm : List (Nat × List Nat) → Option (Nat × List Nat × Bool) → List Wd
  | [], _ => []
  | (i, f) :: r, none => if f = [] then wm r none else wm r (some (i, putW [] false f, cutW [] false f))
  | (i, f) :: r, some (a, t, c) => if f = [] then (t, a, i) :: wm r none else wm r (some (a, putW t c f, cutW t c f))
def wordsL (s : ByteArray) : List Wd := wm (toks s 0) none

theorem enc_len (c : Nat) : 1 ≤ (enc c).length ∧ (enc c).length ≤ 4 := by
  unfold enc
  repeat' split
  all_goals simp
theorem enc_small (c : Nat) (h : c ≤ 1114111) : ∀ b ∈ enc c, b < 256 := by
  unfold enc
  intro b
  repeat' split
  all_goals
    simp only [List.mem_cons, List.not_mem_nil, or_false]
    omega
theorem look_mem (c : Int) : ∀ l : List (Nat × Nat × List Nat), lookT c l = [] ∨ ∃ e ∈ l, lookT c l = e.2.2
  | [] => Or.inl rfl
  | e :: r => by
    unfold lookT
    split
    · exact Or.inr ⟨e, by simp, rfl⟩
    · rcases look_mem c r with h | ⟨x, hx, h⟩
      · exact Or.inl h
      · exact Or.inr ⟨x, by simp [hx], h⟩
theorem runs_fine : ∀ e ∈ runsT, e.2.2.length ≤ 4 ∧ (∀ b ∈ e.2.2, 97 ≤ b ∧ b ≤ 122) ∧ e.2.2 ≠ [] := by decide +kernel
theorem apart_no (c : Int) (h : apart c = false) : Utf8.valid c = true := by
  unfold apart at h
  simp at h
  exact h.2
theorem valid_le (c : Int) (h : Utf8.valid c = true) : 0 ≤ c ∧ c ≤ 1114111 := by
  unfold Utf8.valid at h
  simp at h
  omega
/-- What a sign becomes: nothing, or its own bytes, or letters. -/
theorem fold_cases (c : Int) : fold c = [] ∨ (∃ n : Nat, fold c = enc n ∧ n ≤ 1114111 ∧ (97 ≤ n ∧ n ≤ 122 ∨ 48 ≤ n ∧ n ≤ 57 ∨ 384 ≤ n ∧ apart (n : Int) = false)) ∨ (fold c ≠ [] ∧ (fold c).length ≤ 4 ∧ ∀ b ∈ fold c, 97 ≤ b ∧ b ≤ 122) := by
  unfold fold
  split
  · exact Or.inr (Or.inl ⟨c.toNat, rfl, by omega, by omega⟩)
  · split
    · exact Or.inr (Or.inl ⟨(c + 32).toNat, rfl, by omega, by omega⟩)
    · split
      · cases h : apart c with
        | true => exact Or.inl rfl
        | false =>
          have := valid_le c (apart_no c h)
          refine Or.inr (Or.inl ⟨c.toNat, rfl, by omega, Or.inr (Or.inr ⟨by omega, ?_⟩)⟩)
          rw [show ((c.toNat : Nat) : Int) = c by omega]; exact h
      · rcases look_mem (if 0xE0 ≤ c ∧ c ≤ 0xFE then c - 32 else c) runsT with h | ⟨e, he, h⟩
        · exact Or.inl h
        · have := runs_fine e he
          rw [h]
          exact Or.inr (Or.inr ⟨this.2.2, this.1, this.2.1⟩)
theorem fold_len (c : Int) : (fold c).length ≤ 4 := by
  rcases fold_cases c with h | ⟨n, h, _⟩ | h
  · rw [h]; simp
  · rw [h]; exact (enc_len n).2
  · exact h.2.1
theorem fold_small (c : Int) : ∀ b ∈ fold c, b < 256 := by
  rcases fold_cases c with h | ⟨n, h, hn, _⟩ | h
  · rw [h]; simp
  · rw [h]; exact enc_small n hn
  · intro b hb; have := h.2.2 b hb; omega
theorem putW_le (t : List Nat) (c : Bool) (f : List Nat) (h : t.length ≤ 32) : (putW t c f).length ≤ 32 := by
  unfold putW cutW
  split
  · exact h
  · rename_i hc
    simp at hc
    simp; omega
theorem toks_len (s : ByteArray) : ∀ (k i : Nat), s.size - i ≤ k → (toks s i).length ≤ k + 1
  | 0, i, h => by rw [toks_end s i (by omega)]; simp
  | k + 1, i, h => by
    by_cases hi : i < s.size
    · rw [toks_lt s i hi]
      have := toks_len s k (i + (signR s i).2) (by have := sign_pos s i; omega)
      simpa using this
    · rw [toks_end s i hi]; simp
theorem wm_len : ∀ (l : List (Nat × List Nat)) (st : Option (Nat × List Nat × Bool)), (wm l st).length ≤ l.length
  | [], _ => by simp [wm]
  | (i, f) :: r, none => by
    unfold wm
    split
    · have := wm_len r none; simp; omega
    · have := wm_len r (some (i, putW [] false f, cutW [] false f)); simp; omega
  | (i, f) :: r, some (a, t, c) => by
    unfold wm
    split
    · have := wm_len r none; simp; omega
    · have := wm_len r (some (a, putW t c f, cutW t c f)); simp; omega
theorem words_len (s : ByteArray) : (wordsL s).length ≤ s.size + 1 := Nat.le_trans (wm_len _ _) (toks_len s s.size 0 (by omega))
theorem wm_skip {i : Nat} {f : List Nat} {r : List (Nat × List Nat)} (h : f = []) : wm ((i, f) :: r) none = wm r none := by
  simp only [wm, h, if_true]
theorem wm_start {i : Nat} {f : List Nat} {r : List (Nat × List Nat)} (h : f ≠ []) : wm ((i, f) :: r) none = wm ((i, f) :: r) (some (i, [], false)) := by
  simp only [wm, h, if_false]
theorem wm_stop {i a : Nat} {t f : List Nat} {c : Bool} {r : List (Nat × List Nat)} (h : f = []) : wm ((i, f) :: r) (some (a, t, c)) = (t, a, i) :: wm r none := by
  simp only [wm, h, if_true]
theorem wm_go {i a : Nat} {t f : List Nat} {c : Bool} {r : List (Nat × List Nat)} (h : f ≠ []) : wm ((i, f) :: r) (some (a, t, c)) = wm r (some (a, putW t c f, cutW t c f)) := by
  simp only [wm, h, if_false]

/-- One sign: what is told, and what stands then. -/
abbrev WSt := Option (Nat × List Nat × Bool)
def emitW (i : Nat) (f : List Nat) : WSt → List Wd
  | none => []
  | some (a, t, _) => if f = [] then [(t, a, i)] else []
def nextW (i : Nat) (f : List Nat) : WSt → WSt
  | none => if f = [] then none else some (i, putW [] false f, cutW [] false f)
  | some (a, t, c) => if f = [] then none else some (a, putW t c f, cutW t c f)
theorem wm_step (i : Nat) (f : List Nat) (r : List (Nat × List Nat)) (st : WSt) : wm ((i, f) :: r) st = emitW i f st ++ wm r (nextW i f st) := by
  rcases st with _ | ⟨a, t, c⟩ <;> by_cases h : f = [] <;> simp [wm, emitW, nextW, h]
def frW : WSt → Int
  | none => -1
  | some (a, _, _) => a
def cuW : WSt → Bool
  | none => false
  | some (_, _, c) => c
def tW : WSt → List Nat
  | none => []
  | some (_, t, _) => t
/-- What stands is fine: a word that is begun has something, at most 32. -/
def OkW : WSt → Prop
  | none => True
  | some (_, t, _) => t ≠ [] ∧ t.length ≤ 32
theorem OkW.next {i : Nat} {f : List Nat} {st : WSt} (h : OkW st) (hf : f.length ≤ 32) : OkW (nextW i f st) := by
  rcases st with _ | ⟨a, t, c⟩ <;> by_cases h0 : f = []
  · simp [nextW, h0, OkW]
  · have e : putW [] false f = f := by unfold putW cutW; simp; omega
    simp [nextW, h0, OkW, e, hf]
  · simp [nextW, h0, OkW]
  · simp only [nextW, h0, if_false, OkW]
    refine ⟨?_, putW_le t c f h.2⟩
    unfold putW
    split
    · exact h.1
    · intro e; exact h.1 (List.append_eq_nil_iff.1 e).1
theorem emitW_len (i : Nat) (f : List Nat) (st : WSt) : (emitW i f st).length ≤ 1 := by
  rcases st with _ | ⟨a, t, c⟩ <;> simp only [emitW] <;> (try split) <;> simp
end Go.Proofs.YtmdmejfcknaokaaDoor
