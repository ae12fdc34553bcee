/- Plain laws: the stop words; the halving finds what is there. -/
import Derived.Test.YtmdmejfcknaokaaDoorMath2
import Derived.Shelf.Spec.SearchS
import Derived.Lib.Fields
namespace Go.Proofs.YtmdmejfcknaokaaDoor

def stopText : List Nat := bytesOf "a an and are as at be but by for if in into is it no not of on or such that the their then there these they this to was will with"
def stopsU : List (List UInt8) := Lib.fields (str stopText).data.toList
def stopTextR : List Nat := bytesOf "a an and are as at be but by for if in into is it no not of on or such that the their then there these they this to was will with "
theorem stops_len : stopsU.length = 33 := by decide +kernel
theorem stops_sorted : stopsU.Pairwise (fun a b => Op.bytesLess a b = true) := by decide +kernel
theorem stops_pieces : ∀ n < 33, (str (piece stopTextR n)).data.toList = stopsU.getD n [] := by decide +kernel
theorem stops_none : ([] : List UInt8) ∉ stopsU := by decide +kernel
/-- Is it a stop word? -/
def StopB (x : ByteArray) : Bool := decide (x.data.toList ∈ stopsU)

theorem less_irr : ∀ a : List UInt8, Op.bytesLess a a = false
  | [] => rfl
  | a :: l => by simp [Op.bytesLess, less_irr l, UInt8.lt_irrefl]
theorem less_trans : ∀ a b c : List UInt8, Op.bytesLess a b = true → Op.bytesLess b c = true → Op.bytesLess a c = true
  | _, [], _, h, _ => by simp [Op.bytesLess] at h
  | _, _ :: _, [], _, h => by simp [Op.bytesLess] at h
  | [], _ :: _, _ :: _, _, _ => rfl
  | a :: x, b :: y, c :: z, h, k => by
    simp only [Op.bytesLess, Bool.or_eq_true, decide_eq_true_eq, Bool.and_eq_true, beq_iff_eq] at *
    rcases h with h | ⟨rfl, h⟩ <;> rcases k with k | ⟨rfl, k⟩
    · exact Or.inl (UInt8.lt_trans h k)
    · exact Or.inl h
    · exact Or.inl k
    · exact Or.inr ⟨rfl, less_trans x y z h k⟩

theorem head_len (p : List UInt8 → Bool) : ∀ l : List (List UInt8), ∃ k, k ≤ l.length ∧ (∀ t (h : t < l.length), t < k → p l[t] = true) ∧ (∀ h : k < l.length, p l[k] = false)
  | [] => ⟨0, by simp, fun t h => by simp at h, fun h => by simp at h⟩
  | a :: l => by
    cases ha : p a with
    | false => exact ⟨0, by simp, fun t _ h => by omega, fun _ => ha⟩
    | true =>
      obtain ⟨k, h1, h2, h3⟩ := head_len p l
      refine ⟨k + 1, by simpa using h1, ?_, ?_⟩
      · intro t h ht
        cases t with
        | zero => exact ha
        | succ t => exact h2 t (by simpa using h) (by omega)
      · intro h
        exact h3 (by simpa using h)
/-- The halving at a row that grows strictly: is the target there? -/
theorem search_mem (l : List (List UInt8)) (hs : l.Pairwise (fun a b => Op.bytesLess a b = true)) (x : List UInt8) (S : Nat → List UInt8) (hS : ∀ (j : Nat) (h : j < l.length), S j = l[j]) (hT : ∀ j, l.length ≤ j → Op.bytesLess (S j) x = false) :
    (Lib.bsGo (fun t => Op.bytesLess (S t) x) l.length 0 l.length < l.length ∧ S (Lib.bsGo (fun t => Op.bytesLess (S t) x) l.length 0 l.length) = x) ↔ x ∈ l := by
  have hp := List.pairwise_iff_getElem.1 hs
  obtain ⟨k, hkl, hk1, hk0⟩ := head_len (fun a => Op.bytesLess a x) l
  have h1 : ∀ t, t < k → Op.bytesLess (S t) x = true := by
    intro t ht
    have htl : t < l.length := by omega
    rw [hS t htl]
    exact hk1 t htl ht
  have h2 : ∀ t, k ≤ t → Op.bytesLess (S t) x = false := by
    intro t ht
    by_cases htl : t < l.length
    · rw [hS t htl]
      have hkl : k < l.length := by omega
      by_cases e : t = k
      · subst e; exact hk0 htl
      · cases hb : Op.bytesLess l[t] x with
        | false => rfl
        | true =>
          have := less_trans _ _ _ (hp k t hkl htl (by omega)) hb
          rw [hk0 hkl] at this; cases this
    · exact hT t (by omega)
  rw [Lib.bsGo_spec (fun t => Op.bytesLess (S t) x) k h1 h2 l.length 0 l.length (by omega) (by omega) hkl]
  constructor
  · rintro ⟨h, e⟩
    rw [hS k h] at e
    rw [← e]; exact List.getElem_mem h
  · intro hx
    obtain ⟨j, hj, rfl⟩ := List.getElem_of_mem hx
    have hjk : j = k := by
      rcases Nat.lt_trichotomy j k with h | h | h
      · have := h1 j h
        rw [hS j hj, less_irr] at this; cases this
      · exact h
      · have hkl : k < l.length := by omega
        have := hk0 hkl
        rw [hp k j hkl hj h] at this; cases this
    subst hjk
    exact ⟨hj, hS j hj⟩

/-! ### Words, reckoned with fuel -/
def toksF (s : ByteArray) : Nat → Nat → List (Nat × List Nat)
  | 0, _ => []
  | k + 1, i => if i < s.size then (i, fold (signR s i).1) :: toksF s k (i + (signR s i).2) else [(s.size, [])]
theorem toks_fuel (s : ByteArray) : ∀ (k i : Nat), s.size - i < k → toks s i = toksF s k i
  | 0, i, h => by omega
  | k + 1, i, h => by
    unfold toksF
    by_cases hi : i < s.size
    · rw [toks_lt s i hi, if_pos hi, toks_fuel s k _ (by have := sign_pos s i; omega)]
    · rw [toks_end s i hi, if_neg hi]
def wordsF (s : ByteArray) (k : Nat) : List Wd := wm (toksF s k 0) none
theorem words_fuel (s : ByteArray) (k : Nat) (h : s.size < k) : wordsL s = wordsF s k := by unfold wordsL wordsF; rw [toks_fuel s k 0 (by omega)]
def awakeT : ByteArray := ⟨#[195, 156, 98, 101, 114, 45, 71, 114, 195, 182, 195, 159, 101, 32, 52, 50]⟩
theorem words_awake : wordsL awakeT = [([117, 98, 101, 114], 0, 5), ([103, 114, 111, 115, 115, 101], 6, 13), ([52, 50], 14, 16)] := by
  rw [words_fuel awakeT 17 (by decide +kernel)]
  decide +kernel
end Go.Proofs.YtmdmejfcknaokaaDoor
