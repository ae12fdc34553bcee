/- Plain laws: sounds, measures, steps, stems. -/
import GoSem.Claim
import Derived.Lib.Fields
import Derived.Lib.TrimByte
import Derived.Lib.Strings
import Derived.Laws.RangeAny
namespace Go.Proofs.YtcgfokeglgaffaaDoor

abbrev W := List UInt8
/-- A string of these bytes. -/
def S (l : W) : ByteArray := ⟨l.toArray⟩
theorem S_of (s : ByteArray) : S s.data.toList = s := rfl
theorem S_data (l : W) : (S l).data.toList = l := rfl
theorem S_list (l : W) : (S l).toList = l := by rw [ByteArray.toList_eq]; rfl
theorem S_size (l : W) : (S l).size = l.length := by simp [S, ByteArray.size]
theorem S_append (a b : W) : S a ++ S b = S (a ++ b) := by
  apply ByteArray.ext
  simp [S]
theorem S_get (l : W) (k : Nat) (h' : k < (S l).size) : (S l)[k]'h' = l[k]'(by rw [S_size] at h'; exact h') := by simp [S, ByteArray.getElem_eq_getElem_data]
theorem S_take (l : W) (n : Nat) : (S l).extract 0 n = S (l.take n) := by
  apply ByteArray.ext
  simp [S, ByteArray.extract, ByteArray.copySlice]
theorem S_drop (l : W) (n : Nat) : (S l).extract n l.length = S (l.drop n) := by
  apply ByteArray.ext
  simp [S, ByteArray.extract, ByteArray.copySlice]
  rw [List.take_of_length_le (by simp)]

def Letters (t : W) : Prop := ∀ b ∈ t, 97 ≤ b.toNat ∧ b.toNat ≤ 122

/-! ### Sounds -/
def vow (c : Nat) : Bool := decide (c = 97 ∨ c = 101 ∨ c = 105 ∨ c = 111 ∨ c = 117)
/-- Is a sign a vowel, behind others or none, behind a vowel or none? -/
def nextV (st la : Bool) (c : Nat) : Bool := if vow c then true else if c = 121 then st && !la else false
def sndGo : Bool → Bool → List Nat → List Bool
  | _, _, [] => []
  | st, la, c :: r => nextV st la c :: sndGo true (nextV st la c) r
/-- A string's signs from a place on. -/
theorem width_one (s : ByteArray) (i : Nat) (h : i < s.size) : 1 ≤ (Utf8.decode s i).2 := by
  by_cases ha : (s[i]'h).toNat < 128
  · rw [decode_ascii s i h ha]; exact Nat.le_refl _
  · exact (decode_high s i h (by omega)).2
def codes (s : ByteArray) (i : Nat) : List Nat := if i < s.size then (Utf8.decode s i).1 :: codes s (i + (Utf8.decode s i).2) else []
termination_by s.size - i
decreasing_by
  have := width_one s i ‹_›
  omega
theorem codes_lt (s : ByteArray) (i : Nat) (h : i < s.size) : codes s i = (Utf8.decode s i).1 :: codes s (i + (Utf8.decode s i).2) := by
  rw [codes, if_pos h]
theorem codes_end (s : ByteArray) (i : Nat) (h : ¬ i < s.size) : codes s i = [] := by rw [codes, if_neg h]
theorem codes_len (s : ByteArray) : ∀ (k i : Nat), s.size - i ≤ k → (codes s i).length ≤ k
  | 0, i, h => by rw [codes_end s i (by omega)]; simp
  | k + 1, i, h => by
    by_cases hi : i < s.size
    · rw [codes_lt s i hi]
      have := codes_len s k (i + (Utf8.decode s i).2) (by have := width_one s i hi; omega)
      simpa using this
    · rw [codes_end s i hi]; simp
theorem codes_ascii (l : W) (hl : ∀ b ∈ l, b.toNat < 128) : ∀ (k i : Nat), l.length - i ≤ k → codes (S l) i = (l.drop i).map UInt8.toNat
  | k, i, hk => by
    by_cases hi : i < l.length
    · have hs : i < (S l).size := by rw [S_size]; exact hi
      have hg := S_get l i hs
      have ha : ((S l)[i]'hs).toNat < 128 := by rw [hg]; exact hl _ (List.getElem_mem hi)
      rw [codes_lt _ i hs, decode_ascii _ i hs ha, hg, List.drop_eq_getElem_cons hi]
      cases k with
      | zero => omega
      | succ k => rw [codes_ascii l hl k (i + 1) (by omega)]; rfl
    · rw [codes_end _ i (by rw [S_size]; omega), List.drop_eq_nil_of_le (by omega)]; rfl
def snd (s : ByteArray) : List Bool := sndGo false false (codes s 0)
def measGo : Bool → List Bool → Nat
  | _, [] => 0
  | la, v :: r => (if la && !v then 1 else 0) + measGo v r
def meas (s : ByteArray) : Nat := measGo false (snd s)
theorem sndGo_len : ∀ (l : List Nat) (a b : Bool), (sndGo a b l).length = l.length
  | [], _, _ => rfl
  | c :: r, a, b => by simp [sndGo, sndGo_len r]
theorem snd_len (s : ByteArray) : (snd s).length ≤ s.size := by unfold snd; rw [sndGo_len]; exact codes_len s s.size 0 (by omega)
theorem measGo_le : ∀ (l : List Bool) (a : Bool), measGo a l ≤ l.length
  | [], _ => by simp [measGo]
  | v :: r, a => by
    have := measGo_le r v
    simp only [measGo, List.length_cons]
    split <;> omega
theorem meas_le (s : ByteArray) : meas s ≤ s.size := Nat.le_trans (measGo_le _ _) (snd_len s)

/-! ### Words of letters -/
def sndL (t : W) : List Bool := sndGo false false (t.map UInt8.toNat)
def measL (t : W) : Nat := measGo false (sndL t)
theorem snd_letters (t : W) (h : Letters t) : snd (S t) = sndL t := by
  unfold snd sndL
  rw [codes_ascii t (fun b hb => by have := h b hb; omega) t.length 0 (by omega), List.drop_zero]
theorem meas_letters (t : W) (h : Letters t) : meas (S t) = measL t := by unfold meas measL; rw [snd_letters t h]
theorem sndL_len (t : W) : (sndL t).length = t.length := by unfold sndL; rw [sndGo_len]; simp
def voicedL (t : W) : Bool := (sndL t).contains true
def lastL (t : W) (k : Nat) : Nat := ((t[t.length - k]?).getD 0).toNat
def lastV (t : W) (k : Nat) : Bool := ((sndL t)[t.length - k]?).getD false
def alikeL (t : W) : Bool := decide (1 < t.length ∧ lastL t 1 = lastL t 2) && !lastV t 1
def closedL (t : W) : Bool := decide (3 ≤ t.length) && !lastV t 3 && lastV t 2 && !lastV t 1 && !decide (lastL t 1 = 119 ∨ lastL t 1 = 120 ∨ lastL t 1 = 121)

abbrev Rule := W × W
def pairUp : List W → List Rule
  | a :: b :: r => (a, Lib.trimB b 45) :: pairUp r
  | _ => []
def rulesL (p : W) : List Rule := pairUp (Lib.fields p)
def endsL (w e : W) : Bool := Lib.hasSuffix w e
def bestL (w : W) : List Rule → Rule → Rule
  | [], b => b
  | r :: l, b => bestL w l (if endsL w r.1 && decide (b.1.length < r.1.length) then r else b)
def stepL (w : W) (l : List Rule) (may : W → W → Bool) : W × Bool :=
  let b := bestL w l ([], [])
  let ahead := w.take (w.length - b.1.length)
  if b.1 = [] ∨ may ahead b.1 = false then (w, false) else (ahead ++ b.2, true)
def bs (s : String) : W := s.toUTF8.toList
def pluralsP : W := bs "sses ss ies i ss ss s -"
def pastsP : W := bs "eed ee ed - ing -"
def endsP : W := bs "e -"
def yP : W := bs "y i"
def tabP : List W := [bs "ational ate tional tion enci ence anci ance izer ize abli able alli al entli ent eli e ousli ous ization ize ation ate ator ate alism al iveness ive fulness ful ousness ous aliti al iviti ive biliti ble",
  bs "icate ic ative - alize al iciti ic ical ic ful - ness -", bs "al - ance - ence - er - ic - able - ible - ant - ement - ment - ent - ion - ou - ism - ate - iti - ous - ive - ize -"]
def pluralsL (w : W) : W := (stepL w (rulesL pluralsP) (fun _ _ => true)).1
def pastMay (ahead e : W) : Bool := if e = bs "eed" then decide (0 < measL ahead) else voicedL ahead
/-- Was 'ed' or 'ing' cut? -/
def pastCut (w : W) : Bool :=
  let b := bestL w (rulesL pastsP) ([], [])
  decide (b.1 ≠ [] ∧ b.1 ≠ bs "eed") && voicedL (w.take (w.length - b.1.length))
def pastsL (w0 : W) : W :=
  let r := stepL w0 (rulesL pastsP) pastMay
  let w := r.1
  if r.2 = false ∨ pastCut w0 = false then w
  else if endsL w (bs "at") || endsL w (bs "bl") || endsL w (bs "iz") then w ++ bs "e"
  else if alikeL w && !decide (lastL w 1 = 108 ∨ lastL w 1 = 115 ∨ lastL w 1 = 122) then w.take (w.length - 1)
  else if decide (measL w = 1) && closedL w then w ++ bs "e"
  else w
def thirdMay (ahead e : W) : Bool := decide (1 < measL ahead) && (!decide (e = bs "ion") || endsL ahead (bs "s") || endsL ahead (bs "t"))
def lastMay (ahead _ : W) : Bool := decide (1 < measL ahead) || decide (measL ahead = 1) && !closedL ahead
def endsF (w0 : W) : W :=
  let w := (stepL w0 (rulesL endsP) lastMay).1
  if decide (1 < measL w) && endsL w (bs "ll") then w.take (w.length - 1) else w
def aboveMay (ahead _ : W) : Bool := decide (0 < measL ahead)
def restL (w : W) : W :=
  let w := pastsL w
  let w := (stepL w (rulesL yP) (fun a _ => voicedL a)).1
  let w := (stepL w (rulesL (tabP.getD 0 [])) aboveMay).1
  let w := (stepL w (rulesL (tabP.getD 1 [])) aboveMay).1
  let w := (stepL w (rulesL (tabP.getD 2 [])) thirdMay).1
  endsF w
def plainB (w : W) : Bool := decide (∀ b ∈ w, 97 ≤ b.toNat ∧ b.toNat ≤ 122) && decide (3 ≤ w.length)
def stemL (w : W) : W := if plainB w then restL (pluralsL w) else w
end Go.Proofs.YtcgfokeglgaffaaDoor
