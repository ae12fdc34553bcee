/- Plain law: what is torn is found out: first pieces of sectors of unlike marks, one upon the other, are a sector only where they are one of them. -/
import Derived.Test.YtpomfokpmbblkaaL14
namespace Go.Proofs.Ytpomfokpmbblkaa
open Go.RowKit

/-- A first piece of one row upon another. -/
def mix (k : Nat) (a b : List Nat) : List Nat := a.take k ++ b.drop k
theorem mix_length {k n : Nat} {a b : List Nat} (ha : a.length = n) (hb : b.length = n) (hk : k ≤ n) : (mix k a b).length = n := by simp [mix]; omega
theorem mix_at {k n : Nat} {a b : List Nat} (ha : a.length = n) (hk : k ≤ n) (j : Nat) : (mix k a b).getD j 0 = if j < k then a.getD j 0 else b.getD j 0 := by
  unfold mix
  have hl : (a.take k).length = k := by simp; omega
  simp only [List.getD_eq_getElem?_getD]
  by_cases h : j < k
  · rw [if_pos h, List.getElem?_append_left (by omega), List.getElem?_take, if_pos h]
  · rw [if_neg h, List.getElem?_append_right (by omega), hl, List.getElem?_drop]
    congr 2
    omega
theorem row_ext {n : Nat} {a b : List Nat} (ha : a.length = n) (hb : b.length = n) (h : ∀ j, j < n → a.getD j 0 = b.getD j 0) : a = b := by
  apply List.ext_getElem (by omega)
  intro j h1 h2
  have := h j (by omega)
  simpa [List.getD_eq_getElem?_getD, List.getElem?_eq_getElem h1, List.getElem?_eq_getElem h2] using this

def H (m j : Nat) : Nat := (head m).getD j 0
theorem H_low (m j : Nat) (h : j < 8) : H m j = (leb m 8).getD j 0 := by
  unfold H head
  simp only [List.getD_eq_getElem?_getD]
  rw [List.getElem?_append_left (by simp; omega)]
theorem H_high (m j : Nat) (h : j < 8) : H m (8 + j) = 255 - (leb m 8).getD j 0 := by
  unfold H head
  simp only [List.getD_eq_getElem?_getD]
  have h2 : j < (leb m 8).length := by simp; omega
  rw [List.getElem?_append_right (by simp)]
  simp [List.getElem?_eq_getElem h2]
theorem leb_inj {a b : Nat} (ha : a < 2 ^ 64) (hb : b < 2 ^ 64) (h : ∀ j, j < 8 → (leb a 8).getD j 0 = (leb b 8).getD j 0) : a = b := by
  have e : leb a 8 = leb b 8 := row_ext (n := 8) (by simp) (by simp) h
  rw [← num_leb 8 a ha, ← num_leb 8 b hb, e]
theorem low_inj {a b : Nat} (ha : a < 2 ^ 64) (hb : b < 2 ^ 64) (h : ∀ j, j < 8 → H a j = H b j) : a = b :=
  leb_inj ha hb fun j hj => by rw [← H_low a j hj, ← H_low b j hj, h j hj]
theorem leb_byte (m j : Nat) (h : j < 8) : (leb m 8).getD j 0 < 256 := by
  have h2 : j < (leb m 8).length := by simp; omega
  simp only [List.getD_eq_getElem?_getD, List.getElem?_eq_getElem h2, Option.getD_some]
  exact leb_lt m 8 _ (List.getElem_mem _)
theorem high_inj {a b : Nat} (ha : a < 2 ^ 64) (hb : b < 2 ^ 64) (h : ∀ j, j < 8 → H a (8 + j) = H b (8 + j)) : a = b :=
  leb_inj ha hb fun j hj => by
    have := h j hj
    rw [H_high a j hj, H_high b j hj] at this
    have := leb_byte a j hj
    have := leb_byte b j hj
    omega
theorem H_last (m : Nat) (h : m ≤ 4611686018427387904) : H m 15 ≠ 0 := by
  have := H_high m 7 (by omega)
  rw [show (8 + 7 : Nat) = 15 from rfl] at this
  rw [this]
  have e : (leb m 8).getD 7 0 = m / 2 ^ 56 % 256 := by simp [leb, List.range, List.range.loop]
  rw [e]
  omega

theorem sector_first (n m : Nat) (l : List Nat) (j : Nat) (hj : j < 16) : (sector n m l).getD j 0 = H m j := by
  unfold sector body H
  simp only [List.append_assoc, List.getD_eq_getElem?_getD]
  rw [List.getElem?_append_left (by simp; omega)]
theorem sector_last (n m : Nat) (l : List Nat) (hl : l.length + 36 ≤ n) (j : Nat) : (sector n m l).getD (n - 16 + j) 0 = H m j := by
  have hb := body_length (n := n) (m := m) (l := l) hl
  unfold sector H
  simp only [List.getD_eq_getElem?_getD]
  have e : (body n m l ++ leb (M.crc (body n m l)) 4).length = n - 16 := by rw [List.length_append, hb, leb_length]; omega
  rw [List.getElem?_append_right (by omega), e]
  congr 2
  omega

/-- What is a sector has its mark at both ends. -/
theorem ok_ends {s : List Nat} {n : Nat} (hb : ∀ b ∈ s, b < 256) (hn : s.length = n) (h1 : 64 ≤ n) (h : readOk s = true) :
    ∃ m, m < 2 ^ 64 ∧ m ≤ 4611686018427387904 ∧ (∀ j, j < 16 → s.getD j 0 = H m j) ∧ (∀ j, j < 16 → s.getD (n - 16 + j) 0 = H m j) := by
  rw [(readOk_eq s hb (by omega)).1] at h
  have h' := of_decide_eq_true h
  rw [hn] at h'
  obtain ⟨_, c2, c3⟩ := h'
  have hl : ((s.take (n - 20)).drop 16).length + 36 ≤ n := by simp [hn]; omega
  refine ⟨num (s.take 8), by omega, c2, fun j hj => ?_, fun j _ => ?_⟩
  · have := sector_first n (num (s.take 8)) ((s.take (n - 20)).drop 16) j hj
    rw [← c3] at this
    exact this
  · have := sector_last n (num (s.take 8)) ((s.take (n - 20)).drop 16) hl j
    rw [← c3] at this
    exact this

/-- Three rows, first pieces upon one another: the marks' places alone tell. The lowest row is a sector's (z is false) or holds only 0. -/
theorem torn (n k1 k2 m0 m1 m2 : Nat) (z : Bool) (S S0 S1 S2 : Nat → Nat) (h1 : 64 ≤ n) (hk1 : k1 ≤ n) (hk2 : k2 ≤ n)
    (hm0 : z = false → m0 < 2 ^ 64) (hm1 : m1 < 2 ^ 64) (hm2 : m2 < 2 ^ 64) (h01 : z = false → m0 ≠ m1) (h02 : z = false → m0 ≠ m2) (h12 : m1 ≠ m2)
    (hS : ∀ j, S j = if j < k2 then S2 j else if j < k1 then S1 j else S0 j)
    (a0 : z = false → ∀ j, j < 16 → S0 j = H m0 j) (b0 : z = false → ∀ j, j < 16 → S0 (n - 16 + j) = H m0 j) (z0 : z = true → S0 (n - 16 + 15) = 0)
    (a1 : ∀ j, j < 16 → S1 j = H m1 j) (b1 : ∀ j, j < 16 → S1 (n - 16 + j) = H m1 j)
    (a2 : ∀ j, j < 16 → S2 j = H m2 j) (b2 : ∀ j, j < 16 → S2 (n - 16 + j) = H m2 j)
    (m : Nat) (hm : m < 2 ^ 64) (hm' : m ≤ 4611686018427387904) (a : ∀ j, j < 16 → S j = H m j) (b : ∀ j, j < 16 → S (n - 16 + j) = H m j) :
    (∀ j, j < n → S j = S2 j) ∨ (∀ j, j < n → S j = S1 j) ∨ (z = false ∧ ∀ j, j < n → S j = S0 j) := by
  have n2 : ∀ j, j < k2 → S j = S2 j := fun j h => by rw [hS, if_pos h]
  have n1 : ∀ j, k2 ≤ j → j < k1 → S j = S1 j := fun j h h' => by rw [hS, if_neg (by omega), if_pos h']
  have n0 : ∀ j, k2 ≤ j → k1 ≤ j → S j = S0 j := fun j h h' => by rw [hS, if_neg (by omega), if_neg (by omega)]
  -- where all of the last 16 bytes are one sector's, or the halves of the first or last 16
  have fL : ∀ x (T : Nat → Nat), x < 2 ^ 64 → (∀ j, j < 16 → T j = H x j) → (∀ j, j < 8 → S j = T j) → m = x := fun x T hx hT h => low_inj hm hx fun j hj => by rw [← a j (by omega), h j hj, hT j (by omega)]
  have fH : ∀ x (T : Nat → Nat), x < 2 ^ 64 → (∀ j, j < 16 → T j = H x j) → (∀ j, j < 8 → S (8 + j) = T (8 + j)) → m = x := fun x T hx hT h => high_inj hm hx fun j hj => by rw [← a (8 + j) (by omega), h j hj, hT (8 + j) (by omega)]
  have gL : ∀ x (T : Nat → Nat), x < 2 ^ 64 → (∀ j, j < 16 → T (n - 16 + j) = H x j) → (∀ j, j < 8 → S (n - 16 + j) = T (n - 16 + j)) → m = x := fun x T hx hT h => low_inj hm hx fun j hj => by rw [← b j (by omega), h j hj, hT j (by omega)]
  have gH : ∀ x (T : Nat → Nat), x < 2 ^ 64 → (∀ j, j < 16 → T (n - 16 + j) = H x j) → (∀ j, j < 8 → S (n - 16 + (8 + j)) = T (n - 16 + (8 + j))) → m = x := fun x T hx hT h => high_inj hm hx fun j hj => by rw [← b (8 + j) (by omega), h j hj, hT (8 + j) (by omega)]
  -- a row that has m's ends agrees with S at the ends
  have ends : ∀ (T : Nat → Nat), (∀ j, j < 16 → T j = H m j) → (∀ j, j < 16 → T (n - 16 + j) = H m j) → (∀ j, 16 ≤ j → j < n - 16 → S j = T j) → ∀ j, j < n → S j = T j := fun T hA hB hM j hj => by
    by_cases q : j < 16
    · rw [a j q, hA j q]
    · by_cases q2 : j < n - 16
      · exact hM j (by omega) q2
      · have := b (j - (n - 16)) (by omega)
        rw [show n - 16 + (j - (n - 16)) = j by omega] at this
        rw [this, ← hB (j - (n - 16)) (by omega), show n - 16 + (j - (n - 16)) = j by omega]
  by_cases e2 : k2 = n
  · exact .inl fun j hj => n2 j (by omega)
  by_cases e1 : k1 = n
  · by_cases q : 16 ≤ k2
    · have hmm : m = m2 := fL m2 S2 hm2 a2 fun j hj => n2 j (by omega)
      by_cases q3 : k2 ≤ n - 16
      · exact absurd (hmm.symm.trans (gL m1 S1 hm1 b1 fun j hj => n1 _ (by omega) (by omega))) (Ne.symm h12)
      · subst hmm
        exact .inl (ends S2 a2 b2 fun j _ hj => n2 j (by omega))
    · have hmm : m = m1 := gL m1 S1 hm1 b1 fun j hj => n1 _ (by omega) (by omega)
      subst hmm
      exact .inr (.inl (ends S1 a1 b1 fun j hj _ => n1 j (by omega) (by omega)))
  · cases z with
    | true =>
      have := b 15 (by omega)
      rw [n0 _ (by omega) (by omega), z0 rfl] at this
      exact absurd this.symm (H_last m hm')
    | false =>
      have hm0 := hm0 rfl
      have h01 := h01 rfl
      have h02 := h02 rfl
      have a0 := a0 rfl
      have b0 := b0 rfl
      by_cases c1 : k1 ≤ n - 16
      · by_cases c2 : k2 ≤ n - 16
        · -- the last 16 are the lowest row's
          have hmm : m = m0 := gL m0 S0 hm0 b0 fun j hj => n0 _ (by omega) (by omega)
          by_cases c3 : 8 ≤ k2
          · exact absurd (hmm.symm.trans (fL m2 S2 hm2 a2 fun j hj => n2 j (by omega))) h02
          · by_cases c4 : 16 ≤ k1
            · exact absurd (hmm.symm.trans (fH m1 S1 hm1 a1 fun j hj => n1 _ (by omega) (by omega))) h01
            · subst hmm
              exact .inr (.inr ⟨rfl, ends S0 a0 b0 fun j hj _ => n0 j (by omega) (by omega)⟩)
        · have hmm : m = m2 := fL m2 S2 hm2 a2 fun j hj => n2 j (by omega)
          subst hmm
          exact .inl (ends S2 a2 b2 fun j _ hj => n2 j (by omega))
      · by_cases c2 : k2 ≤ n - 16
        · -- the last 16: the middle row's and the lowest one's
          by_cases t : n - 16 + 8 ≤ k1
          · have hmm : m = m1 := gL m1 S1 hm1 b1 fun j hj => n1 _ (by omega) (by omega)
            by_cases c3 : 8 ≤ k2
            · exact absurd (hmm.symm.trans (fL m2 S2 hm2 a2 fun j hj => n2 j (by omega))) h12
            · subst hmm
              exact .inr (.inl (ends S1 a1 b1 fun j hj hj' => n1 j (by omega) (by omega)))
          · have hmm : m = m0 := gH m0 S0 hm0 b0 fun j hj => n0 _ (by omega) (by omega)
            by_cases c3 : 8 ≤ k2
            · exact absurd (hmm.symm.trans (fL m2 S2 hm2 a2 fun j hj => n2 j (by omega))) h02
            · exact absurd (hmm.symm.trans (fH m1 S1 hm1 a1 fun j hj => n1 _ (by omega) (by omega))) h01
        · have hmm : m = m2 := fL m2 S2 hm2 a2 fun j hj => n2 j (by omega)
          subst hmm
          exact .inl (ends S2 a2 b2 fun j _ hj => n2 j (by omega))


theorem getD_zeros (z j : Nat) : (List.replicate z 0).getD j 0 = 0 := by
  rw [List.getD_eq_getElem?_getD, List.getElem?_replicate]
  split <;> rfl
/-- What may lie below a torn sector: nothing but 0, or a sector of another mark. -/
def Under (z m : Nat) (s : List Nat) : Prop := s = List.replicate z 0 ∨ ∃ m0 l, m0 < 2 ^ 64 ∧ m0 ≠ m ∧ l.length + 36 ≤ z ∧ (∀ b ∈ l, b < 256) ∧ s = sector z m0 l

/-- A first piece of a sector upon what may lie below: it reads as the one or the other, or as none. -/
theorem torn_two {z m k : Nat} {l s : List Nat} (h1 : 64 ≤ z) (hk : k ≤ z) (hm : m < 2 ^ 64) (hl : l.length + 36 ≤ z) (hb : ∀ b ∈ l, b < 256) (hs : Under z m s) (hok : readOk (mix k (sector z m l) s) = true) :
    mix k (sector z m l) s = sector z m l ∨ mix k (sector z m l) s = s := by
  have hls : s.length = z := by
    rcases hs with rfl | ⟨m0, l0, _, _, h0, _, rfl⟩
    · simp
    · exact sector_length h0
  have hbs : ∀ b ∈ s, b < 256 := by
    rcases hs with rfl | ⟨m0, l0, _, _, h0, hb0, rfl⟩
    · intro b hb; rw [List.eq_of_mem_replicate hb]; omega
    · exact sector_lt hb0
  have hln : (sector z m l).length = z := sector_length hl
  have hmb : ∀ b ∈ mix k (sector z m l) s, b < 256 := by
    intro b hb'
    unfold mix at hb'
    rcases List.mem_append.1 hb' with h | h
    · exact sector_lt hb b (List.mem_of_mem_take h)
    · exact hbs b (List.mem_of_mem_drop h)
  obtain ⟨m', hm', hm'', a, b⟩ := ok_ends hmb (mix_length hln hls hk) h1 hok
  have hl2 : ([] : List Nat).length + 36 ≤ z := by simp; omega
  have hS : ∀ m2 j, (mix k (sector z m l) s).getD j 0 = if j < 0 then (fun j => (sector z m2 []).getD j 0) j else if j < k then (fun j => (sector z m l).getD j 0) j else (fun j => s.getD j 0) j := fun m2 j => by
    rw [if_neg (by omega), mix_at hln hk]
  have other : ∀ x : Nat, ∃ a b : Nat, a < 2 ^ 64 ∧ b < 2 ^ 64 ∧ a ≠ b ∧ m ≠ a ∧ m ≠ b ∧ x ≠ a ∧ x ≠ b := by
    intro x
    refine ⟨if m ≠ 0 ∧ x ≠ 0 then 0 else if m ≠ 1 ∧ x ≠ 1 then 1 else 2, if m ≠ 3 ∧ x ≠ 3 then 3 else if m ≠ 4 ∧ x ≠ 4 then 4 else 5, ?_⟩
    refine ⟨?_, ?_, ?_, ?_, ?_, ?_, ?_⟩ <;> (repeat' split) <;> omega
  have both : ∀ a b : Nat, a < 2 ^ 64 → b < 2 ^ 64 → a ≠ b → (∀ j, j < z → (mix k (sector z m l) s).getD j 0 = (sector z a []).getD j 0) → (∀ j, j < z → (mix k (sector z m l) s).getD j 0 = (sector z b []).getD j 0) → False := by
    intro a b ha hb hab h h'
    refine hab (low_inj ha hb fun j hj => ?_)
    rw [← sector_first z a [] j (by omega), ← sector_first z b [] j (by omega), ← h j (by omega), ← h' j (by omega)]
  rcases hs with hs0 | ⟨m0, l0, hm0, hne, hl0, hb0, hs0⟩
  · obtain ⟨x, y, hx, hy, hxy, hmx, hmy, _, _⟩ := other m
    have go : ∀ m2, m2 < 2 ^ 64 → m ≠ m2 → (∀ j, j < z → (mix k (sector z m l) s).getD j 0 = (sector z m2 []).getD j 0) ∨ (∀ j, j < z → (mix k (sector z m l) s).getD j 0 = (sector z m l).getD j 0) := fun m2 hm2 hmm2 => by
      rcases torn z k 0 0 m m2 true _ _ _ _ h1 hk (by omega) (by simp) hm hm2 (by simp) (by simp) hmm2 (hS m2) (by simp) (by simp) (by intro _; rw [hs0]; exact getD_zeros z _) (fun j hj => sector_first z m l j hj) (fun j hj => sector_last z m l hl j)
        (fun j hj => sector_first z m2 [] j hj) (fun j hj => sector_last z m2 [] hl2 j) m' hm' hm'' a b with h | h | h
      · exact .inl h
      · exact .inr h
      · exact absurd h.1 (by simp)
    rcases go x hx hmx with h | h
    · rcases go y hy hmy with h' | h'
      · exact (both x y hx hy hxy h h').elim
      · exact .inl (row_ext (mix_length hln hls hk) hln h')
    · exact .inl (row_ext (mix_length hln hls hk) hln h)
  · obtain ⟨x, y, hx, hy, hxy, hmx, hmy, h0x, h0y⟩ := other m0
    have go : ∀ m2, m2 < 2 ^ 64 → m ≠ m2 → m0 ≠ m2 → (∀ j, j < z → (mix k (sector z m l) s).getD j 0 = (sector z m2 []).getD j 0) ∨ (∀ j, j < z → (mix k (sector z m l) s).getD j 0 = (sector z m l).getD j 0) ∨ (∀ j, j < z → (mix k (sector z m l) s).getD j 0 = s.getD j 0) := fun m2 hm2 hmm2 h0m2 => by
      rcases torn z k 0 m0 m m2 false _ _ _ _ h1 hk (by omega) (fun _ => hm0) hm hm2 (fun _ => hne) (fun _ => h0m2) hmm2 (hS m2) (fun _ j hj => by rw [hs0]; exact sector_first z m0 l0 j hj) (fun _ j hj => by rw [hs0]; exact sector_last z m0 l0 hl0 j) (by simp)
        (fun j hj => sector_first z m l j hj) (fun j hj => sector_last z m l hl j)
        (fun j hj => sector_first z m2 [] j hj) (fun j hj => sector_last z m2 [] hl2 j) m' hm' hm'' a b with h | h | h
      · exact .inl h
      · exact .inr (.inl h)
      · exact .inr (.inr h.2)
    rcases go x hx hmx h0x with h | h | h
    · rcases go y hy hmy h0y with h' | h' | h'
      · exact (both x y hx hy hxy h h').elim
      · exact .inl (row_ext (mix_length hln hls hk) hln h')
      · exact .inr (row_ext (mix_length hln hls hk) hls h')
    · exact .inl (row_ext (mix_length hln hls hk) hln h)
    · exact .inr (row_ext (mix_length hln hls hk) hls h)
end Go.Proofs.Ytpomfokpmbblkaa
