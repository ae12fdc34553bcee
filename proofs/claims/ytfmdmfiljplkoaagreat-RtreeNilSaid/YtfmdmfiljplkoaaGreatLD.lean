/- Plain laws: what is appended to a log is read again. No program in sight. Plain law: what is torn is found out: first pieces of sectors of unlike marks, one upon the other, are a sector only where they are one of them. Plain laws: what a log holds after its groups, also behind a crash. No program in sight. Plain laws: a log behind a crash: what was told is there, and nothing by halves. No program in sight. -/
import Derived.Test.YtfmdmfiljplkoaaGreatLC
namespace Go.Proofs.YtfmdmfiljplkoaaGreat
set_option maxRecDepth 8000
/-- A change's sector in slot i of epoch e, on sectors of z bytes. -/
def secAt (z e i : Nat) (x : (Int × List Nat) × Bool) : List Nat := sector z (e * 2097152 + i + 1) (leb x.1.1.toNat 8 ++ [if x.2 then 1 else 0] ++ x.1.2)
/-- May there be such a change? -/
structure ChOk (z : Nat) (c : Int × List Nat) : Prop where
  p0 : 0 ≤ c.1
  p1 : c.1 ≤ 2147483647
  len : c.2.length + 45 = z
  byt : ∀ b ∈ c.2, b < 256
theorem load_lt {c : Int × List Nat} {z : Nat} (h : ChOk z c) (f : Bool) : ∀ b ∈ leb c.1.toNat 8 ++ [if f then 1 else 0] ++ c.2, b < 256 := by
  intro b hb
  simp only [List.mem_append, List.mem_singleton] at hb
  rcases hb with (hb | hb) | hb
  · exact leb_lt _ _ b hb
  · subst hb; split <;> omega
  · exact h.byt b hb
theorem secAt_reads {z e i : Nat} {x : (Int × List Nat) × Bool} (h : ChOk z x.1) (h1 : 64 ≤ z) (he : 1 ≤ e ∧ e ≤ 1099511627776) (hi : i ≤ 1048576) :
    readOk (secAt z e i x) = true ∧ readMark (secAt z e i x) = (e * 2097152 + i + 1 : Nat) ∧ readLoad (secAt z e i x) = leb x.1.1.toNat 8 ++ [if x.2 then 1 else 0] ++ x.1.2 ∧ readErr (secAt z e i x) = 0 := by
  have hl := h.len
  have hlen : (leb x.1.1.toNat 8 ++ [if x.2 then 1 else 0] ++ x.1.2).length = z - 36 := by simp; omega
  have := sector_reads z (e * 2097152 + i + 1) (leb x.1.1.toNat 8 ++ [if x.2 then 1 else 0] ++ x.1.2) h1 (by omega) (by omega) (by omega) (load_lt h x.2)
  rw [hlen, Nat.sub_self, List.replicate_zero, List.append_nil] at this
  exact this
theorem secAt_slot {z e i : Nat} {x : (Int × List Nat) × Bool} (h : ChOk z x.1) (h1 : 64 ≤ z) (he : 1 ≤ e ∧ e ≤ 1099511627776) (hi : i ≤ 1048576) :
    slotOk (secAt z e i x) i = true ∧ slotEp (secAt z e i x) i = e ∧ chOf (slotLoad (secAt z e i x) i) = some x := by
  obtain ⟨r1, r2, r3, r4⟩ := secAt_reads h h1 he hi
  have hE : slotE (secAt z e i x) i = e := by unfold slotE; rw [r2]; omega
  have hok : slotOk (secAt z e i x) i = true := by
    unfold slotOk
    rw [hE, r4, r2]
    have : okEp (e : Int) = true := by unfold okEp; exact decide_eq_true (by omega)
    rw [this]
    simp
  refine ⟨hok, by rw [(slot_yes hok).1, hE], ?_⟩
  rw [(slot_yes hok).2.1, r3]
  have t8 : (leb x.1.1.toNat 8 ++ [if x.2 then 1 else 0] ++ x.1.2).take 8 = leb x.1.1.toNat 8 := by
    rw [List.append_assoc]; exact List.take_left' (by simp)
  have d9 : (leb x.1.1.toNat 8 ++ [if x.2 then 1 else 0] ++ x.1.2).drop 9 = x.1.2 := List.drop_left' (by simp)
  have g8 : (leb x.1.1.toNat 8 ++ [if x.2 then 1 else 0] ++ x.1.2)[8]? = some (if x.2 then 1 else 0) := by
    rw [List.append_assoc, List.getElem?_append_right (by simp)]
    simp
  have hp := h.p1
  have hp0 := h.p0
  have hn : num (leb x.1.1.toNat 8) = x.1.1.toNat := num_leb 8 _ (by omega)
  unfold chOf
  rw [t8, d9, g8, hn, Option.getD_some]
  rw [if_neg (by split <;> omega)]
  have : ((x.1.1.toNat : Nat) : Int) = x.1.1 := by omega
  rw [this]
  obtain ⟨c, f⟩ := x
  cases f <;> rfl
/-- A group's changes, the last one marked. -/
def fl : List (Int × List Nat) → List ((Int × List Nat) × Bool)
  | [] => []
  | c :: r => (c, r.isEmpty) :: fl r
@[simp] theorem fl_length : ∀ g, (fl g).length = g.length
  | [] => rfl
  | c :: r => by simp [fl, fl_length r]
def flat (rows : List (List (Int × List Nat))) : List ((Int × List Nat) × Bool) := rows.flatMap fl
def says (e : Int) (x : (Int × List Nat) × Bool) : Int × Option ((Int × List Nat) × Bool) := (e, some x)
/-- The writes of a group, from slot i on. -/
def wr (z e f : Nat) : Nat → List ((Int × List Nat) × Bool) → List (Int × List Nat)
  | _, [] => []
  | i, x :: r => ((f : Int) + i, secAt z e i x) :: wr z e f (i + 1) r
@[simp] theorem wr_length (z e f : Nat) : ∀ (xs : List ((Int × List Nat) × Bool)) (i : Nat), (wr z e f i xs).length = xs.length
  | [], _ => rfl
  | x :: r, i => by simp [wr, wr_length z e f r]
end Go.Proofs.YtfmdmfiljplkoaaGreat
namespace Go.Proofs.YtfmdmfiljplkoaaGreat
open Go.RowKit
/-- A first piece of one row upon another. -/
def mix (k : Nat) (a b : List Nat) : List Nat := a.take k ++ b.drop k
theorem row_ext {n : Nat} {a b : List Nat} (ha : a.length = n) (hb : b.length = n) (h : ∀ j, j < n → a.getD j 0 = b.getD j 0) : a = b := by
  apply List.ext_getElem (by omega)
  intro j h1 h2
  have := h j (by omega)
  simpa [List.getD_eq_getElem?_getD, List.getElem?_eq_getElem h1, List.getElem?_eq_getElem h2] using this
def H (m j : Nat) : Nat := (head m).getD j 0
theorem H_low (m j : Nat) (h : j < 8) : H m j = (leb m 8).getD j 0 := by
  unfold H head
  simp only [List.getD_eq_getElem?_getD]
  rw [List.getElem?_append_left (by simp; omega)]
theorem H_high (m j : Nat) (h : j < 8) : H m (8 + j) = 255 - (leb m 8).getD j 0 := by
  unfold H head
  simp only [List.getD_eq_getElem?_getD]
  have h2 : j < (leb m 8).length := by simp; omega
  rw [List.getElem?_append_right (by simp)]
  simp [List.getElem?_eq_getElem h2]
theorem leb_inj {a b : Nat} (ha : a < 2 ^ 64) (hb : b < 2 ^ 64) (h : ∀ j, j < 8 → (leb a 8).getD j 0 = (leb b 8).getD j 0) : a = b := by
  have e : leb a 8 = leb b 8 := row_ext (n := 8) (by simp) (by simp) h
  rw [← num_leb 8 a ha, ← num_leb 8 b hb, e]
theorem low_inj {a b : Nat} (ha : a < 2 ^ 64) (hb : b < 2 ^ 64) (h : ∀ j, j < 8 → H a j = H b j) : a = b :=
  leb_inj ha hb fun j hj => by rw [← H_low a j hj, ← H_low b j hj, h j hj]
theorem leb_byte (m j : Nat) (h : j < 8) : (leb m 8).getD j 0 < 256 := by
  have h2 : j < (leb m 8).length := by simp; omega
  simp only [List.getD_eq_getElem?_getD, List.getElem?_eq_getElem h2, Option.getD_some]
  exact leb_lt m 8 _ (List.getElem_mem _)
theorem high_inj {a b : Nat} (ha : a < 2 ^ 64) (hb : b < 2 ^ 64) (h : ∀ j, j < 8 → H a (8 + j) = H b (8 + j)) : a = b :=
  leb_inj ha hb fun j hj => by
    have := h j hj
    rw [H_high a j hj, H_high b j hj] at this
    have := leb_byte a j hj
    have := leb_byte b j hj
    omega
theorem H_last (m : Nat) (h : m ≤ 4611686018427387904) : H m 15 ≠ 0 := by
  have := H_high m 7 (by omega)
  rw [show (8 + 7 : Nat) = 15 from rfl] at this
  rw [this]
  have e : (leb m 8).getD 7 0 = m / 2 ^ 56 % 256 := by simp [leb, List.range, List.range.loop]
  rw [e]
  omega
theorem sector_first (n m : Nat) (l : List Nat) (j : Nat) (hj : j < 16) : (sector n m l).getD j 0 = H m j := by
  unfold sector body H
  simp only [List.append_assoc, List.getD_eq_getElem?_getD]
  rw [List.getElem?_append_left (by simp; omega)]
theorem sector_last (n m : Nat) (l : List Nat) (hl : l.length + 36 ≤ n) (j : Nat) : (sector n m l).getD (n - 16 + j) 0 = H m j := by
  have hb := body_length (n := n) (m := m) (l := l) hl
  unfold sector H
  simp only [List.getD_eq_getElem?_getD]
  have e : (body n m l ++ leb (M.crc (body n m l)) 4).length = n - 16 := by rw [List.length_append, hb, leb_length]; omega
  rw [List.getElem?_append_right (by omega), e]
  congr 2
  omega
/-- What is a sector has its mark at both ends. -/
theorem ok_ends {s : List Nat} {n : Nat} (hb : ∀ b ∈ s, b < 256) (hn : s.length = n) (h1 : 64 ≤ n) (h : readOk s = true) :
    ∃ m, m < 2 ^ 64 ∧ m ≤ 4611686018427387904 ∧ (∀ j, j < 16 → s.getD j 0 = H m j) ∧ (∀ j, j < 16 → s.getD (n - 16 + j) 0 = H m j) := by
  rw [(readOk_eq s hb (by omega)).1] at h
  have h' := of_decide_eq_true h
  rw [hn] at h'
  obtain ⟨_, c2, c3⟩ := h'
  have hl : ((s.take (n - 20)).drop 16).length + 36 ≤ n := by simp [hn]; omega
  refine ⟨num (s.take 8), by omega, c2, fun j hj => ?_, fun j _ => ?_⟩
  · have := sector_first n (num (s.take 8)) ((s.take (n - 20)).drop 16) j hj
    rw [← c3] at this
    exact this
  · have := sector_last n (num (s.take 8)) ((s.take (n - 20)).drop 16) hl j
    rw [← c3] at this
    exact this
/-- Three rows, first pieces upon one another: the marks' places alone tell. The lowest row is a sector's (z is false) or holds only 0. -/
theorem torn (n k1 k2 m0 m1 m2 : Nat) (z : Bool) (S S0 S1 S2 : Nat → Nat) (h1 : 64 ≤ n) (hk1 : k1 ≤ n) (hk2 : k2 ≤ n)
    (hm0 : z = false → m0 < 2 ^ 64) (hm1 : m1 < 2 ^ 64) (hm2 : m2 < 2 ^ 64) (h01 : z = false → m0 ≠ m1) (h02 : z = false → m0 ≠ m2) (h12 : m1 ≠ m2)
    (hS : ∀ j, S j = if j < k2 then S2 j else if j < k1 then S1 j else S0 j)
    (a0 : z = false → ∀ j, j < 16 → S0 j = H m0 j) (b0 : z = false → ∀ j, j < 16 → S0 (n - 16 + j) = H m0 j) (z0 : z = true → S0 (n - 16 + 15) = 0)
    (a1 : ∀ j, j < 16 → S1 j = H m1 j) (b1 : ∀ j, j < 16 → S1 (n - 16 + j) = H m1 j)
    (a2 : ∀ j, j < 16 → S2 j = H m2 j) (b2 : ∀ j, j < 16 → S2 (n - 16 + j) = H m2 j)
    (m : Nat) (hm : m < 2 ^ 64) (hm' : m ≤ 4611686018427387904) (a : ∀ j, j < 16 → S j = H m j) (b : ∀ j, j < 16 → S (n - 16 + j) = H m j) :
    (∀ j, j < n → S j = S2 j) ∨ (∀ j, j < n → S j = S1 j) ∨ (z = false ∧ ∀ j, j < n → S j = S0 j) := by
  have n2 : ∀ j, j < k2 → S j = S2 j := fun j h => by rw [hS, if_pos h]
  have n1 : ∀ j, k2 ≤ j → j < k1 → S j = S1 j := fun j h h' => by rw [hS, if_neg (by omega), if_pos h']
  have n0 : ∀ j, k2 ≤ j → k1 ≤ j → S j = S0 j := fun j h h' => by rw [hS, if_neg (by omega), if_neg (by omega)]
  -- where all of the last 16 bytes are one sector's, or the halves of the first or last 16
  have fL : ∀ x (T : Nat → Nat), x < 2 ^ 64 → (∀ j, j < 16 → T j = H x j) → (∀ j, j < 8 → S j = T j) → m = x := fun x T hx hT h => low_inj hm hx fun j hj => by rw [← a j (by omega), h j hj, hT j (by omega)]
  have fH : ∀ x (T : Nat → Nat), x < 2 ^ 64 → (∀ j, j < 16 → T j = H x j) → (∀ j, j < 8 → S (8 + j) = T (8 + j)) → m = x := fun x T hx hT h => high_inj hm hx fun j hj => by rw [← a (8 + j) (by omega), h j hj, hT (8 + j) (by omega)]
  have gL : ∀ x (T : Nat → Nat), x < 2 ^ 64 → (∀ j, j < 16 → T (n - 16 + j) = H x j) → (∀ j, j < 8 → S (n - 16 + j) = T (n - 16 + j)) → m = x := fun x T hx hT h => low_inj hm hx fun j hj => by rw [← b j (by omega), h j hj, hT j (by omega)]
  have gH : ∀ x (T : Nat → Nat), x < 2 ^ 64 → (∀ j, j < 16 → T (n - 16 + j) = H x j) → (∀ j, j < 8 → S (n - 16 + (8 + j)) = T (n - 16 + (8 + j))) → m = x := fun x T hx hT h => high_inj hm hx fun j hj => by rw [← b (8 + j) (by omega), h j hj, hT (8 + j) (by omega)]
  -- a row that has m's ends agrees with S at the ends
  have ends : ∀ (T : Nat → Nat), (∀ j, j < 16 → T j = H m j) → (∀ j, j < 16 → T (n - 16 + j) = H m j) → (∀ j, 16 ≤ j → j < n - 16 → S j = T j) → ∀ j, j < n → S j = T j := fun T hA hB hM j hj => by
    by_cases q : j < 16
    · rw [a j q, hA j q]
    · by_cases q2 : j < n - 16
      · exact hM j (by omega) q2
      · have := b (j - (n - 16)) (by omega)
        rw [show n - 16 + (j - (n - 16)) = j by omega] at this
        rw [this, ← hB (j - (n - 16)) (by omega), show n - 16 + (j - (n - 16)) = j by omega]
  by_cases e2 : k2 = n
  · exact .inl fun j hj => n2 j (by omega)
  by_cases e1 : k1 = n
  · by_cases q : 16 ≤ k2
    · have hmm : m = m2 := fL m2 S2 hm2 a2 fun j hj => n2 j (by omega)
      by_cases q3 : k2 ≤ n - 16
      · exact absurd (hmm.symm.trans (gL m1 S1 hm1 b1 fun j hj => n1 _ (by omega) (by omega))) (Ne.symm h12)
      · subst hmm
        exact .inl (ends S2 a2 b2 fun j _ hj => n2 j (by omega))
    · have hmm : m = m1 := gL m1 S1 hm1 b1 fun j hj => n1 _ (by omega) (by omega)
      subst hmm
      exact .inr (.inl (ends S1 a1 b1 fun j hj _ => n1 j (by omega) (by omega)))
  · cases z with
    | true =>
      have := b 15 (by omega)
      rw [n0 _ (by omega) (by omega), z0 rfl] at this
      exact absurd this.symm (H_last m hm')
    | false =>
      have hm0 := hm0 rfl
      have h01 := h01 rfl
      have h02 := h02 rfl
      have a0 := a0 rfl
      have b0 := b0 rfl
      by_cases c1 : k1 ≤ n - 16
      · by_cases c2 : k2 ≤ n - 16
        · -- the last 16 are the lowest row's
          have hmm : m = m0 := gL m0 S0 hm0 b0 fun j hj => n0 _ (by omega) (by omega)
          by_cases c3 : 8 ≤ k2
          · exact absurd (hmm.symm.trans (fL m2 S2 hm2 a2 fun j hj => n2 j (by omega))) h02
          · by_cases c4 : 16 ≤ k1
            · exact absurd (hmm.symm.trans (fH m1 S1 hm1 a1 fun j hj => n1 _ (by omega) (by omega))) h01
            · subst hmm
              exact .inr (.inr ⟨rfl, ends S0 a0 b0 fun j hj _ => n0 j (by omega) (by omega)⟩)
        · have hmm : m = m2 := fL m2 S2 hm2 a2 fun j hj => n2 j (by omega)
          subst hmm
          exact .inl (ends S2 a2 b2 fun j _ hj => n2 j (by omega))
      · by_cases c2 : k2 ≤ n - 16
        · -- the last 16: the middle row's and the lowest one's
          by_cases t : n - 16 + 8 ≤ k1
          · have hmm : m = m1 := gL m1 S1 hm1 b1 fun j hj => n1 _ (by omega) (by omega)
            by_cases c3 : 8 ≤ k2
            · exact absurd (hmm.symm.trans (fL m2 S2 hm2 a2 fun j hj => n2 j (by omega))) h12
            · subst hmm
              exact .inr (.inl (ends S1 a1 b1 fun j hj hj' => n1 j (by omega) (by omega)))
          · have hmm : m = m0 := gH m0 S0 hm0 b0 fun j hj => n0 _ (by omega) (by omega)
            by_cases c3 : 8 ≤ k2
            · exact absurd (hmm.symm.trans (fL m2 S2 hm2 a2 fun j hj => n2 j (by omega))) h02
            · exact absurd (hmm.symm.trans (fH m1 S1 hm1 a1 fun j hj => n1 _ (by omega) (by omega))) h01
        · have hmm : m = m2 := fL m2 S2 hm2 a2 fun j hj => n2 j (by omega)
          subst hmm
          exact .inl (ends S2 a2 b2 fun j _ hj => n2 j (by omega))
theorem getD_zeros (z j : Nat) : (List.replicate z 0).getD j 0 = 0 := by
  rw [List.getD_eq_getElem?_getD, List.getElem?_replicate]
  split <;> rfl
/-- What may lie below a torn sector: nothing but 0, or a sector of another mark. -/
def Under (z m : Nat) (s : List Nat) : Prop := s = List.replicate z 0 ∨ ∃ m0 l, m0 < 2 ^ 64 ∧ m0 ≠ m ∧ l.length + 36 ≤ z ∧ (∀ b ∈ l, b < 256) ∧ s = sector z m0 l
end Go.Proofs.YtfmdmfiljplkoaaGreat
namespace Go.Proofs.YtfmdmfiljplkoaaGreat
set_option maxRecDepth 8000
theorem readOk_zeros {z : Nat} (h : 64 ≤ z) : readOk (List.replicate z 0) = false := by
  cases hr : readOk (List.replicate z 0) with
  | false => rfl
  | true =>
    obtain ⟨m, _, hm, _, b⟩ := ok_ends (n := z) (fun b hb => by rw [List.eq_of_mem_replicate hb]; omega) (by simp) h hr
    have := b 15 (by omega)
    rw [getD_zeros] at this
    exact absurd this.symm (H_last m hm)
theorem slot_bad {s : List Nat} (h : readOk s = false) (i : Nat) : slotEp s i = 0 := by
  refine (slot_no ?_).1
  unfold slotOk readErr
  rw [h]; rfl
/-- What a log on a disk that is up holds: these groups. -/
structure LogHas (D : Dsk) (L : Lg) (rows : List (List (Int × List Nat))) : Prop where
  up : D.down = false
  room : L.first + L.count ≤ D.sectors
  lok : L.Ok
  nx : L.next = (flat rows).length
  ch : ∀ x ∈ flat rows, ChOk D.size x.1
  ne : ∀ g ∈ rows, g ≠ []
  z : 64 ≤ D.size
  slots : ∀ i (h : i < (flat rows).length), D.tells ((L.first : Int) + i) = secAt D.size L.epoch i (flat rows)[i]
  rest : ∀ i : Nat, (flat rows).length ≤ i → i < L.count → slotEp (D.tells ((L.first : Int) + i)) i ≠ L.epoch
section
variable {D D' : Dsk} {L : Lg} {rows : List (List (Int × List Nat))} {g : List (Int × List Nat)}
/-- A log that is started where no slot has its epoch. -/
theorem LogHas.start (hu : D.down = false) (hr : L.first + L.count ≤ D.sectors) (hL : L.Ok) (hn : L.next = 0) (hz : 64 ≤ D.size) (h : ∀ i : Nat, i < L.count → slotEp (D.tells ((L.first : Int) + i)) i ≠ L.epoch) : LogHas D L [] :=
  ⟨hu, hr, hL, hn, by simp [flat], by simp, hz, fun i hi => absurd hi (by simp [flat]), fun i _ hc => h i hc⟩
end
/-! ### a crash -/
end Go.Proofs.YtfmdmfiljplkoaaGreat
namespace Go.Proofs.YtfmdmfiljplkoaaGreat
set_option maxRecDepth 8000
section
variable {D E : Dsk} {L : Lg} {rows : List (List (Int × List Nat))} {g : List (Int × List Nat)}
end
/-! ### what a log leaves to a later one -/
/-- Each of a log's slots holds nothing but 0, or a sector of its epoch. -/
def Left0 (D : Dsk) (L : Lg) : Prop := ∀ i : Nat, i < L.count → D.tells ((L.first : Int) + i) = List.replicate D.size 0 ∨ ∃ x, ChOk D.size x.1 ∧ D.tells ((L.first : Int) + i) = secAt D.size L.epoch i x
section
variable {D E : Dsk} {L : Lg} {rows : List (List (Int × List Nat))} {g : List (Int × List Nat)}
end
end Go.Proofs.YtfmdmfiljplkoaaGreat
