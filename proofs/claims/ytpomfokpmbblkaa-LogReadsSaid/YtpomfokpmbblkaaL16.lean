/- Plain laws: a log behind a crash: what was told is there, and nothing by halves. No program in sight. -/
import Derived.Test.YtpomfokpmbblkaaL15
namespace Go.Proofs.Ytpomfokpmbblkaa
set_option maxRecDepth 8000

theorem first_not {P : Nat → Prop} : ∀ j, (∀ k, k < j → P k ∨ ¬ P k) → ∃ p, p ≤ j ∧ (∀ k, k < p → P k) ∧ (p = j ∨ ¬ P p)
  | 0, _ => ⟨0, Nat.le_refl _, by intro k h; omega, .inl rfl⟩
  | j + 1, h => by
    obtain ⟨p, hp, h1, h2⟩ := first_not j (fun k hk => h k (by omega))
    rcases h2 with h2 | h2
    · rcases h j (by omega) with h3 | h3
      · refine ⟨j + 1, Nat.le_refl _, fun k hk => ?_, .inl rfl⟩
        by_cases e : k = j
        · subst e; exact h3
        · exact h1 k (by omega)
      · exact ⟨p, by omega, h1, .inr (by rw [h2]; exact h3)⟩
    · exact ⟨p, by omega, h1, .inr h2⟩

section
variable {D E : Dsk} {L : Lg} {rows : List (List (Int × List Nat))} {g : List (Int × List Nat)}
/-- The slots of a group behind a crash in its middle: new, or no slots of the epoch. -/
theorem LogHas.crash_slot (h : LogHas D L rows) {j : Nat} (fs : List Int) (hl : D.loose = []) (hj : j ≤ g.length) (hE : E = ({ D with armed := 0, down := true, loose := D.loose ++ (wr D.size L.epoch L.first L.next (fl g)).take j } : Dsk).crash fs)
    (hg : ∀ c ∈ g, ChOk D.size c) (hf : ∀ a, (D.fast a).length = D.size) (hfit : L.next + g.length ≤ L.count)
    (hu : ∀ i : Nat, L.next ≤ i → i < L.count → Under D.size (L.epoch * 2097152 + i + 1) (D.tells ((L.first : Int) + i))) (k : Nat) (hk : k < j) :
    E.tells ((L.first : Int) + (L.next + k : Nat)) = secAt D.size L.epoch (L.next + k) ((fl g)[k]'(by rw [fl_length]; omega)) ∨ E.tells ((L.first : Int) + (L.next + k : Nat)) = D.tells ((L.first : Int) + (L.next + k : Nat)) ∨ readOk (E.tells ((L.first : Int) + (L.next + k : Nat))) = false := by
  have hx : ∀ x ∈ fl g, ChOk D.size x.1 := fun x hx => hg _ (fl_mem g x hx)
  obtain ⟨_, _, h3⟩ := crash_slots fs hl (by rw [fl_length]; exact hj) hE hx hf
  obtain ⟨c, hc, e⟩ := h3 k hk
  have hxk := hx _ (List.getElem_mem (show k < (fl g).length by rw [fl_length]; omega))
  have he := h.lok.e
  have hcn := h.lok.c
  cases hr : readOk (E.tells ((L.first : Int) + (L.next + k : Nat))) with
  | false => exact .inr (.inr rfl)
  | true =>
    rw [e] at hr ⊢
    rcases torn_two h.z hc (by omega) (by have := hxk.len; simp; omega) (load_lt hxk _) (hu (L.next + k) (by omega) (by omega)) hr with h | h
    · exact .inl h
    · exact .inr (.inl h)
/-- WHAT WAS TOLD IS THERE, AND NOTHING BY HALVES. -/
theorem LogHas.crash_whole (h : LogHas D L rows) {j : Nat} (fs : List Int) (hl : D.loose = []) (hj : j ≤ g.length) (hE : E = ({ D with armed := 0, down := true, loose := D.loose ++ (wr D.size L.epoch L.first L.next (fl g)).take j } : Dsk).crash fs)
    (hg : ∀ c ∈ g, ChOk D.size c) (hne : g ≠ []) (hf : ∀ a, (D.fast a).length = D.size) (hfit : L.next + g.length ≤ L.count)
    (hu : ∀ i : Nat, L.next ≤ i → i < L.count → Under D.size (L.epoch * 2097152 + i + 1) (D.tells ((L.first : Int) + i))) :
    grp E L.first L.epoch L.count 0 [] [] = rows ∨ grp E L.first L.epoch L.count 0 [] [] = rows ++ [g] := by
  have hx : ∀ x ∈ fl g, ChOk D.size x.1 := fun x hx => hg _ (fl_mem g x hx)
  have hs := h.crash_slot fs hl hj hE hg hf hfit hu
  obtain ⟨h1, _, _⟩ := crash_slots fs hl (by rw [fl_length]; exact hj) hE hx hf
  have hnx := h.nx
  have he := h.lok.e
  have hc := h.lok.c
  obtain ⟨p, hp, hP, hend⟩ := first_not (P := fun k => ∃ hk : k < (fl g).length, E.tells ((L.first : Int) + (L.next + k : Nat)) = secAt D.size L.epoch (L.next + k) (fl g)[k]) j (fun k _ => Classical.em _)
  have hnot : p < g.length → slotEp (E.tells ((L.first : Int) + (L.next + p : Nat))) (L.next + p) ≠ L.epoch := by
    intro hpg
    by_cases hpj : p = j
    · rw [h1 _ (fun k hk => by omega)]
      exact h.rest (L.next + p) (by omega) (by omega)
    · rcases hs p (by omega) with h | h | h
      · rcases hend with e | e
        · exact absurd e hpj
        · exact absurd ⟨_, h⟩ e
      · rw [h]; exact LogHas.rest ‹_› (L.next + p) (by omega) (by omega)
      · rw [slot_bad h]; omega
  have hold : ∀ i (hi : i < (flat rows).length), slotEp (E.tells ((L.first : Int) + i)) i = L.epoch ∧ chOf (slotLoad (E.tells ((L.first : Int) + i)) i) = some (flat rows)[i] := by
    intro i hi
    rw [h1 _ (fun k hk => by omega)]
    exact h.slot i hi
  have hnew : ∀ k, k < p → ∃ hk : k < (fl g).length, slotEp (E.tells ((L.first : Int) + (L.next + k : Nat))) (L.next + k) = L.epoch ∧ chOf (slotLoad (E.tells ((L.first : Int) + (L.next + k : Nat))) (L.next + k)) = some (fl g)[k] := by
    intro k hk
    obtain ⟨hk', e⟩ := hP k hk
    rw [e]
    exact ⟨hk', (secAt_slot (hx _ (List.getElem_mem hk')) h.z he (by omega)).2⟩
  have hxs : ∀ i (hi : i < (flat rows ++ (fl g).take p).length), slotEp (E.tells ((L.first : Int) + i)) i = L.epoch ∧ chOf (slotLoad (E.tells ((L.first : Int) + i)) i) = some (flat rows ++ (fl g).take p)[i] := by
    intro i hi
    by_cases hlt : i < (flat rows).length
    · rw [List.getElem_append_left hlt]
      exact hold i hlt
    · rw [List.getElem_append_right (by omega)]
      have hk : i - (flat rows).length < p := by
        rw [List.length_append, List.length_take] at hi; omega
      obtain ⟨hk', q⟩ := hnew _ hk
      rw [show L.next + (i - (flat rows).length) = i by omega] at q
      rw [List.getElem_take]
      exact q
  have hlen : (flat rows ++ (fl g).take p).length = L.next + p := by rw [List.length_append, List.length_take, fl_length]; omega
  obtain ⟨r, e, hr⟩ := slL_split E L.first L.count L.epoch (flat rows ++ (fl g).take p) (by omega) hxs (fun i hi hic => by
    rw [hlen] at hi
    subst hi
    by_cases hpg : p < g.length
    · exact hnot hpg
    · rw [h1 _ (fun k hk => by omega)]
      exact h.rest (L.next + p) (by omega) hic)
  unfold Go.Proofs.Ytpomfokpmbblkaa.grp
  rw [e, List.map_append, List.append_assoc, grpL_rows _ _ _ _ h.ne]
  by_cases hpg : p < g.length
  · left
    rw [grpL_part _ _ _ _ _ _ hpg hr]
    simp
  · right
    have ep : (fl g).take p = fl g := List.take_of_length_le (by rw [fl_length]; omega)
    rw [ep, grpL_group _ _ _ _ _ hne, grpL_stop _ _ _ _ hr]
    simp
end

/-! ### what a log leaves to a later one -/
/-- Each of a log's slots holds nothing but 0, or a sector of its epoch. -/
def Left0 (D : Dsk) (L : Lg) : Prop := ∀ i : Nat, i < L.count → D.tells ((L.first : Int) + i) = List.replicate D.size 0 ∨ ∃ x, ChOk D.size x.1 ∧ D.tells ((L.first : Int) + i) = secAt D.size L.epoch i x
section
variable {D E : Dsk} {L : Lg} {rows : List (List (Int × List Nat))} {g : List (Int × List Nat)}
theorem Left0.slot (h : Left0 D L) (hL : L.Ok) (hz : 64 ≤ D.size) {e : Nat} (he : 1 ≤ e) (hne : e ≠ L.epoch) (i : Nat) (hi : i < L.count) : slotEp (D.tells ((L.first : Int) + i)) i ≠ e := by
  have := hL.e
  have := hL.c
  rcases h i hi with h | ⟨x, hx, h⟩
  · rw [h, slotEp_zeros hz]; omega
  · rw [h, (secAt_slot hx hz hL.e (by omega)).2.1]; omega
theorem Left0.under (h : Left0 D L) (hL : L.Ok) {e : Nat} (hne : e ≠ L.epoch) (i : Nat) (hi : i < L.count) : Under D.size (e * 2097152 + i + 1) (D.tells ((L.first : Int) + i)) := by
  have := hL.e
  have := hL.c
  rcases h i hi with h | ⟨x, hx, h⟩
  · exact .inl h
  · have hl := hx.len
    exact .inr ⟨L.epoch * 2097152 + i + 1, _, by omega, by omega, by simp; omega, load_lt hx x.2, h⟩
theorem Left0.new (s z : Nat) (L : Lg) : Left0 (Dsk.new s z) L := fun _ _ => .inl rfl
/-- A log's own slots, and nothing but 0 behind them. -/
theorem LogHas.left0 (h : LogHas D L rows) (hz : ∀ i : Nat, (flat rows).length ≤ i → i < L.count → D.tells ((L.first : Int) + i) = List.replicate D.size 0) : Left0 D L := by
  intro i hi
  by_cases hlt : i < (flat rows).length
  · exact .inr ⟨_, h.ch _ (List.getElem_mem hlt), h.slots i hlt⟩
  · exact .inl (hz i (by omega) hi)
/-- Behind a crash in the middle of a group no slot has another epoch than the log's. -/
theorem LogHas.crash_other (h : LogHas D L rows) {j : Nat} (fs : List Int) (hl : D.loose = []) (hj : j ≤ g.length) (hE : E = ({ D with armed := 0, down := true, loose := D.loose ++ (wr D.size L.epoch L.first L.next (fl g)).take j } : Dsk).crash fs)
    (hg : ∀ c ∈ g, ChOk D.size c) (hf : ∀ a, (D.fast a).length = D.size) (hfit : L.next + g.length ≤ L.count)
    (hz : ∀ i : Nat, (flat rows).length ≤ i → i < L.count → D.tells ((L.first : Int) + i) = List.replicate D.size 0) {e : Nat} (he : 1 ≤ e) (hne : e ≠ L.epoch) (i : Nat) (hi : i < L.count) : slotEp (E.tells ((L.first : Int) + i)) i ≠ e := by
  have hx : ∀ x ∈ fl g, ChOk D.size x.1 := fun x hx => hg _ (fl_mem g x hx)
  obtain ⟨h1, _, _⟩ := crash_slots fs hl (by rw [fl_length]; exact hj) hE hx hf
  have hnx := h.nx
  have hc := h.lok.c
  have h0 := h.left0 hz
  by_cases hin : L.next ≤ i ∧ i < L.next + j
  · have hs := h.crash_slot fs hl hj hE hg hf hfit (fun i hi hi' => .inl (hz i (by omega) hi')) (i - L.next) (by omega)
    rw [show L.next + (i - L.next) = i by omega] at hs
    rcases hs with hs | hs | hs
    · rw [hs, (secAt_slot (hx _ (List.getElem_mem _)) h.z h.lok.e (by omega)).2.1]; omega
    · rw [hs]; exact h0.slot h.lok h.z he hne i hi
    · rw [slot_bad hs]; omega
  · rw [h1 _ (fun k hk => by omega)]
    exact h0.slot h.lok h.z he hne i hi
end
theorem tells_crash_up {D : Dsk} (hl : D.loose = []) (fs : List Int) (a : Int) : (D.crash fs).tells a = D.tells a := by
  unfold Dsk.tells Dsk.crash
  rw [hl]
  rfl
/-- A crash without a fate lets nothing be done. -/
theorem tells_crash_nil {D : Dsk} {a0 : Int} {l : List Nat} {f : Int → List Nat} (hl : D.loose = [(a0, l)]) (hf : D.fast = f) (a : Int) : (D.crash []).tells a = f a := by
  unfold Dsk.tells Dsk.crash
  rw [hl, hf]
  show crashed D.size [] f [(a0, l)] 1 a = f a
  show upd f a0 (l.take (cutAt D.size [] 0 1) ++ (f a0).drop (cutAt D.size [] 0 1)) a = f a
  have : cutAt D.size [] 0 1 = 0 := rfl
  rw [this]
  unfold upd
  by_cases h : a = a0
  · rw [if_pos h, h]; simp
  · rw [if_neg h]
end Go.Proofs.Ytpomfokpmbblkaa
