/- Plain laws: what a log holds after its groups, also behind a crash. No program in sight. -/
import Derived.Test.YtpomfokpmbblkaaT1
namespace Go.Proofs.Ytpomfokpmbblkaa
set_option maxRecDepth 8000

theorem readOk_zeros {z : Nat} (h : 64 ≤ z) : readOk (List.replicate z 0) = false := by
  cases hr : readOk (List.replicate z 0) with
  | false => rfl
  | true =>
    obtain ⟨m, _, hm, _, b⟩ := ok_ends (n := z) (fun b hb => by rw [List.eq_of_mem_replicate hb]; omega) (by simp) h hr
    have := b 15 (by omega)
    rw [getD_zeros] at this
    exact absurd this.symm (H_last m hm)
theorem slot_bad {s : List Nat} (h : readOk s = false) (i : Nat) : slotEp s i = 0 := by
  refine (slot_no ?_).1
  unfold slotOk readErr
  rw [h]; rfl
theorem slotEp_zeros {z : Nat} (h : 64 ≤ z) (i : Nat) : slotEp (List.replicate z 0) i = 0 := slot_bad (readOk_zeros h) i

/-- What a log on a disk that is up holds: these groups. -/
structure LogHas (D : Dsk) (L : Lg) (rows : List (List (Int × List Nat))) : Prop where
  up : D.down = false
  room : L.first + L.count ≤ D.sectors
  lok : L.Ok
  nx : L.next = (flat rows).length
  ch : ∀ x ∈ flat rows, ChOk D.size x.1
  ne : ∀ g ∈ rows, g ≠ []
  z : 64 ≤ D.size
  slots : ∀ i (h : i < (flat rows).length), D.tells ((L.first : Int) + i) = secAt D.size L.epoch i (flat rows)[i]
  rest : ∀ i : Nat, (flat rows).length ≤ i → i < L.count → slotEp (D.tells ((L.first : Int) + i)) i ≠ L.epoch

section
variable {D D' : Dsk} {L : Lg} {rows : List (List (Int × List Nat))} {g : List (Int × List Nat)}
theorem LogHas.le (h : LogHas D L rows) : (flat rows).length ≤ L.count := by have := h.lok.n; have := h.nx; omega
theorem LogHas.slot (h : LogHas D L rows) (i : Nat) (hi : i < (flat rows).length) : slotEp (D.tells ((L.first : Int) + i)) i = L.epoch ∧ chOf (slotLoad (D.tells ((L.first : Int) + i)) i) = some (flat rows)[i] := by
  rw [h.slots i hi]
  have := h.lok.c
  have := h.le
  exact (secAt_slot (h.ch _ (List.getElem_mem hi)) h.z h.lok.e (by omega)).2
/-- What log.Read tells. -/
theorem LogHas.groups (h : LogHas D L rows) : grp D L.first L.epoch L.count 0 [] [] = rows := by
  obtain ⟨r, e, hr⟩ := slL_split D L.first L.count L.epoch (flat rows) h.le h.slot (fun i hi hc => h.rest i (by omega) hc)
  unfold Go.Proofs.Ytpomfokpmbblkaa.grp
  rw [e, grpL_rows _ _ _ _ h.ne, grpL_stop _ _ _ _ hr]
  simp
/-- What log.Latest tells. -/
theorem LogHas.lat (h : LogHas D L rows) (hz : ∀ i : Nat, (flat rows).length ≤ i → i < L.count → slotEp (D.tells ((L.first : Int) + i)) i = 0) : ∀ k, k ≤ L.count → latV D L.first k = if min k (flat rows).length = 0 then 0 else (L.epoch : Int)
  | 0, _ => by simp [latV]
  | k + 1, hk => by
    have ih := LogHas.lat h hz k (by omega)
    have he := h.lok.e
    show max (latV D L.first k) _ = _
    rw [ih]
    by_cases hf : k < (flat rows).length
    · have hA : (if min (k + 1) (flat rows).length = 0 then (0 : Int) else L.epoch) = L.epoch := if_neg (by omega)
      rw [(h.slot k hf).1, hA]
      split <;> omega
    · rw [hz k (by omega) (by omega)]
      by_cases h0 : (flat rows).length = 0
      · rw [if_pos (by omega), if_pos (by omega)]; rfl
      · by_cases hk0 : k = 0
        · omega
        · rw [if_neg (by omega), if_neg (by omega)]; omega
theorem LogHas.change (h : LogHas D L rows) (h1 : D'.down = false) (h2 : D'.sectors = D.sectors) (h3 : D'.size = D.size) (ht : ∀ a, D'.tells a = D.tells a) : LogHas D' L rows :=
  ⟨h1, by rw [h2]; exact h.room, h.lok, h.nx, by rw [h3]; exact h.ch, h.ne, by rw [h3]; exact h.z, fun i hi => by rw [ht, h3]; exact h.slots i hi, fun i hi hc => by rw [ht]; exact h.rest i hi hc⟩
/-- A log that is started where no slot has its epoch. -/
theorem LogHas.start (hu : D.down = false) (hr : L.first + L.count ≤ D.sectors) (hL : L.Ok) (hn : L.next = 0) (hz : 64 ≤ D.size) (h : ∀ i : Nat, i < L.count → slotEp (D.tells ((L.first : Int) + i)) i ≠ L.epoch) : LogHas D L [] :=
  ⟨hu, hr, hL, hn, by simp [flat], by simp, hz, fun i hi => absurd hi (by simp [flat]), fun i _ hc => h i hc⟩

theorem rightE_ok (h : rightE D L g = 0) (hb : ∀ c ∈ g, ∀ b ∈ c.2, b < 256) (hz : 64 ≤ D.size) (hz2 : D.size ≤ 4096) : L.dead = false ∧ g ≠ [] ∧ (∀ c ∈ g, ChOk D.size c) ∧ L.next + g.length ≤ L.count := by
  unfold rightE at h
  split at h
  · omega
  · rename_i h1
    split at h
    · omega
    · rename_i h2
      split at h
      · omega
      · rename_i h3
        split at h
        · omega
        · rename_i h4
          simp only [Bool.or_eq_true, not_or, Bool.not_eq_true, List.any_eq_false, List.isEmpty_eq_false_iff] at h2 h3
          refine ⟨by simpa using h1, h2.1, fun c hc => ?_, by omega⟩
          have p := h2.2 c hc
          have q := h3 c hc
          unfold badPage at p
          unfold badLen at q
          have p := of_decide_eq_false p
          have q := of_decide_eq_false q
          have hr : lroom D.size = D.size - 45 := by
            unfold lroom room okSize
            rw [if_pos (decide_eq_true (by omega))]
            omega
          rw [hr] at q
          exact ⟨by omega, by omega, by omega, hb c hc⟩

/-- What stands fast after a group is what was told OK. -/
theorem tells_settled (f : Int → List Nat) (D : Dsk) (ws : List (Int × List Nat)) (a : Int) (hf : f = settle D.fast (D.loose ++ ws)) {E : Dsk} (h1 : E.fast = f) (h2 : E.loose = []) : E.tells a = (last a ws).getD (D.tells a) := by
  unfold Dsk.tells
  rw [h1, h2, hf, settle_last, last_append]
  show (none : Option (List Nat)).getD _ = _
  cases last a ws <;> rfl
theorem flat_get_new (rows : List (List (Int × List Nat))) (g : List (Int × List Nat)) (i : Nat) (h : i < (flat (rows ++ [g])).length) (h1 : (flat rows).length ≤ i) (h2 : i - (flat rows).length < (fl g).length) : (flat (rows ++ [g]))[i] = (fl g)[i - (flat rows).length] := by
  have e : flat (rows ++ [g]) = flat rows ++ fl g := by rw [flat_append, flat_one]
  simp only [e]
  rw [List.getElem_append_right h1]
theorem flat_get_old (rows : List (List (Int × List Nat))) (g : List (Int × List Nat)) (i : Nat) (h : i < (flat (rows ++ [g])).length) (h1 : i < (flat rows).length) : (flat (rows ++ [g]))[i] = (flat rows)[i] := by
  have e : flat (rows ++ [g]) = flat rows ++ fl g := by rw [flat_append, flat_one]
  simp only [e]
  rw [List.getElem_append_left h1]

/-- A group is appended. -/
theorem LogHas.apps (h : LogHas D L rows) (ha : 0 ≤ D.armed) (hz2 : D.size ≤ 4096) (hb : ∀ c ∈ g, ∀ b ∈ c.2, b < 256) (h0 : rightE D L g = 0) :
    ((app D L g).1 = 0 ∧ LogHas (app D L g).2.1 (app D L g).2.2 (rows ++ [g]) ∧ (app D L g).2.1.loose = [] ∧ (D.armed = 0 → (app D L g).2.1.armed = 0) ∧ 0 ≤ (app D L g).2.1.armed ∧ (app D L g).2.1.size = D.size ∧ (app D L g).2.1.sectors = D.sectors ∧
      (app D L g).2.2 = { L with next := L.next + g.length, dead := false } ∧ ∀ a, (∀ k, k < g.length → a ≠ (L.first : Int) + (L.next + k : Nat)) → (app D L g).2.1.tells a = D.tells a) ∨
    ((app D L g).1 = 4 ∧ 0 < D.armed ∧ ∃ j, 1 ≤ j ∧ j ≤ g.length ∧ (app D L g).2.1 = { D with armed := 0, down := true, loose := D.loose ++ (wr D.size L.epoch L.first L.next (fl g)).take j } ∧ (app D L g).2.2 = { L with next := L.next + j, dead := true }) := by
  obtain ⟨hd, hne, hch, hfit⟩ := rightE_ok h0 hb h.z hz2
  have hroom := h.room
  have e : Go.Proofs.Ytpomfokpmbblkaa.app D L g = goApp D L g := by unfold Go.Proofs.Ytpomfokpmbblkaa.app; rw [if_pos h0]
  rw [e]
  rcases goApp_cases g D L h.up ha (by omega) hch with ⟨q1, q2, q3, q4⟩ | ⟨q1, q2, j, q3, q4, q5, q6⟩
  · left
    have ht : ∀ a, (goApp D L g).2.1.tells a = (last a (wr D.size L.epoch L.first L.next (fl g))).getD (D.tells a) := fun a => tells_settled _ D _ a rfl (by rw [q2]) (by rw [q2])
    have hlen : (flat (rows ++ [g])).length = (flat rows).length + g.length := by rw [flat_append, flat_one, List.length_append, fl_length]
    have hnx := h.nx
    have hout : ∀ a, (∀ k, k < g.length → a ≠ (L.first : Int) + (L.next + k : Nat)) → (goApp D L g).2.1.tells a = D.tells a := fun a hk => by
      rw [ht, wr_out]
      · rfl
      · rw [fl_length]
        by_cases h1 : a < (L.first : Int) + L.next
        · exact .inl h1
        · right
          by_cases h2 : (L.first : Int) + L.next + g.length ≤ a
          · exact h2
          · exfalso
            refine hk (a - ((L.first : Int) + L.next)).toNat (by omega) ?_
            omega
    have hsz : (goApp D L g).2.1.size = D.size := by rw [q2]
    have hse : (goApp D L g).2.1.sectors = D.sectors := by rw [q2]
    refine ⟨q1, ⟨by rw [q2]; exact h.up, by rw [q3, hse]; exact hroom, ⟨by rw [q3]; exact h.lok.f, by rw [q3]; exact h.lok.c, by rw [q3]; exact h.lok.e, by rw [q3]; exact hfit⟩, by rw [q3, hlen]; show L.next + g.length = _; omega, fun x hx => ?_, fun g' hg' => ?_, by rw [hsz]; exact h.z, fun i hi => ?_, fun i hi hc => ?_⟩,
      by rw [q2], fun h0 => by rw [q2]; simp [h0], by rw [q2]; show 0 ≤ (if D.armed = 0 then 0 else _); split <;> omega, hsz, hse, q3, hout⟩
    · rw [hsz]
      rw [flat_append, flat_one, List.mem_append] at hx
      rcases hx with hx | hx
      · exact h.ch x hx
      · exact hch _ (fl_mem g x hx)
    · rw [List.mem_append] at hg'
      rcases hg' with hg' | hg'
      · exact h.ne g' hg'
      · simp at hg'; rw [hg']; exact hne
    · rw [q3, hsz]
      show (goApp D L g).2.1.tells ((L.first : Int) + i) = _
      by_cases hlt : i < (flat rows).length
      · rw [hout _ (fun k hk => by omega), flat_get_old rows g i hi hlt]
        exact h.slots i hlt
      · have hk : i - (flat rows).length < (fl g).length := by rw [fl_length]; omega
        rw [ht, flat_get_new rows g i hi (by omega) hk]
        have := wr_last D.size L.epoch L.first (fl g) L.next (i - (flat rows).length) hk
        rw [show L.next + (i - (flat rows).length) = i by omega] at this
        rw [this]
        rfl
    · rw [q3] at hc ⊢
      show slotEp ((goApp D L g).2.1.tells ((L.first : Int) + i)) i ≠ L.epoch
      rw [hout _ (fun k hk => by omega)]
      exact h.rest i (by omega) hc
  · right
    exact ⟨q1, q2, j, q4 hne, q3, q5, q6⟩
end

/-! ### a crash -/
theorem crashed_at {z : Nat} {fs : List Int} {f : Int → List Nat} {W : List (Int × List Nat)} (hd : ∀ i k (hi : i < W.length) (hk : k < W.length), W[i].1 = W[k].1 → i = k) :
    ∀ n k (hk : k < W.length), k < n → crashed z fs f W n W[k].1 = W[k].2.take (cutAt z fs k W.length) ++ (f W[k].1).drop (cutAt z fs k W.length)
  | 0, _, _, h => absurd h (by omega)
  | n + 1, k, hk, h => by
    have step : ∀ n, n ≤ k → crashed z fs f W n W[k].1 = f W[k].1 := by
      intro n hn
      induction n with
      | zero => rfl
      | succ n ih =>
        have hn' : n < W.length := by omega
        rw [crashed_step hn', upd_other _ _ (fun e => by have := hd _ _ hk hn' e; omega)]
        exact ih (by omega)
    by_cases hn : n < W.length
    · rw [crashed_step hn]
      by_cases e : k = n
      · subst e
        rw [upd_self, step k (Nat.le_refl _)]
      · rw [upd_other _ _ (fun e' => e (hd _ _ hk hn e'))]
        exact crashed_at hd n k hk (by omega)
    · rw [crashed_over (by omega)]
      exact crashed_at hd n k hk (by omega)
theorem wr_inj {z e f i : Nat} {xs : List ((Int × List Nat) × Bool)} {j : Nat} : ∀ a k (ha : a < ((wr z e f i xs).take j).length) (hk : k < ((wr z e f i xs).take j).length), ((wr z e f i xs).take j)[a].1 = ((wr z e f i xs).take j)[k].1 → a = k := by
  intro a k ha hk h
  have g : ∀ b (hb : b < ((wr z e f i xs).take j).length), ((wr z e f i xs).take j)[b].1 = (f : Int) + (i + b : Nat) := by
    intro b hb
    have hl : b < xs.length := by simp at hb; omega
    have := wr_get z e f xs i b hl
    rw [List.getElem_take]
    rw [List.getElem?_eq_getElem (by simpa using hl)] at this
    rw [Option.some.inj this]
  rw [g a ha, g k hk] at h
  omega
/-- The slots behind a crash in the middle of a group: each is as ahead of it, or new; the last of them may be torn. -/
theorem crash_slots {D E : Dsk} {e f i j : Nat} {xs : List ((Int × List Nat) × Bool)} (fs : List Int) (hl : D.loose = []) (hj : j ≤ xs.length) (hE : E = ({ D with armed := 0, down := true, loose := D.loose ++ (wr D.size e f i xs).take j } : Dsk).crash fs) (hx : ∀ x ∈ xs, ChOk D.size x.1) (hf : ∀ a, (D.fast a).length = D.size) :
    (∀ a, (∀ k, k < j → a ≠ (f : Int) + (i + k : Nat)) → E.tells a = D.tells a) ∧
    (∀ k (hk : k < j), k + 1 < j → E.tells ((f : Int) + (i + k : Nat)) = D.tells ((f : Int) + (i + k : Nat)) ∨ E.tells ((f : Int) + (i + k : Nat)) = secAt D.size e (i + k) (xs[k]'(by omega))) ∧
    (∀ k (hk : k < j), ∃ c, c ≤ D.size ∧ E.tells ((f : Int) + (i + k : Nat)) = mix c (secAt D.size e (i + k) (xs[k]'(by omega))) (D.tells ((f : Int) + (i + k : Nat)))) := by
  have hlen : ((wr D.size e f i xs).take j).length = j := by simp; omega
  have ht : ∀ a, D.tells a = D.fast a := fun a => by unfold Dsk.tells; rw [hl]; rfl
  have hEt : ∀ a, E.tells a = crashed D.size fs D.fast ((wr D.size e f i xs).take j) j a := fun a => by
    rw [hE, hl]
    show (last a ([] : List (Int × List Nat))).getD _ = _
    show crashed D.size fs D.fast ([] ++ (wr D.size e f i xs).take j) ([] ++ (wr D.size e f i xs).take j).length a = _
    rw [List.nil_append, hlen]
  have hg : ∀ b (hb : b < ((wr D.size e f i xs).take j).length), ((wr D.size e f i xs).take j)[b] = ((f : Int) + (i + b : Nat), secAt D.size e (i + b) (xs[b]'(by simp at hb; omega))) := by
    intro b hb
    have hl' : b < xs.length := by simp at hb; omega
    have := wr_get D.size e f xs i b hl'
    rw [List.getElem_take]
    rw [List.getElem?_eq_getElem (by simpa using hl')] at this
    exact Option.some.inj this
  have hat : ∀ k (hk : k < j), E.tells ((f : Int) + (i + k : Nat)) = mix (cutAt D.size fs k j) (secAt D.size e (i + k) (xs[k]'(by omega))) (D.tells ((f : Int) + (i + k : Nat))) := by
    intro k hk
    have := crashed_at (z := D.size) (fs := fs) (f := D.fast) (wr_inj (z := D.size) (e := e) (f := f) (i := i) (xs := xs) (j := j)) j k (by omega) hk
    rw [hg k (by omega)] at this
    simp only [hlen] at this
    rw [hEt, ht]
    exact this
  refine ⟨fun a ha => ?_, fun k hk hk1 => ?_, fun k hk => ⟨_, cutAt_le _ _ _ _, hat k hk⟩⟩
  · rw [hEt, ht]
    refine crashed_other (fun w hw => ?_) j
    obtain ⟨b, hb, rfl⟩ := List.getElem_of_mem hw
    rw [hg b hb]
    exact fun h => ha b (by omega) h.symm
  · rw [hat k hk]
    have hxk := secAt_ok (z := D.size) (e := e) (i := i + k) (x := xs[k]'(by omega)) (hx _ (List.getElem_mem _))
    have hcut : cutAt D.size fs k j = 0 ∨ cutAt D.size fs k j = D.size := by
      unfold cutAt
      rw [if_pos hk1]
      have := pick_lt (fs.drop k) (n := 2) (by omega)
      have h2 : pick (fs.drop k) 2 = 0 ∨ pick (fs.drop k) 2 = 1 := by omega
      rcases h2 with h2 | h2 <;> rw [h2] <;> simp
    rcases hcut with h | h
    · left; rw [h]; rfl
    · right
      rw [h]
      unfold mix
      rw [List.take_of_length_le (by rw [hxk.1]; exact Nat.le_refl _), List.drop_eq_nil_of_le (by rw [ht, hf]; exact Nat.le_refl _), List.append_nil]
end Go.Proofs.Ytpomfokpmbblkaa
