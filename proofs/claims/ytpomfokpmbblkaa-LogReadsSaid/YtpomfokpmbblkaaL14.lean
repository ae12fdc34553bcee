/- Plain laws: what is appended to a log is read again. No program in sight. -/
import Derived.Test.YtpomfokpmbblkaaL13
namespace Go.Proofs.Ytpomfokpmbblkaa
set_option maxRecDepth 8000

/-- A change's sector in slot i of epoch e, on sectors of z bytes. -/
def secAt (z e i : Nat) (x : (Int × List Nat) × Bool) : List Nat := sector z (e * 2097152 + i + 1) (leb x.1.1.toNat 8 ++ [if x.2 then 1 else 0] ++ x.1.2)
theorem secOf_at (z : Nat) (L : Lg) (c : Int × List Nat) (last : Bool) : secOf z L c.1.toNat last c.2 = secAt z L.epoch L.next (c, last) := rfl
/-- May there be such a change? -/
structure ChOk (z : Nat) (c : Int × List Nat) : Prop where
  p0 : 0 ≤ c.1
  p1 : c.1 ≤ 2147483647
  len : c.2.length + 45 = z
  byt : ∀ b ∈ c.2, b < 256

theorem load_lt {c : Int × List Nat} {z : Nat} (h : ChOk z c) (f : Bool) : ∀ b ∈ leb c.1.toNat 8 ++ [if f then 1 else 0] ++ c.2, b < 256 := by
  intro b hb
  simp only [List.mem_append, List.mem_singleton] at hb
  rcases hb with (hb | hb) | hb
  · exact leb_lt _ _ b hb
  · subst hb; split <;> omega
  · exact h.byt b hb
theorem secAt_ok {z e i : Nat} {x : (Int × List Nat) × Bool} (h : ChOk z x.1) : (secAt z e i x).length = z ∧ ∀ b ∈ secAt z e i x, b < 256 := by
  unfold secAt
  have hl := h.len
  exact ⟨sector_length (by simp; omega), sector_lt (load_lt h x.2)⟩
theorem secAt_reads {z e i : Nat} {x : (Int × List Nat) × Bool} (h : ChOk z x.1) (h1 : 64 ≤ z) (he : 1 ≤ e ∧ e ≤ 1099511627776) (hi : i ≤ 1048576) :
    readOk (secAt z e i x) = true ∧ readMark (secAt z e i x) = (e * 2097152 + i + 1 : Nat) ∧ readLoad (secAt z e i x) = leb x.1.1.toNat 8 ++ [if x.2 then 1 else 0] ++ x.1.2 ∧ readErr (secAt z e i x) = 0 := by
  have hl := h.len
  have hlen : (leb x.1.1.toNat 8 ++ [if x.2 then 1 else 0] ++ x.1.2).length = z - 36 := by simp; omega
  have := sector_reads z (e * 2097152 + i + 1) (leb x.1.1.toNat 8 ++ [if x.2 then 1 else 0] ++ x.1.2) h1 (by omega) (by omega) (by omega) (load_lt h x.2)
  rw [hlen, Nat.sub_self, List.replicate_zero, List.append_nil] at this
  exact this
theorem secAt_slot {z e i : Nat} {x : (Int × List Nat) × Bool} (h : ChOk z x.1) (h1 : 64 ≤ z) (he : 1 ≤ e ∧ e ≤ 1099511627776) (hi : i ≤ 1048576) :
    slotOk (secAt z e i x) i = true ∧ slotEp (secAt z e i x) i = e ∧ chOf (slotLoad (secAt z e i x) i) = some x := by
  obtain ⟨r1, r2, r3, r4⟩ := secAt_reads h h1 he hi
  have hE : slotE (secAt z e i x) i = e := by unfold slotE; rw [r2]; omega
  have hok : slotOk (secAt z e i x) i = true := by
    unfold slotOk
    rw [hE, r4, r2]
    have : okEp (e : Int) = true := by unfold okEp; exact decide_eq_true (by omega)
    rw [this]
    simp
  refine ⟨hok, by rw [(slot_yes hok).1, hE], ?_⟩
  rw [(slot_yes hok).2.1, r3]
  have t8 : (leb x.1.1.toNat 8 ++ [if x.2 then 1 else 0] ++ x.1.2).take 8 = leb x.1.1.toNat 8 := by
    rw [List.append_assoc]; exact List.take_left' (by simp)
  have d9 : (leb x.1.1.toNat 8 ++ [if x.2 then 1 else 0] ++ x.1.2).drop 9 = x.1.2 := List.drop_left' (by simp)
  have g8 : (leb x.1.1.toNat 8 ++ [if x.2 then 1 else 0] ++ x.1.2)[8]? = some (if x.2 then 1 else 0) := by
    rw [List.append_assoc, List.getElem?_append_right (by simp)]
    simp
  have hp := h.p1
  have hp0 := h.p0
  have hn : num (leb x.1.1.toNat 8) = x.1.1.toNat := num_leb 8 _ (by omega)
  unfold chOf
  rw [t8, d9, g8, hn, Option.getD_some]
  rw [if_neg (by split <;> omega)]
  have : ((x.1.1.toNat : Nat) : Int) = x.1.1 := by omega
  rw [this]
  obtain ⟨c, f⟩ := x
  cases f <;> rfl

/-- A group's changes, the last one marked. -/
def fl : List (Int × List Nat) → List ((Int × List Nat) × Bool)
  | [] => []
  | c :: r => (c, r.isEmpty) :: fl r
@[simp] theorem fl_length : ∀ g, (fl g).length = g.length
  | [] => rfl
  | c :: r => by simp [fl, fl_length r]
theorem fl_mem : ∀ (g : List (Int × List Nat)) (x : (Int × List Nat) × Bool), x ∈ fl g → x.1 ∈ g
  | [], x, h => by simp [fl] at h
  | c :: r, x, h => by
    simp only [fl, List.mem_cons] at h
    rcases h with rfl | h
    · simp
    · exact List.mem_cons.2 (.inr (fl_mem r x h))
def flat (rows : List (List (Int × List Nat))) : List ((Int × List Nat) × Bool) := rows.flatMap fl
theorem flat_append (a b : List (List (Int × List Nat))) : flat (a ++ b) = flat a ++ flat b := by simp [flat]
theorem flat_one (g : List (Int × List Nat)) : flat [g] = fl g := by simp [flat]

def says (e : Int) (x : (Int × List Nat) × Bool) : Int × Option ((Int × List Nat) × Bool) := (e, some x)
theorem grpL_group (e : Int) : ∀ (g : List (Int × List Nat)) (r : List (Int × Option ((Int × List Nat) × Bool))) (out : List (List (Int × List Nat))) (b : List (Int × List Nat)), g ≠ [] →
    grpL e ((fl g).map (says e) ++ r) out b = grpL e r (out ++ [b ++ g]) []
  | [], _, _, _, h => absurd rfl h
  | [c], r, out, b, _ => by
    show grpL e ((e, some (c, true)) :: r) out b = _
    rw [grpL_some]; rfl
  | c :: c2 :: g, r, out, b, _ => by
    show grpL e ((e, some (c, false)) :: ((fl (c2 :: g)).map (says e) ++ r)) out b = _
    rw [grpL_some, if_neg (by simp), grpL_group e (c2 :: g) r out (b ++ [c]) (by simp)]
    simp
/-- A group that is not whole is none. -/
theorem grpL_part (e : Int) : ∀ (g : List (Int × List Nat)) (k : Nat) (r : List (Int × Option ((Int × List Nat) × Bool))) (out : List (List (Int × List Nat))) (b : List (Int × List Nat)), k < g.length → (∀ x ∈ r.head?, x.1 ≠ e) →
    grpL e (((fl g).take k).map (says e) ++ r) out b = out
  | [], k, _, _, _, h, _ => absurd h (by simp)
  | c :: g, 0, r, out, b, _, hr => by
    show grpL e r out b = out
    cases r with
    | nil => rfl
    | cons x r => exact grpL_other (hr x (by simp)) x.2 r out b
  | [c], k + 1, r, out, b, h, hr => absurd h (by simp)
  | c :: c2 :: g, k + 1, r, out, b, h, hr => by
    show grpL e ((e, some (c, false)) :: (((fl (c2 :: g)).take k).map (says e) ++ r)) out b = _
    rw [grpL_some, if_neg (by simp)]
    exact grpL_part e (c2 :: g) k r out _ (by simp at h ⊢; omega) hr
theorem grpL_rows (e : Int) : ∀ (rows : List (List (Int × List Nat))) (r : List (Int × Option ((Int × List Nat) × Bool))) (out : List (List (Int × List Nat))), (∀ g ∈ rows, g ≠ []) →
    grpL e ((flat rows).map (says e) ++ r) out [] = grpL e r (out ++ rows) []
  | [], r, out, _ => by simp [flat]
  | g :: rows, r, out, h => by
    have e1 : flat (g :: rows) = fl g ++ flat rows := by simp [flat]
    rw [e1, List.map_append, List.append_assoc, grpL_group e g _ out [] (h g (by simp)), grpL_rows e rows r _ (fun g hg => h g (by simp [hg]))]
    simp
theorem grpL_stop (e : Int) (r : List (Int × Option ((Int × List Nat) × Bool))) (out : List (List (Int × List Nat))) (b : List (Int × List Nat)) (hr : ∀ x ∈ r.head?, x.1 ≠ e) : grpL e r out b = out := by
  cases r with
  | nil => rfl
  | cons x r => exact grpL_other (hr x (by simp)) x.2 r out b

theorem slL_length (D : Dsk) (f : Nat) : ∀ n i, (slL D f n i).length = n
  | 0, _ => rfl
  | n + 1, i => by rw [slL_succ, List.length_cons, slL_length D f n]
theorem slL_get (D : Dsk) (f : Nat) : ∀ n i k, k < n → (slL D f n i)[k]? = some (slotEp (D.tells ((f : Int) + (i + k : Nat))) (i + k), chOf (slotLoad (D.tells ((f : Int) + (i + k : Nat))) (i + k)))
  | 0, _, _, h => absurd h (by omega)
  | n + 1, i, 0, _ => rfl
  | n + 1, i, k + 1, h => by
    rw [slL_succ, List.getElem?_cons_succ, slL_get D f n (i + 1) k (by omega), show i + 1 + k = i + (k + 1) by omega]
/-- The slots say these changes first. -/
theorem slL_split (D : Dsk) (f c : Nat) (e : Int) (xs : List ((Int × List Nat) × Bool)) (hx : xs.length ≤ c) (h : ∀ i (hi : i < xs.length), slotEp (D.tells ((f : Int) + i)) i = e ∧ chOf (slotLoad (D.tells ((f : Int) + i)) i) = some xs[i])
    (hr : ∀ i, i = xs.length → i < c → slotEp (D.tells ((f : Int) + i)) i ≠ e) : ∃ r, slL D f c 0 = xs.map (says e) ++ r ∧ ∀ x ∈ r.head?, x.1 ≠ e := by
  refine ⟨(slL D f c 0).drop xs.length, ?_, fun x hx' => ?_⟩
  · have e1 : (slL D f c 0).take xs.length = xs.map (says e) := by
      apply List.ext_getElem?
      intro k
      rw [List.getElem?_take, List.getElem?_map]
      by_cases hk : k < xs.length
      · rw [if_pos hk, slL_get D f c 0 k (by omega), Nat.zero_add, (h k hk).1, (h k hk).2, List.getElem?_eq_getElem hk]
        rfl
      · rw [if_neg hk, List.getElem?_eq_none (by omega)]
        rfl
    rw [← e1, List.take_append_drop]
  · rw [List.head?_drop] at hx'
    by_cases hk : xs.length < c
    · rw [slL_get D f c 0 _ hk, Nat.zero_add] at hx'
      simp only [Option.mem_def, Option.some.injEq] at hx'
      rw [← hx']
      exact hr _ rfl hk
    · rw [List.getElem?_eq_none (by rw [slL_length]; omega)] at hx'
      cases hx'

/-- The writes of a group, from slot i on. -/
def wr (z e f : Nat) : Nat → List ((Int × List Nat) × Bool) → List (Int × List Nat)
  | _, [] => []
  | i, x :: r => ((f : Int) + i, secAt z e i x) :: wr z e f (i + 1) r
@[simp] theorem wr_length (z e f : Nat) : ∀ (xs : List ((Int × List Nat) × Bool)) (i : Nat), (wr z e f i xs).length = xs.length
  | [], _ => rfl
  | x :: r, i => by simp [wr, wr_length z e f r]
theorem wr_get (z e f : Nat) : ∀ (xs : List ((Int × List Nat) × Bool)) (i k : Nat) (h : k < xs.length), (wr z e f i xs)[k]? = some ((f : Int) + (i + k : Nat), secAt z e (i + k) xs[k])
  | [], _, _, h => absurd h (by simp)
  | x :: r, i, 0, h => rfl
  | x :: r, i, k + 1, h => by
    show (wr z e f (i + 1) r)[k]? = _
    rw [wr_get z e f r (i + 1) k (by simpa using h), show i + 1 + k = i + (k + 1) by omega]
    rfl
theorem wr_out (z e f : Nat) (a : Int) : ∀ (xs : List ((Int × List Nat) × Bool)) (i : Nat), (a < (f : Int) + i ∨ (f : Int) + i + xs.length ≤ a) → last a (wr z e f i xs) = none
  | [], _, _ => rfl
  | x :: r, i, h => by
    show last a (((f : Int) + i, secAt z e i x) :: wr z e f (i + 1) r) = none
    simp only [List.length_cons] at h
    rw [last_cons, wr_out z e f a r (i + 1) (by omega), if_neg (by show ¬ (f : Int) + i = a; omega)]
    rfl
theorem wr_last (z e f : Nat) : ∀ (xs : List ((Int × List Nat) × Bool)) (i k : Nat) (h : k < xs.length), last ((f : Int) + (i + k : Nat)) (wr z e f i xs) = some (secAt z e (i + k) xs[k])
  | [], _, _, h => absurd h (by simp)
  | x :: r, i, 0, h => by
    show last _ (((f : Int) + i, secAt z e i x) :: wr z e f (i + 1) r) = _
    rw [last_cons, wr_out z e f _ r (i + 1) (by omega), if_pos (by simp)]
    rfl
  | x :: r, i, k + 1, h => by
    show last _ (((f : Int) + i, secAt z e i x) :: wr z e f (i + 1) r) = _
    have := wr_last z e f r (i + 1) k (by simpa using h)
    rw [show i + 1 + k = i + (k + 1) by omega] at this
    rw [last_cons, this]
    rfl

/-- What Append does to a disk that is up: all of it, or first pieces, and then the disk is down. -/
theorem goApp_cases : ∀ (g : List (Int × List Nat)) (D : Dsk) (L : Lg), D.down = false → 0 ≤ D.armed → L.first + L.next + g.length ≤ D.sectors → (∀ c ∈ g, ChOk D.size c) →
    ((goApp D L g).1 = 0 ∧ (goApp D L g).2.1 = { D with armed := if D.armed = 0 then 0 else D.armed - (g.length + 1), fast := settle D.fast (D.loose ++ wr D.size L.epoch L.first L.next (fl g)), loose := [] } ∧ (goApp D L g).2.2 = { L with next := L.next + g.length, dead := false } ∧ (D.armed = 0 ∨ (g.length : Int) + 1 < D.armed)) ∨
    ((goApp D L g).1 = 4 ∧ 0 < D.armed ∧ ∃ j, j ≤ g.length ∧ (g ≠ [] → 1 ≤ j) ∧ (goApp D L g).2.1 = { D with armed := 0, down := true, loose := D.loose ++ (wr D.size L.epoch L.first L.next (fl g)).take j } ∧ (goApp D L g).2.2 = { L with next := L.next + j, dead := true })
  | [], D, L, hd, ha, _, _ => by
    have e : goApp D L [] = (D.flushErr, D.flush, { L with dead := decide (D.flushErr ≠ 0) }) := rfl
    rw [e]
    by_cases h0 : D.armed = 0
    · have hact : D.act = D := by unfold Dsk.act; rw [if_neg (by omega)]
      left
      have hf : D.flushErr = 0 := by unfold Dsk.flushErr; rw [hact, hd]; simp
      refine ⟨hf, ?_, by rw [hf]; rfl, .inl h0⟩
      unfold Dsk.flush
      rw [hact, hd]
      simp only [Bool.false_eq_true, if_false, if_pos h0, fl, wr, List.append_nil]
      cases D
      simp_all
    · have hact : D.act = { D with armed := D.armed - 1, down := decide (D.armed - 1 = 0) } := by unfold Dsk.act; rw [if_pos (by omega)]
      by_cases h1 : D.armed = 1
      · right
        have hdn : D.act.down = true := by rw [hact]; simp [h1]
        have hf : D.flushErr = 4 := by unfold Dsk.flushErr; rw [hdn]; simp
        refine ⟨hf, by omega, 0, Nat.le_refl _, by simp, ?_, by rw [hf]; rfl⟩
        have hfl : D.flush = D.act := by unfold Dsk.flush; rw [hd, hdn]; simp
        show D.flush = _
        rw [hfl, hact]
        simp [h1, wr, fl]
      · left
        have hdn : D.act.down = false := by rw [hact]; simp; omega
        have hf : D.flushErr = 0 := by unfold Dsk.flushErr; rw [hdn, hd]; simp
        refine ⟨hf, ?_, by rw [hf]; rfl, .inr (by simp; omega)⟩
        have hfl : D.flush = { D.act with fast := settle D.fast D.loose, loose := [] } := by unfold Dsk.flush; rw [hd, hdn]; simp
        show D.flush = _
        rw [hfl, hact]
        simp [h0, wr, fl, hd]
        omega
  | c :: r, D, L, hd, ha, hs, hc => by
    have hs' := hs
    simp only [List.length_cons] at hs'
    have hc0 := hc c (by simp)
    have hready : D.ready ((L.first : Int) + L.next) = 0 := by unfold Dsk.ready; rw [hd, if_neg (by simp), if_neg (by omega)]
    have hlen := (secAt_ok (z := D.size) (e := L.epoch) (i := L.next) (x := (c, r.isEmpty)) hc0).1
    have hput : D.put ((L.first : Int) + L.next) (secOf D.size L c.1.toNat r.isEmpty c.2) = { D.act with loose := D.loose ++ [((L.first : Int) + L.next, secAt D.size L.epoch L.next (c, r.isEmpty))] } := by
      rw [secOf_at, Dsk.put_eq hready hlen, Dsk.act_loose]
    have herr : D.putErr ((L.first : Int) + L.next) (secOf D.size L c.1.toNat r.isEmpty c.2) = if D.act.down then 4 else 0 := by
      unfold Dsk.putErr
      rw [secOf_at, hready, if_neg (by simp), if_neg (by rw [hlen]; simp)]
    have e : goApp D L (c :: r) = if D.putErr ((L.first : Int) + L.next) (secOf D.size L c.1.toNat r.isEmpty c.2) ≠ 0 then
      (D.putErr ((L.first : Int) + L.next) (secOf D.size L c.1.toNat r.isEmpty c.2), D.put ((L.first : Int) + L.next) (secOf D.size L c.1.toNat r.isEmpty c.2), { L with next := L.next + 1, dead := true })
      else goApp (D.put ((L.first : Int) + L.next) (secOf D.size L c.1.toNat r.isEmpty c.2)) { L with next := L.next + 1 } r := rfl
    rw [e, herr, hput]
    have hw : wr D.size L.epoch L.first L.next (fl (c :: r)) = ((L.first : Int) + L.next, secAt D.size L.epoch L.next (c, r.isEmpty)) :: wr D.size L.epoch L.first (L.next + 1) (fl r) := rfl
    rw [hw]
    by_cases h1 : D.armed = 1
    · have hact : D.act = { D with armed := 0, down := true } := by unfold Dsk.act; rw [if_pos (by omega)]; simp [h1]
      have hdn : D.act.down = true := by rw [hact]
      rw [hdn, if_pos rfl, if_pos (by simp)]
      right
      refine ⟨rfl, by omega, 1, by simp, fun _ => Nat.le_refl _, ?_, rfl⟩
      rw [hact]
      simp
    · obtain ⟨A, hA⟩ : ∃ A : Int, A = if D.armed = 0 then 0 else D.armed - 1 := ⟨_, rfl⟩
      have hact : D.act = { D with armed := A } := by
        unfold Dsk.act
        by_cases h0 : D.armed = 0
        · rw [if_neg (by omega), hA, if_pos h0]
          cases D; simp_all
        · rw [if_pos (by omega), hA, if_neg h0]
          have : decide (D.armed - 1 = 0) = D.down := by rw [hd]; simp; omega
          rw [this]
      have hdn : D.act.down = false := by rw [hact]; exact hd
      have e0 : (if false = true then (4 : Int) else 0) = 0 := rfl
      rw [hdn, e0, if_neg (by simp)]
      have ih := goApp_cases r { D.act with loose := D.loose ++ [((L.first : Int) + L.next, secAt D.size L.epoch L.next (c, r.isEmpty))] } { L with next := L.next + 1 } hdn (by show 0 ≤ D.act.armed; rw [hact]; show 0 ≤ A; rw [hA]; split <;> omega)
        (by show L.first + (L.next + 1) + r.length ≤ D.act.sectors; rw [Dsk.act_sectors]; omega) (fun c' hc' => by show ChOk D.act.size c'; rw [Dsk.act_size]; exact hc c' (by simp [hc']))
      rw [hact] at ih ⊢
      simp only at ih ⊢
      generalize goApp _ _ r = Z at ih ⊢
      rcases ih with ⟨q1, q2, q3, q4⟩ | ⟨q1, q2, j, q3, q4, q5, q6⟩
      · left
        refine ⟨q1, ?_, ?_, ?_⟩
        · rw [q2]
          congr 1
          · simp only [List.append_assoc, List.cons_append, List.nil_append]
          · by_cases h0 : D.armed = 0
            · have hA0 : A = 0 := by rw [hA, if_pos h0]
              rw [if_pos hA0, if_pos h0]
            · have hA1 : A = D.armed - 1 := by rw [hA, if_neg h0]
              rw [if_neg (by omega), if_neg h0, List.length_cons]
              omega
        · rw [q3]
          congr 1
          simp; omega
        · rw [hA] at q4
          by_cases h0 : D.armed = 0
          · exact .inl h0
          · rw [if_neg h0] at q4
            simp only [List.length_cons]
            omega
      · right
        refine ⟨q1, ?_, j + 1, by simp; omega, fun _ => by omega, ?_, ?_⟩
        · rw [hA] at q2
          split at q2 <;> omega
        · rw [q5]
          congr 1
          simp
        · rw [q6]
          congr 1
          omega
end Go.Proofs.Ytpomfokpmbblkaa
