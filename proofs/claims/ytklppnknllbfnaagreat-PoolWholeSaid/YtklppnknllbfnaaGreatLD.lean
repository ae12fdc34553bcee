/- Plain laws: what is appended to a log is read again. No program in sight. Plain law: what is torn is found out: first pieces of sectors of unlike marks, one upon the other, are a sector only where they are one of them. Plain laws: what a log holds after its groups, also behind a crash. No program in sight. Plain laws: a log behind a crash: what was told is there, and nothing by halves. No program in sight. Plain laws: a log behind a crash. -/
import Derived.Test.YtklppnknllbfnaaGreatLC
namespace Go.Proofs.YtklppnknllbfnaaGreat
set_option maxRecDepth 8000
/-- A change's sector in slot i of epoch e, on sectors of z bytes. -/
def secAt (z e i : Nat) (x : (Int × List Nat) × Bool) : List Nat := sector z (e * 2097152 + i + 1) (leb x.1.1.toNat 8 ++ [if x.2 then 1 else 0] ++ x.1.2)
theorem secOf_at (z : Nat) (L : Lg) (c : Int × List Nat) (last : Bool) : secOf z L c.1.toNat last c.2 = secAt z L.epoch L.next (c, last) := rfl
/-- May there be such a change? -/
structure ChOk (z : Nat) (c : Int × List Nat) : Prop where
 p0 : 0 ≤ c.1
 p1 : c.1 ≤ 2147483647
 len : c.2.length + 45 = z
 byt : ∀ b ∈ c.2, b < 256
theorem load_lt {c : Int × List Nat} {z : Nat} (h : ChOk z c) (f : Bool) : ∀ b ∈ leb c.1.toNat 8 ++ [if f then 1 else 0] ++ c.2, b < 256 := by
 intro b hb
 simp only [List.mem_append, List.mem_singleton] at hb
 rcases hb with (hb | hb) | hb
 ·exact leb_lt _ _ b hb
 ·subst hb; split <;> omega
 ·exact h.byt b hb
theorem secAt_ok {z e i : Nat} {x : (Int × List Nat) × Bool} (h : ChOk z x.1) : (secAt z e i x).length = z ∧ ∀ b ∈ secAt z e i x, b < 256 := by
 unfold secAt
 have hl := h.len
 exact ⟨sector_length (by simp; omega), sector_lt (load_lt h x.2)⟩
theorem secAt_reads {z e i : Nat} {x : (Int × List Nat) × Bool} (h : ChOk z x.1) (h1 : 64 ≤ z) (he : 1 ≤ e ∧ e ≤ 1099511627776) (hi : i ≤ 1048576) :
  readOk (secAt z e i x) = true ∧ readMark (secAt z e i x) = (e * 2097152 + i + 1 : Nat) ∧ readLoad (secAt z e i x) = leb x.1.1.toNat 8 ++ [if x.2 then 1 else 0] ++ x.1.2 ∧ readErr (secAt z e i x) = 0 := by
 have hl := h.len
 have hlen : (leb x.1.1.toNat 8 ++ [if x.2 then 1 else 0] ++ x.1.2).length = z - 36 := by simp; omega
 have := sector_reads z (e * 2097152 + i + 1) (leb x.1.1.toNat 8 ++ [if x.2 then 1 else 0] ++ x.1.2) h1 (by omega) (by omega) (by omega) (load_lt h x.2)
 rw [hlen, Nat.sub_self, List.replicate_zero, List.append_nil] at this
 exact this
theorem secAt_slot {z e i : Nat} {x : (Int × List Nat) × Bool} (h : ChOk z x.1) (h1 : 64 ≤ z) (he : 1 ≤ e ∧ e ≤ 1099511627776) (hi : i ≤ 1048576) :
  slotOk (secAt z e i x) i = true ∧ slotEp (secAt z e i x) i = e ∧ chOf (slotLoad (secAt z e i x) i) = some x := by
 obtain ⟨r1, r2, r3, r4⟩ := secAt_reads h h1 he hi
 have hE : slotE (secAt z e i x) i = e := by unfold slotE; rw [r2]; omega
 have hok : slotOk (secAt z e i x) i = true := by
  unfold slotOk
  rw [hE, r4, r2]
  have : okEp (e : Int) = true := by unfold okEp; exact decide_eq_true (by omega)
  rw [this]
  simp
 refine ⟨hok, by rw [(slot_yes hok).1, hE], ?_⟩
 rw [(slot_yes hok).2.1, r3]
 have t8 : (leb x.1.1.toNat 8 ++ [if x.2 then 1 else 0] ++ x.1.2).take 8 = leb x.1.1.toNat 8 := by
  rw [List.append_assoc]; exact List.take_left' (by simp)
 have d9 : (leb x.1.1.toNat 8 ++ [if x.2 then 1 else 0] ++ x.1.2).drop 9 = x.1.2 := List.drop_left' (by simp)
 have g8 : (leb x.1.1.toNat 8 ++ [if x.2 then 1 else 0] ++ x.1.2)[8]? = some (if x.2 then 1 else 0) := by
  rw [List.append_assoc, List.getElem?_append_right (by simp)]
  simp
 have hp := h.p1
 have hp0 := h.p0
 have hn : num (leb x.1.1.toNat 8) = x.1.1.toNat := num_leb 8 _ (by omega)
 unfold chOf
 rw [t8, d9, g8, hn, Option.getD_some]
 rw [if_neg (by split <;> omega)]
 have : ((x.1.1.toNat : Nat) : Int) = x.1.1 := by omega
 rw [this]
 obtain ⟨c, f⟩ := x
 cases f <;> rfl
/-- A group's changes, the last one marked. -/
def fl : List (Int × List Nat) → List ((Int × List Nat) × Bool)
 | [] => []
 | c :: r => (c, r.isEmpty) :: fl r
@[simp] theorem fl_length : ∀ g, (fl g).length = g.length
 | [] => rfl
 | c :: r => by simp [fl, fl_length r]
theorem fl_mem : ∀ (g : List (Int × List Nat)) (x : (Int × List Nat) × Bool), x ∈ fl g → x.1 ∈ g
 | [], x, h => by simp [fl] at h
 | c :: r, x, h => by
  simp only [fl, List.mem_cons] at h
  rcases h with rfl | h
  ·simp
  ·exact List.mem_cons.2 (.inr (fl_mem r x h))
def flat (rows : List (List (Int × List Nat))) : List ((Int × List Nat) × Bool) := rows.flatMap fl
theorem flat_append (a b : List (List (Int × List Nat))) : flat (a ++ b) = flat a ++ flat b := by simp [flat]
theorem flat_one (g : List (Int × List Nat)) : flat [g] = fl g := by simp [flat]
def says (e : Int) (x : (Int × List Nat) × Bool) : Int × Option ((Int × List Nat) × Bool) := (e, some x)
theorem grpL_group (e : Int) : ∀ (g : List (Int × List Nat)) (r : List (Int × Option ((Int × List Nat) × Bool))) (out : List (List (Int × List Nat))) (b : List (Int × List Nat)), g ≠ [] →
  grpL e ((fl g).map (says e) ++ r) out b = grpL e r (out ++ [b ++ g]) []
 | [], _, _, _, h => absurd rfl h
 | [c], r, out, b, _ => by
  show grpL e ((e, some (c, true)) :: r) out b = _
  rw [grpL_some]; rfl
 | c :: c2 :: g, r, out, b, _ => by
  show grpL e ((e, some (c, false)) :: ((fl (c2 :: g)).map (says e) ++ r)) out b = _
  rw [grpL_some, if_neg (by simp), grpL_group e (c2 :: g) r out (b ++ [c]) (by simp)]
  simp
theorem grpL_rows (e : Int) : ∀ (rows : List (List (Int × List Nat))) (r : List (Int × Option ((Int × List Nat) × Bool))) (out : List (List (Int × List Nat))), (∀ g ∈ rows, g ≠ []) →
  grpL e ((flat rows).map (says e) ++ r) out [] = grpL e r (out ++ rows) []
 | [], r, out, _ => by simp [flat]
 | g :: rows, r, out, h => by
  have e1 : flat (g :: rows) = fl g ++ flat rows := by simp [flat]
  rw [e1, List.map_append, List.append_assoc, grpL_group e g _ out [] (h g (by simp)), grpL_rows e rows r _ (fun g hg => h g (by simp [hg]))]
  simp
theorem grpL_stop (e : Int) (r : List (Int × Option ((Int × List Nat) × Bool))) (out : List (List (Int × List Nat))) (b : List (Int × List Nat)) (hr : ∀ x ∈ r.head?, x.1 ≠ e) : grpL e r out b = out := by
 cases r with
 | nil => rfl
 | cons x r => exact grpL_other (hr x (by simp)) x.2 r out b
theorem slL_length (D : Dsk) (f : Nat) : ∀ n i, (slL D f n i).length = n
 | 0, _ => rfl
 | n + 1, i => by rw [slL_succ, List.length_cons, slL_length D f n]
theorem slL_get (D : Dsk) (f : Nat) : ∀ n i k, k < n → (slL D f n i)[k]? = some (slotEp (D.tells ((f : Int) + (i + k : Nat))) (i + k), chOf (slotLoad (D.tells ((f : Int) + (i + k : Nat))) (i + k)))
 | 0, _, _, h => absurd h (by omega)
 | n + 1, i, 0, _ => rfl
 | n + 1, i, k + 1, h => by
  rw [slL_succ, List.getElem?_cons_succ, slL_get D f n (i + 1) k (by omega), show i + 1 + k = i + (k + 1) by omega]
/-- The slots say these changes first. -/
theorem slL_split (D : Dsk) (f c : Nat) (e : Int) (xs : List ((Int × List Nat) × Bool)) (hx : xs.length ≤ c) (h : ∀ i (hi : i < xs.length), slotEp (D.tells ((f : Int) + i)) i = e ∧ chOf (slotLoad (D.tells ((f : Int) + i)) i) = some xs[i])
  (hr : ∀ i, i = xs.length → i < c → slotEp (D.tells ((f : Int) + i)) i ≠ e) : ∃ r, slL D f c 0 = xs.map (says e) ++ r ∧ ∀ x ∈ r.head?, x.1 ≠ e := by
 refine ⟨(slL D f c 0).drop xs.length, ?_, fun x hx' => ?_⟩
 ·have e1 : (slL D f c 0).take xs.length = xs.map (says e) := by
   apply List.ext_getElem?
   intro k
   rw [List.getElem?_take, List.getElem?_map]
   by_cases hk : k < xs.length
   ·rw [if_pos hk, slL_get D f c 0 k (by omega), Nat.zero_add, (h k hk).1, (h k hk).2, List.getElem?_eq_getElem hk]
    rfl
   ·rw [if_neg hk, List.getElem?_eq_none (by omega)]
    rfl
  rw [← e1, List.take_append_drop]
 ·rw [List.head?_drop] at hx'
  by_cases hk : xs.length < c
  ·rw [slL_get D f c 0 _ hk, Nat.zero_add] at hx'
   simp only [Option.mem_def, Option.some.injEq] at hx'
   rw [← hx']
   exact hr _ rfl hk
  ·rw [List.getElem?_eq_none (by rw [slL_length]; omega)] at hx'
   cases hx'
/-- The writes of a group, from slot i on. -/
def wr (z e f : Nat) : Nat → List ((Int × List Nat) × Bool) → List (Int × List Nat)
 | _, [] => []
 | i, x :: r => ((f : Int) + i, secAt z e i x) :: wr z e f (i + 1) r
@[simp] theorem wr_length (z e f : Nat) : ∀ (xs : List ((Int × List Nat) × Bool)) (i : Nat), (wr z e f i xs).length = xs.length
 | [], _ => rfl
 | x :: r, i => by simp [wr, wr_length z e f r]
theorem wr_out (z e f : Nat) (a : Int) : ∀ (xs : List ((Int × List Nat) × Bool)) (i : Nat), (a < (f : Int) + i ∨ (f : Int) + i + xs.length ≤ a) → last a (wr z e f i xs) = none
 | [], _, _ => rfl
 | x :: r, i, h => by
  show last a (((f : Int) + i, secAt z e i x) :: wr z e f (i + 1) r) = none
  simp only [List.length_cons] at h
  rw [last_cons, wr_out z e f a r (i + 1) (by omega), if_neg (by show ¬ (f : Int) + i = a; omega)]
  rfl
theorem wr_last (z e f : Nat) : ∀ (xs : List ((Int × List Nat) × Bool)) (i k : Nat) (h : k < xs.length), last ((f : Int) + (i + k : Nat)) (wr z e f i xs) = some (secAt z e (i + k) xs[k])
 | [], _, _, h => absurd h (by simp)
 | x :: r, i, 0, h => by
  show last _ (((f : Int) + i, secAt z e i x) :: wr z e f (i + 1) r) = _
  rw [last_cons, wr_out z e f _ r (i + 1) (by omega), if_pos (by simp)]
  rfl
 | x :: r, i, k + 1, h => by
  show last _ (((f : Int) + i, secAt z e i x) :: wr z e f (i + 1) r) = _
  have := wr_last z e f r (i + 1) k (by simpa using h)
  rw [show i + 1 + k = i + (k + 1) by omega] at this
  rw [last_cons, this]
  rfl
/-- What Append does to a disk that is up: all of it, or first pieces, and then the disk is down. -/
theorem goApp_cases : ∀ (g : List (Int × List Nat)) (D : Dsk) (L : Lg), D.down = false → 0 ≤ D.armed → L.first + L.next + g.length ≤ D.sectors → (∀ c ∈ g, ChOk D.size c) →
  ((goApp D L g).1 = 0 ∧ (goApp D L g).2.1 = { D with armed := if D.armed = 0 then 0 else D.armed - (g.length + 1), fast := settle D.fast (D.loose ++ wr D.size L.epoch L.first L.next (fl g)), loose := [] } ∧ (goApp D L g).2.2 = { L with next := L.next + g.length, dead := false } ∧ (D.armed = 0 ∨ (g.length : Int) + 1 < D.armed)) ∨
  ((goApp D L g).1 = 4 ∧ 0 < D.armed ∧ ∃ j, j ≤ g.length ∧ (g ≠ [] → 1 ≤ j) ∧ (goApp D L g).2.1 = { D with armed := 0, down := true, loose := D.loose ++ (wr D.size L.epoch L.first L.next (fl g)).take j } ∧ (goApp D L g).2.2 = { L with next := L.next + j, dead := true })
 | [], D, L, hd, ha, _, _ => by
  have e : goApp D L [] = (D.flushErr, D.flush, { L with dead := decide (D.flushErr ≠ 0) }) := rfl
  rw [e]
  by_cases h0 : D.armed = 0
  ·have hact : D.act = D := by unfold Dsk.act; rw [if_neg (by omega)]
   left
   have hf : D.flushErr = 0 := by unfold Dsk.flushErr; rw [hact, hd]; simp
   refine ⟨hf, ?_, by rw [hf]; rfl, .inl h0⟩
   unfold Dsk.flush
   rw [hact, hd]
   simp only [Bool.false_eq_true, if_false, if_pos h0, fl, wr, List.append_nil]
   cases D
   simp_all
  ·have hact : D.act = { D with armed := D.armed - 1, down := decide (D.armed - 1 = 0) } := by unfold Dsk.act; rw [if_pos (by omega)]
   by_cases h1 : D.armed = 1
   ·right
    have hdn : D.act.down = true := by rw [hact]; simp [h1]
    have hf : D.flushErr = 4 := by unfold Dsk.flushErr; rw [hdn]; simp
    refine ⟨hf, by omega, 0, Nat.le_refl _, by simp, ?_, by rw [hf]; rfl⟩
    have hfl : D.flush = D.act := by unfold Dsk.flush; rw [hd, hdn]; simp
    show D.flush = _
    rw [hfl, hact]
    simp [h1, wr, fl]
   ·left
    have hdn : D.act.down = false := by rw [hact]; simp; omega
    have hf : D.flushErr = 0 := by unfold Dsk.flushErr; rw [hdn, hd]; simp
    refine ⟨hf, ?_, by rw [hf]; rfl, .inr (by simp; omega)⟩
    have hfl : D.flush = { D.act with fast := settle D.fast D.loose, loose := [] } := by unfold Dsk.flush; rw [hd, hdn]; simp
    show D.flush = _
    rw [hfl, hact]
    simp [h0, wr, fl, hd]
    omega
 | c :: r, D, L, hd, ha, hs, hc => by
  have hs' := hs
  simp only [List.length_cons] at hs'
  have hc0 := hc c (by simp)
  have hready : D.ready ((L.first : Int) + L.next) = 0 := by unfold Dsk.ready; rw [hd, if_neg (by simp), if_neg (by omega)]
  have hlen := (secAt_ok (z := D.size) (e := L.epoch) (i := L.next) (x := (c, r.isEmpty)) hc0).1
  have hput : D.put ((L.first : Int) + L.next) (secOf D.size L c.1.toNat r.isEmpty c.2) = { D.act with loose := D.loose ++ [((L.first : Int) + L.next, secAt D.size L.epoch L.next (c, r.isEmpty))] } := by
   rw [secOf_at, Dsk.put_eq hready hlen, Dsk.act_loose]
  have herr : D.putErr ((L.first : Int) + L.next) (secOf D.size L c.1.toNat r.isEmpty c.2) = if D.act.down then 4 else 0 := by
   unfold Dsk.putErr
   rw [secOf_at, hready, if_neg (by simp), if_neg (by rw [hlen]; simp)]
  have e : goApp D L (c :: r) = if D.putErr ((L.first : Int) + L.next) (secOf D.size L c.1.toNat r.isEmpty c.2) ≠ 0 then
   (D.putErr ((L.first : Int) + L.next) (secOf D.size L c.1.toNat r.isEmpty c.2), D.put ((L.first : Int) + L.next) (secOf D.size L c.1.toNat r.isEmpty c.2), { L with next := L.next + 1, dead := true })
   else goApp (D.put ((L.first : Int) + L.next) (secOf D.size L c.1.toNat r.isEmpty c.2)) { L with next := L.next + 1 } r := rfl
  rw [e, herr, hput]
  have hw : wr D.size L.epoch L.first L.next (fl (c :: r)) = ((L.first : Int) + L.next, secAt D.size L.epoch L.next (c, r.isEmpty)) :: wr D.size L.epoch L.first (L.next + 1) (fl r) := rfl
  rw [hw]
  by_cases h1 : D.armed = 1
  ·have hact : D.act = { D with armed := 0, down := true } := by unfold Dsk.act; rw [if_pos (by omega)]; simp [h1]
   have hdn : D.act.down = true := by rw [hact]
   rw [hdn, if_pos rfl, if_pos (by simp)]
   right
   refine ⟨rfl, by omega, 1, by simp, fun _ => Nat.le_refl _, ?_, rfl⟩
   rw [hact]
   simp
  ·obtain ⟨A, hA⟩ : ∃ A : Int, A = if D.armed = 0 then 0 else D.armed - 1 := ⟨_, rfl⟩
   have hact : D.act = { D with armed := A } := by
    unfold Dsk.act
    by_cases h0 : D.armed = 0
    ·rw [if_neg (by omega), hA, if_pos h0]
     cases D; simp_all
    ·rw [if_pos (by omega), hA, if_neg h0]
     have : decide (D.armed - 1 = 0) = D.down := by rw [hd]; simp; omega
     rw [this]
   have hdn : D.act.down = false := by rw [hact]; exact hd
   have e0 : (if false = true then (4 : Int) else 0) = 0 := rfl
   rw [hdn, e0, if_neg (by simp)]
   have ih := goApp_cases r { D.act with loose := D.loose ++ [((L.first : Int) + L.next, secAt D.size L.epoch L.next (c, r.isEmpty))] } { L with next := L.next + 1 } hdn (by show 0 ≤ D.act.armed; rw [hact]; show 0 ≤ A; rw [hA]; split <;> omega)
    (by show L.first + (L.next + 1) + r.length ≤ D.act.sectors; rw [Dsk.act_sectors]; omega) (fun c' hc' => by show ChOk D.act.size c'; rw [Dsk.act_size]; exact hc c' (by simp [hc']))
   rw [hact] at ih ⊢
   simp only at ih ⊢
   generalize goApp _ _ r = Z at ih ⊢
   rcases ih with ⟨q1, q2, q3, q4⟩ | ⟨q1, q2, j, q3, q4, q5, q6⟩
   ·left
    refine ⟨q1, ?_, ?_, ?_⟩
    ·rw [q2]
     congr 1
     ·simp only [List.append_assoc, List.cons_append, List.nil_append]
     ·by_cases h0 : D.armed = 0
      ·have hA0 : A = 0 := by rw [hA, if_pos h0]
       rw [if_pos hA0, if_pos h0]
      ·have hA1 : A = D.armed - 1 := by rw [hA, if_neg h0]
       rw [if_neg (by omega), if_neg h0, List.length_cons]
       omega
    ·rw [q3]
     congr 1
     simp; omega
    ·rw [hA] at q4
     by_cases h0 : D.armed = 0
     ·exact .inl h0
     ·rw [if_neg h0] at q4
      simp only [List.length_cons]
      omega
   ·right
    refine ⟨q1, ?_, j + 1, by simp; omega, fun _ => by omega, ?_, ?_⟩
    ·rw [hA] at q2
     split at q2 <;> omega
    ·rw [q5]
     congr 1
     simp
    ·rw [q6]
     congr 1
     omega
end Go.Proofs.YtklppnknllbfnaaGreat
namespace Go.Proofs.YtklppnknllbfnaaGreat
open Go.RowKit
/-- A first piece of one row upon another. -/
def mix (k : Nat) (a b : List Nat) : List Nat := a.take k ++ b.drop k
theorem mix_length {k n : Nat} {a b : List Nat} (ha : a.length = n) (hb : b.length = n) (hk : k ≤ n) : (mix k a b).length = n := by simp [mix]; omega
theorem mix_at {k n : Nat} {a b : List Nat} (ha : a.length = n) (hk : k ≤ n) (j : Nat) : (mix k a b).getD j 0 = if j < k then a.getD j 0 else b.getD j 0 := by
 unfold mix
 have hl : (a.take k).length = k := by simp; omega
 simp only [List.getD_eq_getElem?_getD]
 by_cases h : j < k
 ·rw [if_pos h, List.getElem?_append_left (by omega), List.getElem?_take, if_pos h]
 ·rw [if_neg h, List.getElem?_append_right (by omega), hl, List.getElem?_drop]
  congr 2
  omega
theorem row_ext {n : Nat} {a b : List Nat} (ha : a.length = n) (hb : b.length = n) (h : ∀ j, j < n → a.getD j 0 = b.getD j 0) : a = b := by
 apply List.ext_getElem (by omega)
 intro j h1 h2
 have := h j (by omega)
 simpa [List.getD_eq_getElem?_getD, List.getElem?_eq_getElem h1, List.getElem?_eq_getElem h2] using this
def H (m j : Nat) : Nat := (head m).getD j 0
theorem H_low (m j : Nat) (h : j < 8) : H m j = (leb m 8).getD j 0 := by
 unfold H head
 simp only [List.getD_eq_getElem?_getD]
 rw [List.getElem?_append_left (by simp; omega)]
theorem H_high (m j : Nat) (h : j < 8) : H m (8 + j) = 255 - (leb m 8).getD j 0 := by
 unfold H head
 simp only [List.getD_eq_getElem?_getD]
 have h2 : j < (leb m 8).length := by simp; omega
 rw [List.getElem?_append_right (by simp)]
 simp [List.getElem?_eq_getElem h2]
theorem leb_inj {a b : Nat} (ha : a < 2 ^ 64) (hb : b < 2 ^ 64) (h : ∀ j, j < 8 → (leb a 8).getD j 0 = (leb b 8).getD j 0) : a = b := by
 have e : leb a 8 = leb b 8 := row_ext (n := 8) (by simp) (by simp) h
 rw [← num_leb 8 a ha, ← num_leb 8 b hb, e]
theorem low_inj {a b : Nat} (ha : a < 2 ^ 64) (hb : b < 2 ^ 64) (h : ∀ j, j < 8 → H a j = H b j) : a = b :=
 leb_inj ha hb fun j hj => by rw [← H_low a j hj, ← H_low b j hj, h j hj]
theorem leb_byte (m j : Nat) (h : j < 8) : (leb m 8).getD j 0 < 256 := by
 have h2 : j < (leb m 8).length := by simp; omega
 simp only [List.getD_eq_getElem?_getD, List.getElem?_eq_getElem h2, Option.getD_some]
 exact leb_lt m 8 _ (List.getElem_mem _)
theorem high_inj {a b : Nat} (ha : a < 2 ^ 64) (hb : b < 2 ^ 64) (h : ∀ j, j < 8 → H a (8 + j) = H b (8 + j)) : a = b :=
 leb_inj ha hb fun j hj => by
  have := h j hj
  rw [H_high a j hj, H_high b j hj] at this
  have := leb_byte a j hj
  have := leb_byte b j hj
  omega
theorem H_last (m : Nat) (h : m ≤ 4611686018427387904) : H m 15 ≠ 0 := by
 have := H_high m 7 (by omega)
 rw [show (8 + 7 : Nat) = 15 from rfl] at this
 rw [this]
 have e : (leb m 8).getD 7 0 = m / 2 ^ 56 % 256 := by simp [leb, List.range, List.range.loop]
 rw [e]
 omega
theorem sector_first (n m : Nat) (l : List Nat) (j : Nat) (hj : j < 16) : (sector n m l).getD j 0 = H m j := by
 unfold sector body H
 simp only [List.append_assoc, List.getD_eq_getElem?_getD]
 rw [List.getElem?_append_left (by simp; omega)]
theorem sector_last (n m : Nat) (l : List Nat) (hl : l.length + 36 ≤ n) (j : Nat) : (sector n m l).getD (n - 16 + j) 0 = H m j := by
 have hb := body_length (n := n) (m := m) (l := l) hl
 unfold sector H
 simp only [List.getD_eq_getElem?_getD]
 have e : (body n m l ++ leb (M.crc (body n m l)) 4).length = n - 16 := by rw [List.length_append, hb, leb_length]; omega
 rw [List.getElem?_append_right (by omega), e]
 congr 2
 omega
/-- What is a sector has its mark at both ends. -/
theorem ok_ends {s : List Nat} {n : Nat} (hb : ∀ b ∈ s, b < 256) (hn : s.length = n) (h1 : 64 ≤ n) (h : readOk s = true) :
  ∃ m, m < 2 ^ 64 ∧ m ≤ 4611686018427387904 ∧ (∀ j, j < 16 → s.getD j 0 = H m j) ∧ (∀ j, j < 16 → s.getD (n - 16 + j) 0 = H m j) := by
 rw [(readOk_eq s hb (by omega)).1] at h
 have h' := of_decide_eq_true h
 rw [hn] at h'
 obtain ⟨_, c2, c3⟩ := h'
 have hl : ((s.take (n - 20)).drop 16).length + 36 ≤ n := by simp [hn]; omega
 refine ⟨num (s.take 8), by omega, c2, fun j hj => ?_, fun j _ => ?_⟩
 ·have := sector_first n (num (s.take 8)) ((s.take (n - 20)).drop 16) j hj
  rw [← c3] at this
  exact this
 ·have := sector_last n (num (s.take 8)) ((s.take (n - 20)).drop 16) hl j
  rw [← c3] at this
  exact this
/-- Three rows, first pieces upon one another: the marks' places alone tell. The lowest row is a sector's (z is false) or holds only 0. -/
theorem torn (n k1 k2 m0 m1 m2 : Nat) (z : Bool) (S S0 S1 S2 : Nat → Nat) (h1 : 64 ≤ n) (hk1 : k1 ≤ n) (hk2 : k2 ≤ n)
  (hm0 : z = false → m0 < 2 ^ 64) (hm1 : m1 < 2 ^ 64) (hm2 : m2 < 2 ^ 64) (h01 : z = false → m0 ≠ m1) (h02 : z = false → m0 ≠ m2) (h12 : m1 ≠ m2)
  (hS : ∀ j, S j = if j < k2 then S2 j else if j < k1 then S1 j else S0 j)
  (a0 : z = false → ∀ j, j < 16 → S0 j = H m0 j) (b0 : z = false → ∀ j, j < 16 → S0 (n - 16 + j) = H m0 j) (z0 : z = true → S0 (n - 16 + 15) = 0)
  (a1 : ∀ j, j < 16 → S1 j = H m1 j) (b1 : ∀ j, j < 16 → S1 (n - 16 + j) = H m1 j)
  (a2 : ∀ j, j < 16 → S2 j = H m2 j) (b2 : ∀ j, j < 16 → S2 (n - 16 + j) = H m2 j)
  (m : Nat) (hm : m < 2 ^ 64) (hm' : m ≤ 4611686018427387904) (a : ∀ j, j < 16 → S j = H m j) (b : ∀ j, j < 16 → S (n - 16 + j) = H m j) :
  (∀ j, j < n → S j = S2 j) ∨ (∀ j, j < n → S j = S1 j) ∨ (z = false ∧ ∀ j, j < n → S j = S0 j) := by
 have n2 : ∀ j, j < k2 → S j = S2 j := fun j h => by rw [hS, if_pos h]
 have n1 : ∀ j, k2 ≤ j → j < k1 → S j = S1 j := fun j h h' => by rw [hS, if_neg (by omega), if_pos h']
 have n0 : ∀ j, k2 ≤ j → k1 ≤ j → S j = S0 j := fun j h h' => by rw [hS, if_neg (by omega), if_neg (by omega)]
 -- where all of the last 16 bytes are one sector's, or the halves of the first or last 16
 have fL : ∀ x (T : Nat → Nat), x < 2 ^ 64 → (∀ j, j < 16 → T j = H x j) → (∀ j, j < 8 → S j = T j) → m = x := fun x T hx hT h => low_inj hm hx fun j hj => by rw [← a j (by omega), h j hj, hT j (by omega)]
 have fH : ∀ x (T : Nat → Nat), x < 2 ^ 64 → (∀ j, j < 16 → T j = H x j) → (∀ j, j < 8 → S (8 + j) = T (8 + j)) → m = x := fun x T hx hT h => high_inj hm hx fun j hj => by rw [← a (8 + j) (by omega), h j hj, hT (8 + j) (by omega)]
 have gL : ∀ x (T : Nat → Nat), x < 2 ^ 64 → (∀ j, j < 16 → T (n - 16 + j) = H x j) → (∀ j, j < 8 → S (n - 16 + j) = T (n - 16 + j)) → m = x := fun x T hx hT h => low_inj hm hx fun j hj => by rw [← b j (by omega), h j hj, hT j (by omega)]
 have gH : ∀ x (T : Nat → Nat), x < 2 ^ 64 → (∀ j, j < 16 → T (n - 16 + j) = H x j) → (∀ j, j < 8 → S (n - 16 + (8 + j)) = T (n - 16 + (8 + j))) → m = x := fun x T hx hT h => high_inj hm hx fun j hj => by rw [← b (8 + j) (by omega), h j hj, hT (8 + j) (by omega)]
 -- a row that has m's ends agrees with S at the ends
 have ends : ∀ (T : Nat → Nat), (∀ j, j < 16 → T j = H m j) → (∀ j, j < 16 → T (n - 16 + j) = H m j) → (∀ j, 16 ≤ j → j < n - 16 → S j = T j) → ∀ j, j < n → S j = T j := fun T hA hB hM j hj => by
  by_cases q : j < 16
  ·rw [a j q, hA j q]
  ·by_cases q2 : j < n - 16
   ·exact hM j (by omega) q2
   ·have := b (j - (n - 16)) (by omega)
    rw [show n - 16 + (j - (n - 16)) = j by omega] at this
    rw [this, ← hB (j - (n - 16)) (by omega), show n - 16 + (j - (n - 16)) = j by omega]
 by_cases e2 : k2 = n
 ·exact .inl fun j hj => n2 j (by omega)
 by_cases e1 : k1 = n
 ·by_cases q : 16 ≤ k2
  ·have hmm : m = m2 := fL m2 S2 hm2 a2 fun j hj => n2 j (by omega)
   by_cases q3 : k2 ≤ n - 16
   ·exact absurd (hmm.symm.trans (gL m1 S1 hm1 b1 fun j hj => n1 _ (by omega) (by omega))) (Ne.symm h12)
   ·subst hmm
    exact .inl (ends S2 a2 b2 fun j _ hj => n2 j (by omega))
  ·have hmm : m = m1 := gL m1 S1 hm1 b1 fun j hj => n1 _ (by omega) (by omega)
   subst hmm
   exact .inr (.inl (ends S1 a1 b1 fun j hj _ => n1 j (by omega) (by omega)))
 ·cases z with
  | true =>
   have := b 15 (by omega)
   rw [n0 _ (by omega) (by omega), z0 rfl] at this
   exact absurd this.symm (H_last m hm')
  | false =>
   have hm0 := hm0 rfl
   have h01 := h01 rfl
   have h02 := h02 rfl
   have a0 := a0 rfl
   have b0 := b0 rfl
   by_cases c1 : k1 ≤ n - 16
   ·by_cases c2 : k2 ≤ n - 16
    ·-- the last 16 are the lowest row's
     have hmm : m = m0 := gL m0 S0 hm0 b0 fun j hj => n0 _ (by omega) (by omega)
     by_cases c3 : 8 ≤ k2
     ·exact absurd (hmm.symm.trans (fL m2 S2 hm2 a2 fun j hj => n2 j (by omega))) h02
     ·by_cases c4 : 16 ≤ k1
      ·exact absurd (hmm.symm.trans (fH m1 S1 hm1 a1 fun j hj => n1 _ (by omega) (by omega))) h01
      ·subst hmm
       exact .inr (.inr ⟨rfl, ends S0 a0 b0 fun j hj _ => n0 j (by omega) (by omega)⟩)
    ·have hmm : m = m2 := fL m2 S2 hm2 a2 fun j hj => n2 j (by omega)
     subst hmm
     exact .inl (ends S2 a2 b2 fun j _ hj => n2 j (by omega))
   ·by_cases c2 : k2 ≤ n - 16
    ·-- the last 16: the middle row's and the lowest one's
     by_cases t : n - 16 + 8 ≤ k1
     ·have hmm : m = m1 := gL m1 S1 hm1 b1 fun j hj => n1 _ (by omega) (by omega)
      by_cases c3 : 8 ≤ k2
      ·exact absurd (hmm.symm.trans (fL m2 S2 hm2 a2 fun j hj => n2 j (by omega))) h12
      ·subst hmm
       exact .inr (.inl (ends S1 a1 b1 fun j hj hj' => n1 j (by omega) (by omega)))
     ·have hmm : m = m0 := gH m0 S0 hm0 b0 fun j hj => n0 _ (by omega) (by omega)
      by_cases c3 : 8 ≤ k2
      ·exact absurd (hmm.symm.trans (fL m2 S2 hm2 a2 fun j hj => n2 j (by omega))) h02
      ·exact absurd (hmm.symm.trans (fH m1 S1 hm1 a1 fun j hj => n1 _ (by omega) (by omega))) h01
    ·have hmm : m = m2 := fL m2 S2 hm2 a2 fun j hj => n2 j (by omega)
     subst hmm
     exact .inl (ends S2 a2 b2 fun j _ hj => n2 j (by omega))
theorem getD_zeros (z j : Nat) : (List.replicate z 0).getD j 0 = 0 := by
 rw [List.getD_eq_getElem?_getD, List.getElem?_replicate]
 split <;> rfl
/-- What may lie below a torn sector: nothing but 0, or a sector of another mark. -/
def Under (z m : Nat) (s : List Nat) : Prop := s = List.replicate z 0 ∨ ∃ m0 l, m0 < 2 ^ 64 ∧ m0 ≠ m ∧ l.length + 36 ≤ z ∧ (∀ b ∈ l, b < 256) ∧ s = sector z m0 l
/-- A first piece of a sector upon what may lie below: it reads as the one or the other, or as none. -/
theorem torn_two {z m k : Nat} {l s : List Nat} (h1 : 64 ≤ z) (hk : k ≤ z) (hm : m < 2 ^ 64) (hl : l.length + 36 ≤ z) (hb : ∀ b ∈ l, b < 256) (hs : Under z m s) (hok : readOk (mix k (sector z m l) s) = true) :
  mix k (sector z m l) s = sector z m l ∨ mix k (sector z m l) s = s := by
 have hls : s.length = z := by
  rcases hs with rfl | ⟨m0, l0, _, _, h0, _, rfl⟩
  ·simp
  ·exact sector_length h0
 have hbs : ∀ b ∈ s, b < 256 := by
  rcases hs with rfl | ⟨m0, l0, _, _, h0, hb0, rfl⟩
  ·intro b hb; rw [List.eq_of_mem_replicate hb]; omega
  ·exact sector_lt hb0
 have hln : (sector z m l).length = z := sector_length hl
 have hmb : ∀ b ∈ mix k (sector z m l) s, b < 256 := by
  intro b hb'
  unfold mix at hb'
  rcases List.mem_append.1 hb' with h | h
  ·exact sector_lt hb b (List.mem_of_mem_take h)
  ·exact hbs b (List.mem_of_mem_drop h)
 obtain ⟨m', hm', hm'', a, b⟩ := ok_ends hmb (mix_length hln hls hk) h1 hok
 have hl2 : ([] : List Nat).length + 36 ≤ z := by simp; omega
 have hS : ∀ m2 j, (mix k (sector z m l) s).getD j 0 = if j < 0 then (fun j => (sector z m2 []).getD j 0) j else if j < k then (fun j => (sector z m l).getD j 0) j else (fun j => s.getD j 0) j := fun m2 j => by
  rw [if_neg (by omega), mix_at hln hk]
 have other : ∀ x : Nat, ∃ a b : Nat, a < 2 ^ 64 ∧ b < 2 ^ 64 ∧ a ≠ b ∧ m ≠ a ∧ m ≠ b ∧ x ≠ a ∧ x ≠ b := by
  intro x
  refine ⟨if m ≠ 0 ∧ x ≠ 0 then 0 else if m ≠ 1 ∧ x ≠ 1 then 1 else 2, if m ≠ 3 ∧ x ≠ 3 then 3 else if m ≠ 4 ∧ x ≠ 4 then 4 else 5, ?_⟩
  refine ⟨?_, ?_, ?_, ?_, ?_, ?_, ?_⟩ <;> (repeat' split) <;> omega
 have both : ∀ a b : Nat, a < 2 ^ 64 → b < 2 ^ 64 → a ≠ b → (∀ j, j < z → (mix k (sector z m l) s).getD j 0 = (sector z a []).getD j 0) → (∀ j, j < z → (mix k (sector z m l) s).getD j 0 = (sector z b []).getD j 0) → False := by
  intro a b ha hb hab h h'
  refine hab (low_inj ha hb fun j hj => ?_)
  rw [← sector_first z a [] j (by omega), ← sector_first z b [] j (by omega), ← h j (by omega), ← h' j (by omega)]
 rcases hs with hs0 | ⟨m0, l0, hm0, hne, hl0, hb0, hs0⟩
 ·obtain ⟨x, y, hx, hy, hxy, hmx, hmy, _, _⟩ := other m
  have go : ∀ m2, m2 < 2 ^ 64 → m ≠ m2 → (∀ j, j < z → (mix k (sector z m l) s).getD j 0 = (sector z m2 []).getD j 0) ∨ (∀ j, j < z → (mix k (sector z m l) s).getD j 0 = (sector z m l).getD j 0) := fun m2 hm2 hmm2 => by
   rcases torn z k 0 0 m m2 true _ _ _ _ h1 hk (by omega) (by simp) hm hm2 (by simp) (by simp) hmm2 (hS m2) (by simp) (by simp) (by intro _; rw [hs0]; exact getD_zeros z _) (fun j hj => sector_first z m l j hj) (fun j hj => sector_last z m l hl j)
    (fun j hj => sector_first z m2 [] j hj) (fun j hj => sector_last z m2 [] hl2 j) m' hm' hm'' a b with h | h | h
   ·exact .inl h
   ·exact .inr h
   ·exact absurd h.1 (by simp)
  rcases go x hx hmx with h | h
  ·rcases go y hy hmy with h' | h'
   ·exact (both x y hx hy hxy h h').elim
   ·exact .inl (row_ext (mix_length hln hls hk) hln h')
  ·exact .inl (row_ext (mix_length hln hls hk) hln h)
 ·obtain ⟨x, y, hx, hy, hxy, hmx, hmy, h0x, h0y⟩ := other m0
  have go : ∀ m2, m2 < 2 ^ 64 → m ≠ m2 → m0 ≠ m2 → (∀ j, j < z → (mix k (sector z m l) s).getD j 0 = (sector z m2 []).getD j 0) ∨ (∀ j, j < z → (mix k (sector z m l) s).getD j 0 = (sector z m l).getD j 0) ∨ (∀ j, j < z → (mix k (sector z m l) s).getD j 0 = s.getD j 0) := fun m2 hm2 hmm2 h0m2 => by
   rcases torn z k 0 m0 m m2 false _ _ _ _ h1 hk (by omega) (fun _ => hm0) hm hm2 (fun _ => hne) (fun _ => h0m2) hmm2 (hS m2) (fun _ j hj => by rw [hs0]; exact sector_first z m0 l0 j hj) (fun _ j hj => by rw [hs0]; exact sector_last z m0 l0 hl0 j) (by simp)
    (fun j hj => sector_first z m l j hj) (fun j hj => sector_last z m l hl j)
    (fun j hj => sector_first z m2 [] j hj) (fun j hj => sector_last z m2 [] hl2 j) m' hm' hm'' a b with h | h | h
   ·exact .inl h
   ·exact .inr (.inl h)
   ·exact .inr (.inr h.2)
  rcases go x hx hmx h0x with h | h | h
  ·rcases go y hy hmy h0y with h' | h' | h'
   ·exact (both x y hx hy hxy h h').elim
   ·exact .inl (row_ext (mix_length hln hls hk) hln h')
   ·exact .inr (row_ext (mix_length hln hls hk) hls h')
  ·exact .inl (row_ext (mix_length hln hls hk) hln h)
  ·exact .inr (row_ext (mix_length hln hls hk) hls h)
end Go.Proofs.YtklppnknllbfnaaGreat
namespace Go.Proofs.YtklppnknllbfnaaGreat
set_option maxRecDepth 8000
theorem readOk_zeros {z : Nat} (h : 64 ≤ z) : readOk (List.replicate z 0) = false := by
 cases hr : readOk (List.replicate z 0) with
 | false => rfl
 | true =>
  obtain ⟨m, _, hm, _, b⟩ := ok_ends (n := z) (fun b hb => by rw [List.eq_of_mem_replicate hb]; omega) (by simp) h hr
  have := b 15 (by omega)
  rw [getD_zeros] at this
  exact absurd this.symm (H_last m hm)
theorem slot_bad {s : List Nat} (h : readOk s = false) (i : Nat) : slotEp s i = 0 := by
 refine (slot_no ?_).1
 unfold slotOk readErr
 rw [h]; rfl
theorem slotEp_zeros {z : Nat} (h : 64 ≤ z) (i : Nat) : slotEp (List.replicate z 0) i = 0 := slot_bad (readOk_zeros h) i
/-- What a log on a disk that is up holds: these groups. -/
structure LogHas (D : Dsk) (L : Lg) (rows : List (List (Int × List Nat))) : Prop where
 up : D.down = false
 room : L.first + L.count ≤ D.sectors
 lok : L.Ok
 nx : L.next = (flat rows).length
 ch : ∀ x ∈ flat rows, ChOk D.size x.1
 ne : ∀ g ∈ rows, g ≠ []
 z : 64 ≤ D.size
 slots : ∀ i (h : i < (flat rows).length), D.tells ((L.first : Int) + i) = secAt D.size L.epoch i (flat rows)[i]
 rest : ∀ i : Nat, (flat rows).length ≤ i → i < L.count → slotEp (D.tells ((L.first : Int) + i)) i ≠ L.epoch
section
variable {D D' : Dsk} {L : Lg} {rows : List (List (Int × List Nat))} {g : List (Int × List Nat)}
theorem LogHas.le (h : LogHas D L rows) : (flat rows).length ≤ L.count := by have := h.lok.n; have := h.nx; omega
theorem LogHas.slot (h : LogHas D L rows) (i : Nat) (hi : i < (flat rows).length) : slotEp (D.tells ((L.first : Int) + i)) i = L.epoch ∧ chOf (slotLoad (D.tells ((L.first : Int) + i)) i) = some (flat rows)[i] := by
 rw [h.slots i hi]
 have := h.lok.c
 have := h.le
 exact (secAt_slot (h.ch _ (List.getElem_mem hi)) h.z h.lok.e (by omega)).2
/-- What log.Read tells. -/
theorem LogHas.groups (h : LogHas D L rows) : grp D L.first L.epoch L.count 0 [] [] = rows := by
 obtain ⟨r, e, hr⟩ := slL_split D L.first L.count L.epoch (flat rows) h.le h.slot (fun i hi hc => h.rest i (by omega) hc)
 unfold Go.Proofs.YtklppnknllbfnaaGreat.grp
 rw [e, grpL_rows _ _ _ _ h.ne, grpL_stop _ _ _ _ hr]
 simp
/-- A log that is started where no slot has its epoch. -/
theorem LogHas.start (hu : D.down = false) (hr : L.first + L.count ≤ D.sectors) (hL : L.Ok) (hn : L.next = 0) (hz : 64 ≤ D.size) (h : ∀ i : Nat, i < L.count → slotEp (D.tells ((L.first : Int) + i)) i ≠ L.epoch) : LogHas D L [] :=
 ⟨hu, hr, hL, hn, by simp [flat], by simp, hz, fun i hi => absurd hi (by simp [flat]), fun i _ hc => h i hc⟩
theorem rightE_ok (h : rightE D L g = 0) (hb : ∀ c ∈ g, ∀ b ∈ c.2, b < 256) (hz : 64 ≤ D.size) (hz2 : D.size ≤ 4096) : L.dead = false ∧ g ≠ [] ∧ (∀ c ∈ g, ChOk D.size c) ∧ L.next + g.length ≤ L.count := by
 unfold rightE at h
 split at h
 ·omega
 ·rename_i h1
  split at h
  ·omega
  ·rename_i h2
   split at h
   ·omega
   ·rename_i h3
    split at h
    ·omega
    ·rename_i h4
     simp only [Bool.or_eq_true, not_or, Bool.not_eq_true, List.any_eq_false, List.isEmpty_eq_false_iff] at h2 h3
     refine ⟨by simpa using h1, h2.1, fun c hc => ?_, by omega⟩
     have p := h2.2 c hc
     have q := h3 c hc
     unfold badPage at p
     unfold badLen at q
     have p := of_decide_eq_false p
     have q := of_decide_eq_false q
     have hr : lroom D.size = D.size - 45 := by
      unfold lroom room okSize
      rw [if_pos (decide_eq_true (by omega))]
      omega
     rw [hr] at q
     exact ⟨by omega, by omega, by omega, hb c hc⟩
/-- What stands fast after a group is what was told OK. -/
theorem tells_settled (f : Int → List Nat) (D : Dsk) (ws : List (Int × List Nat)) (a : Int) (hf : f = settle D.fast (D.loose ++ ws)) {E : Dsk} (h1 : E.fast = f) (h2 : E.loose = []) : E.tells a = (last a ws).getD (D.tells a) := by
 unfold Dsk.tells
 rw [h1, h2, hf, settle_last, last_append]
 show (none : Option (List Nat)).getD _ = _
 cases last a ws <;> rfl
theorem flat_get_new (rows : List (List (Int × List Nat))) (g : List (Int × List Nat)) (i : Nat) (h : i < (flat (rows ++ [g])).length) (h1 : (flat rows).length ≤ i) (h2 : i - (flat rows).length < (fl g).length) : (flat (rows ++ [g]))[i] = (fl g)[i - (flat rows).length] := by
 have e : flat (rows ++ [g]) = flat rows ++ fl g := by rw [flat_append, flat_one]
 simp only [e]
 rw [List.getElem_append_right h1]
theorem flat_get_old (rows : List (List (Int × List Nat))) (g : List (Int × List Nat)) (i : Nat) (h : i < (flat (rows ++ [g])).length) (h1 : i < (flat rows).length) : (flat (rows ++ [g]))[i] = (flat rows)[i] := by
 have e : flat (rows ++ [g]) = flat rows ++ fl g := by rw [flat_append, flat_one]
 simp only [e]
 rw [List.getElem_append_left h1]
/-- A group is appended. -/
theorem LogHas.apps (h : LogHas D L rows) (ha : 0 ≤ D.armed) (hz2 : D.size ≤ 4096) (hb : ∀ c ∈ g, ∀ b ∈ c.2, b < 256) (h0 : rightE D L g = 0) :
  ((app D L g).1 = 0 ∧ LogHas (app D L g).2.1 (app D L g).2.2 (rows ++ [g]) ∧ (app D L g).2.1.loose = [] ∧ (D.armed = 0 → (app D L g).2.1.armed = 0) ∧ 0 ≤ (app D L g).2.1.armed ∧ (app D L g).2.1.size = D.size ∧ (app D L g).2.1.sectors = D.sectors ∧
   (app D L g).2.2 = { L with next := L.next + g.length, dead := false } ∧ ∀ a, (∀ k, k < g.length → a ≠ (L.first : Int) + (L.next + k : Nat)) → (app D L g).2.1.tells a = D.tells a) ∨
  ((app D L g).1 = 4 ∧ 0 < D.armed ∧ ∃ j, 1 ≤ j ∧ j ≤ g.length ∧ (app D L g).2.1 = { D with armed := 0, down := true, loose := D.loose ++ (wr D.size L.epoch L.first L.next (fl g)).take j } ∧ (app D L g).2.2 = { L with next := L.next + j, dead := true }) := by
 obtain ⟨hd, hne, hch, hfit⟩ := rightE_ok h0 hb h.z hz2
 have hroom := h.room
 have e : Go.Proofs.YtklppnknllbfnaaGreat.app D L g = goApp D L g := by unfold Go.Proofs.YtklppnknllbfnaaGreat.app; rw [if_pos h0]
 rw [e]
 rcases goApp_cases g D L h.up ha (by omega) hch with ⟨q1, q2, q3, q4⟩ | ⟨q1, q2, j, q3, q4, q5, q6⟩
 ·left
  have ht : ∀ a, (goApp D L g).2.1.tells a = (last a (wr D.size L.epoch L.first L.next (fl g))).getD (D.tells a) := fun a => tells_settled _ D _ a rfl (by rw [q2]) (by rw [q2])
  have hlen : (flat (rows ++ [g])).length = (flat rows).length + g.length := by rw [flat_append, flat_one, List.length_append, fl_length]
  have hnx := h.nx
  have hout : ∀ a, (∀ k, k < g.length → a ≠ (L.first : Int) + (L.next + k : Nat)) → (goApp D L g).2.1.tells a = D.tells a := fun a hk => by
   rw [ht, wr_out]
   ·rfl
   ·rw [fl_length]
    by_cases h1 : a < (L.first : Int) + L.next
    ·exact .inl h1
    ·right
     by_cases h2 : (L.first : Int) + L.next + g.length ≤ a
     ·exact h2
     ·exfalso
      refine hk (a - ((L.first : Int) + L.next)).toNat (by omega) ?_
      omega
  have hsz : (goApp D L g).2.1.size = D.size := by rw [q2]
  have hse : (goApp D L g).2.1.sectors = D.sectors := by rw [q2]
  refine ⟨q1, ⟨by rw [q2]; exact h.up, by rw [q3, hse]; exact hroom, ⟨by rw [q3]; exact h.lok.f, by rw [q3]; exact h.lok.c, by rw [q3]; exact h.lok.e, by rw [q3]; exact hfit⟩, by rw [q3, hlen]; show L.next + g.length = _; omega, fun x hx => ?_, fun g' hg' => ?_, by rw [hsz]; exact h.z, fun i hi => ?_, fun i hi hc => ?_⟩,
   by rw [q2], fun h0 => by rw [q2]; simp [h0], by rw [q2]; show 0 ≤ (if D.armed = 0 then 0 else _); split <;> omega, hsz, hse, q3, hout⟩
  ·rw [hsz]
   rw [flat_append, flat_one, List.mem_append] at hx
   rcases hx with hx | hx
   ·exact h.ch x hx
   ·exact hch _ (fl_mem g x hx)
  ·rw [List.mem_append] at hg'
   rcases hg' with hg' | hg'
   ·exact h.ne g' hg'
   ·simp at hg'; rw [hg']; exact hne
  ·rw [q3, hsz]
   show (goApp D L g).2.1.tells ((L.first : Int) + i) = _
   by_cases hlt : i < (flat rows).length
   ·rw [hout _ (fun k hk => by omega), flat_get_old rows g i hi hlt]
    exact h.slots i hlt
   ·have hk : i - (flat rows).length < (fl g).length := by rw [fl_length]; omega
    rw [ht, flat_get_new rows g i hi (by omega) hk]
    have := wr_last D.size L.epoch L.first (fl g) L.next (i - (flat rows).length) hk
    rw [show L.next + (i - (flat rows).length) = i by omega] at this
    rw [this]
    rfl
  ·rw [q3] at hc ⊢
   show slotEp ((goApp D L g).2.1.tells ((L.first : Int) + i)) i ≠ L.epoch
   rw [hout _ (fun k hk => by omega)]
   exact h.rest i (by omega) hc
 ·right
  exact ⟨q1, q2, j, q4 hne, q3, q5, q6⟩
end
/-! ### a crash -/
theorem crashed_at {z : Nat} {fs : List Int} {f : Int → List Nat} {W : List (Int × List Nat)} (hd : ∀ i k (hi : i < W.length) (hk : k < W.length), W[i].1 = W[k].1 → i = k) :
  ∀ n k (hk : k < W.length), k < n → crashed z fs f W n W[k].1 = W[k].2.take (cutAt z fs k W.length) ++ (f W[k].1).drop (cutAt z fs k W.length)
 | 0, _, _, h => absurd h (by omega)
 | n + 1, k, hk, h => by
  have step : ∀ n, n ≤ k → crashed z fs f W n W[k].1 = f W[k].1 := by
   intro n hn
   induction n with
   | zero => rfl
   | succ n ih =>
    have hn' : n < W.length := by omega
    rw [crashed_step hn', upd_other _ _ (fun e => by have := hd _ _ hk hn' e; omega)]
    exact ih (by omega)
  by_cases hn : n < W.length
  ·rw [crashed_step hn]
   by_cases e : k = n
   ·subst e
    rw [upd_self, step k (Nat.le_refl _)]
   ·rw [upd_other _ _ (fun e' => e (hd _ _ hk hn e'))]
    exact crashed_at hd n k hk (by omega)
  ·rw [crashed_over (by omega)]
   exact crashed_at hd n k hk (by omega)
end Go.Proofs.YtklppnknllbfnaaGreat
namespace Go.Proofs.YtklppnknllbfnaaGreat
set_option maxRecDepth 8000
section
variable {D E : Dsk} {L : Lg} {rows : List (List (Int × List Nat))} {g : List (Int × List Nat)}
end
/-! ### what a log leaves to a later one -/
/-- Each of a log's slots holds nothing but 0, or a sector of its epoch. -/
def Left0 (D : Dsk) (L : Lg) : Prop := ∀ i : Nat, i < L.count → D.tells ((L.first : Int) + i) = List.replicate D.size 0 ∨ ∃ x, ChOk D.size x.1 ∧ D.tells ((L.first : Int) + i) = secAt D.size L.epoch i x
section
variable {D E : Dsk} {L : Lg} {rows : List (List (Int × List Nat))} {g : List (Int × List Nat)}
end
end Go.Proofs.YtklppnknllbfnaaGreat
namespace Go.Proofs.YtklppnknllbfnaaGreat
set_option maxRecDepth 8000
/-- A group that is not whole is none. -/
theorem grpL_part (e : Int) : ∀ (g : List (Int × List Nat)) (k : Nat) (r : List (Int × Option ((Int × List Nat) × Bool))) (out : List (List (Int × List Nat))) (b : List (Int × List Nat)), k < g.length → (∀ x ∈ r.head?, x.1 ≠ e) →
  grpL e (((fl g).take k).map (says e) ++ r) out b = out
 | [], k, _, _, _, h, _ => absurd h (by simp)
 | c :: g, 0, r, out, b, _, hr => by
  show grpL e r out b = out
  cases r with
  | nil => rfl
  | cons x r => exact grpL_other (hr x (by simp)) x.2 r out b
 | [c], k + 1, r, out, b, h, hr => absurd h (by simp)
 | c :: c2 :: g, k + 1, r, out, b, h, hr => by
  show grpL e ((e, some (c, false)) :: (((fl (c2 :: g)).take k).map (says e) ++ r)) out b = _
  rw [grpL_some, if_neg (by simp)]
  exact grpL_part e (c2 :: g) k r out _ (by simp at h ⊢; omega) hr
theorem wr_get (z e f : Nat) : ∀ (xs : List ((Int × List Nat) × Bool)) (i k : Nat) (h : k < xs.length), (wr z e f i xs)[k]? = some ((f : Int) + (i + k : Nat), secAt z e (i + k) xs[k])
 | [], _, _, h => absurd h (by simp)
 | x :: r, i, 0, h => rfl
 | x :: r, i, k + 1, h => by
  show (wr z e f (i + 1) r)[k]? = _
  rw [wr_get z e f r (i + 1) k (by simpa using h), show i + 1 + k = i + (k + 1) by omega]
  rfl
theorem wr_inj {z e f i : Nat} {xs : List ((Int × List Nat) × Bool)} {j : Nat} : ∀ a k (ha : a < ((wr z e f i xs).take j).length) (hk : k < ((wr z e f i xs).take j).length), ((wr z e f i xs).take j)[a].1 = ((wr z e f i xs).take j)[k].1 → a = k := by
 intro a k ha hk h
 have g : ∀ b (hb : b < ((wr z e f i xs).take j).length), ((wr z e f i xs).take j)[b].1 = (f : Int) + (i + b : Nat) := by
  intro b hb
  have hl : b < xs.length := by simp at hb; omega
  have := wr_get z e f xs i b hl
  rw [List.getElem_take]
  rw [List.getElem?_eq_getElem (by simpa using hl)] at this
  rw [Option.some.inj this]
 rw [g a ha, g k hk] at h
 omega
/-- The slots behind a crash in the middle of a group: each is as ahead of it, or new; the last of them may be torn. -/
theorem crash_slots {D E : Dsk} {e f i j : Nat} {xs : List ((Int × List Nat) × Bool)} (fs : List Int) (hl : D.loose = []) (hj : j ≤ xs.length) (hE : E = ({ D with armed := 0, down := true, loose := D.loose ++ (wr D.size e f i xs).take j } : Dsk).crash fs) (hx : ∀ x ∈ xs, ChOk D.size x.1) (hf : ∀ a, (D.fast a).length = D.size) :
  (∀ a, (∀ k, k < j → a ≠ (f : Int) + (i + k : Nat)) → E.tells a = D.tells a) ∧
  (∀ k (hk : k < j), k + 1 < j → E.tells ((f : Int) + (i + k : Nat)) = D.tells ((f : Int) + (i + k : Nat)) ∨ E.tells ((f : Int) + (i + k : Nat)) = secAt D.size e (i + k) (xs[k]'(by omega))) ∧
  (∀ k (hk : k < j), ∃ c, c ≤ D.size ∧ E.tells ((f : Int) + (i + k : Nat)) = mix c (secAt D.size e (i + k) (xs[k]'(by omega))) (D.tells ((f : Int) + (i + k : Nat)))) := by
 have hlen : ((wr D.size e f i xs).take j).length = j := by simp; omega
 have ht : ∀ a, D.tells a = D.fast a := fun a => by unfold Dsk.tells; rw [hl]; rfl
 have hEt : ∀ a, E.tells a = crashed D.size fs D.fast ((wr D.size e f i xs).take j) j a := fun a => by
  rw [hE, hl]
  show (last a ([] : List (Int × List Nat))).getD _ = _
  show crashed D.size fs D.fast ([] ++ (wr D.size e f i xs).take j) ([] ++ (wr D.size e f i xs).take j).length a = _
  rw [List.nil_append, hlen]
 have hg : ∀ b (hb : b < ((wr D.size e f i xs).take j).length), ((wr D.size e f i xs).take j)[b] = ((f : Int) + (i + b : Nat), secAt D.size e (i + b) (xs[b]'(by simp at hb; omega))) := by
  intro b hb
  have hl' : b < xs.length := by simp at hb; omega
  have := wr_get D.size e f xs i b hl'
  rw [List.getElem_take]
  rw [List.getElem?_eq_getElem (by simpa using hl')] at this
  exact Option.some.inj this
 have hat : ∀ k (hk : k < j), E.tells ((f : Int) + (i + k : Nat)) = mix (cutAt D.size fs k j) (secAt D.size e (i + k) (xs[k]'(by omega))) (D.tells ((f : Int) + (i + k : Nat))) := by
  intro k hk
  have := crashed_at (z := D.size) (fs := fs) (f := D.fast) (wr_inj (z := D.size) (e := e) (f := f) (i := i) (xs := xs) (j := j)) j k (by omega) hk
  rw [hg k (by omega)] at this
  simp only [hlen] at this
  rw [hEt, ht]
  exact this
 refine ⟨fun a ha => ?_, fun k hk hk1 => ?_, fun k hk => ⟨_, cutAt_le _ _ _ _, hat k hk⟩⟩
 ·rw [hEt, ht]
  refine crashed_other (fun w hw => ?_) j
  obtain ⟨b, hb, rfl⟩ := List.getElem_of_mem hw
  rw [hg b hb]
  exact fun h => ha b (by omega) h.symm
 ·rw [hat k hk]
  have hxk := secAt_ok (z := D.size) (e := e) (i := i + k) (x := xs[k]'(by omega)) (hx _ (List.getElem_mem _))
  have hcut : cutAt D.size fs k j = 0 ∨ cutAt D.size fs k j = D.size := by
   unfold cutAt
   rw [if_pos hk1]
   have := pick_lt (fs.drop k) (n := 2) (by omega)
   have h2 : pick (fs.drop k) 2 = 0 ∨ pick (fs.drop k) 2 = 1 := by omega
   rcases h2 with h2 | h2 <;> rw [h2] <;> simp
  rcases hcut with h | h
  ·left; rw [h]; rfl
  ·right
   rw [h]
   unfold mix
   rw [List.take_of_length_le (by rw [hxk.1]; exact Nat.le_refl _), List.drop_eq_nil_of_le (by rw [ht, hf]; exact Nat.le_refl _), List.append_nil]
theorem first_not {P : Nat → Prop} : ∀ j, (∀ k, k < j → P k ∨ ¬ P k) → ∃ p, p ≤ j ∧ (∀ k, k < p → P k) ∧ (p = j ∨ ¬ P p)
 | 0, _ => ⟨0, Nat.le_refl _, by intro k h; omega, .inl rfl⟩
 | j + 1, h => by
  obtain ⟨p, hp, h1, h2⟩ := first_not j (fun k hk => h k (by omega))
  rcases h2 with h2 | h2
  ·rcases h j (by omega) with h3 | h3
   ·refine ⟨j + 1, Nat.le_refl _, fun k hk => ?_, .inl rfl⟩
    by_cases e : k = j
    ·subst e; exact h3
    ·exact h1 k (by omega)
   ·exact ⟨p, by omega, h1, .inr (by rw [h2]; exact h3)⟩
  ·exact ⟨p, by omega, h1, .inr h2⟩
section
variable {D E : Dsk} {L : Lg} {rows : List (List (Int × List Nat))} {g : List (Int × List Nat)}
/-- The slots of a group behind a crash in its middle: new, or no slots of the epoch. -/
theorem LogHas.crash_slot (h : LogHas D L rows) {j : Nat} (fs : List Int) (hl : D.loose = []) (hj : j ≤ g.length) (hE : E = ({ D with armed := 0, down := true, loose := D.loose ++ (wr D.size L.epoch L.first L.next (fl g)).take j } : Dsk).crash fs)
  (hg : ∀ c ∈ g, ChOk D.size c) (hf : ∀ a, (D.fast a).length = D.size) (hfit : L.next + g.length ≤ L.count)
  (hu : ∀ i : Nat, L.next ≤ i → i < L.count → Under D.size (L.epoch * 2097152 + i + 1) (D.tells ((L.first : Int) + i))) (k : Nat) (hk : k < j) :
  E.tells ((L.first : Int) + (L.next + k : Nat)) = secAt D.size L.epoch (L.next + k) ((fl g)[k]'(by rw [fl_length]; omega)) ∨ E.tells ((L.first : Int) + (L.next + k : Nat)) = D.tells ((L.first : Int) + (L.next + k : Nat)) ∨ readOk (E.tells ((L.first : Int) + (L.next + k : Nat))) = false := by
 have hx : ∀ x ∈ fl g, ChOk D.size x.1 := fun x hx => hg _ (fl_mem g x hx)
 obtain ⟨_, _, h3⟩ := crash_slots fs hl (by rw [fl_length]; exact hj) hE hx hf
 obtain ⟨c, hc, e⟩ := h3 k hk
 have hxk := hx _ (List.getElem_mem (show k < (fl g).length by rw [fl_length]; omega))
 have he := h.lok.e
 have hcn := h.lok.c
 cases hr : readOk (E.tells ((L.first : Int) + (L.next + k : Nat))) with
 | false => exact .inr (.inr rfl)
 | true =>
  rw [e] at hr ⊢
  rcases torn_two h.z hc (by omega) (by have := hxk.len; simp; omega) (load_lt hxk _) (hu (L.next + k) (by omega) (by omega)) hr with h | h
  ·exact .inl h
  ·exact .inr (.inl h)
/-- WHAT WAS TOLD IS THERE, AND NOTHING BY HALVES. -/
theorem LogHas.crash_whole (h : LogHas D L rows) {j : Nat} (fs : List Int) (hl : D.loose = []) (hj : j ≤ g.length) (hE : E = ({ D with armed := 0, down := true, loose := D.loose ++ (wr D.size L.epoch L.first L.next (fl g)).take j } : Dsk).crash fs)
  (hg : ∀ c ∈ g, ChOk D.size c) (hne : g ≠ []) (hf : ∀ a, (D.fast a).length = D.size) (hfit : L.next + g.length ≤ L.count)
  (hu : ∀ i : Nat, L.next ≤ i → i < L.count → Under D.size (L.epoch * 2097152 + i + 1) (D.tells ((L.first : Int) + i))) :
  grp E L.first L.epoch L.count 0 [] [] = rows ∨ grp E L.first L.epoch L.count 0 [] [] = rows ++ [g] := by
 have hx : ∀ x ∈ fl g, ChOk D.size x.1 := fun x hx => hg _ (fl_mem g x hx)
 have hs := h.crash_slot fs hl hj hE hg hf hfit hu
 obtain ⟨h1, _, _⟩ := crash_slots fs hl (by rw [fl_length]; exact hj) hE hx hf
 have hnx := h.nx
 have he := h.lok.e
 have hc := h.lok.c
 obtain ⟨p, hp, hP, hend⟩ := first_not (P := fun k => ∃ hk : k < (fl g).length, E.tells ((L.first : Int) + (L.next + k : Nat)) = secAt D.size L.epoch (L.next + k) (fl g)[k]) j (fun k _ => Classical.em _)
 have hnot : p < g.length → slotEp (E.tells ((L.first : Int) + (L.next + p : Nat))) (L.next + p) ≠ L.epoch := by
  intro hpg
  by_cases hpj : p = j
  ·rw [h1 _ (fun k hk => by omega)]
   exact h.rest (L.next + p) (by omega) (by omega)
  ·rcases hs p (by omega) with h | h | h
   ·rcases hend with e | e
    ·exact absurd e hpj
    ·exact absurd ⟨_, h⟩ e
   ·rw [h]; exact LogHas.rest ‹_› (L.next + p) (by omega) (by omega)
   ·rw [slot_bad h]; omega
 have hold : ∀ i (hi : i < (flat rows).length), slotEp (E.tells ((L.first : Int) + i)) i = L.epoch ∧ chOf (slotLoad (E.tells ((L.first : Int) + i)) i) = some (flat rows)[i] := by
  intro i hi
  rw [h1 _ (fun k hk => by omega)]
  exact h.slot i hi
 have hnew : ∀ k, k < p → ∃ hk : k < (fl g).length, slotEp (E.tells ((L.first : Int) + (L.next + k : Nat))) (L.next + k) = L.epoch ∧ chOf (slotLoad (E.tells ((L.first : Int) + (L.next + k : Nat))) (L.next + k)) = some (fl g)[k] := by
  intro k hk
  obtain ⟨hk', e⟩ := hP k hk
  rw [e]
  exact ⟨hk', (secAt_slot (hx _ (List.getElem_mem hk')) h.z he (by omega)).2⟩
 have hxs : ∀ i (hi : i < (flat rows ++ (fl g).take p).length), slotEp (E.tells ((L.first : Int) + i)) i = L.epoch ∧ chOf (slotLoad (E.tells ((L.first : Int) + i)) i) = some (flat rows ++ (fl g).take p)[i] := by
  intro i hi
  by_cases hlt : i < (flat rows).length
  ·rw [List.getElem_append_left hlt]
   exact hold i hlt
  ·rw [List.getElem_append_right (by omega)]
   have hk : i - (flat rows).length < p := by
    rw [List.length_append, List.length_take] at hi; omega
   obtain ⟨hk', q⟩ := hnew _ hk
   rw [show L.next + (i - (flat rows).length) = i by omega] at q
   rw [List.getElem_take]
   exact q
 have hlen : (flat rows ++ (fl g).take p).length = L.next + p := by rw [List.length_append, List.length_take, fl_length]; omega
 obtain ⟨r, e, hr⟩ := slL_split E L.first L.count L.epoch (flat rows ++ (fl g).take p) (by omega) hxs (fun i hi hic => by
  rw [hlen] at hi
  subst hi
  by_cases hpg : p < g.length
  ·exact hnot hpg
  ·rw [h1 _ (fun k hk => by omega)]
   exact h.rest (L.next + p) (by omega) hic)
 unfold Go.Proofs.YtklppnknllbfnaaGreat.grp
 rw [e, List.map_append, List.append_assoc, grpL_rows _ _ _ _ h.ne]
 by_cases hpg : p < g.length
 ·left
  rw [grpL_part _ _ _ _ _ _ hpg hr]
  simp
 ·right
  have ep : (fl g).take p = fl g := List.take_of_length_le (by rw [fl_length]; omega)
  rw [ep, grpL_group _ _ _ _ _ hne, grpL_stop _ _ _ _ hr]
  simp
end
end Go.Proofs.YtklppnknllbfnaaGreat
