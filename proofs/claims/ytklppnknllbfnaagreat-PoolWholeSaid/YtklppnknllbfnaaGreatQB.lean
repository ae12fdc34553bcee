/- Waves of writes on an armed disk: all of them, or first pieces, then it is down. Plain laws: what a torn head, a torn slot is behind another crash. Plain laws: what a disk holds behind a crash, and what Open makes of it. Plain laws: Open over a crash. -/
import Derived.Test.YtklppnknllbfnaaGreatQA
namespace Go.Proofs.YtklppnknllbfnaaGreat
open Go.RowKit Go.Maps
set_option maxRecDepth 8000
/-- Writes in turn, up to the first error. -/
def runW (D : Dsk) : List (Int × List Nat) → Int × Dsk
 | [] => (0, D)
 | e :: r => if D.putErr e.1 e.2 ≠ 0 then (D.putErr e.1 e.2, D.put e.1 e.2) else runW (D.put e.1 e.2) r
/-- Writes in turn, and a flush behind them. -/
def wave (D : Dsk) (W : List (Int × List Nat)) : Int × Dsk := if (runW D W).1 ≠ 0 then runW D W else ((runW D W).2.flushErr, (runW D W).2.flush)
/-- Writes that may be made. -/
def Fit (D : Dsk) (W : List (Int × List Nat)) : Prop := ∀ e ∈ W, 0 ≤ e.1 ∧ e.1 < (D.sectors : Int) ∧ e.2.length = D.size ∧ ∀ b ∈ e.2, b < 256
def left (n : Int) (k : Nat) : Int := if n = 0 then 0 else n - k
section
variable {D D' : Dsk} {W : List (Int × List Nat)}
theorem runW_cases : ∀ (W : List (Int × List Nat)) (D : Dsk), D.down = false → 0 ≤ D.armed → Fit D W →
  (runW D W = (0, { D with armed := left D.armed W.length, loose := D.loose ++ W }) ∧ (D.armed = 0 ∨ (W.length : Int) < D.armed)) ∨
  (0 < D.armed ∧ ∃ j, 1 ≤ j ∧ j ≤ W.length ∧ runW D W = (4, { D with armed := 0, down := true, loose := D.loose ++ W.take j }))
 | [], D, hd, ha, _ => by
  left
  refine ⟨?_, by simp; omega⟩
  have : left D.armed ([] : List (Int × List Nat)).length = D.armed := by unfold left; simp; intro h; exact h.symm
  rw [this, List.append_nil]
  rfl
 | e :: r, D, hd, ha, hf => by
  obtain ⟨f1, f2, f3, f4⟩ := hf e (by simp)
  have hready : D.ready e.1 = 0 := by unfold Dsk.ready; rw [hd, if_neg (by simp), if_neg (by omega)]
  have hput : D.put e.1 e.2 = { D.act with loose := D.loose ++ [e] } := by
   rw [Dsk.put_eq hready f3, Dsk.act_loose]
  have herr : D.putErr e.1 e.2 = if D.act.down then 4 else 0 := by
   unfold Dsk.putErr
   rw [hready, if_neg (by simp), if_neg (by rw [f3]; simp)]
  have eq : runW D (e :: r) = if D.putErr e.1 e.2 ≠ 0 then (D.putErr e.1 e.2, D.put e.1 e.2) else runW (D.put e.1 e.2) r := rfl
  rw [eq, herr, hput]
  by_cases h0 : D.armed = 0
  ·have hact : D.act = D := by unfold Dsk.act; rw [if_neg (by omega)]
   rw [hact, hd, if_neg (by simp)]
   have ih := runW_cases r { D with loose := D.loose ++ [e] } hd ha (fun x hx => hf x (by simp [hx]))
   rcases ih with ⟨h1, h2⟩ | ⟨h1, _⟩
   ·left
    rw [h1]
    refine ⟨?_, .inl h0⟩
    dsimp only
    unfold left
    rw [if_pos h0, if_pos h0, List.append_assoc, hd]
    rfl
   ·exact absurd h1 (by dsimp only; omega)
  ·have hact : D.act = { D with armed := D.armed - 1, down := decide (D.armed - 1 = 0) } := by unfold Dsk.act; rw [if_pos (by omega)]
   by_cases h1 : D.armed = 1
   ·right
    rw [hact]
    refine ⟨by omega, 1, by omega, by simp, ?_⟩
    simp [h1]
   ·have hdn : decide (D.armed - 1 = 0) = false := by simp; omega
    rw [hact, hdn, if_neg (by simp)]
    have ih := runW_cases r { D with armed := D.armed - 1, down := false, loose := D.loose ++ [e] } rfl (by dsimp only; omega) (fun x hx => hf x (by simp [hx]))
    rcases ih with ⟨h2, h3⟩ | ⟨h2, j, h3, h4, h5⟩
    ·left
     rw [h2]
     dsimp only at h3 ⊢
     refine ⟨?_, by simp only [List.length_cons]; omega⟩
     unfold left
     rw [if_neg h0, if_neg (by omega), List.append_assoc, hd]
     simp only [List.length_cons, List.singleton_append]
     congr 2
     omega
    ·right
     rw [h5]
     refine ⟨by omega, j + 1, by omega, by simp; omega, ?_⟩
     simp [List.append_assoc]
theorem flush_cases (hd : D.down = false) (ha : 0 ≤ D.armed) :
  (D.flushErr = 0 ∧ D.flush = { D with armed := left D.armed 1, fast := settle D.fast D.loose, loose := [] } ∧ (D.armed = 0 ∨ 1 < D.armed)) ∨
  (D.armed = 1 ∧ D.flushErr = 4 ∧ D.flush = { D with armed := 0, down := true }) := by
 by_cases h0 : D.armed = 0
 ·have hact : D.act = D := by unfold Dsk.act; rw [if_neg (by omega)]
  left
  refine ⟨by unfold Dsk.flushErr; rw [hact, hd]; simp, ?_, .inl h0⟩
  unfold Dsk.flush
  rw [hact, hd]
  unfold left
  rw [if_pos h0]
  cases D
  simp_all
 ·have hact : D.act = { D with armed := D.armed - 1, down := decide (D.armed - 1 = 0) } := by unfold Dsk.act; rw [if_pos (by omega)]
  by_cases h1 : D.armed = 1
  ·right
   refine ⟨h1, by unfold Dsk.flushErr; rw [hact]; simp [h1], ?_⟩
   unfold Dsk.flush
   rw [hact, hd]
   simp [h1]
  ·left
   have hdn : decide (D.armed - 1 = 0) = false := by simp; omega
   refine ⟨by unfold Dsk.flushErr; rw [hact, hd, hdn]; simp, ?_, by omega⟩
   unfold Dsk.flush
   rw [hact, hd, hdn]
   simp [left, h0]
/-- A disk behind a crash in the middle of writes: each sector as it was, or a first piece of what was written to it. -/
def Tear (D : Dsk) (W : List (Int × List Nat)) (E : Dsk) : Prop := ∀ a, E.tells a = D.tells a ∨ ∃ l c, (a, l) ∈ W ∧ c ≤ D.size ∧ E.tells a = mix c l (D.tells a)
/-- A disk that is up, with nothing loose. -/
structure Rest (D : Dsk) : Prop where
 ok : D.Ok
 up : D.down = false
 lose : D.loose = []
theorem tear_take {j : Nat} (hr : Rest D) (hf : Fit D W) (hd : ∀ i k (hi : i < W.length) (hk : k < W.length), W[i].1 = W[k].1 → i = k) (X : Dsk) (hX : X = { D with armed := 0, down := true, loose := D.loose ++ W.take j }) (fs : List Int) :
  Rest (X.crash fs) ∧ (X.crash fs).armed = 0 ∧ Tear D W (X.crash fs) := by
 subst hX
 have hl : ∀ e ∈ W.take j, 0 ≤ e.1 ∧ e.1 < (D.sectors : Int) ∧ e.2.length = D.size ∧ ∀ b ∈ e.2, b < 256 := fun e he => hf e (List.mem_of_mem_take he)
 have hok : ({ D with armed := 0, down := true, loose := D.loose ++ W.take j } : Dsk).Ok :=
  ⟨hr.ok.s1, hr.ok.s2, hr.ok.z1, hr.ok.z2, hr.ok.len, hr.ok.byt, fun e he => by
   rcases List.mem_append.1 he with h | h
   ·exact hr.ok.lose e h
   ·exact hl e h, by simp, by simp⟩
 refine ⟨⟨hok.crash fs, rfl, rfl⟩, rfl, fun a => ?_⟩
 have ht : D.tells a = D.fast a := by unfold Dsk.tells; rw [hr.lose]; rfl
 have hE : (({ D with armed := 0, down := true, loose := D.loose ++ W.take j } : Dsk).crash fs).tells a = crashed D.size fs D.fast (W.take j) (W.take j).length a := by
  show crashed D.size fs D.fast (D.loose ++ W.take j) (D.loose ++ W.take j).length a = _
  rw [hr.lose, List.nil_append]
 rw [hE, ht]
 by_cases hm : ∃ k, ∃ hk : k < (W.take j).length, (W.take j)[k].1 = a
 ·obtain ⟨k, hk, rfl⟩ := hm
  right
  have hd' : ∀ i k (hi : i < (W.take j).length) (hk : k < (W.take j).length), (W.take j)[i].1 = (W.take j)[k].1 → i = k := by
   intro i k hi hk h
   simp only [List.getElem_take] at h
   exact hd i k (by simp at hi; omega) (by simp at hk; omega) h
  refine ⟨(W.take j)[k].2, _, List.mem_of_mem_take (List.getElem_mem hk), cutAt_le _ _ _ _, crashed_at (z := D.size) (fs := fs) (f := D.fast) hd' _ k hk hk⟩
 ·left
  refine crashed_other (fun e he h => hm ?_) _
  obtain ⟨k, hk, rfl⟩ := List.getElem_of_mem he
  exact ⟨k, hk, h⟩
/-- A disk behind writes that were flushed. -/
def Laid (D : Dsk) (W : List (Int × List Nat)) (E : Dsk) : Prop := ∀ a, E.tells a = (last a W).getD (D.tells a)
theorem wave_cases (hr : Rest D) (hf : Fit D W) (hd : ∀ i k (hi : i < W.length) (hk : k < W.length), W[i].1 = W[k].1 → i = k) :
  ((wave D W).1 = 0 ∧ (wave D W).2 = { D with armed := left D.armed (W.length + 1), fast := settle D.fast W, loose := [] } ∧ Rest (wave D W).2 ∧ Laid D W (wave D W).2 ∧ (D.armed = 0 ∨ (W.length + 1 : Nat) < D.armed)) ∨
  ((wave D W).1 = 4 ∧ 0 < D.armed ∧ (wave D W).2.down = true ∧ (wave D W).2.Ok ∧ (wave D W).2.loose.length ≤ W.length ∧ (wave D W).2.sectors = D.sectors ∧ (wave D W).2.size = D.size ∧ ∀ fs, Rest ((wave D W).2.crash fs) ∧ ((wave D W).2.crash fs).armed = 0 ∧ Tear D W ((wave D W).2.crash fs)) := by
 have hok : ∀ (j : Nat), ({ D with armed := 0, down := true, loose := D.loose ++ W.take j } : Dsk).Ok := fun j =>
  ⟨hr.ok.s1, hr.ok.s2, hr.ok.z1, hr.ok.z2, hr.ok.len, hr.ok.byt, fun e he => by
   rcases List.mem_append.1 he with h | h
   ·exact hr.ok.lose e h
   ·exact hf e (List.mem_of_mem_take h), by simp, by simp⟩
 rcases runW_cases W D hr.up hr.ok.arm0 hf with ⟨h1, h2⟩ | ⟨h1, j, h2, h3, h4⟩
 ·have e1 : wave D W = ((runW D W).2.flushErr, (runW D W).2.flush) := by
   unfold wave
   rw [h1, if_neg (by simp)]
  have ha : 0 ≤ left D.armed W.length := by unfold left; split <;> omega
  rcases flush_cases (D := (runW D W).2) (by rw [h1]; exact hr.up) (by rw [h1]; exact ha) with ⟨g1, g2, g3⟩ | ⟨g1, g2, g3⟩
  ·left
   have e2 : (wave D W).2 = { D with armed := left D.armed (W.length + 1), fast := settle D.fast W, loose := [] } := by
    rw [e1]
    show (runW D W).2.flush = _
    rw [g2, h1]
    dsimp only
    rw [hr.lose, List.nil_append]
    congr 1
    rw [h1] at g3
    dsimp only at g3
    unfold left at g3 ⊢
    split <;> simp_all <;> omega
   have g3' : D.armed = 0 ∨ (W.length + 1 : Nat) < D.armed := by
    rw [h1] at g3
    dsimp only at g3
    unfold left at g3
    split at g3 <;> omega
   have hk : ∀ x, (settle D.fast W x).length = D.size ∧ ∀ b ∈ settle D.fast W x, b < 256 := settle_ok (P := fun b => b < 256) W D.fast (fun x => ⟨hr.ok.len x, hr.ok.byt x⟩) (fun e he => ⟨(hf e he).2.2.1, (hf e he).2.2.2⟩)
   refine ⟨by rw [e1]; exact g1, e2, ?_, ?_, g3'⟩
   ·rw [e2]
    refine ⟨⟨hr.ok.s1, hr.ok.s2, hr.ok.z1, hr.ok.z2, fun x => (hk x).1, fun x => (hk x).2, by simp, ?_, ?_⟩, hr.up, rfl⟩
    ·show 0 ≤ left _ _
     unfold left; split <;> omega
    ·have := hr.ok.arm1
     show left _ _ ≤ _
     unfold left; split <;> omega
   ·intro a
    rw [e2]
    have ht : D.tells a = D.fast a := by unfold Dsk.tells; rw [hr.lose]; rfl
    rw [ht]
    show settle D.fast W a = _
    exact settle_last a W D.fast
  ·right
   rw [h1] at g1
   dsimp only at g1
   have ha0 : 0 < D.armed := by
    have := hr.ok.arm0
    unfold left at g1
    split at g1 <;> omega
   have e2 : (wave D W).2 = { D with armed := 0, down := true, loose := D.loose ++ W.take W.length } := by
    rw [e1]
    show (runW D W).2.flush = _
    rw [g3, h1, List.take_length]
   refine ⟨by rw [e1]; exact g2, ha0, by rw [e2], by rw [e2]; exact hok _, by rw [e2, hr.lose]; simp, by rw [e2], by rw [e2], fun fs => tear_take hr hf hd _ e2 fs⟩
 ·right
  have e1 : wave D W = runW D W := by
   unfold wave
   rw [h4, if_pos (by simp)]
  have e2 : (wave D W).2 = { D with armed := 0, down := true, loose := D.loose ++ W.take j } := by rw [e1, h4]
  refine ⟨by rw [e1, h4], h1, by rw [e2], by rw [e2]; exact hok _, by rw [e2, hr.lose]; simp; omega, by rw [e2], by rw [e2], fun fs => tear_take hr hf hd _ e2 fs⟩
end
/-! ### what the pool does, as waves -/
section
variable {D D' : Dsk} {S : Pl}
theorem layAll_runW (first : Nat) (f : Pgs) : ∀ (ks : List Nat) (D : Dsk), layAll first f D ks = runW D (layW D first f ks)
 | [], _ => rfl
 | k :: r, D => by
  show (if _ then _ else _) = (if _ then _ else _)
  have hs := D.put_sectors ((first : Int) + k) (sectL D k ((f k).getD []))
  rw [layAll_runW first f r]
  have e : layW (D.put ((first : Int) + k) (sectL D k ((f k).getD []))) first f r = layW D first f r := by
   unfold layW
   refine List.map_congr_left fun k _ => ?_
   rw [sect_same hs.2]
  rw [e]
  rfl
def wipeW (D : Dsk) (f : Nat) (ts : List Nat) : List (Int × List Nat) := ts.map fun i : Nat => ((f : Int) + i, List.replicate D.size 0)
theorem goWipe_wave (f : Nat) : ∀ (ts : List Nat) (D : Dsk), goWipe f D ts = wave D (wipeW D f ts)
 | [], _ => rfl
 | i :: r, D => by
  have hs := D.put_sectors ((f : Int) + i) (List.replicate D.size 0)
  have ih := goWipe_wave f r (D.put ((f : Int) + i) (List.replicate D.size 0))
  have e : wipeW (D.put ((f : Int) + i) (List.replicate D.size 0)) f r = wipeW D f r := by
   unfold wipeW
   rw [hs.2]
  rw [e] at ih
  have e0 : goWipe f D (i :: r) = if D.putErr ((f : Int) + i) (List.replicate D.size 0) ≠ 0 then (D.putErr ((f : Int) + i) (List.replicate D.size 0), D.put ((f : Int) + i) (List.replicate D.size 0)) else goWipe f (D.put ((f : Int) + i) (List.replicate D.size 0)) r := rfl
  have e1 : runW D (wipeW D f (i :: r)) = if D.putErr ((f : Int) + i) (List.replicate D.size 0) ≠ 0 then (D.putErr ((f : Int) + i) (List.replicate D.size 0), D.put ((f : Int) + i) (List.replicate D.size 0)) else runW (D.put ((f : Int) + i) (List.replicate D.size 0)) (wipeW D f r) := rfl
  rw [e0, ih]
  unfold wave
  rw [e1]
  by_cases h : D.putErr ((f : Int) + i) (List.replicate D.size 0) ≠ 0
  ·simp only [if_pos h]
  ·simp only [if_neg h]
/-- The disk of a checkpoint: of the log's pages, of the epoch. -/
def pointD (first : Nat) (f : Pgs) (E : Nat) (D : Dsk) : Int × Dsk :=
 if (wave D (layW D first f (f.keys D.sectors))).1 ≠ 0 then wave D (layW D first f (f.keys D.sectors))
 else wave (wave D (layW D first f (f.keys D.sectors))).2 [(((E + 1) % 2 : Nat), headL D (E + 1))]
theorem point_disk (S : Pl) (D : Dsk) : (point S D).1 = (pointD S.first S.last S.epoch D).1 ∧ (point S D).2.2 = (pointD S.first S.last S.epoch D).2 := by
 unfold point pointed pointD
 rw [layAll_runW]
 obtain ⟨W, hW⟩ : ∃ W, W = layW D S.first S.last (S.last.keys D.sectors) := ⟨_, rfl⟩
 rw [← hW]
 by_cases h1 : (runW D W).1 ≠ 0
 ·have e : wave D W = runW D W := by unfold wave; rw [if_pos h1]
  rw [if_pos h1, e, if_pos h1]
  exact ⟨rfl, rfl⟩
 ·have e : wave D W = ((runW D W).2.flushErr, (runW D W).2.flush) := by unfold wave; rw [if_neg h1]
  rw [if_neg h1, e]
  by_cases h2 : (runW D W).2.flushErr ≠ 0
  ·rw [if_pos h2, if_pos h2]
   exact ⟨rfl, rfl⟩
  ·rw [if_neg h2, if_neg h2]
   have hz : (runW D W).2.flush.size = D.size := by
    have : ∀ (W : List (Int × List Nat)) (D : Dsk), (runW D W).2.size = D.size := by
     intro W
     induction W with
     | nil => intro D; rfl
     | cons e r ih =>
      intro D
      show (if _ then _ else _ : Int × Dsk).2.size = _
      split
      ·exact (D.put_sectors e.1 e.2).2
      ·rw [ih]; exact (D.put_sectors e.1 e.2).2
    rw [Dsk.flush_sectors.2, this]
   have hh : headL (runW D W).2.flush (S.epoch + 1) = headL D (S.epoch + 1) := head_same hz _
   obtain ⟨D1, hD1⟩ : ∃ D1, D1 = (runW D W).2.flush := ⟨_, rfl⟩
   rw [← hD1] at hh ⊢
   unfold beg
   rw [hh]
   obtain ⟨a, ha⟩ : ∃ a : Int, a = (((S.epoch + 1) % 2 : Nat) : Int) := ⟨_, rfl⟩
   obtain ⟨l, hl⟩ : ∃ l, l = headL D (S.epoch + 1) := ⟨_, rfl⟩
   rw [← ha, ← hl]
   have e1 : runW D1 [(a, l)] = if D1.putErr a l ≠ 0 then (D1.putErr a l, D1.put a l) else (0, D1.put a l) := rfl
   unfold wave
   rw [e1]
   by_cases h3 : D1.putErr a l ≠ 0
   ·simp only [if_pos h3]
    exact ⟨by trivial, by trivial⟩
   ·simp only [if_neg h3]
    by_cases h4 : (D1.put a l).flushErr ≠ 0
    ·simp only [if_pos h4, ne_eq, not_true_eq_false, if_false]
     exact ⟨by trivial, by trivial⟩
    ·simp only [if_neg h4, ne_eq, not_true_eq_false, if_false]
     have : (D1.put a l).flushErr = 0 := by omega
     rw [this]
     exact ⟨by trivial, by trivial⟩
end
end Go.Proofs.YtklppnknllbfnaaGreat
namespace Go.Proofs.YtklppnknllbfnaaGreat
open Go.RowKit Go.Maps
set_option maxRecDepth 8000
theorem mix_mix {n c k : Nat} {a b : List Nat} (ha : a.length = n) (hb : b.length = n) (hc : c ≤ n) (hk : k ≤ n) : mix c a (mix k a b) = mix (max c k) a b := by
 refine row_ext (n := n) (mix_length ha (mix_length ha hb hk) hc) (mix_length ha hb (by omega)) fun j hj => ?_
 rw [mix_at ha hc, mix_at ha hk, mix_at ha (by omega)]
 by_cases h1 : j < c
 ·rw [if_pos h1, if_pos (by omega)]
 ·rw [if_neg h1]
  by_cases h2 : j < k
  ·rw [if_pos h2, if_pos (by omega)]
  ·rw [if_neg h2, if_neg (by omega)]
theorem mix_lt {k : Nat} {a b : List Nat} (ha : ∀ x ∈ a, x < 256) (hb : ∀ x ∈ b, x < 256) : ∀ x ∈ mix k a b, x < 256 := by
 intro x hx
 unfold mix at hx
 rcases List.mem_append.1 hx with h | h
 ·exact ha x (List.mem_of_mem_take h)
 ·exact hb x (List.mem_of_mem_drop h)
theorem H_zero (j : Nat) (h : j < 8) : H 0 j = 0 := by
 rw [H_low 0 j h]
 have : j = 0 ∨ j = 1 ∨ j = 2 ∨ j = 3 ∨ j = 4 ∨ j = 5 ∨ j = 6 ∨ j = 7 := by omega
 rcases this with rfl | rfl | rfl | rfl | rfl | rfl | rfl | rfl <;> rfl
/-- Nothing but 0 over a torn sector: it does not read, or it is as it was ahead of the torn one. -/
theorem wiped_torn {z m k c : Nat} {l old s : List Nat} (h1 : 64 ≤ z) (hk : k ≤ z) (hc : c ≤ z) (hm1 : 1 ≤ m) (hm : m ≤ 4611686018427387904) (hl : l.length + 36 ≤ z) (hb : ∀ b ∈ l, b < 256)
  (ho : old = List.replicate z 0 ∨ ∃ m0 l0, 1 ≤ m0 ∧ m0 ≤ 4611686018427387904 ∧ m0 ≠ m ∧ l0.length + 36 ≤ z ∧ (∀ b ∈ l0, b < 256) ∧ old = sector z m0 l0)
  (hs : s = mix k (sector z m l) old) (hbad : readOk s = false) (hok : readOk (mix c (List.replicate z 0) s) = true) : mix c (List.replicate z 0) s = old := by
 have hA : (sector z m l).length = z := sector_length hl
 have hAr : readOk (sector z m l) = true := (sector_reads z m l h1 hm1 hm hl hb).1
 have hol : old.length = z := by
  rcases ho with rfl | ⟨m0, l0, _, _, _, h, _, rfl⟩
  ·simp
  ·exact sector_length h
 have hob : ∀ b ∈ old, b < 256 := by
  rcases ho with rfl | ⟨m0, l0, _, _, _, _, h, rfl⟩
  ·exact fun b hb => lt_zeros b hb
  ·exact sector_lt h
 have hsl : s.length = z := by rw [hs]; exact mix_length hA hol hk
 have hsb : ∀ b ∈ s, b < 256 := by rw [hs]; exact mix_lt (sector_lt hb) hob
 have hsA : s ≠ sector z m l := fun e => by rw [e, hAr] at hbad; cases hbad
 have hz : (List.replicate z 0).length = z := by simp
 obtain ⟨u, hu⟩ : ∃ u, u = mix c (List.replicate z 0) s := ⟨_, rfl⟩
 rw [← hu] at hok ⊢
 have hul : u.length = z := by rw [hu]; exact mix_length hz hsl hc
 have hub : ∀ b ∈ u, b < 256 := by rw [hu]; exact mix_lt (fun b hb => lt_zeros b hb) hsb
 have uat : ∀ j, u.getD j 0 = if j < c then 0 else s.getD j 0 := fun j => by rw [hu, mix_at hz hc, getD_zeros]
 have sat : ∀ j, s.getD j 0 = if j < k then (sector z m l).getD j 0 else old.getD j 0 := fun j => by rw [hs, mix_at hA hk]
 obtain ⟨x, hx, hx', a, b⟩ := ok_ends hub hul h1 hok
 have hlast := H_last x hx'
 have hc16 : c < 16 := by
  by_cases h : c < 16
  ·exact h
  ·exfalso
   have := a 15 (by omega)
   rw [uat, if_pos (by omega)] at this
   exact hlast this.symm
 have hm64 : m < 2 ^ 64 := by omega
 have us : ∀ j, 16 ≤ j → u.getD j 0 = s.getD j 0 := fun j hj => by rw [uat, if_neg (by omega)]
 -- the last 16, of the new sector or of the old one
 have bA : ∀ j, j < 16 → z - 16 + j < k → H m j = H x j := fun j hj h => by
  have := b j hj
  rw [us _ (by omega), sat, if_pos h, sector_last z m l hl] at this
  exact this
 rcases ho with rfl | ⟨m0, l0, g1, g2, g3, g4, g5, rfl⟩
 ·-- below it nothing but 0: it is whole, then
  exfalso
  by_cases h : k = z
  ·refine hsA (row_ext hsl hA fun j hj => ?_)
   rw [sat, if_pos (by omega)]
  ·have := b 15 (by omega)
   rw [us _ (by omega), sat, if_neg (by omega), getD_zeros] at this
   exact hlast this.symm
 ·have hm0 : m0 < 2 ^ 64 := by omega
  have bO : ∀ j, j < 16 → k ≤ z - 16 + j → H m0 j = H x j := fun j hj h => by
   have := b j hj
   rw [us _ (by omega), sat, if_neg (by omega), sector_last z m0 l0 g4] at this
   exact this
  have tA : c < 8 → 16 ≤ k → x = m := fun h8 h => high_inj hx hm64 fun j hj => by
   have := a (8 + j) (by omega)
   rw [uat, if_neg (by omega), sat, if_pos (by omega), sector_first z m l _ (by omega)] at this
   exact this.symm
  have t0 : ¬ c < 8 → x = 0 := fun h8 => low_inj hx (by omega) fun j hj => by
   have := a j (by omega)
   rw [uat, if_pos (by omega)] at this
   rw [H_zero j hj]; exact this.symm
  by_cases h8 : c < 8
  ·by_cases c1 : k ≤ z - 8
   ·have hx0 : x = m0 := high_inj hx hm0 fun j hj => (bO (8 + j) (by omega) (by omega)).symm
    by_cases c2 : 16 ≤ k
    ·exact absurd (hx0.symm.trans (tA h8 c2)) g3
    ·refine row_ext hul hol fun j hj => ?_
     by_cases hj16 : j < 16
     ·rw [a j hj16, hx0, sector_first z m0 l0 j hj16]
     ·rw [us j (by omega), sat, if_neg (by omega)]
   ·exfalso
    have hxm : x = m := low_inj hx hm64 fun j hj => (bA j (by omega) (by omega)).symm
    refine hsA (row_ext hsl hA fun j hj => ?_)
    by_cases hjk : j < k
    ·rw [sat, if_pos hjk]
    ·have := b (j - (z - 16)) (by omega)
     rw [show z - 16 + (j - (z - 16)) = j by omega, us j (by omega), hxm, ← sector_last z m l hl, show z - 16 + (j - (z - 16)) = j by omega] at this
     exact this
  ·exfalso
   have hx0 := t0 h8
   by_cases c1 : k ≤ z - 8
   ·have : x = m0 := high_inj hx hm0 fun j hj => (bO (8 + j) (by omega) (by omega)).symm
    omega
   ·have : x = m := low_inj hx hm64 fun j hj => (bA j (by omega) (by omega)).symm
    omega
section
variable {D D' : Dsk} {E : Nat}
/-- What may lie in the other head, be it torn. -/
def HeadU (D : Dsk) (E : Nat) (s : List Nat) : Prop := ∃ k old, k ≤ D.size ∧ HeadOk D E old ∧ s = mix k (headL D (E + 1)) old ∧ (s = old ∨ readOk s = false)
theorem HeadOk.len {s : List Nat} (h : HeadOk D E s) (ok : D.Ok) : s.length = D.size := by
 rcases h with rfl | ⟨e, _, _, _, rfl⟩
 ·simp
 ·exact headL_len ok _
theorem HeadOk.under {s : List Nat} (h : HeadOk D E s) (ok : D.Ok) (hE : E ≤ 1000000000000) : Under D.size (E + 1) s := by
 rcases h with rfl | ⟨e, h1, h2, _, rfl⟩
 ·exact .inl rfl
 ·have := ok.z1
  exact .inr ⟨e, [], by omega, by omega, by simp; omega, by simp, rfl⟩
theorem HeadOk.u {s : List Nat} (h : HeadOk D E s) : HeadU D E s := ⟨0, s, Nat.zero_le _, h, rfl, .inl rfl⟩
theorem HeadU.over {s : List Nat} (h : HeadU D E s) (ok : D.Ok) (hE : E ≤ 1000000000000) {c : Nat} (hc : c ≤ D.size) : mix c (headL D (E + 1)) s = headL D (E + 1) ∨ HeadU D E (mix c (headL D (E + 1)) s) := by
 obtain ⟨k, old, hk, ho, rfl, _⟩ := h
 have hz := ok.z1
 rw [mix_mix (headL_len ok _) (ho.len ok) hc hk]
 cases hr : readOk (mix (max c k) (headL D (E + 1)) old) with
 | false => exact .inr ⟨max c k, old, by omega, ho, rfl, .inr hr⟩
 | true =>
  rcases torn_two (l := []) hz (show max c k ≤ D.size by omega) (by omega) (by simp; omega) (by simp) (ho.under ok hE) hr with h | h
  ·exact .inl h
  ·exact .inr ⟨max c k, old, by omega, ho, rfl, .inl h⟩
theorem HeadU.le {s : List Nat} (h : HeadU D E s) (ok : D.Ok) (hE : E ≤ 1000000000000) : headZ s (((E + 1) % 2 : Nat) : Int) ≤ E := by
 obtain ⟨k, old, hk, ho, _, rfl | h⟩ := h
 ·exact ho.le ok hE
 ·rw [headZ_bad h]; omega
theorem HeadU.same {s : List Nat} (h : HeadU D E s) (hz : D'.size = D.size) : HeadU D' E s := by
 obtain ⟨k, old, hk, ho, e, hr⟩ := h
 exact ⟨k, old, by rw [hz]; exact hk, ho.same hz, by rw [head_same hz]; exact e, hr⟩
/-- What may lie in a slot, be it torn. -/
def SlotU (D : Dsk) (E i : Nat) (s : List Nat) : Prop := SlotOk D E i s ∨ readOk s = false
theorem SlotU.ep {i : Nat} {s : List Nat} (h : SlotU D E i s) (ok : D.Ok) (hE : E ≤ 1000000000000) (hi : i ≤ 1048576) : slotEp s i ≤ E := by
 rcases h with h | h
 ·exact (h.ep ok hE hi).2.1
 ·rw [slot_bad h]; omega
theorem SlotU.mono {E' i : Nat} {s : List Nat} (h : SlotU D E i s) (hE : E ≤ E') : SlotU D E' i s := h.imp (fun h => h.mono hE) id
theorem SlotU.same {i : Nat} {s : List Nat} (h : SlotU D E i s) (hz : D'.size = D.size) : SlotU D' E i s := h.imp (fun h => h.same hz) id
/-- A slot that is torn in the epoch itself. -/
def TornOf (z E i : Nat) (s : List Nat) : Prop := readOk s = false ∧ ∃ k x old, k ≤ z ∧ ChOk z x.1 ∧ (old = List.replicate z 0 ∨ ∃ e x', 1 ≤ e ∧ e < E ∧ ChOk z x'.1 ∧ old = secAt z e i x') ∧ s = mix k (secAt z E i x) old
theorem TornOf.wipe {z i c : Nat} {s : List Nat} (h : TornOf z E i s) (h1 : 64 ≤ z) (hE : 1 ≤ E ∧ E ≤ 1000000000000) (hi : i ≤ 1048576) (hc : c ≤ z) (hD : D.size = z) :
  SlotU D E i (mix c (List.replicate z 0) s) ∧ slotEp (mix c (List.replicate z 0) s) i ≠ E := by
 obtain ⟨hb, k, x, old, hk, hx, ho, e⟩ := h
 cases hr : readOk (mix c (List.replicate z 0) s) with
 | false => exact ⟨.inr hr, by rw [slot_bad hr]; omega⟩
 | true =>
  have hl := hx.len
  have e2 := wiped_torn h1 hk hc (m := E * 2097152 + i + 1) (by omega) (by omega) (l := leb x.1.1.toNat 8 ++ [if x.2 then 1 else 0] ++ x.1.2) (by simp; omega) (load_lt hx x.2) (old := old) (by
   rcases ho with h | ⟨e, x', g1, g2, g3, g4⟩
   ·exact .inl h
   ·have hl' := g3.len
    exact .inr ⟨e * 2097152 + i + 1, _, by omega, by omega, by omega, by simp; omega, load_lt g3 x'.2, g4⟩) e hb hr
  rw [e2]
  rcases ho with h | ⟨e, x', g1, g2, g3, g4⟩
  ·exact ⟨.inl (.inl (by rw [h, hD])), by rw [h, slotEp_zeros h1]; omega⟩
  ·exact ⟨.inl (.inr ⟨e, x', g1, by omega, by rw [hD]; exact g3, by rw [g4, hD]⟩), by rw [g4, (secAt_slot g3 h1 ⟨g1, by omega⟩ hi).2.1]; omega⟩
theorem grp_same (f : Nat) (e : Int) : ∀ (n i : Nat) (out : List (List (Int × List Nat))) (g : List (Int × List Nat)),
  (∀ k : Nat, i ≤ k → k < i + n → D'.tells ((f : Int) + k) = D.tells ((f : Int) + k) ∨ slotEp (D.tells ((f : Int) + k)) k ≠ e ∧ slotEp (D'.tells ((f : Int) + k)) k ≠ e) → grp D' f e n i out g = grp D f e n i out g
 | 0, _, _, _, _ => rfl
 | n + 1, i, out, g, h => by
  rw [grp_succ, grp_succ]
  have ih : ∀ out g, grpL e (slL D' f n (i + 1)) out g = grpL e (slL D f n (i + 1)) out g := fun out g => grp_same f e n (i + 1) out g (fun k h1 h2 => h k (by omega) (by omega))
  rcases h i (Nat.le_refl _) (by omega) with h0 | ⟨h0, h1⟩
  ·rw [h0]
   by_cases hs : slotEp (D.tells ((f : Int) + i)) i = e
   ·rw [hs]
    cases hc : chOf (slotLoad (D.tells ((f : Int) + i)) i) with
    | none => rw [grpL_none, grpL_none]
    | some c =>
     obtain ⟨c, q⟩ := c
     rw [grpL_some, grpL_some]
     cases q
     ·exact ih _ _
     ·exact ih _ _
   ·rw [grpL_other hs, grpL_other hs]
  ·rw [grpL_other h0, grpL_other h1]
theorem grp_no (f : Nat) (e : Int) (n : Nat) (h : ∀ k : Nat, k < n → slotEp (D.tells ((f : Int) + k)) k ≠ e) : grp D f e n 0 [] [] = [] := by
 cases n with
 | zero => rfl
 | succ n =>
  rw [grp_succ, grpL_other (by simpa using h 0 (by omega))]
end
end Go.Proofs.YtklppnknllbfnaaGreat
namespace Go.Proofs.YtklppnknllbfnaaGreat
open Go.RowKit Go.Maps
set_option maxRecDepth 8000
def Dsk.pg (D : Dsk) : Nat := D.sectors - (2 + D.slots)
/-- A disk from which a pool can be opened: its epoch, the log's groups, the state, the pages. -/
structure Holds (D : Dsk) (E : Nat) (rows : List (List (Int × List Nat))) (s : Sta) (V : Nat → List Nat) : Prop where
 rest : Rest D
 s1 : 24 ≤ D.sectors
 z : 512 ≤ D.size
 e1 : 1 ≤ E
 own : D.tells ((E % 2 : Nat) : Int) = headL D E
 oth : HeadU D E (D.tells (((E + 1) % 2 : Nat) : Int))
 sl : ∀ i : Nat, i < D.slots → SlotU D E i (D.tells (((2 : Nat) : Int) + i))
 g : grp D 2 E D.slots 0 [] [] = rows
 r1 : ∀ g ∈ rows, ∀ c ∈ g, 0 ≤ c.1 ∧ c.1.toNat < D.pg ∧ c.2.length = D.rm
 r2 : rows.length ≤ 1048576
 r3 : ∀ g ∈ rows, g.length ≤ 1048576
 r4 : ∀ k l, putR Pgs.none_ rows k = some l → k < D.pg ∧ l.length = D.rm ∧ ∀ b ∈ l, b < 256
 sok : s.Ok D.pg
 val : ∀ k, k < D.pg → (putR Pgs.none_ rows k).getD (placeL D (2 + D.slots) k) = V k
 p0 : V 0 = widen D.rm s.metaL
 ch : Chain D V s.free
section
variable {D D' : Dsk} {E : Nat} {rows : List (List (Int × List Nat))} {s : Sta} {V : Nat → List Nat} {S : Pl}
theorem pg_pages (D : Dsk) : (Pl.laid D 0).pages D = D.pg := by
 unfold Pl.pages Pl.laid Dsk.pg Dsk.slots
 rfl
theorem Holds.le (h : Holds D E rows s V) : D.slots ≤ 1048576 ∧ 2 + D.slots < D.sectors := by
 have h1 := h.rest.ok.s2
 have h2 := h.s1
 unfold Dsk.slots
 omega
theorem Holds.heads (h : Holds D E rows s V) (hE : E ≤ 1000000000000) : headsZ D 2 = E := by
 refine headsZ_own ?_ (h.oth.le h.rest.ok hE)
 rw [h.own]
 exact headZ_head h.rest.ok h.e1 (by omega) rfl
theorem found_is_val (h : Holds D E rows s V) {k : Nat} (hk : k < D.pg) : (Pl.found D E rows s).val D k = V k := by
 rw [← h.val k hk]
 unfold Pl.val
 show ((none : Option (List Nat)).or (putR Pgs.none_ rows k)).getD (placeL D (2 + D.slots) k) = _
 rfl
theorem Holds.opens (h : Holds D E rows s V) (hE : E ≤ 1000000000000) : Opens D E rows s := by
 have hpg : 1 ≤ D.pg := by have := h.sok.n1; have := h.sok.n2; omega
 refine ⟨h.heads hE, h.e1, h.g, by rw [pg_pages]; exact h.r1, h.r2, h.r3, by rw [pg_pages]; exact h.sok, ?_, fun i hi => ?_⟩
 ·rw [found_is_val h (by omega)]; exact h.p0
 ·have := h.sok.fb _ (List.getElem_mem hi)
  have := h.sok.n2
  rw [found_is_val h (by omega)]
  exact h.ch i hi
/-- Another disk that holds the same. -/
theorem Holds.turn (h : Holds D E rows s V) (hr : Rest D') (hs : D'.sectors = D.sectors) (hz : D'.size = D.size) (own : D'.tells ((E % 2 : Nat) : Int) = D.tells ((E % 2 : Nat) : Int)) (oth : HeadU D E (D'.tells (((E + 1) % 2 : Nat) : Int)))
  (sl : ∀ i : Nat, i < D.slots → D'.tells (((2 : Nat) : Int) + i) = D.tells (((2 : Nat) : Int) + i) ∨ slotEp (D.tells (((2 : Nat) : Int) + i)) i ≠ E ∧ slotEp (D'.tells (((2 : Nat) : Int) + i)) i ≠ E ∧ SlotU D E i (D'.tells (((2 : Nat) : Int) + i)))
  (pl : ∀ k, k < D.pg → putR Pgs.none_ rows k = none → D'.tells (((2 + D.slots : Nat) : Int) + k) = D.tells (((2 + D.slots : Nat) : Int) + k)) : Holds D' E rows s V := by
 have e1 : D'.slots = D.slots := by unfold Dsk.slots; rw [hs]
 have e2 : D'.pg = D.pg := by unfold Dsk.pg; rw [hs, e1]
 have e3 : D'.rm = D.rm := rm_same hz
 refine ⟨hr, by rw [hs]; exact h.s1, by rw [hz]; exact h.z, h.e1, by rw [own, h.own, head_same hz], oth.same hz, fun i hi => ?_, ?_, by rw [e2, e3]; exact h.r1, h.r2, h.r3, by rw [e2, e3]; exact h.r4, by rw [e2]; exact h.sok, fun k hk => ?_, by rw [e3]; exact h.p0, fun i hi => by rw [e3]; exact h.ch i hi⟩
 ·rw [e1] at hi
  rcases sl i hi with h1 | ⟨_, _, h1⟩
  ·rw [h1]; exact (h.sl i hi).same hz
  ·exact h1.same hz
 ·rw [e1, ← h.g]
  refine grp_same 2 E _ _ _ _ fun k _ hk => ?_
  rcases sl k (by omega) with h1 | ⟨h1, h2, _⟩
  ·exact .inl h1
  ·exact .inr ⟨h1, h2⟩
 ·rw [e2] at hk
  rw [e1, ← h.val k hk]
  cases hp : putR Pgs.none_ rows k with
  | some l => rw [Option.getD_some, Option.getD_some]
  | none =>
   rw [Option.getD_none, Option.getD_none]
   exact place_same hz (pl k hk hp)
/-- A disk of the next epoch. -/
theorem Holds.next (h : Holds D E rows s V) (hE : E ≤ 900000000000) (hr : Rest D') (hs : D'.sectors = D.sectors) (hz : D'.size = D.size) (own : D'.tells ((E % 2 : Nat) : Int) = D.tells ((E % 2 : Nat) : Int)) (new : D'.tells (((E + 1) % 2 : Nat) : Int) = headL D (E + 1))
  (sl : ∀ i : Nat, i < D.slots → D'.tells (((2 : Nat) : Int) + i) = D.tells (((2 : Nat) : Int) + i)) (pl : ∀ k, k < D.pg → placeL D' (2 + D.slots) k = V k) : Holds D' (E + 1) [] s V := by
 have e1 : D'.slots = D.slots := by unfold Dsk.slots; rw [hs]
 have e2 : D'.pg = D.pg := by unfold Dsk.pg; rw [hs, e1]
 have e3 : D'.rm = D.rm := rm_same hz
 have hle := h.le
 have hsl : ∀ i : Nat, i < D.slots → SlotU D E i (D'.tells (((2 : Nat) : Int) + i)) := fun i hi => by rw [sl i hi]; exact h.sl i hi
 refine ⟨hr, by rw [hs]; exact h.s1, by rw [hz]; exact h.z, by omega, by rw [new, head_same hz], ?_, fun i hi => ?_, ?_, by simp, by simp, by simp, fun k l hk => by simp [putR, Pgs.none_] at hk, by rw [e2]; exact h.sok, fun k hk => ?_, by rw [e3]; exact h.p0, fun i hi => by rw [e3]; exact h.ch i hi⟩
 ·have e : (E + 1 + 1) % 2 = E % 2 := by omega
  rw [e, own, h.own]
  refine HeadOk.u (.inr ⟨E, h.e1, by omega, by omega, by rw [head_same hz]⟩)
 ·rw [e1] at hi
  exact ((hsl i hi).mono (by omega)).same hz
 ·rw [e1]
  refine grp_no _ _ _ fun k hk => ?_
  have := (hsl k hk).ep h.rest.ok (by omega) (by omega)
  omega
 ·rw [e2] at hk
  rw [e1]
  exact pl k hk
/-- A checkpoint of what the log holds: the next epoch, or a crash that keeps it all. -/
theorem Holds.point (h : Holds D E rows s V) (hE : E ≤ 900000000000) (P : Int × Dsk) (hP : P = pointD (2 + D.slots) (putR Pgs.none_ rows) E D) :
  (P.1 = 0 ∧ Holds P.2 (E + 1) [] s V ∧ P.2.sectors = D.sectors ∧ P.2.size = D.size ∧ (D.armed = 0 → P.2.armed = 0) ∧ (∀ i : Nat, i < D.slots → P.2.tells (((2 : Nat) : Int) + i) = D.tells (((2 : Nat) : Int) + i)) ∧ P.2.tells ((E % 2 : Nat) : Int) = D.tells ((E % 2 : Nat) : Int)) ∨
  (P.1 = 4 ∧ 0 < D.armed ∧ P.2.down = true ∧ P.2.Ok ∧ P.2.loose.length ≤ 1048576 ∧ P.2.sectors = D.sectors ∧ P.2.size = D.size ∧ ∀ fs, (P.2.crash fs).armed = 0 ∧ (∃ E' rows', E' ≤ E + 1 ∧ E ≤ E' ∧ Holds (P.2.crash fs) E' rows' s V) ∧ ∀ i : Nat, i < D.slots → (P.2.crash fs).tells (((2 : Nat) : Int) + i) = D.tells (((2 : Nat) : Int) + i)) := by
 obtain ⟨f, hf⟩ : ∃ f, f = putR Pgs.none_ rows := ⟨_, rfl⟩
 rw [← hf] at hP
 have hr4 := h.r4
 have hval := h.val
 rw [← hf] at hr4 hval
 have hle := h.le
 have h2 := two_heads E
 have hpge : D.pg = D.sectors - (2 + D.slots) := rfl
 have hs2 := h.rest.ok.s2
 have hkeys : ∀ k ∈ f.keys D.sectors, ∃ l, f k = some l ∧ k < D.pg := fun k hk => by
  obtain ⟨_, l, hl⟩ := mem_keys.1 hk
  exact ⟨l, hl, (hr4 k l hl).1⟩
 have hfit : Fit D (layW D (2 + D.slots) f (f.keys D.sectors)) := by
  intro e he
  unfold layW at he
  obtain ⟨k, hk, rfl⟩ := List.mem_map.1 he
  obtain ⟨l, hl, hkp⟩ := hkeys k hk
  obtain ⟨_, h3, h4⟩ := hr4 k l hl
  rw [hl]
  exact ⟨by dsimp only; omega, by dsimp only; omega, sectL_length h.rest.ok (by show l.length ≤ _; omega), sectL_lt _ _ h4⟩
 have hinj : ∀ i k (hi : i < (layW D (2 + D.slots) f (f.keys D.sectors)).length) (hk : k < (layW D (2 + D.slots) f (f.keys D.sectors)).length), (layW D (2 + D.slots) f (f.keys D.sectors))[i].1 = (layW D (2 + D.slots) f (f.keys D.sectors))[k].1 → i = k := by
  intro i k hi hk e
  unfold layW at e hi hk
  simp only [List.getElem_map] at e
  have hnd := keys_nd (N := D.sectors) (f := f)
  rw [List.length_map] at hi hk
  exact (List.getElem_inj hnd).1 (by omega)
 have hmem : ∀ a l, (a, l) ∈ layW D (2 + D.slots) f (f.keys D.sectors) → ∃ k u, f k = some u ∧ k < D.pg ∧ a = ((2 + D.slots : Nat) : Int) + k := by
  intro a l he
  unfold layW at he
  obtain ⟨k, hk, e⟩ := List.mem_map.1 he
  obtain ⟨u, hu, hkp⟩ := hkeys k hk
  exact ⟨k, u, hu, hkp, (congrArg Prod.fst e).symm⟩
 have hlen : (layW D (2 + D.slots) f (f.keys D.sectors)).length ≤ 1048576 := by
  unfold layW
  rw [List.length_map]
  have := keys_lenle (N := D.sectors) (f := f)
  omega
 have hlow : ∀ x : Int, x < ((2 + D.slots : Nat) : Int) → last x (layW D (2 + D.slots) f (f.keys D.sectors)) = none := fun x hx => last_lay_none _ _ _ _ _ (fun k _ => by omega)
 have hlay : ∀ k, k < D.pg → last (((2 + D.slots : Nat) : Int) + k) (layW D (2 + D.slots) f (f.keys D.sectors)) = (f k).map (sectL D k) := by
  intro k hk
  cases hl : f k with
  | some u =>
   rw [last_lay D (2 + D.slots) f k _ keys_nd (mem_keys.2 ⟨by omega, u, hl⟩), hl]
   rfl
  | none =>
   refine last_lay_none _ _ _ _ _ (fun j hj e => ?_)
   obtain ⟨_, u, hu⟩ := mem_keys.1 hj
   have : j = k := by omega
   rw [this, hl] at hu; cases hu
 unfold pointD at hP
 obtain ⟨W, hW⟩ : ∃ W, W = layW D (2 + D.slots) f (f.keys D.sectors) := ⟨_, rfl⟩
 rw [← hW] at hfit hinj hmem hlen hlow hlay hP
 rcases wave_cases h.rest hfit hinj with ⟨w1, w2, w3, w4, w5⟩ | ⟨w1, w2, w3, w4, w5, w6, w7, w8⟩
 ·rw [if_neg (by rw [w1]; simp)] at hP
  have hsec : (wave D W).2.sectors = D.sectors := by rw [w2]
  have hsiz : (wave D W).2.size = D.size := by rw [w2]
  have harm : D.armed = 0 → (wave D W).2.armed = 0 := fun h => by rw [w2]; unfold left; rw [if_pos h]
  have harm' : 0 < (wave D W).2.armed → 0 < D.armed := fun h' => by
   rw [w2] at h'
   dsimp only at h'
   unfold left at h'
   split at h' <;> omega
  obtain ⟨D1, hD1⟩ : ∃ D1, D1 = (wave D W).2 := ⟨_, rfl⟩
  rw [← hD1] at w3 w4 hP hsec hsiz harm harm'
  have hhd : headL D (E + 1) = headL D1 (E + 1) := (head_same hsiz _).symm
  have hpl : ∀ k, k < D.pg → placeL D1 (2 + D.slots) k = V k := by
   intro k hk
   have ht := w4 (((2 + D.slots : Nat) : Int) + k)
   rw [hlay k hk] at ht
   rw [← hval k hk]
   cases hl : f k with
   | some u =>
    obtain ⟨_, q1, q2⟩ := hr4 k u hl
    rw [hl] at ht
    have ht : D1.tells (((2 + D.slots : Nat) : Int) + k) = sectL D1 k u := by rw [ht, sect_same hsiz]; rfl
    rw [place_read w3.ok (by rw [hsiz]; exact h.z) (by rw [rm_same hsiz]; omega) q2 (by omega) ht, rm_same hsiz, widen_self q1]
    rfl
   | none =>
    rw [hl] at ht
    exact place_same hsiz ht
  have hl1 : ∀ x : Int, x < ((2 + D.slots : Nat) : Int) → D1.tells x = D.tells x := fun x hx => by rw [w4, hlow x hx]; rfl
  have hfit2 : Fit D1 [((((E + 1) % 2 : Nat) : Int), headL D (E + 1))] := by
   intro e he
   simp only [List.mem_singleton] at he
   subst he
   have := h.s1
   refine ⟨by dsimp only; omega, by dsimp only; rw [hsec]; omega, by rw [hhd]; exact headL_len w3.ok _, headL_lt _ _⟩
  rcases wave_cases w3 hfit2 (by intro i k hi hk _; simp at hi hk; omega) with ⟨v1, v2, v3, v4, v5⟩ | ⟨v1, v2, v3, v4, v5, v6, v7, v8⟩
  ·left
   rw [hP]
   have hsec2 : (wave D1 [((((E + 1) % 2 : Nat) : Int), headL D (E + 1))]).2.sectors = D.sectors := by rw [v2]; exact hsec
   have hsiz2 : (wave D1 [((((E + 1) % 2 : Nat) : Int), headL D (E + 1))]).2.size = D.size := by rw [v2]; exact hsiz
   have hoth : ∀ x : Int, x ≠ (((E + 1) % 2 : Nat) : Int) → (wave D1 [((((E + 1) % 2 : Nat) : Int), headL D (E + 1))]).2.tells x = D1.tells x := fun x hx => by
    rw [v4 x, last_none x _ (fun e he => by simp only [List.mem_singleton] at he; subst he; exact Ne.symm hx)]; rfl
   refine ⟨v1, h.next hE v3 hsec2 hsiz2 ?_ ?_ (fun i hi => ?_) (fun k hk => ?_), hsec2, hsiz2, fun h0 => ?_, fun i hi => ?_, by rw [hoth _ (by omega), hl1 _ (by omega)]⟩
   ·rw [hoth _ (by omega), hl1 _ (by omega)]
   ·rw [v4, last_cons]
    simp [last]
   ·rw [hoth _ (by omega), hl1 _ (by omega)]
   ·rw [← hpl k hk]
    exact place_same (hsiz2.trans hsiz.symm) (hoth _ (by omega))
   ·rw [v2]
    unfold left
    rw [if_pos (harm h0)]
   ·rw [hoth _ (by omega), hl1 _ (by omega)]
  ·right
   rw [hP]
   refine ⟨v1, harm' v2, v3, v4, Nat.le_trans v5 (show 1 ≤ 1048576 by omega), v6.trans hsec, v7.trans hsiz, fun fs => ?_⟩
   obtain ⟨t1, t2, t3⟩ := v8 fs
   obtain ⟨C, hC⟩ : ∃ C, C = (wave D1 [((((E + 1) % 2 : Nat) : Int), headL D (E + 1))]).2.crash fs := ⟨_, rfl⟩
   have hcs : C.sectors = D.sectors := by rw [hC]; exact v6.trans hsec
   have hcz : C.size = D.size := by rw [hC]; exact v7.trans hsiz
   rw [← hC] at t1 t2 t3 ⊢
   have hoth : ∀ x : Int, x ≠ (((E + 1) % 2 : Nat) : Int) → C.tells x = D1.tells x := fun x hx => by
    rcases t3 x with t | ⟨l, c, hm, _, _⟩
    ·exact t
    ·simp only [List.mem_singleton, Prod.mk.injEq] at hm
     exact absurd hm.1 hx
   have hslots : ∀ i : Nat, i < D.slots → C.tells (((2 : Nat) : Int) + i) = D.tells (((2 : Nat) : Int) + i) := fun i hi => by rw [hoth _ (by omega), hl1 _ (by omega)]
   have hown : C.tells ((E % 2 : Nat) : Int) = D.tells ((E % 2 : Nat) : Int) := by rw [hoth _ (by omega), hl1 _ (by omega)]
   have hplC : ∀ k, k < D.pg → placeL C (2 + D.slots) k = V k := fun k hk => by
    rw [← hpl k hk]
    exact place_same (hcz.trans hsiz.symm) (hoth _ (by omega))
   have hhead : C.tells (((E + 1) % 2 : Nat) : Int) = headL D (E + 1) ∨ HeadU D E (C.tells (((E + 1) % 2 : Nat) : Int)) := by
    have hd1 := hl1 (((E + 1) % 2 : Nat) : Int) (by omega)
    rcases t3 (((E + 1) % 2 : Nat) : Int) with t | ⟨l, c, hm, hc, t⟩
    ·right; rw [t, hd1]; exact h.oth
    ·simp only [List.mem_singleton, Prod.mk.injEq, true_and] at hm
     rw [t, hd1, hm]
     exact h.oth.over h.rest.ok (by omega) (by omega)
   refine ⟨t2, ?_, hslots⟩
   rcases hhead with hh | hh
   ·exact ⟨E + 1, [], Nat.le_refl _, by omega, h.next hE t1 hcs hcz hown hh hslots hplC⟩
   ·-- the log still counts: its pages stand in their places, too
    have hp2 : ∀ k, k < D.pg → f k = none → C.tells (((2 + D.slots : Nat) : Int) + k) = D.tells (((2 + D.slots : Nat) : Int) + k) := fun k hk hn => by
     rw [hoth _ (by omega), w4, hlay k hk, hn]; rfl
    exact ⟨E, rows, by omega, Nat.le_refl _, h.turn t1 hcs hcz hown hh (fun i hi => .inl (hslots i hi)) (fun k hk hn => hp2 k hk (by rw [hf]; exact hn))⟩
 ·right
  rw [if_pos (by rw [w1]; simp)] at hP
  rw [hP]
  refine ⟨w1, w2, w3, w4, by omega, w6, w7, fun fs => ?_⟩
  obtain ⟨t1, t2, t3⟩ := w8 fs
  obtain ⟨C, hC⟩ : ∃ C, C = (wave D W).2.crash fs := ⟨_, rfl⟩
  have hcs : C.sectors = D.sectors := by rw [hC]; exact w6
  have hcz : C.size = D.size := by rw [hC]; exact w7
  rw [← hC] at t1 t2 t3 ⊢
  have hoth : ∀ x : Int, (∀ k u, f k = some u → k < D.pg → x ≠ ((2 + D.slots : Nat) : Int) + k) → C.tells x = D.tells x := fun x hx => by
   rcases t3 x with t | ⟨l, c, hm, _, _⟩
   ·exact t
   ·obtain ⟨k, u, hu, hk, e⟩ := hmem x l hm
    exact absurd e (hx k u hu hk)
  have hl1 : ∀ x : Int, x < ((2 + D.slots : Nat) : Int) → C.tells x = D.tells x := fun x hx => hoth x fun k u _ _ => by omega
  refine ⟨t2, ⟨E, rows, by omega, Nat.le_refl _, h.turn t1 hcs hcz (hl1 _ (by omega)) ?_ (fun i hi => .inl (hl1 _ (by omega))) (fun k hk hn => ?_)⟩, fun i hi => hl1 _ (by omega)⟩
  ·rw [hl1 _ (by omega)]; exact h.oth
  ·refine hoth _ fun j u hj _ e => ?_
   have : j = k := by omega
   rw [this, hf, hn] at hj; cases hj
end
end Go.Proofs.YtklppnknllbfnaaGreat
namespace Go.Proofs.YtklppnknllbfnaaGreat
open Go.RowKit Go.Maps
set_option maxRecDepth 8000
section
variable {D D' : Dsk} {E : Nat} {rows : List (List (Int × List Nat))} {s : Sta} {V : Nat → List Nat} {S : Pl}
theorem tornL_mem (D : Dsk) (f : Nat) : ∀ k, ∀ i ∈ tornL D f k, i < k ∧ isTorn (D.tells ((f : Int) + i)) i = true
 | 0, i, h => by simp [tornL] at h
 | k + 1, i, h => by
  unfold tornL at h
  split at h
  ·rcases List.mem_append.1 h with h | h
   ·have := tornL_mem D f k i h; exact ⟨by omega, this.2⟩
   ·simp only [List.mem_singleton] at h; subst h; exact ⟨by omega, by assumption⟩
  ·have := tornL_mem D f k i h; exact ⟨by omega, this.2⟩
theorem tornL_nd (D : Dsk) (f : Nat) : ∀ k, (tornL D f k).Nodup
 | 0 => List.nodup_nil
 | k + 1 => by
  have ih := tornL_nd D f k
  unfold tornL
  split
  ·refine List.nodup_append.2 ⟨ih, by simp, fun a ha b hb => ?_⟩
   simp only [List.mem_singleton] at hb
   have := tornL_lt D f k a ha
   omega
  ·exact ih
theorem torn_ep {t : List Nat} {i : Nat} (h : isTorn t i = true) : slotEp t i = 0 := by
 unfold isTorn at h
 simp only [Bool.and_eq_true, beq_iff_eq] at h
 exact h.1
/-- Slots that are as they were written, or torn in the epoch itself. -/
def Strong (D : Dsk) (E : Nat) : Prop := ∀ i : Nat, i < D.slots → SlotOk D E i (D.tells (((2 : Nat) : Int) + i)) ∨ TornOf D.size E i (D.tells (((2 : Nat) : Int) + i))
/-- Cleaning the torn slots. -/
theorem Holds.wipe (h : Holds D E rows s V) (hE : E ≤ 1000000000000) (R : Int × Dsk) (hR : R = goWipe 2 D (tornL D 2 D.slots)) :
  (R.1 = 0 ∧ Holds R.2 E rows s V ∧ R.2.sectors = D.sectors ∧ R.2.size = D.size ∧ (D.armed = 0 → R.2.armed = 0) ∧ (0 < R.2.armed → 0 < D.armed) ∧ (Strong D E → Strong R.2 E)) ∨
  (R.1 = 4 ∧ 0 < D.armed ∧ R.2.down = true ∧ R.2.Ok ∧ R.2.loose.length ≤ 1048576 ∧ R.2.sectors = D.sectors ∧ R.2.size = D.size ∧ (Strong D E → ∀ fs, (R.2.crash fs).armed = 0 ∧ Holds (R.2.crash fs) E rows s V)) := by
 have hle := h.le
 have hnd := tornL_nd D 2 D.slots
 have hmem := tornL_mem D 2 D.slots
 have hlen := tornL_len D 2 D.slots
 have h2 := two_heads E
 have he1 := h.e1
 have hz1 := h.rest.ok.z1
 rw [goWipe_wave] at hR
 obtain ⟨ts, hts⟩ : ∃ ts, ts = tornL D 2 D.slots := ⟨_, rfl⟩
 rw [← hts] at hnd hmem hlen hR
 have hW : ∀ a l, (a, l) ∈ wipeW D 2 ts → ∃ i : Nat, i ∈ ts ∧ a = ((2 : Nat) : Int) + i ∧ l = List.replicate D.size 0 := by
  intro a l hm
  unfold wipeW at hm
  obtain ⟨i, hi, e⟩ := List.mem_map.1 hm
  exact ⟨i, hi, (congrArg Prod.fst e).symm, (congrArg Prod.snd e).symm⟩
 have hfit : Fit D (wipeW D 2 ts) := by
  rintro ⟨a, l⟩ hm
  obtain ⟨i, hi, rfl, rfl⟩ := hW a l hm
  have := (hmem i hi).1
  exact ⟨by dsimp only; omega, by dsimp only; omega, by simp, fun b hb => lt_zeros b hb⟩
 have hinj : ∀ i k (hi : i < (wipeW D 2 ts).length) (hk : k < (wipeW D 2 ts).length), (wipeW D 2 ts)[i].1 = (wipeW D 2 ts)[k].1 → i = k := by
  intro i k hi hk e
  unfold wipeW at e hi hk
  simp only [List.getElem_map] at e
  rw [List.length_map] at hi hk
  exact (List.getElem_inj hnd).1 (by omega)
 have hlast : ∀ a, (∀ i : Nat, i ∈ ts → a ≠ ((2 : Nat) : Int) + i) → last a (wipeW D 2 ts) = none := fun a ha => last_none _ _ (by
  rintro ⟨x, l⟩ hm
  obtain ⟨i, hi, rfl, rfl⟩ := hW x l hm
  exact Ne.symm (ha i hi))
 have hlast2 : ∀ i : Nat, i ∈ ts → last (((2 : Nat) : Int) + i) (wipeW D 2 ts) = some (List.replicate D.size 0) := by
  intro i hi
  cases hl : last (((2 : Nat) : Int) + i) (wipeW D 2 ts) with
  | some l =>
   have : ∀ (W : List (Int × List Nat)) a l, last a W = some l → (a, l) ∈ W := by
    intro W
    induction W with
    | nil => intro a l h; cases h
    | cons e r ih =>
     intro a l h
     rw [last_cons] at h
     cases hr : last a r with
     | some x =>
      rw [hr] at h
      simp only [Option.some_or, Option.some.injEq] at h
      subst h
      exact List.mem_cons_of_mem _ (ih a x hr)
     | none =>
      rw [hr] at h
      simp only [Option.none_or] at h
      split at h
      ·rename_i h1
       simp only [Option.some.injEq] at h
       subst h1; subst h
       exact List.mem_cons_self
      ·cases h
   obtain ⟨j, _, _, e⟩ := hW _ _ (this _ _ _ hl)
   rw [e]
  | none =>
   exfalso
   have hin : (((2 : Nat) : Int) + i, List.replicate D.size 0) ∈ wipeW D 2 ts := List.mem_map.2 ⟨i, hi, rfl⟩
   have : ∀ (W : List (Int × List Nat)) a l, (a, l) ∈ W → last a W ≠ none := by
    intro W
    induction W with
    | nil => intro a l h; simp at h
    | cons e r ih =>
     intro a l h
     rw [last_cons]
     rcases List.mem_cons.1 h with h | h
     ·subst h
      cases last a r <;> simp
     ·have := ih a l h
      cases hr : last a r with
      | none => exact absurd hr this
      | some x => simp
   exact this _ _ _ hin hl
 rcases wave_cases h.rest hfit hinj with ⟨w1, w2, w3, w4, w5⟩ | ⟨w1, w2, w3, w4, w5, w6, w7, w8⟩
 ·left
  have hsec : R.2.sectors = D.sectors := by rw [hR, w2]
  have hsiz : R.2.size = D.size := by rw [hR, w2]
  have harm : D.armed = 0 → R.2.armed = 0 := fun h => by rw [hR, w2]; unfold left; rw [if_pos h]
  have harm' : 0 < R.2.armed → 0 < D.armed := fun h' => by
   rw [hR, w2] at h'
   dsimp only at h'
   unfold left at h'
   split at h' <;> omega
  rw [← hR] at w1 w3 w4
  have hsame : ∀ a, (∀ i : Nat, i ∈ ts → a ≠ ((2 : Nat) : Int) + i) → R.2.tells a = D.tells a := fun a ha => by rw [w4, hlast a ha]; rfl
  have hzero : ∀ i : Nat, i ∈ ts → R.2.tells (((2 : Nat) : Int) + i) = List.replicate D.size 0 := fun i hi => by rw [w4, hlast2 i hi]; rfl
  refine ⟨w1, h.turn w3 hsec hsiz (hsame _ fun i _ => by omega) ?_ (fun i hi => ?_) (fun k hk _ => hsame _ fun i hi => by have := (hmem i hi).1; omega), hsec, hsiz, harm, harm', fun hst i hi => ?_⟩
  ·rw [hsame _ fun i _ => by omega]; exact h.oth
  ·by_cases hm : i ∈ ts
   ·right
    rw [hzero i hm, torn_ep (hmem i hm).2, slotEp_zeros hz1]
    exact ⟨by omega, by omega, .inl (.inl rfl)⟩
   ·exact .inl (hsame _ fun j hj e => hm (by have : i = j := (by omega); rw [this]; exact hj))
  ·have e1 : R.2.slots = D.slots := by unfold Dsk.slots; rw [hsec]
   rw [e1] at hi
   by_cases hm : i ∈ ts
   ·exact .inl (.inl (by rw [hzero i hm, hsiz]))
   ·rw [hsame _ fun j hj e => hm (by have : i = j := (by omega); rw [this]; exact hj)]
    rw [hsiz]
    exact (hst i hi).imp (fun h => h.same hsiz) id
 ·right
  have hwl : (wipeW D 2 ts).length = ts.length := by unfold wipeW; simp
  rw [← hR] at w1 w3 w4 w5 w6 w7 w8
  refine ⟨w1, w2, w3, w4, by omega, w6, w7, fun hst fs => ?_⟩
  obtain ⟨t1, t2, t3⟩ := w8 fs
  obtain ⟨C, hC⟩ : ∃ C, C = R.2.crash fs := ⟨_, rfl⟩
  have hcs : C.sectors = D.sectors := by rw [hC]; exact w6
  have hcz : C.size = D.size := by rw [hC]; exact w7
  rw [← hC] at t1 t2 t3 ⊢
  have hsame : ∀ a, (∀ i : Nat, i ∈ ts → a ≠ ((2 : Nat) : Int) + i) → C.tells a = D.tells a := fun a ha => by
   rcases t3 a with t | ⟨l, c, hm, _, _⟩
   ·exact t
   ·obtain ⟨i, hi, e, _⟩ := hW a l hm
    exact absurd e (ha i hi)
  refine ⟨t2, h.turn t1 hcs hcz (hsame _ fun i _ => by omega) ?_ (fun i hi => ?_) (fun k hk _ => hsame _ fun i hi => by have := (hmem i hi).1; omega)⟩
  ·rw [hsame _ fun i _ => by omega]; exact h.oth
  ·rcases t3 (((2 : Nat) : Int) + i) with t | ⟨l, c, hm, hc, t⟩
   ·exact .inl t
   ·right
    obtain ⟨j, hj, e, rfl⟩ := hW _ l hm
    have : i = j := by omega
    subst this
    have hto := (hmem i hj).2
    rcases hst i hi with hs1 | hs1
    ·have := (hs1.ep h.rest.ok hE (by omega)).2.2
     rw [this] at hto; cases hto
    ·have := hs1.wipe (D := D) (c := c) hz1 ⟨he1, hE⟩ (by omega) hc rfl
     rw [t, torn_ep hto]
     exact ⟨by omega, this.2, this.1⟩
theorem point_pl (h : (point S D).1 = 0) : (point S D).2.1 = S.pointed := by
 unfold point pointed at h ⊢
 obtain ⟨Y, hY⟩ : ∃ Y, Y = layAll S.first S.last D (S.last.keys D.sectors) := ⟨_, rfl⟩
 rw [← hY] at h ⊢
 by_cases h1 : Y.1 ≠ 0
 ·rw [if_pos h1] at h; exact absurd h h1
 ·rw [if_neg h1] at h ⊢
  by_cases h2 : Y.2.flushErr ≠ 0
  ·rw [if_pos h2] at h; exact absurd h h2
  ·rw [if_neg h2] at h ⊢
   by_cases h3 : (beg S Y.2.flush (S.epoch + 1)).1 ≠ 0
   ·rw [if_pos h3] at h; exact absurd h h3
   ·rw [if_neg h3]
    have : (beg S Y.2.flush (S.epoch + 1)).2.1 = S.begun (S.epoch + 1) := by
     unfold beg at h3 ⊢
     split at h3
     ·rename_i h4; exact absurd h4 h3
     ·rename_i h4
      rw [if_neg h4]
      split at h3
      ·rename_i h5; exact absurd h5 h3
      ·rename_i h5; rw [if_neg h5]
    show (beg S Y.2.flush (S.epoch + 1)).2.1.fresh = _
    rw [this]
    rfl
/-- Open: the next epoch, with all of it; or a crash that keeps it all. -/
theorem Holds.open_ (h : Holds D E rows s V) (hE : E ≤ 900000000000) (X : Int × Pl × Dsk) (hX : X = opened D E rows s) :
  (X.1 = 0 ∧ X.2.1 = (Pl.found D E rows s).pointed ∧ Holds X.2.2 (E + 1) [] s V ∧ X.2.2.sectors = D.sectors ∧ X.2.2.size = D.size ∧ (D.armed = 0 → X.2.2.armed = 0)) ∨
  (X.1 = 4 ∧ 0 < D.armed ∧ X.2.2.down = true ∧ X.2.2.Ok ∧ X.2.2.loose.length ≤ 1048576 ∧ X.2.2.sectors = D.sectors ∧ X.2.2.size = D.size ∧ (Strong D E → ∀ fs, (X.2.2.crash fs).armed = 0 ∧ ∃ E' rows', E' ≤ E + 1 ∧ Holds (X.2.2.crash fs) E' rows' s V)) := by
 have hw := h.wipe (by omega) _ rfl
 have e0 : opened D E rows s = if (goWipe 2 D (tornL D 2 D.slots)).1 ≠ 0 then ((goWipe 2 D (tornL D 2 D.slots)).1, Pl.found D E rows s, (goWipe 2 D (tornL D 2 D.slots)).2) else YtklppnknllbfnaaGreat.point (Pl.found D E rows s) (goWipe 2 D (tornL D 2 D.slots)).2 := by
  unfold opened Dsk.slots
  rfl
 rw [e0] at hX
 obtain ⟨R, hR⟩ : ∃ R, R = goWipe 2 D (tornL D 2 D.slots) := ⟨_, rfl⟩
 rw [← hR] at hw hX
 rcases hw with ⟨w1, w2, w3, w4, w5, w6, w7⟩ | ⟨w1, w2, w3, w4, w5, w6, w7, w8⟩
 ·rw [if_neg (by rw [w1]; simp)] at hX
  have hsl : R.2.slots = D.slots := by unfold Dsk.slots; rw [w3]
  have hpd := point_disk (Pl.found D E rows s) R.2
  have hf1 : (Pl.found D E rows s).first = 2 + R.2.slots := by rw [hsl]; unfold Dsk.slots; rfl
  have hf2 : (Pl.found D E rows s).last = putR Pgs.none_ rows := rfl
  have hf3 : (Pl.found D E rows s).epoch = E := rfl
  rw [hf1, hf2, hf3, ← hX] at hpd
  rcases w2.point hE _ rfl with ⟨p1, p2, p3, p4, p5, p6⟩ | ⟨p1, p2, p3, p4, p5, p6, p7, p8⟩
  ·left
   rw [← hpd.1] at p1
   rw [← hpd.2] at p2 p3 p4 p5
   refine ⟨p1, ?_, p2, p3.trans w3, p4.trans w4, fun h0 => p5 (w5 h0)⟩
   rw [hX] at p1 ⊢
   exact point_pl p1
  ·right
   rw [← hpd.1] at p1
   rw [← hpd.2] at p3 p4 p5 p6 p7 p8
   refine ⟨p1, w6 p2, p3, p4, p5, p6.trans w3, p7.trans w4, fun _ fs => ?_⟩
   obtain ⟨q1, ⟨E', rows', q2, _, q3⟩, _⟩ := p8 fs
   exact ⟨q1, E', rows', q2, q3⟩
 ·right
  rw [if_pos (by rw [w1]; simp)] at hX
  rw [hX]
  refine ⟨w1, w2, w3, w4, w5, w6, w7, fun hst fs => ?_⟩
  obtain ⟨q1, q2⟩ := w8 hst fs
  exact ⟨q1, E, rows, by omega, q2⟩
end
end Go.Proofs.YtklppnknllbfnaaGreat
