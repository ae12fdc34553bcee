/- What stands while groups are appended and their rows kept beside; plain laws of elder logs. -/
import Derived.Test.YtpomfokpmbblkaaA9
namespace Go.Proofs.Ytpomfokpmbblkaa
open Go.RowKit Go.Maps
set_option maxRecDepth 8000

/-! ### plain -/
/-- Nothing but 0 stands in a log's slots from number n on. -/
def Zr (D : Dsk) (L : Lg) (n : Nat) : Prop := ∀ i : Nat, n ≤ i → i < L.count → D.tells ((L.first : Int) + i) = List.replicate D.size 0
/-- A log on clean slots, up, whatever was appended. -/
def Alive (D : Dsk) (L : Lg) : Prop := ∃ rows, LogHas D L rows ∧ Zr D L (flat rows).length ∧ D.loose = [] ∧ 0 ≤ D.armed
/-- .. or its disk went down in the middle of a group. -/
def Fell (D : Dsk) (L : Lg) : Prop := L.dead = true ∧ ∃ (D0 : Dsk) (L0 : Lg) (rows : List (List (Int × List Nat))) (g : List (Int × List Nat)) (j : Nat), L0.first = L.first ∧ L0.count = L.count ∧ L0.epoch = L.epoch ∧ LogHas D0 L0 rows ∧ Zr D0 L0 (flat rows).length ∧ D0.loose = [] ∧ j ≤ g.length ∧ (∀ x ∈ g, ChOk D0.size x) ∧ L0.next + g.length ≤ L0.count ∧
  D = { D0 with armed := 0, down := true, loose := D0.loose ++ (wr D0.size L0.epoch L0.first L0.next (fl g)).take j }
def Elder (D : Dsk) (L : Lg) : Prop := Alive D L ∨ Fell D L
section
variable {D : Dsk} {L : Lg} {g : List (Int × List Nat)}
theorem app_no (h : rightE D L g ≠ 0) : app D L g = (rightE D L g, D, L) := by unfold app; rw [if_neg h]
theorem Alive.step (h : Alive D L) (hz : D.size ≤ 4096) (hb : ∀ c ∈ g, ∀ b ∈ c.2, b < 256) : (Alive (app D L g).2.1 (app D L g).2.2 ∧ (D.armed = 0 → (app D L g).2.1.armed = 0)) ∨ (0 < D.armed ∧ Fell (app D L g).2.1 (app D L g).2.2) := by
  obtain ⟨rows, h1, h2, h3, h4⟩ := h
  by_cases h0 : rightE D L g = 0
  · rcases h1.apps h4 hz hb h0 with ⟨_, q1, q2, q3, q4, q5, _, q6, q7⟩ | ⟨_, q1, j, q2, q3, q4, q5⟩
    · refine .inl ⟨⟨rows ++ [g], q1, fun i hi hc => ?_, q2, q4⟩, q3⟩
      rw [q6] at hc ⊢
      have hnx := h1.nx
      have hlen : (flat (rows ++ [g])).length = (flat rows).length + g.length := by rw [flat_append, flat_one, List.length_append, fl_length]
      rw [q5]
      show (app D L g).2.1.tells ((L.first : Int) + i) = _
      rw [q7 _ (fun k hk => by omega)]
      exact h2 i (by omega) hc
    · obtain ⟨_, _, hch, hfit⟩ := rightE_ok h0 hb h1.z hz
      exact .inr ⟨q1, by rw [q5], D, L, rows, g, j, by rw [q5], by rw [q5], by rw [q5], h1, h2, h3, q3, hch, hfit, q4⟩
  · rw [app_no h0]
    exact .inl ⟨⟨rows, h1, h2, h3, h4⟩, id⟩
theorem Elder.step (h : Elder D L) (hz : D.size ≤ 4096) (hb : ∀ c ∈ g, ∀ b ∈ c.2, b < 256) : Elder (app D L g).2.1 (app D L g).2.2 := by
  rcases h with h | h
  · rcases h.step hz hb with h | h
    · exact .inl h.1
    · exact .inr h.2
  · have : rightE D L g ≠ 0 := by unfold rightE; rw [if_pos h.1]; decide
    rw [app_no this]
    exact .inr h
theorem Elder.lo (h : Elder D L) : D.loose.length ≤ 1048576 := by
  rcases h with ⟨_, _, _, h, _⟩ | ⟨_, D0, L0, rows, g, j, _, _, _, h1, _, h2, h3, _, h4, rfl⟩
  · rw [h]; exact Nat.zero_le _
  · have := h1.lok.c
    show (D0.loose ++ _).length ≤ _
    rw [h2, List.nil_append, List.length_take, wr_length, fl_length]
    omega
theorem Alive.left0 (h : Alive D L) : Left0 D L := by
  obtain ⟨rows, h1, h2, _⟩ := h
  exact h1.left0 h2
/-- Behind a crash no slot has another epoch than the log's. -/
theorem Elder.other (h : Elder D L) (hO : D.Ok) (fs : List Int) {e : Nat} (he : 1 ≤ e) (hne : e ≠ L.epoch) (i : Nat) (hi : i < L.count) : slotEp ((D.crash fs).tells ((L.first : Int) + i)) i ≠ e := by
  rcases h with ha | ⟨_, D0, L0, rows, g, j, e1, e2, e3, h1, h2, h3, h4, h5, h6, hD⟩
  · obtain ⟨rows, h1, h2, h3, _⟩ := id ha
    rw [tells_crash_up h3]
    exact ha.left0.slot h1.lok h1.z he hne i hi
  · rw [← e1]
    refine h1.crash_other (E := D.crash fs) fs h3 h4 (by rw [hD]) h5 (fun a => ?_) h6 h2 he (by rw [e3]; exact hne) i (by rw [e2]; exact hi)
    have := hO.len a
    rw [hD] at this
    exact this
/-- A log of a newer epoch, and what it holds. -/
structure Newer (D : Dsk) (L : Lg) (rows : List (List (Int × List Nat))) : Prop where
  has : LogHas D L rows
  armed : D.armed = 0
  loose : D.loose = []
theorem Newer.step {rows : List (List (Int × List Nat))} (h : Newer D L rows) (hz : D.size ≤ 4096) (hb : ∀ c ∈ g, ∀ b ∈ c.2, b < 256) :
    ((app D L g).1 = 0 ∧ Newer (app D L g).2.1 (app D L g).2.2 (rows ++ [g])) ∨ ((app D L g).1 ≠ 0 ∧ Newer (app D L g).2.1 (app D L g).2.2 rows) := by
  by_cases h0 : rightE D L g = 0
  · rcases h.has.apps (by rw [h.armed]; decide) hz hb h0 with ⟨q0, q1, q2, q3, q4, _⟩ | ⟨_, q1, _⟩
    · exact .inl ⟨q0, q1, q3 h.armed, q2⟩
    · rw [h.armed] at q1; omega
  · rw [app_no h0]
    exact .inr ⟨h0, h⟩
end

/-- What a play never turns. -/
structure Fix (D : Dsk) (L : Lg) (z s f c e : Nat) : Prop where
  z : D.size = z
  s : D.sectors = s
  f : L.first = f
  c : L.count = c
  e : L.epoch = e
theorem Fix.step {D : Dsk} {L : Lg} {z s f c e : Nat} (h : Fix D L z s f c e) (g : List (Int × List Nat)) : Fix (app D L g).2.1 (app D L g).2.2 z s f c e := by
  obtain ⟨_, h1, h2, h3, h4, h5, _⟩ := app_keeps D L g
  exact ⟨h1.trans h.z, h2.trans h.s, h3.trans h.f, h4.trans h.c, h5.trans h.e⟩
/-! ### memory -/
/-- The document's rows, and one under way. -/
structure WtSt (w v : World) (ws : List (List (Int × List Nat))) (ov lv : Value) (row : List (Int × List Nat)) : Prop where
  low : Below w.heap.size w v
  out : ∃ Bo, Bo ≤ v.heap.size ∧ RGs v w.heap.size ov ws Bo ∧ ∀ j, lv.ownBlock = some j → Bo ≤ j
  row : RCg v w.heap.size lv row
section
variable {w v v' : World} {ws : List (List (Int × List Nat))} {ov lv : Value} {row : List (Int × List Nat)}
theorem WtSt.start (hb : Below w.heap.size w v) : WtSt w v [] nilv nilv [] := ⟨hb, ⟨0, Nat.zero_le _, RGs.nil _ _ _, by intro j hj; simp [nilv, Value.ownBlock] at hj⟩, RCg.nil _ _⟩
theorem WtSt.grew (h : WtSt w v ws ov lv row) (k : Below v.heap.size v v') : WtSt w v' ws ov lv row := by
  obtain ⟨Bo, h0, h1, h2⟩ := h.out
  exact ⟨grow h.low k, ⟨Bo, Nat.le_trans h0 k.size, h1.grew k, h2⟩, h.row.grew k⟩
theorem WtSt.turn {T : List Nat} (h : WtSt w v ws ov lv row) (k : Turn T v v') (hlo : ∀ j ∈ T, w.heap.size ≤ j) (hT : ∀ j ∈ T, (∀ cs fz, v.heap[j]? ≠ some (.cells cs 47 fz)) ∧ ∀ cs fz, v.heap[j]? ≠ some (.cells cs 45 fz)) : WtSt w v' ws ov lv row := by
  obtain ⟨Bo, h0, h1, h2⟩ := h.out
  refine ⟨h.low.trans (k.below h.low.size hlo), ⟨Bo, Nat.le_trans h0 k.size, h1.turn k (fun j hj => .inl (hT j hj).1) (fun g hg hm => ?_), h2⟩, h.row.turn k (fun g hg hm => ?_)⟩
  · obtain ⟨cs, e⟩ := h1.kind hg
    exact (hT g hm).2 _ _ e
  · obtain ⟨cs, e⟩ := h.row.kind hg
    exact (hT g hm).1 _ _ e
theorem WtSt.fresh (h : WtSt w v ws ov lv row) : WtSt w v ws ov nilv [] := by
  obtain ⟨Bo, h0, h1, h2⟩ := h.out
  exact ⟨h.low, ⟨Bo, h0, h1, by intro j hj; simp [nilv, Value.ownBlock] at hj⟩, RCg.nil _ _⟩
theorem WtSt.push (h : WtSt w v ws ov lv row) {g : Nat} {x : Int} {l : List Nat} (hB : Blk v g #[.int .i64 x, .string (str l)] 47) (hn : row.length ≤ 1000000000) :
    ∃ v' w', (Builtin.append_ #[45, 45] 45 #[lv, .slice (some ⟨g, 0, none⟩) 1 1]).run Try.prog v = .ok v' w' ∧ WtSt w w' ws ov v' (row ++ [(x, l)]) ∧ Turn lv.ownBlock.toList v w' := by
  obtain ⟨Bo, h0, h1, h2⟩ := h.out
  obtain ⟨v', w', hrun, q1, hgr, hloc⟩ := h.row.append hn h.low.size hB
  have ht : Turn lv.ownBlock.toList v w' := (Turn.refl _ v).grown hgr (fun k e => .inl (by simp [e]))
  have hb : Below w.heap.size v w' := (Below.refl _ v).grown hgr h.low.size (fun j e => (h.row.lt e).1)
  refine ⟨v', w', hrun, ⟨h.low.trans hb, ⟨Bo, Nat.le_trans h0 ht.size, h1.turn ht (fun j hj => .inr (h2 j (by simpa using hj))) (fun j hj hm => ?_), fun j hj => ?_⟩, q1⟩, ht⟩
  · obtain ⟨cs, e⟩ := h1.kind hj
    obtain ⟨cs', e'⟩ := h.row.kind (g := j) (by simpa using hm)
    rw [e] at e'; cases e'
  · rcases hloc with e | e
    · exact h2 j (by rw [← e]; exact hj)
    · rw [e] at hj; cases hj; exact h0
theorem WtSt.close (h : WtSt w v ws ov lv row) {g : Nat} (hB : Blk v g #[lv] 45) (hn : ws.length ≤ 1000000000) :
    ∃ v' w', (Builtin.append_ #[37, 37] 37 #[ov, .slice (some ⟨g, 0, none⟩) 1 1]).run Try.prog v = .ok v' w' ∧ WtSt w w' (ws ++ [row]) v' nilv [] ∧ Turn ov.ownBlock.toList v w' ∧ (∀ {x : Value} {r : List (Int × List Nat)}, RCg v w.heap.size x r → RCg w' w.heap.size x r) := by
  obtain ⟨Bo, h0, h1, h2⟩ := h.out
  obtain ⟨v', w', hrun, q1, _, _, hk, hgr, hloc⟩ := h1.append hn h.low.size hB h.row
  have ht : Turn ov.ownBlock.toList v w' := (Turn.refl _ v).grown hgr (fun k e => .inl (by simp [e]))
  have hb : Below w.heap.size v w' := (Below.refl _ v).grown hgr h.low.size (fun j e => (h1.lt e).1)
  exact ⟨v', w', hrun, ⟨h.low.trans hb, ⟨v.heap.size, ht.size, q1, by intro j hj; simp [nilv, Value.ownBlock] at hj⟩, RCg.nil _ _⟩, ht, hk⟩
end
section
variable {w0 v v' : World} {b m G : Nat} {vl vl' : Value} {D D' : Dsk} {L : Lg}
theorem went_kinds (hl : LogIn v G b L) (hd : DiskAt v b m vl D) : ∀ j ∈ G :: own b m vl, (∀ cs fz, v.heap[j]? ≠ some (.cells cs 47 fz)) ∧ ∀ cs fz, v.heap[j]? ≠ some (.cells cs 45 fz) := by
  intro j hj
  rcases List.mem_cons.1 hj with rfl | hj
  · unfold LogIn Blk at hl
    exact ⟨fun cs fz e => (by rw [hl] at e; cases e), fun cs fz e => (by rw [hl] at e; cases e)⟩
  · rcases mem_own.1 hj with rfl | rfl | hg
    · have := hd.blk; unfold Blk at this
      exact ⟨fun cs fz e => (by rw [this] at e; cases e), fun cs fz e => (by rw [this] at e; cases e)⟩
    · obtain ⟨es, clock, hx⟩ := hd.fast.kind
      exact ⟨fun cs fz e => (by rw [hx] at e; cases e), fun cs fz e => (by rw [hx] at e; cases e)⟩
    · obtain ⟨cs2, e2⟩ := hd.loose.kind hg
      exact ⟨fun cs fz e => (by rw [e2] at e; cases e), fun cs fz e => (by rw [e2] at e; cases e)⟩
theorem WtSt.went {w : World} {ws : List (List (Int × List Nat))} {ov lv : Value} {row : List (Int × List Nat)} (h : WtSt w v ws ov lv row) (hs : LSt w v b m vl D G L) (k : Went v v' G b m vl vl') : WtSt w v' ws ov lv row :=
  h.turn k.1 (fun j hj => by
    rcases List.mem_cons.1 hj with rfl | hj
    · exact hs.gl
    · exact hs.dk.lo j hj) (went_kinds hs.log hs.dk.disk)
/-- Rows of the document's are turned: the log and its disk stand. -/
theorem LSt.turned {T : List Nat} (h : LSt w0 v b m vl D G L) (k : Turn T v v') (hlo : ∀ j ∈ T, w0.heap.size ≤ j) (hT : ∀ j ∈ T, (∃ cs, v.heap[j]? = some (.cells cs 47 (0, 0))) ∨ ∃ cs, v.heap[j]? = some (.cells cs 45 (0, 0))) : LSt w0 v' b m vl D G L := by
  have hk := went_kinds h.log h.dk.disk
  have hno : ∀ j ∈ G :: own b m vl, j ∉ T := fun j hj hm => by
    rcases hT j hm with ⟨cs, e⟩ | ⟨cs, e⟩
    · exact (hk j hj).1 _ _ e
    · exact (hk j hj).2 _ _ e
  have nb : NoBytes v T := by
    intro j hj cs fz hx
    rcases hT j hj with ⟨cs', e⟩ | ⟨cs', e⟩ <;> (rw [hx] at e; cases e)
  exact ⟨⟨h.dk.disk.turn k nb (fun j hj => hno j (List.mem_cons_of_mem _ hj)), h.dk.low.trans (k.below h.dk.low.size hlo), h.dk.lo⟩, (k.block G (Blk.lt h.log) (hno G (by simp))).trans h.log, h.ok, h.gl⟩
theorem Chg.turned {T : List Nat} {gv : Value} {g : List (Int × List Nat)} (h : Chg v gv g) (k : Turn T v v') (hT : ∀ j ∈ T, (∃ cs, v.heap[j]? = some (.cells cs 47 (0, 0))) ∨ ∃ cs, v.heap[j]? = some (.cells cs 45 (0, 0))) : Chg v' gv g := by
  refine h.turn k (fun j hj cs fz hx => ?_) (fun j hj hm => ?_)
  · rcases hT j hj with ⟨cs', e⟩ | ⟨cs', e⟩ <;> (rw [hx] at e; cases e)
  · obtain ⟨cs, e⟩ := h.kind hj
    rcases hT j hm with ⟨cs', e'⟩ | ⟨cs', e'⟩ <;> (rw [e] at e'; cases e')
end
theorem IRd.below {v v' : World} {B : Nat} {A : Option Addr} {fs : List Int} (h : IRd v A fs) (hb : Below B v v') (hA : fs ≠ [] → ∀ p, A = some p → p.block < B) : IRd v' A fs :=
  ⟨h.1, fun hn => by
    obtain ⟨p, e, hp, hc⟩ := h.2 hn
    exact ⟨p, e, Nat.lt_of_lt_of_le hp hb.size, fun k hk => (hb.cell (p := p.add k) (by rw [add_block]; exact hA hn p e)).trans (hc k hk)⟩⟩
/-- Crash, by fates among a law's arguments. -/
theorem Crash_fates {w0 v : World} {b m G : Nat} {vl : Value} {D : Dsk} {L : Lg} (h : LSt w0 v b m vl D G L) (fs : List Int) (A : Option Addr) (c n : Nat) (hn : fs.length = n) (hL : D.loose.length ≤ 1000000000) (hc : n ≤ c) (hf : IRd w0 A fs) (ha : fs ≠ [] → ∀ p, A = some p → p.block < w0.heap.size) :
    Calls Try.prog 26 #[.pointer (some ⟨b, 0, none⟩), .slice A n c] v fun e v' => e = .returned (.tuple #[]) ∧ ∃ vl', LSt w0 v' b m vl' (D.crash fs) G L := by
  refine (Crash_dk h.dk fs A c n hn hL hc (hf.below h.dk.low ha) (fun hne p hp => ⟨Nat.lt_of_lt_of_le (ha hne p hp) h.dk.low.size, fun hm => ?_⟩)).mono ?_
  · have := h.dk.lo _ hm
    have := ha hne p hp
    omega
  · rintro e v' ⟨rfl, vl', hk, hs⟩
    exact ⟨rfl, vl', h.stepped hk hs⟩
/-- A log, a group in memory, and the document's rows beside. -/
structure AgSt (w v : World) (b m : Nat) (vl : Value) (D : Dsk) (G : Nat) (L : Lg) (gv : Value) (g : List (Int × List Nat)) (ws : List (List (Int × List Nat))) (ov lv : Value) (row : List (Int × List Nat)) : Prop where
  st : LSt w v b m vl D G L
  src : Chg v gv g
  wt : WtSt w v ws ov lv row
section
variable {w v v' : World} {b m G : Nat} {vl : Value} {D : Dsk} {L : Lg} {gv ov lv : Value} {g row : List (Int × List Nat)} {ws : List (List (Int × List Nat))}
theorem AgSt.grew (h : AgSt w v b m vl D G L gv g ws ov lv row) (k : Below v.heap.size v v') : AgSt w v' b m vl D G L gv g ws ov lv row := ⟨h.st.grew k, h.src.grew k, h.wt.grew k⟩
theorem AgSt.drew (h : AgSt w v b m vl D G L gv g ws ov lv row) : AgSt w v.drew b m vl D G L gv g ws ov lv row := h.grew ⟨rfl, rfl, rfl, Nat.le_refl _, fun _ _ => rfl⟩
theorem AgSt.push (h : AgSt w v b m vl D G L gv g ws ov lv row) {q : Nat} {x : Int} {l : List Nat} (hB : Blk v q #[.int .i64 x, .string (str l)] 47) (hn : row.length ≤ 1000000000) :
    ∃ v' w', (Builtin.append_ #[45, 45] 45 #[lv, .slice (some ⟨q, 0, none⟩) 1 1]).run Try.prog v = .ok v' w' ∧ AgSt w w' b m vl D G L gv g ws ov v' (row ++ [(x, l)]) ∧ (∀ gr i, gv.ownBlock = some gr → w'.cell? ⟨gr, i, none⟩ = v.cell? ⟨gr, i, none⟩) ∧ ∀ u l, Byt v u l → Byt w' u l := by
  obtain ⟨v', w', hrun, h1, ht⟩ := h.wt.push hB hn
  have hT : ∀ j ∈ lv.ownBlock.toList, (∃ cs, v.heap[j]? = some (.cells cs 47 (0, 0))) ∨ ∃ cs, v.heap[j]? = some (.cells cs 45 (0, 0)) := fun j hj => .inl (h.wt.row.kind (by simpa using hj))
  refine ⟨v', w', hrun, ⟨h.st.turned ht (fun j hj => (h.wt.row.lt (g := j) (by simpa using hj)).1) hT, h.src.turned ht hT, h1⟩, fun gr i e => ?_, fun u l hb => hb.turn ht (fun j hj cs fz hx => ?_)⟩
  · obtain ⟨cs, hx⟩ := h.src.kind e
    have hne : gr ∉ lv.ownBlock.toList := fun hm => by
      rcases hT gr hm with ⟨cs', e'⟩ | ⟨cs', e'⟩ <;> (rw [hx] at e'; cases e')
    unfold World.cell?
    rw [ht.block gr (lt_of_block hx) hne]
  · rcases hT j hj with ⟨cs', e⟩ | ⟨cs', e⟩ <;> (rw [hx] at e; cases e)
theorem AgSt.close (h : AgSt w v b m vl D G L gv g ws ov lv row) {q : Nat} (hB : Blk v q #[lv] 45) (hn : ws.length ≤ 1000000000) :
    ∃ v' w', (Builtin.append_ #[37, 37] 37 #[ov, .slice (some ⟨q, 0, none⟩) 1 1]).run Try.prog v = .ok v' w' ∧ AgSt w w' b m vl D G L gv g (ws ++ [row]) v' nilv [] := by
  obtain ⟨v', w', hrun, h1, ht, _⟩ := h.wt.close hB hn
  obtain ⟨Bo, _, ho, _⟩ := h.wt.out
  have hT : ∀ j ∈ ov.ownBlock.toList, (∃ cs, v.heap[j]? = some (.cells cs 47 (0, 0))) ∨ ∃ cs, v.heap[j]? = some (.cells cs 45 (0, 0)) := fun j hj => .inr (ho.kind (by simpa using hj))
  exact ⟨v', w', hrun, h.st.turned ht (fun j hj => (ho.lt (g := j) (by simpa using hj)).1) hT, h.src.turned ht hT, h1⟩
end
end Go.Proofs.Ytpomfokpmbblkaa
