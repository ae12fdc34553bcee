/- What stands of a law's box; all of a row of rows appended; plain law of a storm. -/
import Derived.Test.YtpomfokpmbblkaaA11
namespace Go.Proofs.Ytpomfokpmbblkaa
open Go.RowKit Go.Maps
set_option maxRecDepth 8000

/-! ### plain -/
/-- A newer log in whose slots nothing lies that a torn sector could be taken for. -/
structure Whole (D : Dsk) (L : Lg) (rows : List (List (Int × List Nat))) : Prop where
  has : LogHas D L rows
  loose : D.loose = []
  armed : 0 ≤ D.armed
  under : ∀ i : Nat, L.next ≤ i → i < L.count → Under D.size (L.epoch * 2097152 + i + 1) (D.tells ((L.first : Int) + i))
section
variable {D : Dsk} {L : Lg} {rows : List (List (Int × List Nat))} {g : List (Int × List Nat)}
theorem Whole.start (h : Alive D L) (n : Int) {e : Nat} (he : 1 ≤ e ∧ e ≤ 1099511627776) (hne : e ≠ L.epoch) : Whole (D.arm n) { L with epoch := e, next := 0, dead := false } [] := by
  obtain ⟨rows, h1, h2, h3, h4⟩ := id h
  have hl := h.left0
  have hf := h1.lok
  refine ⟨LogHas.start h1.up h1.room ⟨hf.f, hf.c, he, Nat.zero_le _⟩ rfl h1.z (fun i hi => ?_), h3, by show 0 ≤ max n 0; omega, fun i _ hi => ?_⟩
  · exact hl.slot h1.lok h1.z he.1 hne i hi
  · exact hl.under h1.lok hne i hi
theorem Whole.step (h : Whole D L rows) (hO : D.Ok) (hb : ∀ c ∈ g, ∀ b ∈ c.2, b < 256) :
    ((app D L g).1 = 0 ∧ Whole (app D L g).2.1 (app D L g).2.2 (rows ++ [g])) ∨ ((app D L g).1 ≠ 0 ∧ (app D L g).1 ≠ 4 ∧ Whole (app D L g).2.1 (app D L g).2.2 rows) ∨
    ((app D L g).1 = 4 ∧ (app D L g).2.1.loose.length ≤ 1048576 ∧ ∀ fs, grp ((app D L g).2.1.crash fs) L.first L.epoch L.count 0 [] [] = rows ∨ grp ((app D L g).2.1.crash fs) L.first L.epoch L.count 0 [] [] = rows ++ [g]) := by
  by_cases h0 : rightE D L g = 0
  · obtain ⟨_, hne, hch, hfit⟩ := rightE_ok h0 hb h.has.z hO.z2
    rcases h.has.apps h.armed hO.z2 hb h0 with ⟨q0, q1, q2, q3, q4, q5, _, q6, q7⟩ | ⟨q0, q1, j, q2, q3, q4, q5⟩
    · refine .inl ⟨q0, q1, q2, q4, fun i hi hc => ?_⟩
      rw [q6] at hi hc ⊢
      have hi' : L.next + g.length ≤ i := hi
      rw [q5]
      show Under D.size (L.epoch * 2097152 + i + 1) ((app D L g).2.1.tells ((L.first : Int) + i))
      rw [q7 _ (fun k hk => by omega)]
      exact h.under i (by omega) hc
    · refine .inr (.inr ⟨q0, ?_, fun fs => ?_⟩)
      · rw [q4]
        have := h.has.lok.c
        show (D.loose ++ _).length ≤ _
        rw [h.loose, List.nil_append, List.length_take, wr_length, fl_length]
        omega
      · exact h.has.crash_whole fs h.loose q3 (by rw [q4]) hch hne hO.len hfit h.under
  · have hn4 := rightE_not4 D L g
    rw [app_no h0]
    exact .inr (.inl ⟨h0, hn4, h⟩)
theorem Whole.end_ (h : Whole D L rows) (fs : List Int) : grp (D.crash fs) L.first L.epoch L.count 0 [] [] = rows :=
  (h.has.change (D' := D.crash fs) rfl rfl rfl (tells_crash_up h.loose fs)).groups
end

/-! ### memory -/
theorem RGs.lit {w : World} {g base : Nat} (h : Blk w g #[] 45) (hb : base ≤ g) (B : Nat) : RGs w base (.slice (some ⟨g, 0, none⟩) 0 0) [] B :=
  ⟨[], rfl, ⟨rfl, .inr ⟨g, 0, _, rfl, hb, h, Nat.le_refl _, Nat.zero_le _, rfl, rfl⟩⟩, fun k hk => absurd hk (by simp)⟩
/-- 'append(rows, more...)'. -/
theorem RGs.appendAll {w : World} {base : Nat} {v x : Value} {gs hs : List (List (Int × List Nat))} {B B' : Nat} (h : RGs w base v gs B) (hx : RGs w base x hs B') (hn : gs.length + hs.length ≤ 1000000000) (hbb : base ≤ w.heap.size) :
    ∃ v' w', (Builtin.append_ #[37, 37] 37 #[v, x]).run Try.prog w = .ok v' w' ∧ (∃ B, B ≤ w'.heap.size ∧ RGs w' base v' (gs ++ hs) B) ∧ Turn v.ownBlock.toList w w' ∧ (∀ j ∈ v.ownBlock.toList, base ≤ j ∧ ∃ cs, w.heap[j]? = some (.cells cs 45 (0, 0))) ∧ (v'.ownBlock = v.ownBlock ∨ v'.ownBlock = some w.heap.size) := by
  obtain ⟨i, hi, hz, hs', hby⟩ := info_parts rg_row
  have hT : ∀ j ∈ v.ownBlock.toList, base ≤ j ∧ ∃ cs, w.heap[j]? = some (.cells cs 45 (0, 0)) := fun j hj => ⟨(h.lt (g := j) (by simpa using hj)).1, h.kind (by simpa using hj)⟩
  obtain ⟨xs, e1, ho2, g2⟩ := id hx
  obtain ⟨vs, e0, ho, g1⟩ := id h
  have lim : ∀ {u : Value} {l : List (Int × List Nat)}, RCg w base u l → ∀ j, u.ownBlock = some j → j < w.heap.size := fun hu j hj => (hu.lt hj).2
  cases hs with
  | nil =>
    have hx0 : ∃ A c, x = .slice A 0 c := by
      rcases ho2.2 with ⟨rfl, _⟩ | ⟨g, cap, cur, rfl, _⟩
      · exact ⟨none, 0, rfl⟩
      · exact ⟨_, _, rfl⟩
    obtain ⟨A, c, rfl⟩ := hx0
    have h' : RGs w base v gs w.heap.size := ⟨vs, e0, ho, fun k hk => by
      obtain ⟨u, a1, a2, a3, _⟩ := g1 k hk
      exact ⟨u, a1, a2, a3, lim a3⟩⟩
    refine ⟨v, w, ?_, ⟨w.heap.size, Nat.le_refl _, by simpa using h'⟩, Turn.refl _ _, hT, .inl rfl⟩
    rcases ho.2 with ⟨rfl, _⟩ | ⟨g, cap, cur, rfl, _, _, hnc, _⟩
    · simp [Builtin.append_, run_underlying Try.underlying37, sizeOf, typeInfo, hi, Builtin.lenOf, Builtin.firstCells]
      cases A <;> simp [loadCells, loadCellsFrom]
    · simp [Builtin.append_, run_underlying Try.underlying37, sizeOf, typeInfo, hi, Builtin.lenOf, Builtin.firstCells, hnc]
      cases A <;> simp [loadCells, loadCellsFrom, storeCells]
  | cons y ys =>
    rcases id ho2.2 with ⟨_, h0⟩ | ⟨g, cap, cur, rfl, _⟩
    · simp at h0
    · have hlen : xs.length = (y :: ys).length := e1
      obtain ⟨v', w', hrun, ho', hgr, hloc, _⟩ := run_append_keeps (P := Try.prog) w base 37 37 45 i _ 1 24 Try.underlying37 hi hz hs' hby rfl (by omega) v gs.length vs ho ⟨g, 0, none⟩ (y :: ys).length cap xs (by rw [hlen, Nat.mul_one])
        (fun j u hu => World.ownsRow.cells ho2 (g := g) rfl j u hu) (fun u hu => by
          obtain ⟨k, hk, rfl⟩ := List.getElem_of_mem hu
          obtain ⟨u', a1, a2, _⟩ := g2 k (by rw [← hlen]; exact hk)
          rw [List.getElem?_eq_getElem hk] at a1
          rw [Option.some.inj a1]; exact a2) (by simp only [maxLen]; omega) (by omega) hbb
      have ht : Turn v.ownBlock.toList w w' := (Turn.refl _ w).grown hgr (fun k e => .inl (by simp [e]))
      have hne : ∀ {u : Value} {l : List (Int × List Nat)}, RCg w base u l → RCg w' base u l := fun hb => hb.turn ht (fun j hj hm => by
        obtain ⟨cs, e⟩ := hb.kind hj
        obtain ⟨_, cs', e'⟩ := hT j hm
        rw [e] at e'; cases e')
      refine ⟨v', w', hrun, ⟨w.heap.size, ht.size, vs ++ xs, by simp [e0, hlen], by rw [List.length_append]; exact ho', fun k hk => ?_⟩, ht, hT, hloc⟩
      by_cases hlt : k < gs.length
      · obtain ⟨u, a1, a2, a3, _⟩ := g1 k hlt
        refine ⟨u, ?_, a2, ?_, lim a3⟩
        · rw [List.getElem?_append_left (by omega)]; exact a1
        · rw [List.getElem_append_left hlt]; exact hne a3
      · obtain ⟨u, a1, a2, a3, _⟩ := g2 (k - gs.length) (by rw [List.length_append] at hk; omega)
        refine ⟨u, ?_, a2, ?_, lim a3⟩
        · rw [List.getElem?_append_right (by omega), e0]; exact a1
        · rw [List.getElem_append_right (by omega)]; exact hne a3
section
variable {w v v' : World} {b m G X : Nat} {vl vl' : Value} {D : Dsk} {L : Lg} {cs : Array Value} {t : TypeId}
theorem Blk.went (h : Blk v X cs t) (ht : t = 57 ∨ t = 24) (hs : LSt w v b m vl D G L) (k : Went v v' G b m vl vl') : Blk v' X cs t := by
  refine (k.1.block X h.lt (fun hm => ?_)).trans h
  unfold Blk at h
  rcases List.mem_cons.1 hm with e | hm
  · have := hs.log; unfold LogIn Blk at this
    rw [← e, h] at this
    rcases ht with rfl | rfl <;> cases this
  · rcases mem_own.1 hm with e | e | hg
    · have := hs.dk.disk.blk; unfold Blk at this
      rw [← e, h] at this
      rcases ht with rfl | rfl <;> cases this
    · obtain ⟨es, clock, hx⟩ := hs.dk.disk.fast.kind
      rw [← e, h] at hx; cases hx
    · obtain ⟨cs2, e2⟩ := hs.dk.disk.loose.kind hg
      rw [h] at e2
      rcases ht with rfl | rfl <;> cases e2
theorem Blk.kept {T : List Nat} (h : Blk v X cs t) (ht : t = 57 ∨ t = 24) (k : Turn T v v') (hT : ∀ j ∈ T, (∃ cs, v.heap[j]? = some (.cells cs 47 (0, 0))) ∨ ∃ cs, v.heap[j]? = some (.cells cs 45 (0, 0))) : Blk v' X cs t := by
  refine (k.block X h.lt (fun hm => ?_)).trans h
  unfold Blk at h
  rcases hT X hm with ⟨cs', e⟩ | ⟨cs', e⟩ <;> (rw [h] at e; rcases ht with rfl | rfl <;> cases e)
theorem Blk.stepped (h : Blk v X cs t) (ht : t = 57 ∨ t = 24) (hd : DiskAt v b m vl D) (k : Step v v' (own b m vl) (own b m vl')) : Blk v' X cs t := by
  refine (k.turn.block X h.lt (fun hm => ?_)).trans h
  unfold Blk at h
  rcases mem_own.1 hm with e | e | hg
  · have := hd.blk; unfold Blk at this
    rw [← e, h] at this
    rcases ht with rfl | rfl <;> cases this
  · obtain ⟨es, clock, hx⟩ := hd.fast.kind
    rw [← e, h] at hx; cases hx
  · obtain ⟨cs2, e2⟩ := hd.loose.kind hg
    rw [h] at e2
    rcases ht with rfl | rfl <;> cases e2
end
/-- .. and the law's box. -/
structure AgX (w v : World) (b m : Nat) (vl : Value) (D : Dsk) (G : Nat) (L : Lg) (gv : Value) (g : List (Int × List Nat)) (ws : List (List (Int × List Nat))) (ov lv : Value) (row : List (Int × List Nat)) (X : Nat) (cs : Array Value) (t : TypeId) : Prop where
  ag : AgSt w v b m vl D G L gv g ws ov lv row
  box : Blk v X cs t
  ty : t = 57 ∨ t = 24
section
variable {w v v' : World} {b m G X : Nat} {vl : Value} {D : Dsk} {L : Lg} {gv ov lv : Value} {g row : List (Int × List Nat)} {ws : List (List (Int × List Nat))} {cs : Array Value} {t : TypeId}
theorem AgX.grew (h : AgX w v b m vl D G L gv g ws ov lv row X cs t) (k : Below v.heap.size v v') : AgX w v' b m vl D G L gv g ws ov lv row X cs t := ⟨h.ag.grew k, h.box.grew k, h.ty⟩
theorem AgX.drew (h : AgX w v b m vl D G L gv g ws ov lv row X cs t) : AgX w v.drew b m vl D G L gv g ws ov lv row X cs t := h.grew ⟨rfl, rfl, rfl, Nat.le_refl _, fun _ _ => rfl⟩
theorem AgX.push (h : AgX w v b m vl D G L gv g ws ov lv row X cs t) {q : Nat} {x : Int} {l : List Nat} (hB : Blk v q #[.int .i64 x, .string (str l)] 47) (hn : row.length ≤ 1000000000) :
    ∃ v' w', (Builtin.append_ #[45, 45] 45 #[lv, .slice (some ⟨q, 0, none⟩) 1 1]).run Try.prog v = .ok v' w' ∧ AgX w w' b m vl D G L gv g ws ov v' (row ++ [(x, l)]) X cs t ∧ (∀ gr i, gv.ownBlock = some gr → w'.cell? ⟨gr, i, none⟩ = v.cell? ⟨gr, i, none⟩) ∧ ∀ u l, Byt v u l → Byt w' u l := by
  obtain ⟨v', w', hrun, h1, ht⟩ := h.ag.wt.push hB hn
  have hT : ∀ j ∈ lv.ownBlock.toList, (∃ cs, v.heap[j]? = some (.cells cs 47 (0, 0))) ∨ ∃ cs, v.heap[j]? = some (.cells cs 45 (0, 0)) := fun j hj => .inl (h.ag.wt.row.kind (by simpa using hj))
  refine ⟨v', w', hrun, ⟨⟨h.ag.st.turned ht (fun j hj => (h.ag.wt.row.lt (g := j) (by simpa using hj)).1) hT, h.ag.src.turned ht hT, h1⟩, h.box.kept h.ty ht hT, h.ty⟩, fun gr i e => ?_, fun u l hb => hb.turn ht (fun j hj cs fz hx => ?_)⟩
  · obtain ⟨cs, hx⟩ := h.ag.src.kind e
    have hne : gr ∉ lv.ownBlock.toList := fun hm => by
      rcases hT gr hm with ⟨cs', e'⟩ | ⟨cs', e'⟩ <;> (rw [hx] at e'; cases e')
    unfold World.cell?
    rw [ht.block gr (lt_of_block hx) hne]
  · rcases hT j hj with ⟨cs', e⟩ | ⟨cs', e⟩ <;> (rw [hx] at e; cases e)
theorem AgX.close (h : AgX w v b m vl D G L gv g ws ov lv row X cs t) {q : Nat} (hB : Blk v q #[lv] 45) (hn : ws.length ≤ 1000000000) :
    ∃ v' w', (Builtin.append_ #[37, 37] 37 #[ov, .slice (some ⟨q, 0, none⟩) 1 1]).run Try.prog v = .ok v' w' ∧ AgX w w' b m vl D G L gv g (ws ++ [row]) v' nilv [] X cs t := by
  obtain ⟨v', w', hrun, h1, ht, _⟩ := h.ag.wt.close hB hn
  obtain ⟨Bo, _, ho, _⟩ := h.ag.wt.out
  have hT : ∀ j ∈ ov.ownBlock.toList, (∃ cs, v.heap[j]? = some (.cells cs 47 (0, 0))) ∨ ∃ cs, v.heap[j]? = some (.cells cs 45 (0, 0)) := fun j hj => .inr (ho.kind (by simpa using hj))
  exact ⟨v', w', hrun, ⟨⟨h.ag.st.turned ht (fun j hj => (ho.lt (g := j) (by simpa using hj)).1) hT, h.ag.src.turned ht hT, h1⟩, h.box.kept h.ty ht hT, h.ty⟩⟩
/-- 'append(append([]{}, told...), row)': a row of rows of its own, the old one as it was. -/
theorem AgX.twice (h : AgX w v b m vl D G L gv g ws ov lv row X cs t) (hn : ws.length ≤ 100000000) :
    ∃ v1 w1 v2 w2, (Builtin.append_ #[37, 37] 37 #[.slice (some ⟨v.heap.size, 0, none⟩) 0 0, ov]).run Try.prog (v.alloc (.cells #[] 45)) = .ok v1 w1 ∧ (Builtin.append_ #[37, 37] 37 #[v1, .slice (some ⟨w1.heap.size, 0, none⟩) 1 1]).run Try.prog (w1.alloc (.cells #[lv] 45)) = .ok v2 w2 ∧
      LSt w w2 b m vl D G L ∧ Blk w2 X cs t ∧ (∃ B, RGs w2 w.heap.size ov ws B) ∧ ∃ B, RGs w2 w.heap.size v2 (ws ++ [row]) B := by
  have k0 := grow_alloc (Below.refl v.heap.size v) (.cells #[] 45)
  have h0 := h.grew k0
  have hlit := RGs.lit (Blk.new v #[] 45) (base := w.heap.size) h.ag.wt.low.size 0
  obtain ⟨Bo, _, ho, _⟩ := h0.ag.wt.out
  obtain ⟨v1, w1, hr1, ⟨B1, hB1, q1⟩, ht1, hT1, hl1⟩ := hlit.appendAll ho (by simp; omega) h0.ag.wt.low.size
  have hT1' : ∀ j ∈ (Value.slice (some ⟨v.heap.size, 0, none⟩) 0 0).ownBlock.toList, (∃ cs, (v.alloc (.cells #[] 45)).heap[j]? = some (.cells cs 47 (0, 0))) ∨ ∃ cs, (v.alloc (.cells #[] 45)).heap[j]? = some (.cells cs 45 (0, 0)) := fun j hj => .inr (hT1 j hj).2
  have hov : ∀ j, ov.ownBlock = some j → j ≠ v.heap.size := fun j hj => by
    obtain ⟨_, _, ho', _⟩ := h.ag.wt.out
    have := (ho'.lt hj).2; omega
  have ho1 : RGs w1 w.heap.size ov ws Bo := ho.turn ht1 (fun j hj => .inl (fun cs fz e => by
    obtain ⟨_, cs', e'⟩ := hT1 j hj
    rw [e] at e'; cases e')) (fun j hj hm => hov j hj (by simpa [Value.ownBlock] using hm))
  have hrow1 : RCg w1 w.heap.size lv row := h0.ag.wt.row.turn ht1 (fun j hj hm => by
    obtain ⟨cs, e⟩ := h0.ag.wt.row.kind hj
    obtain ⟨_, cs', e'⟩ := hT1 j hm
    rw [e] at e'; cases e')
  have hs1 := h0.ag.st.turned ht1 (fun j hj => (hT1 j hj).1) hT1'
  have hx1 := h0.box.kept h.ty ht1 hT1'
  have k1 := grow_alloc (Below.refl w1.heap.size w1) (.cells #[lv] 45)
  obtain ⟨v2, w2, hr2, q2, _, _, _, hgr2, hl2⟩ := (q1.grew k1).append (by simp; omega) (grow hs1.dk.low k1).size (Blk.new w1 #[lv] 45) (hrow1.grew k1)
  have ht2 : Turn v1.ownBlock.toList (w1.alloc (.cells #[lv] 45)) w2 := (Turn.refl _ _).grown hgr2 (fun k e => .inl (by simp [e]))
  have hT2 : ∀ j ∈ v1.ownBlock.toList, w.heap.size ≤ j ∧ ∃ cs, (w1.alloc (.cells #[lv] 45)).heap[j]? = some (.cells cs 45 (0, 0)) := fun j hj => ⟨((q1.grew k1).lt (g := j) (by simpa using hj)).1, (q1.grew k1).kind (by simpa using hj)⟩
  have hT2' : ∀ j ∈ v1.ownBlock.toList, (∃ cs, (w1.alloc (.cells #[lv] 45)).heap[j]? = some (.cells cs 47 (0, 0))) ∨ ∃ cs, (w1.alloc (.cells #[lv] 45)).heap[j]? = some (.cells cs 45 (0, 0)) := fun j hj => .inr (hT2 j hj).2
  have hv1 : ∀ j, v1.ownBlock = some j → ov.ownBlock ≠ some j := fun j hj e => by
    rcases hl1 with e1 | e1
    · rw [e1] at hj
      have hj' : j = v.heap.size := by simpa [Value.ownBlock, eq_comm] using hj
      exact hov j e hj'
    · rw [e1] at hj
      have hj' := Option.some.inj hj
      have := (ho.lt e).2
      omega
  refine ⟨v1, w1, v2, w2, hr1, hr2, (hs1.grew k1).turned ht2 (fun j hj => (hT2 j hj).1) hT2', (hx1.grew k1).kept h.ty ht2 hT2', ⟨Bo, (ho1.grew k1).turn ht2 (fun j hj => .inl (fun cs fz e => by
    obtain ⟨_, cs', e'⟩ := hT2 j hj
    rw [e] at e'; cases e')) (fun j hj hm => hv1 j (by simpa using hm) hj)⟩, _, q2⟩
end
end Go.Proofs.Ytpomfokpmbblkaa
