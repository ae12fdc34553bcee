/- Walks: a row of sectors of the law's own. -/
import Derived.Test.YtpomfokpmbblkaaA21
namespace Go.Proofs.Ytpomfokpmbblkaa
open Go.RowKit Go.Maps
set_option maxRecDepth 8000

theorem sec_row : (Try.prog.info? 42).map (fun i => (i.zero, i.size, i.bytes)) = some (some (.slice none 0 0), 1, 24) := by kernel_rfl
/-- The slice sv is a row of these sectors. -/
def SecRow (base : Nat) (v : World) (sv : Value) (ss : List (List Nat)) : Prop :=
  ∃ vs : List Value, vs.length = ss.length ∧ v.ownsRow base 42 1 sv ss.length vs ∧ ∀ k (h : k < ss.length), ∃ q c, vs[k]? = some (.slice (some q) 64 c) ∧ Byt v (.slice (some q) 64 c) ss[k]
section
variable {base : Nat} {v v' : World} {sv : Value} {ss : List (List Nat)} {T : List Nat}
theorem SecRow.nil (base : Nat) (v : World) : SecRow base v nilv [] := ⟨[], rfl, World.ownsRow_nil _ _ _ _, fun k h => absurd h (by simp)⟩
theorem SecRow.kind (h : SecRow base v sv ss) {g : Nat} (hg : sv.ownBlock = some g) : base ≤ g ∧ ∃ cs, v.heap[g]? = some (.cells cs 42 (0, 0)) := by
  obtain ⟨vs, _, ho, _⟩ := h
  exact ⟨(World.ownsRow.lt ho g hg).1, row_kind ho hg⟩
theorem SecRow.turn (h : SecRow base v sv ss) (k : Turn T v v') (hn : NoBytes v T) (hT : ∀ j ∈ T, ∀ cs fz, v.heap[j]? ≠ some (.cells cs 42 fz)) : SecRow base v' sv ss := by
  obtain ⟨vs, h1, ho, h2⟩ := id h
  refine ⟨vs, h1, row_turn ho k (fun g hg hm => ?_), fun j hj => ?_⟩
  · obtain ⟨_, cs, e⟩ := h.kind hg
    exact hT g hm _ _ e
  · obtain ⟨q, c, e, hb⟩ := h2 j hj
    exact ⟨q, c, e, hb.turn k hn⟩
theorem SecRow.grew (h : SecRow base v sv ss) (k : Below v.heap.size v v') : SecRow base v' sv ss := h.turn (Turn.of_below k []) (by intro _ h; simp at h) (by intro _ h; simp at h)
theorem SecRow.form (h : SecRow base v sv ss) : ∃ A c, sv = .slice A ss.length c := by
  obtain ⟨vs, _, ho, _⟩ := h
  rcases ho.2 with ⟨rfl, h0⟩ | ⟨g, cap, cur, rfl, _⟩
  · exact ⟨none, 0, by rw [h0]⟩
  · exact ⟨_, _, rfl⟩
theorem SecRow.secs {A : Option Addr} {n c : Nat} (h : SecRow base v (.slice A n c) ss) : Secs v v.heap.size 64 A ss := by
  intro k hk
  obtain ⟨vs, h1, ho, h2⟩ := id h
  obtain ⟨q, cq, e, hb⟩ := h2 k hk
  rcases ho.2 with ⟨e0, h0⟩ | ⟨g, cap, cur, e0, hb0, hh, _⟩
  · omega
  · injection e0 with e1 e2 e3
    subst e1
    refine ⟨g, q, cq, rfl, lt_of_block hh, ?_, ?_, hb⟩
    · have := World.ownsRow.cells ho (g := g) rfl k _ e
      have hc : (⟨g, 0, none⟩ : Addr).add k = ⟨g, k, none⟩ := by first | (rw [addr_add]; done) | (rw [addr_add]; simp)
      rw [hc] at this
      exact this
    · obtain ⟨_, p, c2, e2, _, ⟨cs, fz, hx⟩, _⟩ := hb
      injection e2 with e2
      injection e2 with e2
      subst e2
      exact lt_of_block hx
/-- 'append(sectors, b)'. -/
theorem SecRow.push (h : SecRow base v sv ss) (hn : ss.length ≤ 1000) (hbase : base ≤ v.heap.size) {q : Addr} {c : Nat} {s : List Nat} (hs : Byt v (.slice (some q) 64 c) s) :
    ∃ sv' v3, (Builtin.append_ #[66, 66] 66 #[sv, .slice (some ⟨v.heap.size, 0, none⟩) 1 1]).run Try.prog (v.alloc (.cells #[.slice (some q) 64 c] 42)) = .ok sv' v3 ∧ SecRow base v3 sv' (ss ++ [s]) ∧ Turn sv.ownBlock.toList v v3 := by
  obtain ⟨v2, h2⟩ : ∃ v2, v2 = v.alloc (.cells #[.slice (some q) 64 c] 42) := ⟨_, rfl⟩
  have k2 : Below v.heap.size v v2 := by subst h2; exact grow_alloc (Below.refl _ _) _
  have hB : Blk v2 v.heap.size #[.slice (some q) 64 c] 42 := by subst h2; exact Blk.new _ _ _
  have g2 := h.grew k2
  obtain ⟨vs, e1, ho, hvs⟩ := id g2
  obtain ⟨ii, hi, hz, hsz, hby⟩ := info_parts sec_row
  have hc := hB.one
  obtain ⟨sv', v3, hrun, ho', hgr, hloc, hold⟩ := run_append_keeps (P := Try.prog) v2 base 66 66 42 ii _ 1 24 Try.underlying66 hi hz hsz hby rfl (by omega) sv ss.length vs ho ⟨v.heap.size, 0, none⟩ 1 1 [.slice (some q) 64 c] rfl
    (fun j u hu => by
      match j, hu with
      | 0, hu => simp at hu; subst hu; exact hc.1) (by intro u hu; simp at hu; subst hu; rfl) (by simp only [maxLen]; omega) (by omega) (Nat.le_trans hbase k2.size)
  rw [← h2]
  have ht : Turn sv.ownBlock.toList v2 v3 := (Turn.refl _ v2).grown hgr (fun k e => .inl (by simp [e]))
  have nb : NoBytes v2 sv.ownBlock.toList := by
    intro j hj cs fz hx
    obtain ⟨_, cs', e'⟩ := g2.kind (g := j) (by simpa using hj)
    rw [hx] at e'; cases e'
  refine ⟨sv', v3, hrun, ⟨vs ++ [.slice (some q) 64 c], by simp [e1], ?_, fun k hk => ?_⟩, (Turn.of_below k2 _).trans ht (fun j hj _ => hj)⟩
  · rw [List.length_append]; exact ho'
  · by_cases hlt : k < ss.length
    · obtain ⟨q', c', e', hb'⟩ := hvs k hlt
      refine ⟨q', c', by rw [List.getElem?_append_left (by omega)]; exact e', ?_⟩
      rw [List.getElem_append_left hlt]; exact hb'.turn ht nb
    · have ek : k = ss.length := by simp at hk; omega
      subst ek
      refine ⟨q, c, by rw [List.getElem?_append_right (by omega), e1]; simp, ?_⟩
      have := (hs.grew k2).turn ht nb
      simpa using this
end
theorem disk_no42 {v : World} {b m : Nat} {vl : Value} {D : Dsk} (hd : DiskAt v b m vl D) : ∀ j ∈ own b m vl, ∀ t, (t = 42 ∨ t = 38 ∨ t = 44 ∨ t = 5) → ∀ cs fz, v.heap[j]? ≠ some (.cells cs t fz) := by
  intro j hj t ht cs fz e
  rcases mem_own.1 hj with rfl | rfl | hg
  · have := hd.blk; unfold Blk at this
    rw [this] at e; cases e; revert ht; decide
  · obtain ⟨es, clock, hx⟩ := hd.fast.kind
    rw [hx] at e; cases e
  · obtain ⟨cs2, e2⟩ := hd.loose.kind hg
    rw [e2] at e; cases e; revert ht; decide

/-- What stands while the law writes its sectors. -/
structure SrS (w0 v : World) (b m : Nat) (vl : Value) (D : Dsk) (sv : Value) (ss : List (List Nat)) : Prop where
  dk : Dk w0 v b m vl D
  row : SecRow w0.heap.size v sv ss
section
variable {w0 v v' : World} {b m : Nat} {vl vl' sv : Value} {D D' : Dsk} {ss : List (List Nat)}
theorem SrS.grew (h : SrS w0 v b m vl D sv ss) (k : Below v.heap.size v v') : SrS w0 v' b m vl D sv ss := ⟨h.dk.grew k, h.row.grew k⟩
theorem SrS.stepped (h : SrS w0 v b m vl D sv ss) (hk : Dk w0 v' b m vl' D') (k : Step v v' (own b m vl) (own b m vl')) : SrS w0 v' b m vl' D' sv ss :=
  ⟨hk, h.row.turn k.turn k.nb (fun j hj => disk_no42 h.dk.disk j hj 42 (.inl rfl))⟩
theorem SrS.push (h : SrS w0 v b m vl D sv ss) (hn : ss.length ≤ 1000) {q : Addr} {c : Nat} {s : List Nat} (hs : Byt v (.slice (some q) 64 c) s) :
    ∃ sv' v3, (Builtin.append_ #[66, 66] 66 #[sv, .slice (some ⟨v.heap.size, 0, none⟩) 1 1]).run Try.prog (v.alloc (.cells #[.slice (some q) 64 c] 42)) = .ok sv' v3 ∧ SrS w0 v3 b m vl D sv' (ss ++ [s]) := by
  obtain ⟨sv', v3, hrun, hr, ht⟩ := h.row.push hn h.dk.low.size hs
  refine ⟨sv', v3, hrun, ⟨h.dk.disk.turn ht (fun j hj cs fz hx => ?_) (fun j hj hm => ?_), h.dk.low.trans (ht.below h.dk.low.size (fun j hj => (h.row.kind (g := j) (by simpa using hj)).1)), h.dk.lo⟩, hr⟩
  · obtain ⟨_, cs', e'⟩ := h.row.kind (g := j) (by simpa using hj)
    rw [hx] at e'; cases e'
  · obtain ⟨_, cs', e'⟩ := h.row.kind (g := j) (by simpa using hm)
    exact disk_no42 h.dk.disk j hj 42 (.inl rfl) _ _ e'
theorem SrS.groups (h : SrS w0 v b m vl D sv ss) (k : Step v v' (own b m vl) (own b m vl')) {ov : Value} {R : List (List (Int × List Nat))} (hg : ∃ B, Grps v ov R B) : ∃ B, Grps v' ov R B := by
  obtain ⟨B, hg⟩ := hg
  refine ⟨B, hg.turn k.turn k.nb (fun j hj => .inl (disk_no42 h.dk.disk j hj 44 (by simp))) (fun g e hm => ?_)⟩
  obtain ⟨cs, e2⟩ := hg.kind e
  exact disk_no42 h.dk.disk g hm 38 (by simp) _ _ e2
end
end Go.Proofs.Ytpomfokpmbblkaa
