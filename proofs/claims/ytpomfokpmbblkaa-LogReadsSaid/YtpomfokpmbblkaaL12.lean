/- What stands in memory while a log's slots are read. -/
import Derived.Test.YtpomfokpmbblkaaL11
namespace Go.Proofs.Ytpomfokpmbblkaa
open Go.RowKit Go.Maps
set_option maxRecDepth 8000
variable {ι : Type} [Bar ι]

structure RdS (w0 v : World) (b m : Nat) (vl : Value) (D : Dsk) (f c X EP EB OB GB d l : Nat) (e : Int) (ov gv : Value) (gs : List (List (Int × List Nat))) (g : List (Int × List Nat)) (o : Loop) : Prop where
  disk : DiskAt v b m vl D
  kX : Blk v X #[.pointer (some ⟨b, 0, none⟩), .int .i64 f, .int .i64 c] 81
  kP : Blk v EP #[.int .i64 e] 3
  kE : Blk v EB #[.int .i64 0] 29
  kO : Blk v OB #[ov] 32
  kG : Blk v GB #[gv] 38
  out : Gap v ov gs gv
  row : Chg v gv g
  ne : ∀ j, ov.ownBlock = some j → j ≠ GB ∧ w0.heap.size ≤ j
  nw : ∀ j, gv.ownBlock = some j → w0.heap.size ≤ j
  kd : v.heap[d]? = some (.deferred (some []))
  kl : v.heap[l]? = some (.loop o)
  low : Below w0.heap.size w0 v
  lo : w0.heap.size ≤ OB ∧ w0.heap.size ≤ GB ∧ w0.heap.size ≤ l ∧ w0.heap.size ≤ d
section
variable {w0 v v' : World} {b m : Nat} {vl : Value} {D : Dsk} {f c X EP EB OB GB d l : Nat} {e : Int} {ov gv : Value} {gs : List (List (Int × List Nat))} {g : List (Int × List Nat)} {o o' : Loop}
theorem RdS.grew (h : RdS w0 v b m vl D f c X EP EB OB GB d l e ov gv gs g o) (k : Below v.heap.size v v') : RdS w0 v' b m vl D f c X EP EB OB GB d l e ov gv gs g o :=
  ⟨h.disk.grew k, h.kX.grew k, h.kP.grew k, h.kE.grew k, h.kO.grew k, h.kG.grew k, h.out.grew k, h.row.grew k, h.ne, h.nw, (k.block _ (lt_of_block h.kd)).trans h.kd, (k.block _ (lt_of_block h.kl)).trans h.kl, grow h.low k, h.lo⟩
theorem RdS.turned (h : RdS w0 v b m vl D f c X EP EB OB GB d l e ov gv gs g o) (k : Turned l (.loop o') v v') : RdS w0 v' b m vl D f c X EP EB OB GB d l e ov gv gs g o' := by
  have nb := nobytes_loop h.kl
  have nr : ∀ j ∈ [l], ∀ cs fz, v.heap[j]? ≠ some (.cells cs 44 fz) := by
    intro j hj cs fz hx; simp at hj; subst hj; rw [h.kl] at hx; cases hx
  refine ⟨h.disk.turned h.kl k, h.kX.turned h.kl k, h.kP.turned h.kl k, h.kE.turned h.kl k, h.kO.turned h.kl k, h.kG.turned h.kl k, h.out.turn k.turn nb nr (fun j hj hm => ?_), h.row.turn k.turn nb (fun j hj hm => ?_), h.ne, h.nw, (k.same d ?_).trans h.kd, k.at_, h.low.trans (k.below h.lo.2.2.1), h.lo⟩
  · obtain ⟨cs, hx⟩ := h.out.kind hj
    simp at hm; subst hm; rw [h.kl] at hx; cases hx
  · obtain ⟨cs, hx⟩ := h.row.kind hj
    simp at hm; subst hm; rw [h.kl] at hx; cases hx
  · intro hx
    have := h.kd
    rw [hx, h.kl] at this
    cases this
/-- A turn of a row of changes: all but that row stands. -/
theorem RdS.moved {T : List Nat} (h : RdS w0 v b m vl D f c X EP EB OB GB d l e ov gv gs g o) (k : Turn T v v') (hT : ∀ j ∈ T, ∃ cs, v.heap[j]? = some (.cells cs 44 (0, 0))) (hlo : ∀ j ∈ T, w0.heap.size ≤ j) (hgs : Gap v' ov gs gv) (hg' : Chg v' gv g) :
    RdS w0 v' b m vl D f c X EP EB OB GB d l e ov gv gs g o := by
  have nb : NoBytes v T := by
    intro j hj cs fz hx
    obtain ⟨cs', e'⟩ := hT j hj
    rw [hx] at e'; cases e'
  have no : ∀ (x : Nat) (o : Obj), v.heap[x]? = some o → (∀ cs, o ≠ .cells cs 44 (0, 0)) → x ∉ T := by
    intro x o hx ho hm
    obtain ⟨cs', e'⟩ := hT x hm
    rw [hx] at e'
    exact ho _ (Option.some.inj e')
  have bl : ∀ {x : Nat} {cs : Array Value} {t : TypeId}, Blk v x cs t → t ≠ 44 → Blk v' x cs t := fun hb ht => (k.block _ hb.lt (no _ _ hb (by intro cs hx; cases hx; exact ht rfl))).trans hb
  refine ⟨h.disk.turn k nb (fun j hj => ?_), bl h.kX (by decide), bl h.kP (by decide), bl h.kE (by decide), bl h.kO (by decide), bl h.kG (by decide), hgs, hg', h.ne, h.nw,
    (k.block d (lt_of_block h.kd) (no _ _ h.kd (by intro cs hx; cases hx))).trans h.kd, (k.block l (lt_of_block h.kl) (no _ _ h.kl (by intro cs hx; cases hx))).trans h.kl, h.low.trans (k.below h.low.size hlo), h.lo⟩
  rcases mem_own.1 hj with e | e | hg
  · rw [e]; exact no _ _ h.disk.blk (by intro cs hx; cases hx)
  · obtain ⟨es, clock, hm⟩ := h.disk.fast.kind; rw [e]; exact no _ _ hm (by intro cs hx; cases hx)
  · obtain ⟨cs, e⟩ := h.disk.loose.kind hg; exact no _ _ e (by intro cs hx; cases hx)
/-- The group's variable is written. -/
theorem RdS.setG (h : RdS w0 v b m vl D f c X EP EB OB GB d l e ov gv gs g o) {gv' : Value} {g' : List (Int × List Nat)} (hg' : Chg v gv' g') (hgp : Gap v ov gs gv') (hnw : ∀ j, gv'.ownBlock = some j → w0.heap.size ≤ j) :
    RdS w0 (v.setCell ⟨GB, 0, none⟩ gv') b m vl D f c X EP EB OB GB d l e ov gv' gs g' o := by
  have k : Turn [GB] v (v.setCell ⟨GB, 0, none⟩ gv') := (Turn.refl [GB] v).set (.inl (by simp)) _
  have nb : NoBytes v [GB] := by
    intro j hj cs fz hx
    simp at hj; subst hj
    have := h.kG; unfold Blk at this; rw [this] at hx; cases hx
  have no : ∀ (x : Nat) (o : Obj), v.heap[x]? = some o → (∀ cs, o ≠ .cells cs 38 (0, 0)) → x ∉ [GB] := by
    intro x o hx ho hm
    simp at hm; subst hm
    have := h.kG; unfold Blk at this; rw [this] at hx
    exact ho _ (Option.some.inj hx).symm
  have bl : ∀ {x : Nat} {cs : Array Value} {t : TypeId}, Blk v x cs t → t ≠ 38 → Blk (v.setCell ⟨GB, 0, none⟩ gv') x cs t := fun hb ht => (k.block _ hb.lt (no _ _ hb (by intro cs hx; cases hx; exact ht rfl))).trans hb
  have nr : ∀ j ∈ [GB], ∀ cs fz, v.heap[j]? ≠ some (.cells cs 44 fz) := by
    intro j hj cs fz hx
    simp at hj; subst hj
    have := h.kG; unfold Blk at this; rw [this] at hx; cases hx
  refine ⟨h.disk.turn k nb (fun j hj => ?_), bl h.kX (by decide), bl h.kP (by decide), bl h.kE (by decide), bl h.kO (by decide), ?_, hgp.turn k nb nr (fun j hj hm => (h.ne j hj).1 (by simpa using hm)), hg'.turn k nb (fun j hj hm => ?_), h.ne, hnw,
    (k.block d (lt_of_block h.kd) (no _ _ h.kd (by intro cs hx; cases hx))).trans h.kd, (k.block l (lt_of_block h.kl) (no _ _ h.kl (by intro cs hx; cases hx))).trans h.kl, h.low.setCell (p := ⟨GB, 0, none⟩) h.lo.2.1 _, h.lo⟩
  · rcases mem_own.1 hj with e | e | hg
    · rw [e]; exact no _ _ h.disk.blk (by intro cs hx; cases hx)
    · obtain ⟨es, clock, hm⟩ := h.disk.fast.kind; rw [e]; exact no _ _ hm (by intro cs hx; cases hx)
    · obtain ⟨cs, e⟩ := h.disk.loose.kind hg; exact no _ _ e (by intro cs hx; cases hx)
  · have := h.kG.set 0 gv'
    simpa using this
  · obtain ⟨cs, hx⟩ := hg'.kind hj
    exact nr j hm _ _ hx
/-- A turn of the row of groups: all but that row stands. -/
theorem RdS.movedO {T : List Nat} (h : RdS w0 v b m vl D f c X EP EB OB GB d l e ov gv gs g o) (k : Turn T v v') (hT : ∀ j ∈ T, ∃ cs, v.heap[j]? = some (.cells cs 38 (0, 0))) (hlo : ∀ j ∈ T, w0.heap.size ≤ j) (hGB : GB ∉ T) (hgs : Gap v' ov gs gv) (hg' : Chg v' gv g) :
    RdS w0 v' b m vl D f c X EP EB OB GB d l e ov gv gs g o := by
  have nb : NoBytes v T := by
    intro j hj cs fz hx
    obtain ⟨cs', e'⟩ := hT j hj
    rw [hx] at e'; cases e'
  have no : ∀ (x : Nat) (o : Obj), v.heap[x]? = some o → (∀ cs, o ≠ .cells cs 38 (0, 0)) → x ∉ T := by
    intro x o hx ho hm
    obtain ⟨cs', e'⟩ := hT x hm
    rw [hx] at e'
    exact ho _ (Option.some.inj e')
  have bl : ∀ {x : Nat} {cs : Array Value} {t : TypeId}, Blk v x cs t → t ≠ 38 → Blk v' x cs t := fun hb ht => (k.block _ hb.lt (no _ _ hb (by intro cs hx; cases hx; exact ht rfl))).trans hb
  refine ⟨h.disk.turn k nb (fun j hj => ?_), bl h.kX (by decide), bl h.kP (by decide), bl h.kE (by decide), bl h.kO (by decide), (k.block GB h.kG.lt hGB).trans h.kG, hgs, hg', h.ne, h.nw,
    (k.block d (lt_of_block h.kd) (no _ _ h.kd (by intro cs hx; cases hx))).trans h.kd, (k.block l (lt_of_block h.kl) (no _ _ h.kl (by intro cs hx; cases hx))).trans h.kl, h.low.trans (k.below h.low.size hlo), h.lo⟩
  rcases mem_own.1 hj with e | e | hg
  · rw [e]; exact no _ _ h.disk.blk (by intro cs hx; cases hx)
  · obtain ⟨es, clock, hm⟩ := h.disk.fast.kind; rw [e]; exact no _ _ hm (by intro cs hx; cases hx)
  · obtain ⟨cs, e⟩ := h.disk.loose.kind hg; exact no _ _ e (by intro cs hx; cases hx)
/-- The groups' variable is written, and the group's variable emptied. -/
theorem RdS.setOG (h : RdS w0 v b m vl D f c X EP EB OB GB d l e ov gv gs g o) {ov' : Value} {gs' : List (List (Int × List Nat))} (hg' : Gap v ov' gs' nilv) (hne : ∀ j, ov'.ownBlock = some j → j ≠ GB ∧ w0.heap.size ≤ j) :
    RdS w0 ((v.setCell ⟨OB, 0, none⟩ ov').setCell ⟨GB, 0, none⟩ nilv) b m vl D f c X EP EB OB GB d l e ov' nilv gs' [] o ∧ (v.setCell ⟨OB, 0, none⟩ ov').cell? ⟨GB, 0, none⟩ = some gv ∧ (v.setCell ⟨OB, 0, none⟩ ov').frozen? ⟨GB, 0, none⟩ = false := by
  have k : Turn [OB, GB] v ((v.setCell ⟨OB, 0, none⟩ ov').setCell ⟨GB, 0, none⟩ nilv) := ((Turn.refl [OB, GB] v).set (.inl (by simp)) _).set (.inl (by simp)) _
  have nb : NoBytes v [OB, GB] := by
    intro j hj cs fz hx
    simp at hj; rcases hj with rfl | rfl
    · have := h.kO; unfold Blk at this; rw [this] at hx; cases hx
    · have := h.kG; unfold Blk at this; rw [this] at hx; cases hx
  have no : ∀ (x : Nat) (o : Obj), v.heap[x]? = some o → (∀ cs, o ≠ .cells cs 32 (0, 0)) → (∀ cs, o ≠ .cells cs 38 (0, 0)) → x ∉ [OB, GB] := by
    intro x o hx ho ho2 hm
    simp at hm; rcases hm with rfl | rfl
    · have := h.kO; unfold Blk at this; rw [this] at hx
      exact ho _ (Option.some.inj hx).symm
    · have := h.kG; unfold Blk at this; rw [this] at hx
      exact ho2 _ (Option.some.inj hx).symm
  have bl : ∀ {x : Nat} {cs : Array Value} {t : TypeId}, Blk v x cs t → t ≠ 32 → t ≠ 38 → Blk ((v.setCell ⟨OB, 0, none⟩ ov').setCell ⟨GB, 0, none⟩ nilv) x cs t := fun hb ht ht2 => (k.block _ hb.lt (no _ _ hb (by intro cs hx; cases hx; exact ht rfl) (by intro cs hx; cases hx; exact ht2 rfl))).trans hb
  have nr : ∀ j ∈ [OB, GB], ∀ cs fz, v.heap[j]? ≠ some (.cells cs 44 fz) := by
    intro j hj cs fz hx
    simp at hj; rcases hj with rfl | rfl
    · have := h.kO; unfold Blk at this; rw [this] at hx; cases hx
    · have := h.kG; unfold Blk at this; rw [this] at hx; cases hx
  have hOG : OB ≠ GB := by
    intro e
    have h1 := h.kO; have h2 := h.kG
    unfold Blk at h1 h2
    rw [e, h2] at h1
    cases h1
  have hG1 : Blk (v.setCell ⟨OB, 0, none⟩ ov') GB #[gv] 38 := h.kG.other (a := ⟨OB, 0, none⟩) (fun e => hOG e.symm) _
  refine ⟨⟨h.disk.turn k nb (fun j hj => ?_), bl h.kX (by decide) (by decide), bl h.kP (by decide) (by decide), bl h.kE (by decide) (by decide), ?_, ?_, hg'.turn k nb nr (fun j hj hm => ?_), Chg.nil _, hne, by intro j hj; simp [nilv, Value.ownBlock] at hj,
    (k.block d (lt_of_block h.kd) (no _ _ h.kd (by intro cs hx; cases hx) (by intro cs hx; cases hx))).trans h.kd, (k.block l (lt_of_block h.kl) (no _ _ h.kl (by intro cs hx; cases hx) (by intro cs hx; cases hx))).trans h.kl, (h.low.setCell (p := ⟨OB, 0, none⟩) h.lo.1 _).setCell (p := ⟨GB, 0, none⟩) h.lo.2.1 _, h.lo⟩, hG1.cell 0, hG1.free 0⟩
  · rcases mem_own.1 hj with e | e | hg
    · rw [e]; exact no _ _ h.disk.blk (by intro cs hx; cases hx) (by intro cs hx; cases hx)
    · obtain ⟨es, clock, hm⟩ := h.disk.fast.kind; rw [e]; exact no _ _ hm (by intro cs hx; cases hx) (by intro cs hx; cases hx)
    · obtain ⟨cs, e⟩ := h.disk.loose.kind hg; exact no _ _ e (by intro cs hx; cases hx) (by intro cs hx; cases hx)
  · have hO1 : Blk (v.setCell ⟨OB, 0, none⟩ ov') OB #[ov'] 32 := by
      have := h.kO.set 0 ov'
      simpa using this
    exact hO1.other (a := ⟨GB, 0, none⟩) hOG _
  · have := hG1.set 0 nilv
    simpa using this
  · obtain ⟨cs, hx⟩ := hg'.kind hj
    simp at hm; rcases hm with rfl | rfl
    · have := h.kO; unfold Blk at this; rw [this] at hx; cases hx
    · exact (hne j hj).1 rfl
end
end Go.Proofs.Ytpomfokpmbblkaa
