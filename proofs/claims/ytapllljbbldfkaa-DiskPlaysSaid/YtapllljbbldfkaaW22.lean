/- A disk beside the document's. -/
import Derived.Test.YtapllljbbldfkaaW21
import Derived.Test.YtapllljbbldfkaaW13
namespace Go.Proofs.Ytapllljbbldfkaa
open Go.RowKit Go.Maps

/-- The document's disk in block X. -/
structure Rf (v : World) (X : Nat) (D : Dsk) (FA LA : Option Addr) (fc lc : Nat) : Prop where
  box : Blk v X #[.int .i64 D.sectors, .int .i64 D.size, .slice FA D.sectors fc, .slice LA D.loose.length lc, .int .i64 D.armed, .bool D.down] 45
  rows : Rows v D (.slice FA D.sectors fc) (.slice LA D.loose.length lc)

section
variable {w0 v v' : World} {b m X : Nat} {vl : Value} {D D' : Dsk} {FA LA : Option Addr} {fc lc : Nat}
theorem Rf.grew (h : Rf v X D FA LA fc lc) (k : Below v.heap.size v v') : Rf v' X D FA LA fc lc := ⟨h.box.grew k, h.rows.grew k⟩
theorem Rf.drew (h : Rf v X D FA LA fc lc) : Rf v.drew X D FA LA fc lc := h.grew ⟨rfl, rfl, rfl, Nat.le_refl _, fun _ _ => rfl⟩
theorem own_kinds (h : DiskAt v b m vl D) : ∀ j ∈ own b m vl, ∀ cs t, v.heap[j]? = some (.cells cs t (0, 0)) → t = 64 ∨ t = 68 := by
  intro j hj cs t e
  rcases mem_own.1 hj with e' | e' | hg
  · have := h.blk; unfold Blk at this; rw [← e', e] at this; cases this; exact .inl rfl
  · obtain ⟨es, clock, hm⟩ := h.fast.kind; rw [← e', e] at hm; cases hm
  · obtain ⟨cs2, e2⟩ := h.loose.kind hg; rw [e] at e2; cases e2; exact .inr rfl
theorem Rf.step (h : Rf v X D FA LA fc lc) (hd : DiskAt v b m vl D') (k : Turn (own b m vl) v v') : Rf v' X D FA LA fc lc := by
  refine ⟨(k.block X h.box.lt (fun hx => ?_)).trans h.box, h.rows.turn k (fun j hj cs t e => ?_)⟩
  · have := own_kinds hd X hx _ _ h.box
    rcases this with e | e <;> cases e
  · rcases own_kinds hd j hj cs t e with rfl | rfl <;> decide
theorem Dk.box (h : Dk w0 v b m vl D) {cs : Array Value} (hX : Blk v X cs 45) (hlo : w0.heap.size ≤ X) (k : Turn [X] v v') : Dk w0 v' b m vl D := by
  have nb : NoBytes v [X] := by
    intro j hj cs fz e
    simp at hj; subst hj
    unfold Blk at hX
    rw [hX] at e; cases e
  refine ⟨h.disk.turn k nb (fun j hj hx => ?_), h.low.trans (k.below h.low.size (by intro j hj; simp at hj; omega)), h.lo⟩
  simp at hx; subst hx
  rcases own_kinds h.disk j hj _ _ hX with e | e <;> cases e
/-- A new value is laid into the document's block. -/
theorem Rf.lay {y0 y1 y2 y3 y4 y5 : Value} (hb : Blk v X #[y0, y1, y2, y3, y4, y5] 45) (hr : Rows v D (.slice FA D.sectors fc) (.slice LA D.loose.length lc)) :
    Rf (lay6 v X (.int .i64 D.sectors) (.int .i64 D.size) (.slice FA D.sectors fc) (.slice LA D.loose.length lc) (.int .i64 D.armed) (.bool D.down)) X D FA LA fc lc :=
  ⟨set6 hb _ _ _ _ _ _, hr.turn (lay6_turn _ _ _ _ _ _ _ _) (fun j hj cs t e => by
    simp at hj; subst hj
    unfold Blk at hb
    rw [hb] at e; cases e; decide)⟩
theorem Rows.forms {fv lv : Value} (h : Rows v D fv lv) : ∃ FA fc LA lc, fv = .slice FA D.sectors fc ∧ lv = .slice LA D.loose.length lc := by
  obtain ⟨A, c, e1, _⟩ := row_form h.f
  obtain ⟨A', c', e2, _⟩ := row_form h.l
  exact ⟨A, c, A', c', e1, e2⟩
end
theorem RV_eq (D : Dsk) (fv lv : Value) : RV D fv lv = .agg #[.int .i64 D.sectors, .int .i64 D.size, fv, lv, .int .i64 D.armed, .bool D.down] := rfl

theorem int_row : (Try.prog.info? 3).map (fun i => (i.zero, i.size, i.bytes)) = some (some (.int .i64 0), 1, 8) := by kernel_rfl
/-- 'append([]int{}, l...)'. -/
theorem copyI {w : World} {A : Option Addr} {n c : Nat} {fs : List Int} (h : IRd w A fs) (hn : fs.length = n) (hb : n ≤ 1000000) :
    ∃ g c' w', (Builtin.append_ #[23, 23] 23 #[.slice (some ⟨w.heap.size, 0, none⟩) 0 0, .slice A n c]).run Try.prog (w.alloc (.cells #[] 3)) = .ok (.slice (some ⟨g, 0, none⟩) n c') w' ∧ n ≤ c' ∧ IRd w' (some ⟨g, 0, none⟩) fs ∧ w.heap.size ≤ g ∧ g < w'.heap.size ∧ Below w.heap.size w w' := by
  have hg : Below w.heap.size w (w.alloc (.cells #[] 3)) := (Below.refl _ w).alloc (Nat.le_refl _) _
  have hown : (w.alloc (.cells #[] 3)).ownsRow w.heap.size 3 1 (.slice (some ⟨w.heap.size, 0, none⟩) 0 0) 0 [] :=
    ⟨rfl, .inr ⟨w.heap.size, 0, #[], rfl, Nat.le_refl _, World.alloc_heap_new w _, Nat.le_refl _, by simp [maxLen], by simp, by simp⟩⟩
  obtain ⟨i, hi, hz, hs, hby⟩ := info_parts int_row
  cases fs with
  | nil =>
    simp at hn; subst hn
    refine ⟨w.heap.size, 0, w.alloc (.cells #[] 3), ?_, Nat.le_refl _, IRd.nil _ _, Nat.le_refl _, by simp, hg⟩
    cases A <;> simp [Builtin.append_, run_underlying Try.underlying23, sizeOf, typeInfo, hi, Builtin.lenOf, Builtin.firstCells, storeCells, loadCells, loadCellsFrom]
  | cons x fs =>
    obtain ⟨p, rfl, hp, hc⟩ := h.2 (by simp)
    have hcells : ∀ j u, ((x :: fs).map (Value.int .i64))[j]? = some u → (w.alloc (.cells #[] 3)).cell? (p.add j) = some u := fun j u hu => by
      rcases Nat.lt_or_ge j (x :: fs).length with hj | hj
      · rw [List.getElem?_map, List.getElem?_eq_getElem hj] at hu
        have h3 := hc j hj
        simp at hu
        rw [hg.cell (p := p.add j) (by rw [add_block]; exact hp), h3, ← hu]
      · rw [List.getElem?_eq_none (by simpa using hj)] at hu; cases hu
    obtain ⟨v', w', hrun, ho', hgr, _⟩ := run_append_own_at (P := Try.prog) (w.alloc (.cells #[] 3)) w.heap.size 23 23 3 i _ 1 8 Try.underlying23 hi hz hs hby rfl (by omega) _ 0 [] hown p n c ((x :: fs).map (Value.int .i64)) (by simpa using hn) hcells
      (by intro u hu; obtain ⟨z, _, rfl⟩ := List.mem_map.1 hu; rfl) (by simp only [maxLen]; omega) (by omega) (by simp)
    rw [Nat.zero_add, List.nil_append] at ho'
    obtain ⟨g, c', rfl, hc', hlt⟩ := row_some ho' (by simp at hn; omega)
    refine ⟨g, c', w', hrun, hc', ⟨h.1, fun _ => ⟨_, rfl, hlt, fun k hk => ?_⟩⟩, (ho'.lt g rfl).1, hlt, hg.trans ((Below.refl w.heap.size (w.alloc (.cells #[] 3))).grown hgr (by simp) (fun k e => by simp [Value.ownBlock] at e; omega))⟩
    exact World.ownsRow.cells ho' (g := g) rfl k _ (by rw [List.getElem?_map, List.getElem?_eq_getElem hk]; rfl)

/-- A literal of five numbers. -/
theorem IRd.lit5 (w : World) : IRd (w.alloc (.cells #[.int .i64 1, .int .i64 1, .int .i64 1, .int .i64 1, .int .i64 1] 3)) (some ⟨w.heap.size, 0, none⟩) [1, 1, 1, 1, 1] := by
  refine ⟨by simp, fun _ => ⟨_, rfl, by simp, fun k hk => ?_⟩⟩
  have hb := Blk.new' w #[.int .i64 1, .int .i64 1, .int .i64 1, .int .i64 1, .int .i64 1] 3 rfl
  rw [addr_add]
  have hk5 : k < 5 := by simpa using hk
  match k, hk5 with
  | 0, _ => exact hb.cell 0
  | 1, _ => exact hb.cell 1
  | 2, _ => exact hb.cell 2
  | 3, _ => exact hb.cell 3
  | 4, _ => exact hb.cell 4
end Go.Proofs.Ytapllljbbldfkaa
