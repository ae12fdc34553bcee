/- Walks: a row of points of the call's own; what 'append' makes of it. -/
import Derived.Test.YtkneohngbkmlpaaW7
import Derived.Maps.AppendAt
import Derived.Laws.OwnMore
import Derived.Deep.AppendLies
import Derived.OwnWalk
namespace Go.Proofs.Ytkneohngbkmlpaa
open Go.RowKit

/-- Points as cells. -/
def pcells (l : List Pt) : List Value := l.flatMap fun p => [.int .i64 p.x, .int .i64 p.y]
theorem pcells_length (l : List Pt) : (pcells l).length = l.length * 2 := by
  induction l with
  | nil => rfl
  | cons a l ih => simp [pcells] at *; omega
theorem pcells_append (l m : List Pt) : pcells (l ++ m) = pcells l ++ pcells m := by simp [pcells]
theorem pcells_cons (a : Pt) (l : List Pt) : pcells (a :: l) = .int .i64 a.x :: .int .i64 a.y :: pcells l := rfl
theorem pcells_get : ∀ {l : List Pt} {k : Nat} (h : k < l.length), (pcells l)[k * 2]? = some (.int .i64 l[k].x) ∧ (pcells l)[k * 2 + 1]? = some (.int .i64 l[k].y)
  | a :: l, 0, _ => ⟨rfl, rfl⟩
  | a :: l, k + 1, h => by
    have := pcells_get (l := l) (k := k) (by simpa using h)
    rw [pcells_cons]
    have e : (k + 1) * 2 = k * 2 + 1 + 1 := by omega
    rw [e]
    simpa using this
theorem pone_cells (l : List Pt) : ∀ u ∈ pcells l, u.oneCell' = true := by
  intro u hu
  simp only [pcells, List.mem_flatMap] at hu
  obtain ⟨b, _, hb⟩ := hu
  simp at hb
  rcases hb with rfl | rfl <;> rfl

/-- The slice v is a row of the call's own (its blocks are those from 'base' on) and holds these points. -/
def OwnP (w : World) (base : Nat) (v : Value) (l : List Pt) : Prop := w.ownsRow base 24 2 v l.length (pcells l)

section
variable {w w' : World} {base : Nat} {v : Value} {l : List Pt}
theorem add_add (p : Addr) (j i : Nat) : (p.add j).add i = p.add (j + i) := by
  unfold Addr.add
  by_cases h1 : j = 0
  · subst h1; simp
  · by_cases h2 : i = 0
    · subst h2; simp
    · simp [h1, h2]; omega
theorem OwnP.none_ (w : World) (base : Nat) : OwnP w base (.slice none 0 0) [] := World.ownsRow_nil w base 24 2
theorem OwnP.fresh (w : World) (base : Nat) (h : base ≤ w.heap.size) : OwnP (w.alloc (.cells #[] 24)) base (.slice (some ⟨w.heap.size, 0, none⟩) 0 0) [] :=
  ⟨rfl, .inr ⟨w.heap.size, 0, #[], rfl, h, Blk.new w #[] 24, Nat.le_refl _, by decide, rfl, rfl⟩⟩
theorem OwnP.form (h : OwnP w base v l) : ∃ A c, v = .slice A l.length c ∧ Pts w w.heap.size A l := by
  rcases h.2 with ⟨rfl, h0⟩ | ⟨g, cap, cur, rfl, hb, hg, hc⟩
  · refine ⟨none, 0, by rw [h0], fun hn => absurd (List.eq_nil_of_length_eq_zero h0) hn⟩
  · refine ⟨_, _, rfl, fun _ => ⟨_, rfl, lt_of_block hg, fun k hk => ?_⟩⟩
    have hk2 := pcells_get hk
    exact ⟨World.ownsRow.cells h (g := g) rfl (k * 2) _ hk2.1, by rw [add_add]; exact World.ownsRow.cells h (g := g) rfl (k * 2 + 1) _ hk2.2⟩
theorem OwnP.keep (h : OwnP w base v l) {row : Option Nat} (hg : w.grownBy w' row) (hr : ∀ k, row = some k → w.heap.size ≤ k) : OwnP w' base v l := by
  refine h.kept hg ?_
  cases e : v.ownBlock with
  | none => exact .inl rfl
  | some k =>
    right
    intro e'
    have := hr k e'.symm
    have := (World.ownsRow.lt h k e).2
    omega
theorem OwnP.alloc (h : OwnP w base v l) (o : Obj) : OwnP (w.alloc o) base v l := World.ownsRow.alloc h o
theorem OwnP.low (h : OwnP w base v l) : ∀ k, v.ownBlock = some k → base ≤ k := fun k e => (World.ownsRow.lt h k e).1
theorem OwnP.below (h : OwnP w base v l) (hb : Below w.heap.size w w') : OwnP w' base v l :=
  h.keep (row := none) ⟨hb.os, hb.tape, hb.output, hb.size, fun k hk _ => hb.block k hk⟩ (by simp)
theorem OwnP.drew (h : OwnP w base v l) : OwnP w.drew base v l := h
end

theorem pt_row : (Try.prog.info? 24).map (fun i => (i.zero, i.size, i.bytes)) = some (some (.agg #[.int .i64 0, .int .i64 0]), 2, 16) := by kernel_rfl
theorem info_parts {e : TypeId} {z : Option Value} {s b : Nat} (h : (Try.prog.info? e).map (fun i => (i.zero, i.size, i.bytes)) = some (z, s, b)) : ∃ i, Try.prog.info? e = some i ∧ i.zero = z ∧ i.size = s ∧ i.bytes = b := by
  cases hi : Try.prog.info? e with
  | none => rw [hi] at h; cases h
  | some i => rw [hi] at h; simp at h; exact ⟨i, rfl, h.1, h.2.1, h.2.2⟩

/-- 'append' of points that are read somewhere, onto a row of the call's own. -/
theorem run_appP {w : World} {base : Nat} {v : Value} {l : List Pt} (ty : TypeId) (h : OwnP w base v l) (L : Nat) (A : Option Addr) (c : Nat) (s : List Pt) (hr : Pts w L A s) (hbase : base ≤ w.heap.size) (hn : l.length + s.length ≤ 100000) :
    ∃ v' w', (Builtin.append_ #[22, 22] ty #[v, .slice A s.length c]).run Try.prog w = .ok v' w' ∧ OwnP w' base v' (l ++ s) ∧ Below base w w' := by
  obtain ⟨i, hi, hz, hs, hby⟩ := info_parts pt_row
  cases s with
  | nil =>
    refine ⟨v, w, ?_, by simpa using h, Below.refl _ _⟩
    rcases h.2 with ⟨rfl, _⟩ | ⟨g, cap, cur, rfl, _, _, hnc, _⟩
    · simp [Builtin.append_, run_underlying Try.underlying22, sizeOf, typeInfo, hi, Builtin.lenOf, Builtin.firstCells]
      cases A <;> simp [loadCells, loadCellsFrom]
    · simp [Builtin.append_, run_underlying Try.underlying22, sizeOf, typeInfo, hi, Builtin.lenOf, Builtin.firstCells, hnc]
      cases A <;> simp [loadCells, loadCellsFrom, storeCells]
  | cons b s =>
    obtain ⟨p, rfl, _, hc⟩ := hr (by simp)
    obtain ⟨v', w', hrun, h2, h3, _, _⟩ := run_append_own_at (P := Try.prog) w base 22 ty 24 i _ 2 16 Try.underlying22 hi hz hs hby rfl (by omega) v l.length (pcells l) h p (b :: s).length c (pcells (b :: s)) (pcells_length _)
      (fun j u hu => by
        have hl := pcells_length (b :: s)
        rcases Nat.lt_or_ge j ((b :: s).length * 2) with hj | hj
        · obtain ⟨q, r, hr, rfl⟩ : ∃ q r, r < 2 ∧ j = q * 2 + r := ⟨j / 2, j % 2, Nat.mod_lt _ (by omega), by omega⟩
          have hq : q < (b :: s).length := by omega
          have hg := pcells_get hq
          have hcq := hc q hq
          match r, hr with
          | 0, _ => rw [Nat.add_zero] at hu ⊢; rw [hg.1] at hu; rw [← hu]; exact hcq.1
          | 1, _ => rw [hg.2] at hu; rw [← hu, ← add_add]; exact hcq.2
        · rw [List.getElem?_eq_none (by omega)] at hu; cases hu) (pone_cells _) (by simp only [maxLen]; omega) (by omega) hbase
    refine ⟨v', w', hrun, ?_, (Below.refl base w).grown h3 hbase h.low⟩
    unfold OwnP
    rw [List.length_append, pcells_append]; exact h2

end Go.Proofs.Ytkneohngbkmlpaa
