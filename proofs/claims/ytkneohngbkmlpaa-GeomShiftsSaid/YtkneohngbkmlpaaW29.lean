/- Walks: three rows of points of the call's own, apart from one another. -/
import Derived.Test.YtkneohngbkmlpaaW28
import Derived.Test.YtkneohngbkmlpaaPlain3
namespace Go.Proofs.Ytkneohngbkmlpaa
open Go.RowKit

/-- Two rows stand in blocks of their own. -/
def Apart (v v' : Value) : Prop := ∀ k, v.ownBlock = some k → v'.ownBlock = some k → False
theorem Apart.symm {v v' : Value} (h : Apart v v') : Apart v' v := fun k a b => h k b a

structure Rows3 (w : World) (base : Nat) (v1 v2 v3 : Value) (a b c : List Pt) : Prop where
  r1 : OwnP w base v1 a
  r2 : OwnP w base v2 b
  r3 : OwnP w base v3 c
  d12 : Apart v1 v2
  d13 : Apart v1 v3
  d23 : Apart v2 v3
  lt : base ≤ w.heap.size

section
variable {w w' : World} {base : Nat} {v v1 v2 v3 : Value} {l a b c : List Pt}
theorem Rows3.rot (h : Rows3 w base v1 v2 v3 a b c) : Rows3 w base v2 v3 v1 b c a := ⟨h.r2, h.r3, h.r1, h.d23, h.d12.symm, h.d13.symm, h.lt⟩
theorem Rows3.grew (h : Rows3 w base v1 v2 v3 a b c) (hb : Below w.heap.size w w') : Rows3 w' base v1 v2 v3 a b c :=
  ⟨h.r1.below hb, h.r2.below hb, h.r3.below hb, h.d12, h.d13, h.d23, Nat.le_trans h.lt hb.size⟩
theorem Rows3.start (w : World) (base : Nat) (h : base ≤ w.heap.size) : Rows3 w base (.slice none 0 0) (.slice none 0 0) (.slice none 0 0) [] [] [] :=
  ⟨OwnP.none_ w base, OwnP.none_ w base, OwnP.none_ w base, fun k h => by simp [Value.ownBlock] at h, fun k h => by simp [Value.ownBlock] at h, fun k h => by simp [Value.ownBlock] at h, h⟩

/-- One point is appended to the first row. -/
theorem Rows3.push (h : Rows3 w base v1 v2 v3 a b c) (x y : Int) (hn : a.length ≤ 100) :
    ∃ v' w', (Builtin.append_ #[22, 22] 22 #[v1, .slice (some ⟨w.heap.size, 0, none⟩) 1 1]).run Try.prog (w.alloc (.cells #[.int .i64 x, .int .i64 y] 24)) = .ok v' w' ∧
      Rows3 w' base v' v2 v3 (a ++ [⟨x, y⟩]) b c ∧ Below base w w' := by
  obtain ⟨i, hi, hz, hs, hby⟩ := info_parts pt_row
  have hb1 : Below w.heap.size w (w.alloc (.cells #[.int .i64 x, .int .i64 y] 24)) := (Below.refl _ w).alloc (Nat.le_refl _) _
  have g := h.grew hb1
  have hB := Blk.new w #[.int .i64 x, .int .i64 y] 24
  obtain ⟨v', w', hrun, h2, h3, _, h5⟩ := run_append_own_at (P := Try.prog) (w.alloc (.cells #[.int .i64 x, .int .i64 y] 24)) base 22 22 24 i _ 2 16 Try.underlying22 hi hz hs hby rfl (by omega) v1 a.length (pcells a) g.r1 ⟨w.heap.size, 0, none⟩ 1 1 (pcells [⟨x, y⟩]) rfl
    (fun j u hu => by
      match j, hu with
      | 0, hu => simp [pcells] at hu; rw [← hu]; exact hB.two.1
      | 1, hu => simp [pcells] at hu; rw [← hu]; exact hB.two.2.1
      | j + 2, hu => simp [pcells] at hu) (pone_cells _) (by simp only [maxLen]; omega) (by omega) g.lt
  have hlow1 : ∀ k, v1.ownBlock = some k → base ≤ k ∧ k < (w.alloc (.cells #[.int .i64 x, .int .i64 y] 24)).heap.size := World.ownsRow.lt g.r1
  have hlow2 : ∀ k, v2.ownBlock = some k → base ≤ k ∧ k < (w.alloc (.cells #[.int .i64 x, .int .i64 y] 24)).heap.size := World.ownsRow.lt g.r2
  have hlow3 : ∀ k, v3.ownBlock = some k → base ≤ k ∧ k < (w.alloc (.cells #[.int .i64 x, .int .i64 y] 24)).heap.size := World.ownsRow.lt g.r3
  have keep : ∀ v l, Apart v1 v → OwnP (w.alloc (.cells #[.int .i64 x, .int .i64 y] 24)) base v l → OwnP w' base v l := fun v l hd ho => by
    refine World.ownsRow.kept ho h3 ?_
    cases e : v.ownBlock with
    | none => exact .inl rfl
    | some k => exact .inr fun e' => hd k e'.symm e
  have apart : ∀ v, Apart v1 v → (∀ k, v.ownBlock = some k → base ≤ k ∧ k < (w.alloc (.cells #[.int .i64 x, .int .i64 y] 24)).heap.size) → Apart v' v := fun v hd hl k e1 e2 => by
    rcases h5 with h5 | h5
    · rw [h5] at e1; exact hd k e1 e2
    · rw [h5] at e1
      injection e1 with e1
      have := (hl k e2).2
      omega
  have hbel : Below base w w' := ((Below.refl base w).alloc h.lt _).grown h3 g.lt (fun k e => (hlow1 k e).1)
  refine ⟨v', w', hrun, ⟨?_, keep v2 b g.d12 g.r2, keep v3 c g.d13 g.r3, apart v2 g.d12 hlow2, apart v3 g.d13 hlow3, g.d23, Nat.le_trans h.lt hbel.size⟩, hbel⟩
  unfold OwnP
  rw [List.length_append, pcells_append]; exact h2
end

theorem take_moved (v : Pt) (l : List Pt) (k : Nat) (h : k < l.length) : movedBy v (l.take (k + 1)) = movedBy v (l.take k) ++ [⟨l[k].x + v.x, l[k].y + v.y⟩] := by
  unfold movedBy
  rw [List.take_succ_eq_append_getElem h, List.map_append]; rfl
/-- The first k points of a ring begun elsewhere, of one turned round. -/
def turnedTo (l : List Pt) (k : Nat) : List Pt := (List.range k).map fun i => l.getD ((i + 1) % l.length) ⟨0, 0⟩
def backedTo (l : List Pt) (k : Nat) : List Pt := (List.range k).map fun i => l.getD (l.length - 1 - i) ⟨0, 0⟩
theorem turnedTo_all (l : List Pt) : turnedTo l l.length = turned l := rfl
theorem backedTo_all (l : List Pt) : backedTo l l.length = backed l := rfl
theorem turnedTo_step (l : List Pt) (k : Nat) (h : (k + 1) % l.length < l.length) : turnedTo l (k + 1) = turnedTo l k ++ [l[(k + 1) % l.length]] := by
  unfold turnedTo
  rw [List.range_succ, List.map_append]
  simp [List.getD_eq_getElem?_getD, List.getElem?_eq_getElem h]
theorem backedTo_step (l : List Pt) (k : Nat) (h : l.length - 1 - k < l.length) : backedTo l (k + 1) = backedTo l k ++ [l[l.length - 1 - k]] := by
  unfold backedTo
  rw [List.range_succ, List.map_append]
  simp [List.getD_eq_getElem?_getD, List.getElem?_eq_getElem h]
theorem turnedTo_length (l : List Pt) (k : Nat) : (turnedTo l k).length = k := by simp [turnedTo]
theorem backedTo_length (l : List Pt) (k : Nat) : (backedTo l k).length = k := by simp [backedTo]
theorem movedBy_length (v : Pt) (l : List Pt) : (movedBy v l).length = l.length := by simp [movedBy]
/-- All of the moved points may be. -/
def mayAll (l : List Pt) : Bool := decide (∀ q ∈ l, May q)
theorem mayAll_push (l : List Pt) (q : Pt) : mayAll (l ++ [q]) = (mayAll l && decide (May q)) := by
  unfold mayAll
  rw [← Bool.decide_and, decide_eq_decide]
  simp [or_imp, forall_and]
theorem Inside_not (l : List Pt) (p : Pt) (k : Nat) (h : k < l.length) (hm : ¬ May l[k]) : InsideF l p = 0 := by
  unfold InsideF
  rw [if_pos (.inr (.inr fun h' => hm (h' _ (List.getElem_mem h))))]
end Go.Proofs.Ytkneohngbkmlpaa
