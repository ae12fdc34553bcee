/- Walks: a row of bytes of the call's own; what 'append' makes of it. -/
import Derived.Test.YtipijjlajhofkaaW2
import Derived.Maps.AppendAt
import Derived.Laws.OwnMore
import Derived.Deep.AppendLies
import Derived.OwnWalk
import Derived.Lib.AppendZerosOnto
namespace Go.Proofs.Ytipijjlajhofkaa
open Go.RowKit

/-- Bytes as cells. -/
def cells (l : List Nat) : List Value := l.map fun b => .int .u8 ((b : Nat) : Int)
@[simp] theorem cells_length (l : List Nat) : (cells l).length = l.length := by simp [cells]
theorem cells_append (l m : List Nat) : cells (l ++ m) = cells l ++ cells m := by simp [cells]
theorem cells_get {l : List Nat} {k : Nat} (h : k < l.length) : (cells l)[k]? = some (.int .u8 ((l[k] : Nat) : Int)) := by simp [cells, List.getElem?_eq_getElem h]

/-- The slice v is a row of the call's own (its blocks are those from 'base' on) and holds these bytes. -/
def Own (w : World) (base : Nat) (v : Value) (l : List Nat) : Prop := (∀ b ∈ l, b < 256) ∧ w.ownsRow base 5 1 v l.length (cells l)

section
variable {w w' : World} {base : Nat} {v : Value} {l : List Nat}
theorem Own.none_ (w : World) (base : Nat) : Own w base (.slice none 0 0) [] := ⟨by simp, World.ownsRow_nil w base 5 1⟩
theorem Own.form (h : Own w base v l) : ∃ A c, v = .slice A l.length c ∧ Rd w w.heap.size A l := by
  rcases h.2.2 with ⟨rfl, h0⟩ | ⟨g, cap, cur, rfl, hb, hg, hc⟩
  · refine ⟨none, 0, by rw [h0], h.1, fun hn => absurd (List.eq_nil_of_length_eq_zero h0) hn⟩
  · refine ⟨_, _, rfl, h.1, fun _ => ⟨_, rfl, lt_of_block hg, fun k hk => ?_⟩⟩
    exact h.2.cells (g := g) rfl k _ (cells_get hk)
theorem Own.keep (h : Own w base v l) {row : Option Nat} (hg : w.grownBy w' row) (hr : ∀ k, row = some k → w.heap.size ≤ k) : Own w' base v l := by
  refine ⟨h.1, h.2.kept hg ?_⟩
  cases e : v.ownBlock with
  | none => exact .inl rfl
  | some k =>
    right
    intro e'
    have := hr k e'.symm
    have := (h.2.lt k e).2
    omega
theorem Own.alloc (h : Own w base v l) (o : Obj) : Own (w.alloc o) base v l := ⟨h.1, h.2.alloc o⟩
theorem Own.low (h : Own w base v l) : ∀ k, v.ownBlock = some k → base ≤ k := fun k e => (h.2.lt k e).1
theorem Own.below (h : Own w base v l) (hb : Below w.heap.size w w') : Own w' base v l :=
  h.keep (row := none) ⟨hb.os, hb.tape, hb.output, hb.size, fun k hk _ => hb.block k hk⟩ (by simp)
end

theorem u8_row : (Try.prog.info? 5).map (fun i => (i.zero, i.size, i.bytes)) = some (some (.int .u8 0), 1, 1) := by kernel_rfl

theorem one_cells (l : List Nat) : ∀ u ∈ cells l, u.oneCell' = true := by
  intro u hu
  simp only [cells, List.mem_map] at hu
  obtain ⟨b, _, rfl⟩ := hu
  rfl

/-- 'append' of bytes that are read somewhere, onto a row of the call's own. -/
theorem run_app {w : World} {base : Nat} {v : Value} {l : List Nat} (ty : TypeId) (h : Own w base v l) (L : Nat) (A : Option Addr) (c : Nat) (s : List Nat) (hr : Rd w L A s) (hbase : base ≤ w.heap.size) (hn : l.length + s.length ≤ 1000000) :
    ∃ v' w', (Builtin.append_ #[22, 22] ty #[v, .slice A s.length c]).run Try.prog w = .ok v' w' ∧ Own w' base v' (l ++ s) ∧ Below base w w' := by
  obtain ⟨i, hi, hz, hs, hby⟩ := info_parts u8_row
  have hm : ∀ b ∈ l ++ s, b < 256 := by
    intro b hb
    rcases List.mem_append.1 hb with hb | hb
    · exact h.1 b hb
    · exact hr.1 b hb
  cases s with
  | nil =>
    refine ⟨v, w, ?_, by simpa using h, Below.refl _ _⟩
    rcases h.2.2 with ⟨rfl, _⟩ | ⟨g, cap, cur, rfl, _, _, hnc, _⟩
    · simp [Builtin.append_, run_underlying Try.underlying22, sizeOf, typeInfo, hi, Builtin.lenOf, Builtin.firstCells]
      cases A <;> simp [loadCells, loadCellsFrom]
    · simp [Builtin.append_, run_underlying Try.underlying22, sizeOf, typeInfo, hi, Builtin.lenOf, Builtin.firstCells, hnc]
      cases A <;> simp [loadCells, loadCellsFrom, storeCells]
  | cons b s =>
    obtain ⟨p, rfl, _, hc⟩ := hr.2 (by simp)
    obtain ⟨v', w', hrun, h2, h3, _, _⟩ := run_append_own_at (P := Try.prog) w base 22 ty 5 i _ 1 1 Try.underlying22 hi hz hs hby rfl (by omega) v l.length (cells l) h.2 p (b :: s).length c (cells (b :: s)) (by simp)
      (fun j u hu => by
        rcases Nat.lt_or_ge j (b :: s).length with hj | hj
        · rw [cells_get hj] at hu
          rw [← hu]; exact hc j hj
        · rw [List.getElem?_eq_none (by simpa using hj)] at hu; cases hu) (one_cells _) (by simp only [maxLen]; omega) (by omega) hbase
    refine ⟨v', w', hrun, ⟨hm, ?_⟩, (Below.refl base w).grown h3 hbase h.low⟩
    rw [List.length_append, cells_append]; exact h2

end Go.Proofs.Ytipijjlajhofkaa
