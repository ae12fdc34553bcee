/- Small aids for walks: a block that is known whole ('Blk'), and what a step leaves of it. -/
import Derived.WalkKit
import Derived.WalkSmall
import Derived.BigQuiet
import Derived.Deep.QuietTactic
import Derived.Handy
import Derived.Lib.Hide
namespace Go.Proofs.YtfmdmfiljplkoaaGreat
open Go.RowKit
theorem ret_int {k : IntKind} {a b : Int} (h : a = b) : Ending.returned (.int k a) = .returned (.int k b) := by rw [h]
theorem ret_bool {a b : Bool} (h : a = b) : Ending.returned (.bool a) = .returned (.bool b) := by rw [h]
theorem val_int {k : IntKind} {a b : Int} (h : a = b) : Value.int k a = .int k b := by rw [h]
/-- Block b holds just these cells, none of them frozen. -/
def Blk (w : World) (b : Nat) (c : Array Value) (t : TypeId) : Prop := w.heap[b]? = some (.cells c t (0, 0))
section
variable {w w' : World} {b : Nat} {c : Array Value} {t : TypeId}
theorem Blk.lt (h : Blk w b c t) : b < w.heap.size := lt_of_block h
theorem Blk.new (w : World) (c : Array Value) (t : TypeId) : Blk (w.alloc (.cells c t)) w.heap.size c t := by
  show (w.heap.push _)[w.heap.size]? = _
  simp
theorem Blk.new' (w : World) (c : Array Value) (t : TypeId) (hn : b = w.heap.size) : Blk (w.alloc (.cells c t)) b c t := by
  subst hn; exact Blk.new w c t
theorem Blk.alloc (h : Blk w b c t) (o : Obj) : Blk (w.alloc o) b c t := (Below.heap_alloc w o b h.lt).trans h
theorem Blk.below {B : Nat} (h : Blk w b c t) (hb : Below B w w') (hl : b < B) : Blk w' b c t := (hb.block b hl).trans h
theorem Blk.grew (h : Blk w b c t) (hb : Below w.heap.size w w') : Blk w' b c t := h.below hb h.lt
theorem Blk.drew (h : Blk w b c t) : Blk w.drew b c t := h
theorem Blk.other (h : Blk w b c t) {a : Addr} (ha : b ≠ a.block) (v : Value) : Blk (w.setCell a v) b c t := (Below.heap_setCell w a v b ha).trans h
theorem Blk.set (h : Blk w b c t) (i : Nat) (v : Value) : Blk (w.setCell ⟨b, i, none⟩ v) b (c.setIfInBounds i v) t := by
  unfold Blk at *
  simp only [World.setCell, Array.getElem?_modify]
  simp [h]
theorem Blk.cell (h : Blk w b c t) (i : Nat) : w.cell? ⟨b, i, none⟩ = c[i]? := by
  unfold Blk at h
  simp [World.cell?, h]
theorem Blk.free (h : Blk w b c t) (i : Nat) : w.frozen? ⟨b, i, none⟩ = false := by
  unfold Blk at h
  simp [World.frozen?, h]
theorem Blk.one {x : Value} (h : Blk w b #[x] t) : w.cell? ⟨b, 0, none⟩ = some x ∧ w.frozen? ⟨b, 0, none⟩ = false := ⟨h.cell 0, h.free 0⟩
theorem Blk.two {x y : Value} (h : Blk w b #[x, y] t) : w.cell? ⟨b, 0, none⟩ = some x ∧ w.cell? ⟨b, 1, none⟩ = some y ∧ w.frozen? ⟨b, 0, none⟩ = false ∧ w.frozen? ⟨b, 1, none⟩ = false :=
  ⟨h.cell 0, h.cell 1, h.free 0, h.free 1⟩
theorem Blk.four {x y z u : Value} (h : Blk w b #[x, y, z, u] t) : w.cell? ⟨b, 0, none⟩ = some x ∧ w.cell? ⟨b, 1, none⟩ = some y ∧ w.cell? ⟨b, 2, none⟩ = some z ∧ w.cell? ⟨b, 3, none⟩ = some u ∧
    w.frozen? ⟨b, 0, none⟩ = false ∧ w.frozen? ⟨b, 1, none⟩ = false ∧ w.frozen? ⟨b, 2, none⟩ = false ∧ w.frozen? ⟨b, 3, none⟩ = false :=
  ⟨h.cell 0, h.cell 1, h.cell 2, h.cell 3, h.free 0, h.free 1, h.free 2, h.free 3⟩
end
theorem cell_grew {w w' : World} {a : Addr} {v : Value} (h : w.cell? a = some v) (hb : Below w.heap.size w w') : w'.cell? a = some v := by
  refine (hb.cell ?_).trans h
  unfold World.cell? at h
  cases ho : w.heap[a.block]? with
  | none => simp [ho] at h
  | some o => exact lt_of_block ho
/-- What a callee has grown, behind what has grown ahead of it. -/
theorem grow {w0 w1 w2 : World} (h : Below w0.heap.size w0 w1) (k : Below w1.heap.size w1 w2) : Below w0.heap.size w0 w2 := h.trans (k.mono h.size)
theorem grow_alloc {w0 w1 : World} (h : Below w0.heap.size w0 w1) (o : Obj) : Below w0.heap.size w0 (w1.alloc o) := h.alloc h.size o
end Go.Proofs.YtfmdmfiljplkoaaGreat
