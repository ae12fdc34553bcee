/- What region 0 of a function makes: the boxes of its parameters and results, told whole. -/
import Derived.Test.YtogghmmokifnnaaAid
namespace Go.Proofs.Ytogghmmokifnnaa
open Go.RowKit

theorem boxes1 (w : World) (c0 : Array Value) (t0 : TypeId) : ∃ w0, w.alloc (.cells c0 t0) = w0 ∧ Blk w0 w.heap.size c0 t0 ∧ Below w.heap.size w w0 ∧ w0.heap.size = w.heap.size + 1 :=
  ⟨_, rfl, Blk.new w c0 t0, grow_alloc (Below.refl _ w) _, by simp⟩
theorem boxes2 (w : World) (c0 c1 : Array Value) (t0 t1 : TypeId) : ∃ w0, (w.alloc (.cells c0 t0)).alloc (.cells c1 t1) = w0 ∧ Blk w0 w.heap.size c0 t0 ∧ Blk w0 (w.heap.size + 1) c1 t1 ∧ Below w.heap.size w w0 ∧ w0.heap.size = w.heap.size + 2 := by
  obtain ⟨w1, e1, p0, g, z⟩ := boxes1 w c0 t0
  refine ⟨_, rfl, ?_⟩
  rw [e1]
  exact ⟨p0.alloc _, Blk.new' w1 c1 t1 (by omega), grow_alloc g _, by simp [z]⟩
theorem boxes3 (w : World) (c0 c1 c2 : Array Value) (t0 t1 t2 : TypeId) : ∃ w0, ((w.alloc (.cells c0 t0)).alloc (.cells c1 t1)).alloc (.cells c2 t2) = w0 ∧ Blk w0 w.heap.size c0 t0 ∧ Blk w0 (w.heap.size + 1) c1 t1 ∧ Blk w0 (w.heap.size + 1 + 1) c2 t2 ∧
    Below w.heap.size w w0 ∧ w0.heap.size = w.heap.size + 3 := by
  obtain ⟨w1, e1, p0, p1, g, z⟩ := boxes2 w c0 c1 t0 t1
  refine ⟨_, rfl, ?_⟩
  rw [e1]
  exact ⟨p0.alloc _, p1.alloc _, Blk.new' w1 c2 t2 (by omega), grow_alloc g _, by simp [z]⟩

theorem Blk.eight {w : World} {b : Nat} {t : TypeId} {x y z u x' y' z' u' : Value} (h : Blk w b #[x, y, z, u, x', y', z', u'] t) :
    w.cell? ⟨b, 0, none⟩ = some x ∧ w.cell? ⟨b, 1, none⟩ = some y ∧ w.cell? ⟨b, 2, none⟩ = some z ∧ w.cell? ⟨b, 3, none⟩ = some u ∧ w.cell? ⟨b, 4, none⟩ = some x' ∧ w.cell? ⟨b, 5, none⟩ = some y' ∧ w.cell? ⟨b, 6, none⟩ = some z' ∧ w.cell? ⟨b, 7, none⟩ = some u' ∧
    w.frozen? ⟨b, 0, none⟩ = false ∧ w.frozen? ⟨b, 1, none⟩ = false ∧ w.frozen? ⟨b, 2, none⟩ = false ∧ w.frozen? ⟨b, 3, none⟩ = false ∧ w.frozen? ⟨b, 4, none⟩ = false ∧ w.frozen? ⟨b, 5, none⟩ = false ∧ w.frozen? ⟨b, 6, none⟩ = false ∧ w.frozen? ⟨b, 7, none⟩ = false :=
  ⟨h.cell 0, h.cell 1, h.cell 2, h.cell 3, h.cell 4, h.cell 5, h.cell 6, h.cell 7, h.free 0, h.free 1, h.free 2, h.free 3, h.free 4, h.free 5, h.free 6, h.free 7⟩
/-- A cell whose place is told otherwise. -/
theorem Blk.at {w : World} {b : Nat} {c : Array Value} {t : TypeId} {v : Value} (h : Blk w b c t) (i : Nat) (hv : c[i]? = some v) : w.cell? ⟨b, i, none⟩ = some v ∧ w.frozen? ⟨b, i, none⟩ = false := ⟨(h.cell i).trans hv, h.free i⟩
end Go.Proofs.Ytogghmmokifnnaa
