/- Walks: log.Clean, the whole of it. -/
import Derived.Test.YtfmdmfiljplkoaaGreatA19
namespace Go.Proofs.YtfmdmfiljplkoaaGreat
open Go.RowKit Go.Maps Go.Shelf
attribute [local go_sem] Oper.semAt_some
set_option maxRecDepth 8000
variable {ι : Type} [Bar ι]
/-- What stands while zeros are written. -/
structure WpS (w0 v : World) (b m : Nat) (vl : Value) (D : Dsk) (d : Nat) (tv : Value) (ts : List Nat) : Prop where
  disk : DiskAt v b m vl D
  row : v.ownsRow w0.heap.size 3 1 tv ts.length (icells ts)
  kd : v.heap[d]? = some (.deferred (some []))
  lod : w0.heap.size ≤ d
  size : w0.heap.size ≤ v.heap.size
section
variable {w0 v v' : World} {b m : Nat} {vl vl' : Value} {D D' : Dsk} {d : Nat} {tv : Value} {ts : List Nat}
theorem WpS.grew (h : WpS w0 v b m vl D d tv ts) (k : Below v.heap.size v v') : WpS w0 v' b m vl D d tv ts :=
  ⟨h.disk.grew k, row_turn h.row (Turn.of_below k []) (by simp), (k.block _ (lt_of_block h.kd)).trans h.kd, h.lod, Nat.le_trans h.size k.size⟩
theorem WpS.stepped (h : WpS w0 v b m vl D d tv ts) (hd : DiskAt v' b m vl' D') (k : Turn (own b m vl) v v') : WpS w0 v' b m vl' D' d tv ts := by
  have hk := disk_kinds h.disk
  refine ⟨hd, row_turn h.row k (fun g hg hm => ?_), (k.block d (lt_of_block h.kd) (fun hm => (hk d hm).2.2.2.2 _ h.kd)).trans h.kd, h.lod, Nat.le_trans h.size k.size⟩
  obtain ⟨cs, e⟩ := row_kind h.row hg
  exact (hk g hm).1 _ _ e
end
theorem icells_get (l : List Nat) (k : Nat) (h : k < l.length) : (icells l)[k]? = some (.int .i64 ((l[k] : Nat) : Int)) := by
  unfold icells
  rw [List.getElem?_map, List.getElem?_eq_getElem h]
  rfl
end Go.Proofs.YtfmdmfiljplkoaaGreat
