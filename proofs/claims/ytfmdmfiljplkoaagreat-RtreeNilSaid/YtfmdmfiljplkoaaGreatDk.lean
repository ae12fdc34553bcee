/- A disk of the call's own; what a step leaves standing. -/
import Derived.Test.YtfmdmfiljplkoaaGreatW7
namespace Go.Proofs.YtfmdmfiljplkoaaGreat
open Go.RowKit Go.Maps
variable {ι : Type} [Bar ι]
/-- A disk that lies in the call's own memory. -/
structure Dk (w0 v : World) (b m : Nat) (vl : Value) (D : Dsk) : Prop where
  disk : DiskAt v b m vl D
  low : Below w0.heap.size w0 v
  lo : ∀ k ∈ own b m vl, w0.heap.size ≤ k
/-- A step that turns the blocks T alone; those of T' are of them, or new. -/
structure Step (v v' : World) (T T' : List Nat) : Prop where
  turn : Turn T v v'
  nb : NoBytes v T
  new : ∀ k ∈ T', k ∈ T ∨ v.heap.size ≤ k
  old : ∀ k ∈ T', k < v'.heap.size
section
variable {w0 v v' : World} {b m : Nat} {vl vl' u : Value} {D D' : Dsk} {T T' : List Nat} {l : List Nat}
theorem New_dk (w0 : World) (s z : Nat) (hbar : ∀ k, v.heap.size ≤ k → Bar.P k) (h0 : Below w0.heap.size w0 v) (h1 : (1 : Int) ≤ s) (h2 : (s : Int) ≤ 1048576) (h3 : (64 : Int) ≤ z) (h4 : (z : Int) ≤ 4096) :
    Calls Tryz.prog 21 #[.int .i64 s, .int .i64 z] v fun e v' => ∃ b m, e = .returned (.pointer (some ⟨b, 0, none⟩)) ∧ Dk w0 v' b m nilv (Dsk.new s z) ∧ Below v.heap.size v v' := by
  refine (New_any s z v hbar h1 h2 h3 h4).mono ?_
  rintro e v' ⟨b, m, rfl, hd, hb, h5, h6⟩
  refine ⟨b, m, rfl, ⟨hd, grow h0 hb, fun k hk => ?_⟩, hb⟩
  have := h0.size
  rcases mem_own.1 hk with e | e | e
  · omega
  · omega
  · simp [nilv, Value.ownBlock] at e
end
end Go.Proofs.YtfmdmfiljplkoaaGreat
