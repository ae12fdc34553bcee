/- Walks: FrameTorn. -/
import Derived.Test.YtipijjlajhofkaaW20
import Derived.BigQuiet
import Derived.Deep.RegionHeld
namespace Go.Proofs.Ytipijjlajhofkaa
open Go.RowKit

/-- Three pieces as they lie in memory. -/
def pieces (M Q : Nat → Int) (A : Nat → Option Addr) (L : Nat → List Nat) (C : Nat → Nat) : Array Value :=
  #[.int .i64 (M 0), .slice (A 0) (L 0).length (C 0), .int .i64 (Q 0), .int .i64 (M 1), .slice (A 1) (L 1).length (C 1), .int .i64 (Q 1), .int .i64 (M 2), .slice (A 2) (L 2).length (C 2), .int .i64 (Q 2)]

section
variable {M Q : Nat → Int} {A : Nat → Option Addr} {L : Nat → List Nat} {C : Nat → Nat} {w : World} {b : Nat}
theorem pieces_at (h : Blk w b (pieces M Q A L C) 41) (k : Nat) (hk : k < 3) :
    w.cell? ⟨b, k * 3, none⟩ = some (.int .i64 (M k)) ∧ w.cell? ⟨b, k * 3 + 1, none⟩ = some (.slice (A k) (L k).length (C k)) ∧ w.cell? ⟨b, k * 3 + 2, none⟩ = some (.int .i64 (Q k)) := by
  rw [h.cell, h.cell, h.cell]
  match k, hk with
  | 0, _ => exact ⟨rfl, rfl, rfl⟩
  | 1, _ => exact ⟨rfl, rfl, rfl⟩
  | 2, _ => exact ⟨rfl, rfl, rfl⟩
end

set_option maxHeartbeats 1000000 in
theorem Torn_small (n : Int) (z : Bool) (cs : Array Value) (w : World) (h : okSize n = false) :
    Calls Try.prog 6 #[.int .i64 n, .bool z, .agg cs] w fun e w' => e = .returned (.bool true) ∧ Below w.heap.size w w' := by
  have h : ¬ (64 ≤ n ∧ n ≤ 4096) := by simpa [okSize] using h
  by_cases h1 : n < 64
  · go_enter Try.func6, Try.ntmps6
    go_wp2
    go_ret
    exact ⟨rfl, grow_alloc (Below.refl _ _) _⟩
  · have h2 : (4096 : Int) < n := by omega
    clear h
    go_enter Try.func6, Try.ntmps6
    go_wp2
    go_ret
    exact ⟨rfl, grow_alloc (Below.refl _ _) _⟩

set_option maxHeartbeats 1000000 in
theorem Torn_alike (n : Int) (z : Bool) (M Q : Nat → Int) (A : Nat → Option Addr) (L : Nat → List Nat) (C : Nat → Nat) (w : World) (hn1 : 64 ≤ n) (hn2 : n ≤ 4096) (h : M 0 = M 1 ∨ M 0 = M 2 ∨ M 1 = M 2) :
    Calls Try.prog 6 #[.int .i64 n, .bool z, .agg (pieces M Q A L C)] w fun e w' => e = .returned (.bool true) ∧ Below w.heap.size w w' := by
  have hb := Blk.new w (pieces M Q A L C) 41
  have h0 := (pieces_at hb 0 (by omega)).1
  have h1 := (pieces_at hb 1 (by omega)).1
  have h2 := (pieces_at hb 2 (by omega)).1
  simp only [Nat.zero_mul, Nat.one_mul, show 2 * 3 = 6 from rfl] at h0 h1 h2
  clear hb
  generalize pieces M Q A L C = cs at *
  by_cases e1 : M 0 = M 1
  · rw [e1] at h0
    go_enter Try.func6, Try.ntmps6
    go_wp2
    go_ret
    exact ⟨rfl, grow_alloc (Below.refl _ _) _⟩
  have f1 : (M 0 == M 1) = false := by simpa using e1
  by_cases e2 : M 0 = M 2
  · rw [← e2] at h2
    clear e1 e2 h
    go_enter Try.func6, Try.ntmps6
    go_wp2
    go_ret
    exact ⟨rfl, grow_alloc (Below.refl _ _) _⟩
  have f2 : (M 0 == M 2) = false := by simpa using e2
  have e3 : M 1 = M 2 := by omega
  rw [← e3] at h2 f2
  clear e1 e2 e3 h
  go_enter Try.func6, Try.ntmps6
  go_wp2
  go_ret
  exact ⟨rfl, grow_alloc (Below.refl _ _) _⟩

end Go.Proofs.Ytipijjlajhofkaa
