/- Walks: Bounds of any points; the reference's Overlap, Holds, MayRect, Distance, Nearest. -/
import Derived.Test.YtkneohngbkmlpaaW25
namespace Go.Proofs.Ytkneohngbkmlpaa
open Go.RowKit

def isB (l : List Pt) : Bool := decide (l ≠ [] ∧ ∀ q ∈ l, May q)
def BoundsF (l : List Pt) : Rc := if isB l then bndL l else zeroR

set_option maxHeartbeats 1000000 in
theorem Bounds_none (A : Option Addr) (c : Nat) (w : World) :
    Calls Try.prog 25 #[.slice A 0 c] w fun e w' => e = .returned (.tuple #[rc zeroR, .bool false]) ∧ Below w.heap.size w w' := by
  obtain ⟨w0, hw0, p0, g0, z0⟩ := boxes1 w #[.int .i64 0, .int .i64 0, .int .i64 0, .int .i64 0] 38
  have c0 := p0.four
  have r2 := ((((p0.set 0 (.int .i64 0)).set 1 (.int .i64 0)).set 2 (.int .i64 0)).set 3 (.int .i64 0)).four
  have HG := Lib.hid g0
  clear p0 g0 z0
  go_enter Try.func25, Try.ntmps25
  go_wp2
  refine bodyPost_ret (v := .tuple #[rc zeroR, .bool false]) ?_ rfl ⟨rfl, ?_⟩
  · simp [results, Try.results25, go_sem, r2, zeroR]
  · exact (((HG.out.setCell (by show _ ≤ w.heap.size; omega) _).setCell (by show _ ≤ w.heap.size; omega) _).setCell (by show _ ≤ w.heap.size; omega) _).setCell (by show _ ≤ w.heap.size; omega) _

set_option maxHeartbeats 1000000 in
theorem Bounds_out (A : Option Addr) (n c : Nat) (w : World) (hn : (0 : Int) < n)
    (k1 : ∀ w', Below w.heap.size w w' → Calls Try.prog 39 #[.slice A n c] w' fun e w'' => e = .returned (.bool false) ∧ Below w'.heap.size w' w'') :
    Calls Try.prog 25 #[.slice A n c] w fun e w' => e = .returned (.tuple #[rc zeroR, .bool false]) ∧ Below w.heap.size w w' := by
  have K1 := Lib.hid k1
  clear k1
  obtain ⟨w0, hw0, p0, g0, z0⟩ := boxes1 w #[.int .i64 0, .int .i64 0, .int .i64 0, .int .i64 0] 38
  have c0 := p0.four
  have HP := Lib.hid (And.intro p0 g0)
  have hne : ((n : Int) == 0) = false := by simp; omega
  clear p0 g0 z0
  go_enter Try.func25, Try.ntmps25
  go_wp2_with fail
  refine (K1.out _ HP.out.2).mono ?_
  rintro e w1 ⟨rfl, hb1⟩
  have fr := (HP.out.1.grew hb1).four
  have r2 := (((((HP.out.1.grew hb1).set 0 (.int .i64 0)).set 1 (.int .i64 0)).set 2 (.int .i64 0)).set 3 (.int .i64 0)).four
  have HG := Lib.hid (grow HP.out.2 hb1)
  clear hb1 c0
  go_wp2
  refine bodyPost_ret (v := .tuple #[rc zeroR, .bool false]) ?_ rfl ⟨rfl, ?_⟩
  · simp [results, Try.results25, go_sem, r2, zeroR]
  · exact (((HG.out.setCell (by show _ ≤ w.heap.size; omega) _).setCell (by show _ ≤ w.heap.size; omega) _).setCell (by show _ ≤ w.heap.size; omega) _).setCell (by show _ ≤ w.heap.size; omega) _

theorem Bounds_any (A : Option Addr) (l : List Pt) (n c : Nat) (w : World) (hn : l.length = n) (hr : Pts w w.heap.size A l) (hn1 : (n : Int) ≤ 1000) :
    Calls Try.prog 25 #[.slice A n c] w fun e w' => e = .returned (.tuple #[rc (BoundsF l), .bool (isB l)]) ∧ Below w.heap.size w w' := by
  cases n with
  | zero =>
    have hl : l = [] := List.length_eq_zero_iff.1 hn
    subst hl
    exact Bounds_none A c w
  | succ n =>
    have hne : l ≠ [] := by rintro rfl; simp at hn
    by_cases hm : ∀ q ∈ l, May q
    · have e : isB l = true := decide_eq_true ⟨hne, hm⟩
      unfold BoundsF
      rw [e]
      exact Bounds_loop l A (n + 1) c w hn hr (by omega) hn1 hm
    · have e : isB l = false := decide_eq_false fun h => hm h.2
      unfold BoundsF
      rw [e]
      refine Bounds_out A (n + 1) c w (by omega) fun w' hb => ?_
      have h := all_any A l (n + 1) c w' hn (fun hne => by
        obtain ⟨p, e, h1, h2⟩ := hr hne
        exact ⟨p, e, Nat.lt_of_lt_of_le h1 hb.size, fun k hk => ⟨(hb.cell (by rw [add_block]; exact h1)).trans (h2 k hk).1, (hb.cell (by rw [add_block, add_block]; exact h1)).trans (h2 k hk).2⟩⟩) (by omega)
      rwa [decide_eq_false hm] at h
end Go.Proofs.Ytkneohngbkmlpaa
