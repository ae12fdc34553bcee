/- A []Point among a law's arguments, opened as one list of points; nil let in. -/
import Derived.Test.YtkneohngbkmlpaaRow
import Derived.Test.YtkneohngbkmlpaaLaw
import Derived.Deep.SlicePairs
namespace Go.Proofs.Ytkneohngbkmlpaa
open Go.ChangeShapes Go.WideShapes Go.ChangeAt Go.RowKit

theorem open_pts {H : Type} {enc : TypeId × Value → H} {W : World} {base : Nat} {v : Value} {d : DataW H} {p : List MemPlace}
    (hv : Value.okWide Try.prog W .any base 22 v) (h : DataW.Trod enc Try.prog W 0 (fun _ => true) true 22 v d p) : ∃ A l n c, v = .slice A n c ∧ (l : List Pt).length = n ∧ Pts W W.heap.size A l := by
  obtain ⟨A, len, cap, rfl⟩ := okWide_slice Try.underlying22 hv
  obtain ⟨fuel, hf⟩ := h
  rcases Go.Deep.open_slice_pairs Try.underlying22 Try.underlying24 (by kernel_rfl) rfl rfl (by kernel_rfl) (by kernel_rfl) hf with ⟨hcs, hx⟩ | ⟨a, len', cap', m, n, V0, V1, D0, D1, P0, P1, hcs, _, hle, hmax, hm, hx, hcell⟩
  · simp [Value.cells] at hcs
    obtain ⟨rfl, rfl, rfl⟩ := hcs
    exact ⟨none, [], 0, 0, rfl, rfl, fun h => absurd rfl h⟩
  · simp [Value.cells] at hcs
    obtain ⟨rfl, rfl, rfl⟩ := hcs
    simp only [if_true] at hm
    have hz : ∀ k, k < len → W.cell? (a.add (k * 2)) = some (.int .i64 (intOf (V0 k))) ∧ W.cell? ((a.add (k * 2)).add 1) = some (.int .i64 (intOf (V1 k))) := by
      intro k hk
      obtain ⟨c0, c1, t0, t1⟩ := hcell k (by omega)
      obtain ⟨z0, e0, -, -⟩ := DataW.trod_int Try.underlying2 t0
      obtain ⟨z1, e1, -, -⟩ := DataW.trod_int Try.underlying2 t1
      simp at e0 e1
      rw [c0, add_add, c1, e0, e1]
      exact ⟨rfl, rfl⟩
    refine ⟨some a, (List.range len).map fun i => ⟨intOf (V0 i), intOf (V1 i)⟩, len, cap, rfl, by simp, fun hn => ⟨a, rfl, ?_, fun k hk => ?_⟩⟩
    · have h0 : 0 < len := by
        rcases Nat.eq_zero_or_pos len with h0 | h0
        · subst h0; exact absurd rfl hn
        · exact h0
      have hc := (hz 0 h0).1
      rw [Nat.zero_mul] at hc
      have := World.block_lt_of_cell? _ _ hc
      rw [add_block] at this
      exact this
    · have hk : k < len := by simpa using hk
      simpa using hz k hk
end Go.Proofs.Ytkneohngbkmlpaa
