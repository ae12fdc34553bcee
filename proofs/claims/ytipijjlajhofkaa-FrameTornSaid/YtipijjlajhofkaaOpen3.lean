/- A []byte among a struct's cells. -/
import Derived.Test.YtipijjlajhofkaaOpen2
import Derived.Test.YtipijjlajhofkaaFlat
import Derived.Test.YtipijjlajhofkaaLaw
import Derived.ChangeSlices
namespace Go.Proofs.Ytipijjlajhofkaa
open Go.ChangeShapes Go.WideShapes Go.ChangeAt Go.RowKit

theorem bytes_cell {H : Type} {enc : TypeId × Value → H} {W : World} {v : Value} {fuel : Nat} {x : DataW H × List MemPlace}
    (hf : DataW.trod enc Try.prog W 0 (fun _ => true) true fuel 22 [v] = some x) : ∃ A l c, v = .slice A (l : List Nat).length c ∧ (l.length : Int) ≤ c ∧ Rd W W.heap.size A l := by
  have hc : Try.prog.cellsOf 5 = 1 := by kernel_rfl
  rcases open_ints Try.underlying22 Try.underlying5 hc hf with ⟨hcs, hx⟩ | ⟨a, len, cap, zs, hcs, _, hle, hmax, hall, hx, hcell, hwf⟩
  · simp at hcs
    subst hcs
    exact ⟨none, [], 0, rfl, by simp, by simp, by simp⟩
  · simp at hcs
    subst hcs
    simp only [if_true] at hall
    have hb : ∀ z ∈ zs, 0 ≤ z ∧ z < 256 := by
      intro z hz
      have := hwf z hz
      simp [Lit.wf, IntKind.min, IntKind.max, IntKind.signed, IntKind.bits] at this
      omega
    have hlen : ((zs.take len).map Int.toNat).length = len := by simp; omega
    refine ⟨some a, (zs.take len).map Int.toNat, cap, by rw [hlen], by rw [hlen]; omega, ?_, fun hn => ⟨a, rfl, ?_, fun k hk => ?_⟩⟩
    · intro b hb'
      obtain ⟨z, hz, rfl⟩ := List.mem_map.1 hb'
      have := hb z (List.mem_of_mem_take hz)
      omega
    · have h0 : 0 < zs.length := by
        rcases Nat.eq_zero_or_pos zs.length with h0 | h0
        · exact absurd (List.eq_nil_of_length_eq_zero (by rw [hlen]; omega)) hn
        · exact h0
      have hc0 := hcell 0 h0
      have hz0 : a.add 0 = a := by simp [Addr.add]
      rw [hz0] at hc0
      unfold World.cell? at hc0
      cases ho : W.heap[a.block]? with
      | none => simp [ho] at hc0
      | some o => exact lt_of_block ho
    · have hk' : k < zs.length := by rw [hlen] at hk; omega
      have hz := hb zs[k] (List.getElem_mem hk')
      rw [hcell k hk']
      have e : ((((zs.take len).map Int.toNat)[k] : Nat) : Int) = zs[k] := by simp; omega
      rw [e]
      simp [List.getD, List.getElem?_eq_getElem hk']

theorem Cells.bytes {H : Type} {enc : TypeId × Value → H} {W : World} {l : List TypeId} {cs : List Value} (h : Cells enc Try.prog W 0 (fun _ => true) true (22 :: l) cs) :
    ∃ A b c r, cs = .slice A (b : List Nat).length c :: r ∧ (b.length : Int) ≤ c ∧ Rd W W.heap.size A b ∧ Cells enc Try.prog W 0 (fun _ => true) true l r := by
  obtain ⟨v, r, rfl, ⟨n, y, hy⟩, hr⟩ := h.cons
  obtain ⟨A, b, c, rfl, h1, h2⟩ := bytes_cell hy
  exact ⟨A, b, c, r, rfl, h1, h2, hr⟩

end Go.Proofs.Ytipijjlajhofkaa
