/- A []byte among a law's arguments, opened as one list of bytes; nil let in. -/
import Derived.Test.YtipijjlajhofkaaW9
import Derived.Test.YtipijjlajhofkaaLaw
import Derived.ChangeSlices
namespace Go.Proofs.Ytipijjlajhofkaa
open Go.ChangeShapes Go.WideShapes Go.ChangeAt Go.RowKit

theorem open_bytes {H : Type} {enc : TypeId × Value → H} {W : World} {base : Nat} {v : Value} {d : DataW H} {p : List MemPlace}
    (hv : Value.okWide Try.prog W .any base 22 v) (h : DataW.Trod enc Try.prog W 0 (fun _ => true) true 22 v d p) : ∃ A l c, v = .slice A (l : List Nat).length c ∧ Rd W W.heap.size A l := by
  obtain ⟨A, len, cap, rfl⟩ := okWide_slice Try.underlying22 hv
  obtain ⟨fuel, hf⟩ := h
  have hc : Try.prog.cellsOf 5 = 1 := by kernel_rfl
  rcases open_ints Try.underlying22 Try.underlying5 hc hf with ⟨hcs, hx⟩ | ⟨a, len', cap', zs, hcs, _, hle, hmax, hall, hx, hcell, hwf⟩
  · simp [Value.cells] at hcs
    obtain ⟨rfl, rfl, rfl⟩ := hcs
    exact ⟨none, [], 0, rfl, by simp, by simp⟩
  · simp [Value.cells] at hcs
    obtain ⟨rfl, rfl, rfl⟩ := hcs
    simp only [if_true] at hall
    have hb : ∀ z ∈ zs, 0 ≤ z ∧ z < 256 := by
      intro z hz
      have := hwf z hz
      simp [Lit.wf, IntKind.min, IntKind.max, IntKind.signed, IntKind.bits] at this
      omega
    have hlen : ((zs.take len).map Int.toNat).length = len := by simp; omega
    refine ⟨some a, (zs.take len).map Int.toNat, cap, by rw [hlen], ?_, fun hn => ⟨a, rfl, ?_, fun k hk => ?_⟩⟩
    · intro b hb'
      obtain ⟨z, hz, rfl⟩ := List.mem_map.1 hb'
      have := hb z (List.mem_of_mem_take hz)
      omega
    · have h0 : 0 < zs.length := by
        rcases Nat.eq_zero_or_pos zs.length with h0 | h0
        · exact absurd (List.eq_nil_of_length_eq_zero (by rw [hlen]; omega)) hn
        · exact h0
      have hc0 := hcell 0 h0
      have hz0 : a.add 0 = a := by simp [Addr.add]
      rw [hz0] at hc0
      unfold World.cell? at hc0
      cases ho : W.heap[a.block]? with
      | none => simp [ho] at hc0
      | some o => exact lt_of_block ho
    · have hk' : k < zs.length := by rw [hlen] at hk; omega
      have hz := hb zs[k] (List.getElem_mem hk')
      rw [hcell k hk']
      have e : ((((zs.take len).map Int.toNat)[k] : Nat) : Int) = zs[k] := by simp; omega
      rw [e]
      simp [List.getD, List.getElem?_eq_getElem hk']

end Go.Proofs.Ytipijjlajhofkaa
