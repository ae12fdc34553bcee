/- A []Slot among a law's arguments, opened. -/
import Derived.Test.YtpomfokpmbblkaaOpen
import Derived.Test.YtpomfokpmbblkaaA21
import Derived.ChangeSlices
namespace Go.Proofs.Ytpomfokpmbblkaa
open Go.ChangeShapes Go.WideShapes Go.ChangeAt Go.RowKit Go.Joins
set_option maxRecDepth 8000

section
variable {H : Type} {enc : TypeId × Value → H} {W : World}

theorem bytes_cell {v : Value} {fuel : Nat} {x : DataW H × List MemPlace}
    (hf : DataW.trod enc Try.prog W 0 (fun _ => true) true fuel 42 [v] = some x) : ∃ A l c, v = .slice A (l : List Nat).length c ∧ (l.length : Int) ≤ c ∧ Rd W W.heap.size A l := by
  have hc : Try.prog.cellsOf 5 = 1 := by kernel_rfl
  rcases open_ints Try.underlying42 Try.underlying5 hc hf with ⟨hcs, hx⟩ | ⟨a, len, cap, zs, hcs, _, hle, hmax, hall, hx, hcell, hwf⟩
  · simp at hcs
    subst hcs
    exact ⟨none, [], 0, rfl, by simp, by simp, by simp⟩
  · simp at hcs
    subst hcs
    simp only [if_true] at hall
    have hb : ∀ z ∈ zs, 0 ≤ z ∧ z < 256 := by
      intro z hz
      have := hwf z hz
      simp [Lit.wf, IntKind.min, IntKind.max, IntKind.signed, IntKind.bits] at this
      omega
    have hlen : ((zs.take len).map Int.toNat).length = len := by simp; omega
    refine ⟨some a, (zs.take len).map Int.toNat, cap, by rw [hlen], by rw [hlen]; omega, ?_, fun hn => ⟨a, rfl, ?_, fun k hk => ?_⟩⟩
    · intro b hb'
      obtain ⟨z, hz, rfl⟩ := List.mem_map.1 hb'
      have := hb z (List.mem_of_mem_take hz)
      omega
    · have h0 : 0 < zs.length := by
        rcases Nat.eq_zero_or_pos zs.length with h0 | h0
        · exact absurd (List.eq_nil_of_length_eq_zero (by rw [hlen]; omega)) hn
        · exact h0
      have hc0 := hcell 0 h0
      have hz0 : a.add 0 = a := by simp [Addr.add]
      rw [hz0] at hc0
      unfold World.cell? at hc0
      cases ho : W.heap[a.block]? with
      | none => simp [ho] at hc0
      | some o => exact lt_of_block ho
    · have hk' : k < zs.length := by rw [hlen] at hk; omega
      have hz := hb zs[k] (List.getElem_mem hk')
      rw [hcell k hk']
      have e : ((((zs.take len).map Int.toNat)[k] : Nat) : Int) = zs[k] := by simp; omega
      rw [e]
      simp [List.getD, List.getElem?_eq_getElem hk']
theorem Cells.bytes {l : List TypeId} {cs : List Value} (h : Cells enc Try.prog W 0 (fun _ => true) true (42 :: l) cs) :
    ∃ A b c r, cs = .slice A (b : List Nat).length c :: r ∧ Rd W W.heap.size A b ∧ Cells enc Try.prog W 0 (fun _ => true) true l r := by
  obtain ⟨v, r, rfl, ⟨n, y, hy⟩, hr⟩ := h.cons
  obtain ⟨A, b, c, rfl, _, h2⟩ := bytes_cell hy
  exact ⟨A, b, c, r, rfl, h2, hr⟩

theorem slots_cell {v : Value} {fuel : Nat} {x : DataW H × List MemPlace} (hf : DataW.trod enc Try.prog W 0 (fun _ => true) true fuel 65 [v] = some x) :
    ∃ A l n c, v = .slice A n c ∧ (l : List SlotV).length = n ∧ (n : Int) ≤ 9223372036854775807 ∧ SlotsV W W.heap.size A l := by
  rcases Go.Deep.open_slice Try.underlying65 hf with ⟨hcs, hx⟩ | ⟨a, len, cap, m, n, D, Pl, hcs, _, hle, hmax, hm, hx, hcell⟩
  · simp at hcs
    subst hcs
    exact ⟨none, [], 0, 0, rfl, rfl, by decide, fun h => absurd rfl h⟩
  · simp at hcs
    subst hcs
    simp only [if_true] at hm
    have hce : Try.prog.cellsOf 68 = 6 := by kernel_rfl
    have each : ∀ i, i < len → ∃ x : SlotV, SlotAt W W.heap.size (a.add (i * 6)) x := by
      intro i hi
      obtain ⟨cs', h1, h2⟩ := hcell i (by omega)
      rw [hce] at h1
      obtain ⟨_, hlen, hc⟩ := World.cells?_some h1
      have hfl := trod_flat 10 n 68 [3, 3, 3, 5, 42, 4] cs' _ (by kernel_rfl) h2
      obtain ⟨z0, _, rfl, w0, hfl⟩ := hfl.int Try.underlying3
      obtain ⟨z1, _, rfl, w1, hfl⟩ := hfl.int Try.underlying3
      obtain ⟨z2, _, rfl, w2, hfl⟩ := hfl.int Try.underlying3
      obtain ⟨z3, _, rfl, w3, hfl⟩ := hfl.int Try.underlying5
      obtain ⟨AB, bs, cb, _, rfl, hrd, hf4⟩ := hfl.bytes
      obtain ⟨raw, _, rfl, hf5⟩ := hf4.bool Try.underlying4
      obtain rfl := hf5.nil
      have b2 := bounds_i64 w2
      have b3 : 0 ≤ z3 ∧ z3 < 256 := by
        simp [Lit.wf, IntKind.min, IntKind.max, IntKind.signed, IntKind.bits] at w3
        omega
      have e0 := hc 0 (by omega)
      have e1 := hc 1 (by omega)
      have e2 := hc 2 (by omega)
      have e3 := hc 3 (by omega)
      have e4 := hc 4 (by omega)
      have e5 := hc 5 (by omega)
      have hz0 : (a.add (i * 6)).add 0 = a.add (i * 6) := by simp [Addr.add]
      rw [hz0] at e0
      rw [add_pos _ _ (by omega)] at e1 e2 e3 e4 e5
      refine ⟨⟨z0, z1, z2, z3.toNat, bs, raw⟩, ⟨by simp; omega, by simp; omega⟩, by simpa using e0, by simpa using e1, by simpa using e2, ?_, ⟨AB, cb, by simpa using e4, hrd⟩, by simpa using e5⟩
      have : ((z3.toNat : Nat) : Int) = z3 := by omega
      simp only [this]
      simpa using e3
    haveI : Inhabited SlotV := ⟨⟨0, 0, 0, 0, [], false⟩⟩
    obtain ⟨q, hq⟩ := Go.Deep.choose_lt each
    refine ⟨some a, (List.range len).map q, len, cap, rfl, by simp, by unfold maxLen at hmax; omega, fun hn => ⟨a, rfl, ?_, fun k hk => ?_⟩⟩
    · have h0 : 0 < len := by
        rcases Nat.eq_zero_or_pos len with h0 | h0
        · subst h0; exact absurd rfl hn
        · exact h0
      obtain ⟨_, hc0, _⟩ := hq 0 h0
      have := World.block_lt_of_cell? _ _ hc0
      rwa [add_block] at this
    · have hk : k < len := by simpa using hk
      simpa using hq k hk
theorem open_slots {base : Nat} {v : Value} {d : DataW H} {p : List MemPlace} (hv : Value.okWide Try.prog W .any base 65 v) (h : DataW.Trod enc Try.prog W 0 (fun _ => true) true 65 v d p) :
    ∃ A a n c, v = .slice A n c ∧ (a : List SlotV).length = n ∧ (n : Int) ≤ 9223372036854775807 ∧ SlotsV W W.heap.size A a := by
  obtain ⟨A, len, cap, rfl⟩ := okWide_slice Try.underlying65 hv
  obtain ⟨fuel, hf⟩ := h
  exact slots_cell hf
end
end Go.Proofs.Ytpomfokpmbblkaa
