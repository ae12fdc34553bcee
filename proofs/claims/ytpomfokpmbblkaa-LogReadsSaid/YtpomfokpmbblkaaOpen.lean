/- A []Put, a [][]Put and a []int among a law's arguments, opened. -/
import Derived.Test.YtpomfokpmbblkaaA5
import Derived.Test.YtpomfokpmbblkaaLaw
import Derived.Test.YtpomfokpmbblkaaFlat
import Derived.Deep.SlicePairs
import Derived.ChangeSlices
namespace Go.Proofs.Ytpomfokpmbblkaa
open Go.ChangeShapes Go.WideShapes Go.ChangeAt Go.RowKit Go.Joins
set_option maxRecDepth 8000

section
variable {H : Type} {enc : TypeId × Value → H} {W : World}

theorem ints_cell {v : Value} {fuel : Nat} {x : DataW H × List MemPlace} (hf : DataW.trod enc Try.prog W 0 (fun _ => true) true fuel 55 [v] = some x) :
    ∃ A l c, v = .slice A (l : List Int).length c ∧ l.length ≤ c ∧ IRd W A l ∧ (l ≠ [] → ∀ p, A = some p → p.block < W.heap.size) := by
  have hc : Try.prog.cellsOf 3 = 1 := by kernel_rfl
  rcases open_ints Try.underlying55 Try.underlying3 hc hf with ⟨hcs, hx⟩ | ⟨a, len, cap, zs, hcs, _, hle, hmax, hall, hx, hcell, hwf⟩
  · simp at hcs
    subst hcs
    exact ⟨none, [], 0, rfl, by simp, IRd.nil _ _, fun h => absurd rfl h⟩
  · simp at hcs
    subst hcs
    simp only [if_true] at hall
    have hlen : (zs.take len).length = len := by simp; omega
    have hblk : zs.take len ≠ [] → a.block < W.heap.size := by
      intro hn
      have h0 : 0 < zs.length := by
        rcases Nat.eq_zero_or_pos zs.length with h0 | h0
        · exact absurd (List.eq_nil_of_length_eq_zero (by rw [hlen]; omega)) hn
        · exact h0
      have hc0 := hcell 0 h0
      have hz0 : a.add 0 = a := by simp [Addr.add]
      rw [hz0] at hc0
      exact World.block_lt_of_cell? _ _ hc0
    refine ⟨some a, zs.take len, cap, by rw [hlen], by rw [hlen]; omega, ⟨fun z hz => ?_, fun hn => ⟨a, rfl, hblk hn, fun k hk => ?_⟩⟩, fun hn p hp => by cases hp; exact hblk hn⟩
    · have := hwf z (List.mem_of_mem_take hz)
      simp [Lit.wf, IntKind.min, IntKind.max, IntKind.signed, IntKind.bits] at this
      omega
    · have hk' : k < zs.length := by rw [hlen] at hk; omega
      rw [hcell k hk']
      simp [List.getD, List.getElem?_eq_getElem hk']
theorem open_fates {base : Nat} {v : Value} {d : DataW H} {p : List MemPlace} (hv : Value.okWide Try.prog W .any base 55 v) (h : DataW.Trod enc Try.prog W 0 (fun _ => true) true 55 v d p) :
    ∃ A l c, v = .slice A (l : List Int).length c ∧ l.length ≤ c ∧ IRd W A l ∧ (l ≠ [] → ∀ p, A = some p → p.block < W.heap.size) := by
  obtain ⟨A, len, cap, rfl⟩ := okWide_slice Try.underlying55 hv
  obtain ⟨fuel, hf⟩ := h
  exact ints_cell hf
theorem Cells.ints {l : List TypeId} {cs : List Value} (h : Cells enc Try.prog W 0 (fun _ => true) true (55 :: l) cs) :
    ∃ A f c r, cs = .slice A (f : List Int).length c :: r ∧ f.length ≤ c ∧ IRd W A f ∧ (f ≠ [] → ∀ p, A = some p → p.block < W.heap.size) ∧ Cells enc Try.prog W 0 (fun _ => true) true l r := by
  obtain ⟨v, r, rfl, ⟨n, y, hy⟩, hr⟩ := h.cons
  obtain ⟨A, b, c, rfl, h1, h2, h3⟩ := ints_cell hy
  exact ⟨A, b, c, r, rfl, h1, h2, h3, hr⟩

theorem add_pos (q : Addr) (j : Nat) (h : j ≠ 0) : q.add j = ⟨q.block, q.off + j, none⟩ := by unfold Addr.add; simp [h]

theorem puts_cell {v : Value} {fuel : Nat} {x : DataW H × List MemPlace} (hf : DataW.trod enc Try.prog W 0 (fun _ => true) true fuel 40 [v] = some x) :
    ∃ A l n c, v = .slice A n c ∧ (l : List PutV).length = n ∧ Puts W W.heap.size A l := by
  rcases Go.Deep.open_slice Try.underlying40 hf with ⟨hcs, hx⟩ | ⟨a, len, cap, m, n, D, Pl, hcs, _, hle, hmax, hm, hx, hcell⟩
  · simp at hcs
    subst hcs
    exact ⟨none, [], 0, 0, rfl, rfl, fun h => absurd rfl h⟩
  · simp at hcs
    subst hcs
    simp only [if_true] at hm
    have hce : Try.prog.cellsOf 96 = 3 := by kernel_rfl
    have each : ∀ i, i < len → ∃ x : PutV, PutAt W (a.add (i * 3)) x := by
      intro i hi
      obtain ⟨cs', h1, h2⟩ := hcell i (by omega)
      rw [hce] at h1
      obtain ⟨_, hlen, hc⟩ := World.cells?_some h1
      have hfl := trod_flat 10 n 96 [3, 5, 3] cs' _ (by kernel_rfl) h2
      obtain ⟨z0, _, rfl, w0, hfl⟩ := hfl.int Try.underlying3
      obtain ⟨z1, _, rfl, w1, hfl⟩ := hfl.int Try.underlying5
      obtain ⟨z2, _, rfl, w2, hfl⟩ := hfl.int Try.underlying3
      obtain rfl := hfl.nil
      have b1 : 0 ≤ z1 ∧ z1 < 256 := by
        simp [Lit.wf, IntKind.min, IntKind.max, IntKind.signed, IntKind.bits] at w1
        omega
      have e0 := hc 0 (by omega)
      have e1 := hc 1 (by omega)
      have e2 := hc 2 (by omega)
      have hz0 : (a.add (i * 3)).add 0 = a.add (i * 3) := by simp [Addr.add]
      rw [hz0] at e0
      rw [add_pos _ _ (by omega)] at e1 e2
      refine ⟨⟨z0, z1.toNat, z2⟩, by simp; omega, by simpa using e0, ?_, by simpa using e2⟩
      have : ((z1.toNat : Nat) : Int) = z1 := by omega
      simp only [this]
      simpa using e1
    haveI : Inhabited PutV := ⟨⟨0, 0, 0⟩⟩
    obtain ⟨q, hq⟩ := Go.Deep.choose_lt each
    refine ⟨some a, (List.range len).map q, len, cap, rfl, by simp, fun hn => ⟨a, rfl, ?_, fun k hk => ?_⟩⟩
    · have h0 : 0 < len := by
        rcases Nat.eq_zero_or_pos len with h0 | h0
        · subst h0; exact absurd rfl hn
        · exact h0
      obtain ⟨_, hc0, _⟩ := hq 0 h0
      have := World.block_lt_of_cell? _ _ hc0
      rwa [add_block] at this
    · have hk : k < len := by simpa using hk
      simpa using hq k hk
theorem open_puts {base : Nat} {v : Value} {d : DataW H} {p : List MemPlace} (hv : Value.okWide Try.prog W .any base 40 v) (h : DataW.Trod enc Try.prog W 0 (fun _ => true) true 40 v d p) :
    ∃ A a n c, v = .slice A n c ∧ (a : List PutV).length = n ∧ Puts W W.heap.size A a := by
  obtain ⟨A, len, cap, rfl⟩ := okWide_slice Try.underlying40 hv
  obtain ⟨fuel, hf⟩ := h
  exact puts_cell hf
theorem rows_cell {v : Value} {fuel : Nat} {x : DataW H × List MemPlace} (hf : DataW.trod enc Try.prog W 0 (fun _ => true) true fuel 22 [v] = some x) :
    ∃ A l n c, v = .slice A n c ∧ (l : List (List PutV)).length = n ∧ PutRows W W.heap.size A l := by
  rcases Go.Deep.open_slice Try.underlying22 hf with ⟨hcs, hx⟩ | ⟨a, len, cap, m, n, D, Pl, hcs, _, hle, hmax, hm, hx, hcell⟩
  · simp at hcs
    subst hcs
    exact ⟨none, [], 0, 0, rfl, rfl, fun h => absurd rfl h⟩
  · simp at hcs
    subst hcs
    simp only [if_true] at hm
    have hce : Try.prog.cellsOf 40 = 1 := by kernel_rfl
    have each : ∀ i, i < len → ∃ x : List PutV, ∃ B c, W.cell? (a.add i) = some (.slice B x.length c) ∧ Puts W W.heap.size B x := by
      intro i hi
      obtain ⟨cs', h1, h2⟩ := hcell i (by omega)
      rw [hce] at h1
      obtain ⟨_, hlen, hc⟩ := World.cells?_some h1
      have e0 := hc 0 (by omega)
      have hz0 : (a.add (i * 1)).add 0 = a.add i := by simp [Addr.add]
      rw [hz0] at e0
      match cs', hlen with
      | [u], _ =>
        obtain ⟨B, l, k, c, rfl, hl, hp⟩ := puts_cell h2
        subst hl
        exact ⟨l, B, c, by simpa using e0, hp⟩
    haveI : Inhabited (List PutV) := ⟨[]⟩
    obtain ⟨q, hq⟩ := Go.Deep.choose_lt each
    refine ⟨some a, (List.range len).map q, len, cap, rfl, by simp, fun hn => ⟨a, rfl, ?_, fun k hk => ?_⟩⟩
    · have h0 : 0 < len := by
        rcases Nat.eq_zero_or_pos len with h0 | h0
        · subst h0; exact absurd rfl hn
        · exact h0
      obtain ⟨_, _, hc0, _⟩ := hq 0 h0
      have := World.block_lt_of_cell? _ _ hc0
      rwa [add_block] at this
    · have hk : k < len := by simpa using hk
      simpa using hq k hk
theorem open_rows {base : Nat} {v : Value} {d : DataW H} {p : List MemPlace} (hv : Value.okWide Try.prog W .any base 22 v) (h : DataW.Trod enc Try.prog W 0 (fun _ => true) true 22 v d p) :
    ∃ A a n c, v = .slice A n c ∧ (a : List (List PutV)).length = n ∧ PutRows W W.heap.size A a := by
  obtain ⟨A, len, cap, rfl⟩ := okWide_slice Try.underlying22 hv
  obtain ⟨fuel, hf⟩ := h
  exact rows_cell hf
theorem Cells.rows {l : List TypeId} {cs : List Value} (h : Cells enc Try.prog W 0 (fun _ => true) true (22 :: l) cs) :
    ∃ A a n c r, cs = .slice A n c :: r ∧ (a : List (List PutV)).length = n ∧ PutRows W W.heap.size A a ∧ Cells enc Try.prog W 0 (fun _ => true) true l r := by
  obtain ⟨v, r, rfl, ⟨n, y, hy⟩, hr⟩ := h.cons
  obtain ⟨A, a, n, c, rfl, h1, h2⟩ := rows_cell hy
  exact ⟨A, a, n, c, r, rfl, h1, h2, hr⟩
end
end Go.Proofs.Ytpomfokpmbblkaa
