/- A []Act among a law's arguments, opened. -/
import Derived.Test.YtklppnknllbfnaaGreatC6
import Derived.Test.YtklppnknllbfnaaGreatLaw
import Derived.Test.YtklppnknllbfnaaGreatFlat
import Derived.Deep.SlicePairs
import Derived.ChangeSlices
namespace Go.Proofs.YtklppnknllbfnaaGreat
open Go.ChangeShapes Go.WideShapes Go.ChangeAt Go.RowKit Go.Joins
set_option maxRecDepth 20000
section
variable {H : Type} {enc : TypeId × Value → H} {W : World}
theorem acts_cell {v : Value} {fuel : Nat} {x : DataW H × List MemPlace} (hf : DataW.trod enc Tryz.prog W 0 (fun _ => true) true fuel 36 [v] = some x) :
  ∃ A l n c, v = .slice A n c ∧ (l : List ActP).length = n ∧ Acts W W.heap.size A l := by
 rcases Go.Deep.open_slice Tryz.underlying36 hf with ⟨hcs, hx⟩ | ⟨a, len, cap, m, n, D, Pl, hcs, _, hle, hmax, hm, hx, hcell⟩
 ·simp at hcs
  subst hcs
  exact ⟨none, [], 0, 0, rfl, rfl, fun h => absurd rfl h⟩
 ·simp at hcs
  subst hcs
  simp only [if_true] at hm
  have hce : Tryz.prog.cellsOf 39 = 4 := by kernel_rfl
  have each : ∀ i, i < len → ∃ x : ActP, ActAt W (a.add (i * 4)) x := by
   intro i hi
   obtain ⟨cs', h1, h2⟩ := hcell i (by omega)
   rw [hce] at h1
   obtain ⟨_, hlen, hc⟩ := World.cells?_some h1
   have hfl := trod_flat 10 n 39 [3, 3, 3, 5] cs' _ (by kernel_rfl) h2
   obtain ⟨z0, _, rfl, w0, hfl⟩ := hfl.int Tryz.underlying3
   obtain ⟨z1, _, rfl, w1, hfl⟩ := hfl.int Tryz.underlying3
   obtain ⟨z2, _, rfl, w2, hfl⟩ := hfl.int Tryz.underlying3
   obtain ⟨z3, _, rfl, w3, hfl⟩ := hfl.int Tryz.underlying5
   obtain rfl := hfl.nil
   have b3 : 0 ≤ z3 ∧ z3 < 256 := by
    simp [Lit.wf, IntKind.min, IntKind.max, IntKind.signed, IntKind.bits] at w3
    omega
   have e0 := hc 0 (by omega)
   have e1 := hc 1 (by omega)
   have e2 := hc 2 (by omega)
   have e3 := hc 3 (by omega)
   have hz0 : (a.add (i * 4)).add 0 = a.add (i * 4) := by simp [Addr.add]
   rw [hz0] at e0
   refine ⟨⟨z0, z1, z2, z3.toNat⟩, by simp; omega, by simpa using e0, by simpa using e1, by simpa using e2, ?_⟩
   have : ((z3.toNat : Nat) : Int) = z3 := by omega
   simp only [this]
   simpa using e3
  haveI : Inhabited ActP := ⟨⟨0, 0, 0, 0⟩⟩
  obtain ⟨q, hq⟩ := Go.Deep.choose_lt each
  refine ⟨some a, (List.range len).map q, len, cap, rfl, by simp, fun hn => ⟨a, rfl, ?_, fun k hk => ?_⟩⟩
  ·have h0 : 0 < len := by
    rcases Nat.eq_zero_or_pos len with h0 | h0
    ·subst h0; exact absurd rfl hn
    ·exact h0
   obtain ⟨_, hc0, _⟩ := hq 0 h0
   have := World.block_lt_of_cell? _ _ hc0
   rwa [add_block] at this
  ·have hk : k < len := by simpa using hk
   simpa using hq k hk
theorem Cells.acts {l : List TypeId} {cs : List Value} (h : Cells enc Tryz.prog W 0 (fun _ => true) true (36 :: l) cs) :
  ∃ A a n c r, cs = .slice A n c :: r ∧ (a : List ActP).length = n ∧ Acts W W.heap.size A a ∧ Cells enc Tryz.prog W 0 (fun _ => true) true l r := by
 obtain ⟨v, r, rfl, ⟨n, y, hy⟩, hr⟩ := h.cons
 obtain ⟨A, a, n, c, rfl, h1, h2⟩ := acts_cell hy
 exact ⟨A, a, n, c, r, rfl, h1, h2, hr⟩
theorem ints_cell {v : Value} {fuel : Nat} {x : DataW H × List MemPlace} (hf : DataW.trod enc Tryz.prog W 0 (fun _ => true) true fuel 43 [v] = some x) :
  ∃ A l c, v = .slice A (l : List Int).length c ∧ l.length ≤ c ∧ IRd W A l ∧ (l ≠ [] → ∀ p, A = some p → p.block < W.heap.size) := by
 have hc : Tryz.prog.cellsOf 3 = 1 := by kernel_rfl
 rcases open_ints Tryz.underlying43 Tryz.underlying3 hc hf with ⟨hcs, hx⟩ | ⟨a, len, cap, zs, hcs, _, hle, hmax, hall, hx, hcell, hwf⟩
 ·simp at hcs
  subst hcs
  exact ⟨none, [], 0, rfl, by simp, IRd.nil _ _, fun h => absurd rfl h⟩
 ·simp at hcs
  subst hcs
  simp only [if_true] at hall
  have hlen : (zs.take len).length = len := by simp; omega
  have hblk : zs.take len ≠ [] → a.block < W.heap.size := by
   intro hn
   have h0 : 0 < zs.length := by
    rcases Nat.eq_zero_or_pos zs.length with h0 | h0
    ·exact absurd (List.eq_nil_of_length_eq_zero (by rw [hlen]; omega)) hn
    ·exact h0
   have hc0 := hcell 0 h0
   have hz0 : a.add 0 = a := by simp [Addr.add]
   rw [hz0] at hc0
   exact World.block_lt_of_cell? _ _ hc0
  refine ⟨some a, zs.take len, cap, by rw [hlen], by rw [hlen]; omega, ⟨fun z hz => ?_, fun hn => ⟨a, rfl, hblk hn, fun k hk => ?_⟩⟩, fun hn p hp => by cases hp; exact hblk hn⟩
  ·have := hwf z (List.mem_of_mem_take hz)
   simp [Lit.wf, IntKind.min, IntKind.max, IntKind.signed, IntKind.bits] at this
   omega
  ·have hk' : k < zs.length := by rw [hlen] at hk; omega
   rw [hcell k hk']
   simp [List.getD, List.getElem?_eq_getElem hk']
theorem Cells.ints {l : List TypeId} {cs : List Value} (h : Cells enc Tryz.prog W 0 (fun _ => true) true (43 :: l) cs) :
  ∃ A f c r, cs = .slice A (f : List Int).length c :: r ∧ f.length ≤ c ∧ IRd W A f ∧ (f ≠ [] → ∀ p, A = some p → p.block < W.heap.size) ∧ Cells enc Tryz.prog W 0 (fun _ => true) true l r := by
 obtain ⟨v, r, rfl, ⟨n, y, hy⟩, hr⟩ := h.cons
 obtain ⟨A, b, c, rfl, h1, h2, h3⟩ := ints_cell hy
 exact ⟨A, b, c, r, rfl, h1, h2, h3, hr⟩
end
end Go.Proofs.YtklppnknllbfnaaGreat
