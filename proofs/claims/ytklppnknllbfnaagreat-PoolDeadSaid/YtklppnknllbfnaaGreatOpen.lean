/- A []Act among a law's arguments, opened. -/
import Derived.Test.YtklppnknllbfnaaGreatC6
import Derived.Test.YtklppnknllbfnaaGreatLaw
import Derived.Test.YtklppnknllbfnaaGreatFlat
import Derived.Deep.SlicePairs
import Derived.ChangeSlices
namespace Go.Proofs.YtklppnknllbfnaaGreat
open Go.ChangeShapes Go.WideShapes Go.ChangeAt Go.RowKit Go.Joins
set_option maxRecDepth 20000
section
variable {H : Type} {enc : TypeId × Value → H} {W : World}
theorem add_pos (q : Addr) (j : Nat) (h : j ≠ 0) : q.add j = ⟨q.block, q.off + j, none⟩ := by unfold Addr.add; simp [h]
theorem acts_cell {v : Value} {fuel : Nat} {x : DataW H × List MemPlace} (hf : DataW.trod enc Tryz.prog W 0 (fun _ => true) true fuel 36 [v] = some x) :
    ∃ A l n c, v = .slice A n c ∧ (l : List ActP).length = n ∧ Acts W W.heap.size A l := by
  rcases Go.Deep.open_slice Tryz.underlying36 hf with ⟨hcs, hx⟩ | ⟨a, len, cap, m, n, D, Pl, hcs, _, hle, hmax, hm, hx, hcell⟩
  · simp at hcs
    subst hcs
    exact ⟨none, [], 0, 0, rfl, rfl, fun h => absurd rfl h⟩
  · simp at hcs
    subst hcs
    simp only [if_true] at hm
    have hce : Tryz.prog.cellsOf 39 = 4 := by kernel_rfl
    have each : ∀ i, i < len → ∃ x : ActP, ActAt W (a.add (i * 4)) x := by
      intro i hi
      obtain ⟨cs', h1, h2⟩ := hcell i (by omega)
      rw [hce] at h1
      obtain ⟨_, hlen, hc⟩ := World.cells?_some h1
      have hfl := trod_flat 10 n 39 [3, 3, 3, 5] cs' _ (by kernel_rfl) h2
      obtain ⟨z0, _, rfl, w0, hfl⟩ := hfl.int Tryz.underlying3
      obtain ⟨z1, _, rfl, w1, hfl⟩ := hfl.int Tryz.underlying3
      obtain ⟨z2, _, rfl, w2, hfl⟩ := hfl.int Tryz.underlying3
      obtain ⟨z3, _, rfl, w3, hfl⟩ := hfl.int Tryz.underlying5
      obtain rfl := hfl.nil
      have b3 : 0 ≤ z3 ∧ z3 < 256 := by
        simp [Lit.wf, IntKind.min, IntKind.max, IntKind.signed, IntKind.bits] at w3
        omega
      have e0 := hc 0 (by omega)
      have e1 := hc 1 (by omega)
      have e2 := hc 2 (by omega)
      have e3 := hc 3 (by omega)
      have hz0 : (a.add (i * 4)).add 0 = a.add (i * 4) := by simp [Addr.add]
      rw [hz0] at e0
      refine ⟨⟨z0, z1, z2, z3.toNat⟩, by simp; omega, by simpa using e0, by simpa using e1, by simpa using e2, ?_⟩
      have : ((z3.toNat : Nat) : Int) = z3 := by omega
      simp only [this]
      simpa using e3
    haveI : Inhabited ActP := ⟨⟨0, 0, 0, 0⟩⟩
    obtain ⟨q, hq⟩ := Go.Deep.choose_lt each
    refine ⟨some a, (List.range len).map q, len, cap, rfl, by simp, fun hn => ⟨a, rfl, ?_, fun k hk => ?_⟩⟩
    · have h0 : 0 < len := by
        rcases Nat.eq_zero_or_pos len with h0 | h0
        · subst h0; exact absurd rfl hn
        · exact h0
      obtain ⟨_, hc0, _⟩ := hq 0 h0
      have := World.block_lt_of_cell? _ _ hc0
      rwa [add_block] at this
    · have hk : k < len := by simpa using hk
      simpa using hq k hk
theorem Cells.acts {l : List TypeId} {cs : List Value} (h : Cells enc Tryz.prog W 0 (fun _ => true) true (36 :: l) cs) :
    ∃ A a n c r, cs = .slice A n c :: r ∧ (a : List ActP).length = n ∧ Acts W W.heap.size A a ∧ Cells enc Tryz.prog W 0 (fun _ => true) true l r := by
  obtain ⟨v, r, rfl, ⟨n, y, hy⟩, hr⟩ := h.cons
  obtain ⟨A, a, n, c, rfl, h1, h2⟩ := acts_cell hy
  exact ⟨A, a, n, c, r, rfl, h1, h2, hr⟩
theorem open_acts {base : Nat} {v : Value} {d : DataW H} {p : List MemPlace} (hv : Value.okWide Tryz.prog W .any base 36 v) (h : DataW.Trod enc Tryz.prog W 0 (fun _ => true) true 36 v d p) :
    ∃ A a n c, v = .slice A n c ∧ (a : List ActP).length = n ∧ Acts W W.heap.size A a := by
  obtain ⟨A, len, cap, rfl⟩ := okWide_slice Tryz.underlying36 hv
  obtain ⟨fuel, hf⟩ := h
  exact acts_cell hf
end
end Go.Proofs.YtklppnknllbfnaaGreat
