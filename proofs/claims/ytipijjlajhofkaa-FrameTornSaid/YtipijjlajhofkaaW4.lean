/- Walks: 'append' of so many zeros onto a row of the call's own; a made slice. -/
import Derived.Test.YtipijjlajhofkaaW3
namespace Go.Proofs.Ytipijjlajhofkaa
open Go.RowKit

theorem zeros_list (n : Nat) : (Builtin.zeroCells (Value.int .u8 0).cells n).toList = cells (List.replicate n 0) := by
  apply List.ext_getElem
  · simp [Builtin.zeroCells, Value.cells]
  · intro k h1 h2
    have : k % 1 = 0 := by omega
    simp [Builtin.zeroCells, cells, Value.cells, this]

theorem zeros_size (n : Nat) : (Builtin.zeroCells (Value.int .u8 0).cells n).size = n := by simp [Builtin.zeroCells, Value.cells]

theorem run_app0 {w : World} {base : Nat} {v : Value} {l : List Nat} (ty : TypeId) (h : Own w base v l) (k : Nat) (hbase : base ≤ w.heap.size) (hn : l.length + k ≤ 1000000) :
    ∃ v' w', (Builtin.append_ #[22, 3] ty #[v, .int .i64 k]).run Try.prog w = .ok v' w' ∧ Own w' base v' (l ++ List.replicate k 0) ∧ Below base w w' := by
  obtain ⟨i, hi, hz, hs, hby⟩ := info_parts u8_row
  have hm : ∀ b ∈ l ++ List.replicate k 0, b < 256 := by
    intro b hb
    rcases List.mem_append.1 hb with hb | hb
    · exact h.1 b hb
    · have := (List.mem_replicate.1 hb).2; omega
  have hlen : (cells (l ++ List.replicate k 0)).length = (l ++ List.replicate k 0).length * 1 := by simp
  have hlk : (l ++ List.replicate k 0).length = l.length + k := by simp
  have hgm : ∀ old, grownCap w (l.length + k) old 5 ≤ maxLen := fun old => grownCap_le_maxLen w _ old 5 (by simp only [maxLen]; omega)
  have hwrap : IntKind.i64.wrap (k : Int) = k := by rw [IntKind.wrap_i64]; omega
  have fresh : ∀ (old : Nat) (cs : Array Value), cs.toList = cells l ++ cells (List.replicate k 0) →
      Own (w.drew.alloc (.cells (cs ++ Builtin.zeroCells (Value.int .u8 0).cells (grownCap w (l.length + k) old 5 - (l.length + k))) 5)) base (.slice (some ⟨w.heap.size, 0, none⟩) (l.length + k) (grownCap w (l.length + k) old 5)) (l ++ List.replicate k 0) ∧
      Below base w (w.drew.alloc (.cells (cs ++ Builtin.zeroCells (Value.int .u8 0).cells (grownCap w (l.length + k) old 5 - (l.length + k))) 5)) := by
    intro old cs hcs
    have hge := grownCap_ge w (l.length + k) old 5
    have hsz : cs.size = l.length + k := by
      rw [← Array.length_toList, hcs]; simp
    refine ⟨⟨hm, hlen, .inr ⟨w.heap.size, _, _, by rw [hlk], hbase, heap_alloc_new w.drew _, by rw [hlk]; exact hge, hgm old, ?_, ?_⟩⟩, ((Below.refl base w).drew).alloc hbase _⟩
    · rw [Array.size_append, zeros_size, hsz]; omega
    · rw [Array.toList_append, hcs, hlk, ← cells_append]
      exact List.take_left' (by simp)
  rcases Nat.eq_zero_or_pos k with rfl | hk
  · refine ⟨v, w, ?_, by simpa using h, Below.refl _ _⟩
    have hw0 : IntKind.i64.wrap 0 = 0 := by decide
    rcases h.2.2 with ⟨rfl, h0⟩ | ⟨g, cap, cur, rfl, hbg, hg, hnc, hcm, hcs, htake⟩
    · simp [Builtin.append_, run_underlying Try.underlying22, run_underlying Try.underlying3, sizeOf, typeInfo, hi, hby, asInt, asIntOf, hw0]
    · simp [Builtin.append_, run_underlying Try.underlying22, run_underlying Try.underlying3, sizeOf, typeInfo, hi, hby, asInt, asIntOf, hw0, hnc, storeCells]
  rcases h.2.2 with ⟨rfl, h0⟩ | ⟨g, cap, cur, rfl, hbg, hg, hnc, hcm, hcs, htake⟩
  · have hl : l = [] := List.eq_nil_of_length_eq_zero h0
    subst hl
    have hr := Lib.run_append_nil_zeros (P := Try.prog) w 22 3 ty 5 i _ .i64 .i64 Try.underlying22 Try.underlying3 hi hz k hk (by omega) (by omega) (by rw [hby]; omega)
    have hf := fresh 0 (Builtin.zeroCells (Value.int .u8 0).cells k) (by rw [zeros_list]; simp [cells])
    simp only [List.length_nil, Nat.zero_add] at hf
    exact ⟨_, _, hr, hf.1, hf.2⟩
  · have hneg : ¬ ((k : Int) < 0) := by omega
    have h48i : ¬ (281474976710656 < (k : Int)) := by omega
    have hk0 : k ≠ 0 := by omega
    simp only [Nat.mul_one] at htake
    by_cases hroom : l.length + k ≤ cap
    · have hz0 : ∀ u ∈ cells (List.replicate k 0), u.oneCell' = true := one_cells _
      have hst := run_storeCells_at Try.prog g l.length 5 (cells (List.replicate k 0)) 0 cur w hg (by simp; omega) hz0
      simp only [Nat.add_zero] at hst
      refine ⟨.slice (some ⟨g, 0, none⟩) (l.length + k) cap, w.setRow g (cur.toList.take l.length ++ cells (List.replicate k 0) ++ cur.toList.drop (l.length + (cells (List.replicate k 0)).length)).toArray, ?_, ⟨hm, hlen, .inr ⟨g, cap, _, by rw [hlk], hbg, setRow_heap w g cur _ 5 _ hg, by rw [hlk]; exact hroom, hcm, ?_, ?_⟩⟩, ?_⟩
      · simp [Builtin.append_, run_underlying Try.underlying22, run_underlying Try.underlying3, sizeOf, typeInfo, zeroValue, hi, hs, hby, hz, asInt, asIntOf, hwrap, hneg, h48i, hk0, hroom, Addr.add_lit, zeros_list, hst]
      · simp; omega
      · rw [htake, hlk, ← cells_append, Nat.mul_one]
        simp
      · exact (Below.refl base w).grown (row := some g) ⟨rfl, rfl, rfl, by simp, fun j _ hj => setRow_other w g j _ (fun e => hj (by simp [e]))⟩ hbase (by intro j hj; cases hj; exact hbg)
    · have hcell : ∀ j u, (cells l)[j]? = some u → w.drew.cell? ((⟨g, 0, none⟩ : Addr).add j) = some u := fun j u hu => h.2.cells (g := g) rfl j u hu
      have hold := run_firstCells_some (P := Try.prog) w.drew i.size l.length ⟨g, 0, none⟩ l.length cap (cells l) (by simp [hs]) hcell
      have hr := Lib.run_append_grow_zeros (P := Try.prog) w 22 3 ty 5 i _ .i64 .i64 Try.underlying22 Try.underlying3 hi hz (some ⟨g, 0, none⟩) l.length cap (cells l) hold k hk (by omega) (by omega) (by omega) (by rw [hby]; omega) (by
        rw [hby]
        exact growslice_fits (by omega) (by omega))
      have hf := fresh cap ((cells l).toArray ++ Builtin.zeroCells (Value.int .u8 0).cells k) (by rw [Array.toList_append, zeros_list])
      exact ⟨_, _, hr, hf.1, hf.2⟩

/-- 'make([]byte, 0, c)'. -/
theorem run_make0 {w : World} (base c : Nat) (hbase : base ≤ w.heap.size) (hc : c ≤ 1000000) :
    ∃ v w', (Instr.makeSlice 22 (.int .i64 0) (.int .i64 (c : Int))).run Try.prog w = .ok v w' ∧ Own w' base v [] ∧ Below base w w' := by
  obtain ⟨i, hi, hz, hs, hby⟩ := info_parts u8_row
  obtain ⟨w', hr, ho, hg⟩ := run_make_own (P := Try.prog) w base 22 5 i _ 1 Try.underlying22 hi hz hs .i64 .i64 c (by rw [hby]; omega) (by simp only [maxLen]; omega) hbase
  exact ⟨_, w', hr, ⟨by simp, ho⟩, (Below.refl base w).grown hg hbase (by simp)⟩

end Go.Proofs.Ytipijjlajhofkaa
