/- Walks: a row of strings of the call's own; a copy into a row of bytes. -/
import Derived.Test.YtipijjlajhofkaaTorns
import Derived.Test.YtipijjlajhofkaaW19
import Derived.Laws.IdiomCopy
namespace Go.Proofs.Ytipijjlajhofkaa
open Go.RowKit

def Strs (w : World) (base : Nat) (v : Value) (ss : List ByteArray) : Prop := w.ownsRow base 9 1 v ss.length (ss.map Value.string)
theorem str_row : (Try.prog.info? 9).map (fun i => (i.zero, i.size, i.bytes)) = some (some (.string ⟨#[]⟩), 1, 16) := by kernel_rfl

section
variable {w w' : World} {base : Nat} {v : Value} {ss : List ByteArray}
theorem Strs.none_ (w : World) (base : Nat) : Strs w base (.slice none 0 0) [] := World.ownsRow_nil w base 9 1
theorem Strs.alloc (h : Strs w base v ss) (o : Obj) : Strs (w.alloc o) base v ss := World.ownsRow.alloc h o
theorem Strs.low (h : Strs w base v ss) : ∀ k, v.ownBlock = some k → base ≤ k := fun k e => (World.ownsRow.lt h k e).1
theorem Strs.keep (h : Strs w base v ss) {row : Option Nat} (hg : w.grownBy w' row) (hr : v.ownBlock = none ∨ v.ownBlock ≠ row) : Strs w' base v ss := World.ownsRow.kept h hg hr
theorem Strs.below (h : Strs w base v ss) (hb : Below w.heap.size w w') : Strs w' base v ss :=
  h.keep (row := none) ⟨hb.os, hb.tape, hb.output, hb.size, fun k hk _ => hb.block k hk⟩ (by cases v.ownBlock <;> simp)
theorem Strs.form (h : Strs w base v ss) : ∃ A c, v = .slice A ss.length c ∧ (0 < ss.length → ∃ p, A = some p ∧ ∀ k (hk : k < ss.length), w.cell? (p.add k) = some (.string ss[k])) := by
  rcases h.2 with ⟨rfl, h0⟩ | ⟨g, cap, cur, rfl, hb, hg, hc⟩
  · exact ⟨none, 0, by rw [h0], fun h => by omega⟩
  · refine ⟨_, _, rfl, fun _ => ⟨_, rfl, fun k hk => World.ownsRow.cells h (g := g) rfl k _ (by simp [List.getElem?_eq_getElem hk])⟩⟩

/-- 'append(whole, s)'. -/
theorem run_strs (ty : TypeId) (h : Strs w base v ss) (s : ByteArray) (hbase : base ≤ w.heap.size) (hn : ss.length ≤ 1000) :
    ∃ v' w', (Builtin.append_ #[42, 42] ty #[v, .slice (some ⟨w.heap.size, 0, none⟩) 1 1]).run Try.prog (w.alloc (.cells #[.string s] 9)) = .ok v' w' ∧ Strs w' base v' (ss ++ [s]) ∧ Below base w w' := by
  obtain ⟨i, hi, hz, hs, hby⟩ := info_parts str_row
  have hs2 : base ≤ (w.alloc (.cells #[.string s] 9)).heap.size := by simp; omega
  obtain ⟨v', w', hrun, h2, h3, _, _⟩ := run_append_own_at (P := Try.prog) (w.alloc (.cells #[.string s] 9)) base 42 ty 9 i _ 1 16 Try.underlying42 hi hz hs hby rfl (by omega) v ss.length (ss.map Value.string) (h.alloc _) ⟨w.heap.size, 0, none⟩ 1 1 [.string s] (by simp)
      (fun j u hu => by
        cases j with
        | zero => simp at hu; subst hu; exact (Blk.new w _ _).cell 0
        | succ j => simp at hu) (by simp [Value.oneCell']) (by simp only [maxLen]; omega) (by omega) hs2
  refine ⟨v', w', hrun, ?_, ((Below.refl base w).alloc hbase _).trans ((Below.refl base _).grown h3 hs2 h.low)⟩
  have e : (ss ++ [s]).map Value.string = ss.map Value.string ++ [.string s] := by simp
  unfold Strs
  rw [e, List.length_append]; exact h2
end

/-- A row that lies under B is kept where all below B is kept. -/
theorem Own.under {w w' : World} {base B g n c : Nat} {l : List Nat} (h : Own w base (.slice (some ⟨g, 0, none⟩) n c) l) (hg : g < B) (hb : Below B w w') : Own w' base (.slice (some ⟨g, 0, none⟩) n c) l := by
  refine ⟨h.1, h.2.1, ?_⟩
  rcases h.2.2 with ⟨e, _⟩ | ⟨g', cap, cur, e, h1, h2, h3⟩
  · cases e
  · refine .inr ⟨g', cap, cur, e, h1, ?_, h3⟩
    simp only [Value.slice.injEq, Option.some.injEq, Addr.mk.injEq] at e
    rw [hb.block g' (by omega)]
    exact h2

theorem Own.len {w : World} {base g n c : Nat} {l : List Nat} (h : Own w base (.slice (some ⟨g, 0, none⟩) n c) l) : l.length = n := by
  rcases h.2.2 with ⟨e, _⟩ | ⟨_, _, _, e, _⟩
  · cases e
  · simp only [Value.slice.injEq] at e
    exact e.2.1.symm
theorem Own.row {w : World} {base g n c : Nat} {l : List Nat} (h : Own w base (.slice (some ⟨g, 0, none⟩) n c) l) : w.ownsRow base 5 1 (.slice (some ⟨g, 0, none⟩) n c) n (cells l) := by
  have := h.2
  rw [h.len] at this
  exact this

theorem Own.stores {base g n c : Nat} : ∀ (xs : List Nat) (o : Nat) (l : List Nat) (w : World), Own w base (.slice (some ⟨g, 0, none⟩) n c) l → (∀ b ∈ xs, b < 256) → o + xs.length ≤ l.length →
    Own (w.setCells g o (cells xs)) base (.slice (some ⟨g, 0, none⟩) n c) (l.take o ++ xs ++ l.drop (o + xs.length)) ∧ w.grownBy (w.setCells g o (cells xs)) (some g)
  | [], o, l, w, h, _, _ => ⟨by simpa [cells, World.setCells] using h, ⟨rfl, rfl, rfl, Nat.le_refl _, fun _ _ _ => rfl⟩⟩
  | x :: xs, o, l, w, h, hx, hl => by
    have hx0 := hx x (by simp)
    have ea : (⟨g, 0, none⟩ : Addr).add o = ⟨g, o, none⟩ := by
      unfold Addr.add
      by_cases hk : o = 0 <;> simp [hk]
    have h1 := h.store o x hx0
    rw [ea] at h1
    have hlen : o + 1 + xs.length ≤ (l.set o x).length := by simp at hl; rw [List.length_set]; omega
    have ih := Own.stores xs (o + 1) (l.set o x) _ h1.1 (fun b hb => hx b (by simp [hb])) hlen
    have ho : o < l.length := by simp at hl; omega
    have e1 : (l.set o x).take (o + 1) = l.take o ++ [x] := by
      rw [List.take_add_one, List.take_set, List.set_eq_of_length_le (by simp; omega), List.getElem?_set_self ho]; rfl
    have e2 : (l.set o x).drop (o + 1 + xs.length) = l.drop (o + (x :: xs).length) := by
      rw [set_drop (by omega), List.length_cons]; congr 1; omega
    have e3 : w.setCells g o (cells (x :: xs)) = (w.setCell ⟨g, o, none⟩ (.int .u8 (x : Int))).setCells g (o + 1) (cells xs) := rfl
    rw [e1, e2] at ih
    rw [e3]
    refine ⟨by simpa using ih.1, ?_⟩
    have hs := (h.row.stored o (.int .u8 (x : Int))).2
    have ih2 := ih.2
    exact ⟨ih2.os.trans hs.os, ih2.tape.trans hs.tape, ih2.output.trans hs.output, Nat.le_trans hs.size ih2.size, fun k hk hne => (ih2.block k (Nat.lt_of_lt_of_le hk hs.size) hne).trans (hs.block k hk hne)⟩

/-- 'copy(now, s)'. -/
theorem run_copyto {w : World} {base g n c : Nat} {l : List Nat} (ty : TypeId) (h : Own w base (.slice (some ⟨g, 0, none⟩) n c) l) (hl : l.length = n) (L : Nat) (p : Addr) (s : List Nat) (k c' : Nat) (hr : Rd w L (some p) s) (hk : s.length = k) (hkn : k ≤ n) :
    (Builtin.copy_ #[22, 22] ty #[.slice (some ⟨g, 0, none⟩) n c, .slice (some p) k c']).run Try.prog w = .ok (.int .i64 k) (w.setCells g 0 (cells s)) ∧
      Own (w.setCells g 0 (cells s)) base (.slice (some ⟨g, 0, none⟩) n c) (s ++ l.drop k) ∧ w.grownBy (w.setCells g 0 (cells s)) (some g) := by
  obtain ⟨i, hi, hz, hs, hby⟩ := info_parts u8_row
  have hmin : Nat.min k n = k := Nat.min_eq_left hkn
  have hrun := run_copy_cells (P := Try.prog) w 22 22 ty 5 g 0 n c p k c' (cells s) Try.underlying22 (by rw [hi]; simp [hs]) (by rw [hmin, cells_length, hk])
    (fun j v hv => by
      rcases Nat.lt_or_ge j s.length with hj | hj
      · rw [cells_get hj] at hv
        obtain ⟨q, e, _, hc, _⟩ := hr.get hj
        cases e
        rw [hc]; exact hv
      · rw [List.getElem?_eq_none (by simpa using hj)] at hv; cases hv)
    (fun j hj => by
      have hj' : j < l.length := by simp at hj; omega
      rw [Nat.zero_add, h.row.cellAt j (by omega), cells_get hj']; rfl)
    (fun j hj => h.row.frozenAt _) (one_cells s)
  have ho := h.stores s 0 l w hr.1 (by omega)
  refine ⟨by rw [hrun, cells_length, hk]; rfl, by simpa [hk] using ho.1, ho.2⟩

/-- 'make([]byte, n)'. -/
theorem run_makeN {w : World} (base n : Nat) (hbase : base ≤ w.heap.size) (hn : n ≤ 1000000) :
    ∃ w', (Instr.makeSlice 22 (.int .i64 (n : Int)) (.int .i64 (n : Int))).run Try.prog w = .ok (.slice (some ⟨w.heap.size, 0, none⟩) n n) w' ∧ Own w' base (.slice (some ⟨w.heap.size, 0, none⟩) n n) (List.replicate n 0) ∧ w.grownBy w' none := by
  obtain ⟨i, hi, hz, hs, hby⟩ := info_parts u8_row
  obtain ⟨w', hr, ho, hg⟩ := run_make_full (P := Try.prog) w base 22 5 i _ 1 Try.underlying22 hi hz hs .i64 .i64 n (by rw [hby]; omega) (by simp only [maxLen]; omega) hbase
  refine ⟨w', hr, ⟨by simp, ?_⟩, hg⟩
  have e : (madeCells (Value.int .u8 0).cells (n * 1)).toList = cells (List.replicate n 0) := by
    have := toList_madeCells_one (.int .u8 0) n
    rw [Nat.mul_one]
    rw [show (Value.int .u8 0).cells = #[.int .u8 0] from rfl, this]
    simp [cells]
  rw [e] at ho
  rw [List.length_replicate]
  exact ho

end Go.Proofs.Ytipijjlajhofkaa
