/- Walks: a slice that reads as bytes; a row of bytes of the call's own; what 'append', 'make', a store make of it; bytes as a string. -/
import Derived.Test.YtfmdmfiljplkoaaGreatRows
import Derived.Test.YtfmdmfiljplkoaaGreatAid
import Derived.LoopTactic
import Derived.Laws.BitsAll
import Derived.Maps.AppendAt
import Derived.Laws.OwnMore
import Derived.Deep.AppendLies
import Derived.OwnWalk
import Derived.Lib.AppendZerosOnto
import Derived.Laws.IdiomStrings
import Derived.Lib.BufferRead
import Derived.Laws.IdiomCopy
namespace Go.Proofs.YtfmdmfiljplkoaaGreat
open Go.RowKit
/-- From A on (nil where nothing is read) the world holds these bytes, below block L. -/
def Rd (w : World) (L : Nat) (A : Option Addr) (l : List Nat) : Prop :=
  (∀ b ∈ l, b < 256) ∧ (l ≠ [] → ∃ p, A = some p ∧ p.block < L ∧ ∀ k (h : k < l.length), w.cell? (p.add k) = some (.int .u8 ((l[k] : Nat) : Int)))
theorem add_block (p : Addr) (n : Nat) : (p.add n).block = p.block := by unfold Addr.add; split <;> rfl
theorem Rd.get {w : World} {L : Nat} {A : Option Addr} {l : List Nat} (h : Rd w L A l) {k : Nat} (hk : k < l.length) : ∃ p, A = some p ∧ p.block < L ∧ w.cell? (p.add k) = some (.int .u8 ((l[k] : Nat) : Int)) ∧ l[k] < 256 := by
  obtain ⟨p, e, hp, hc⟩ := h.2 (by intro e; rw [e] at hk; simp at hk)
  exact ⟨p, e, hp, hc k hk, h.1 _ (List.getElem_mem hk)⟩
theorem Rd.below {w w' : World} {L L' : Nat} {A : Option Addr} {l : List Nat} (h : Rd w L A l) (hb : Below L w w') (hl : L ≤ L') : Rd w' L' A l :=
  ⟨h.1, fun hn => by
    obtain ⟨p, e, hp, hc⟩ := h.2 hn
    exact ⟨p, e, by omega, fun k hk => (hb.cell (p := p.add k) (by rw [add_block]; exact hp)).trans (hc k hk)⟩⟩
/-- Bytes as cells. -/
def cells (l : List Nat) : List Value := l.map fun b => .int .u8 ((b : Nat) : Int)
@[simp] theorem cells_length (l : List Nat) : (cells l).length = l.length := by simp [cells]
theorem cells_append (l m : List Nat) : cells (l ++ m) = cells l ++ cells m := by simp [cells]
theorem cells_get {l : List Nat} {k : Nat} (h : k < l.length) : (cells l)[k]? = some (.int .u8 ((l[k] : Nat) : Int)) := by simp [cells, List.getElem?_eq_getElem h]
/-- The slice v is a row of the call's own (its blocks are those from 'base' on) and holds these bytes. -/
def Own (w : World) (base : Nat) (v : Value) (l : List Nat) : Prop := (∀ b ∈ l, b < 256) ∧ w.ownsRow base 5 1 v l.length (cells l)
section
variable {w w' : World} {base : Nat} {v : Value} {l : List Nat}
theorem Own.none_ (w : World) (base : Nat) : Own w base (.slice none 0 0) [] := ⟨by simp, World.ownsRow_nil w base 5 1⟩
theorem Own.form (h : Own w base v l) : ∃ A c, v = .slice A l.length c ∧ Rd w w.heap.size A l := by
  rcases h.2.2 with ⟨rfl, h0⟩ | ⟨g, cap, cur, rfl, hb, hg, hc⟩
  · refine ⟨none, 0, by rw [h0], h.1, fun hn => absurd (List.eq_nil_of_length_eq_zero h0) hn⟩
  · refine ⟨_, _, rfl, h.1, fun _ => ⟨_, rfl, lt_of_block hg, fun k hk => ?_⟩⟩
    exact h.2.cells (g := g) rfl k _ (cells_get hk)
theorem Own.alloc (h : Own w base v l) (o : Obj) : Own (w.alloc o) base v l := ⟨h.1, h.2.alloc o⟩
theorem Own.low (h : Own w base v l) : ∀ k, v.ownBlock = some k → base ≤ k := fun k e => (h.2.lt k e).1
end
theorem u8_row : (Tryz.prog.info? 5).map (fun i => (i.zero, i.size, i.bytes)) = some (some (.int .u8 0), 1, 1) := by kernel_rfl
theorem one_cells (l : List Nat) : ∀ u ∈ cells l, u.oneCell' = true := by
  intro u hu
  simp only [cells, List.mem_map] at hu
  obtain ⟨b, _, rfl⟩ := hu
  rfl
/-- 'append' of bytes that are read somewhere, onto a row of the call's own. -/
theorem run_app {w : World} {base : Nat} {v : Value} {l : List Nat} (ty : TypeId) (h : Own w base v l) (L : Nat) (A : Option Addr) (c : Nat) (s : List Nat) (hr : Rd w L A s) (hbase : base ≤ w.heap.size) (hn : l.length + s.length ≤ 1000000) :
    ∃ v' w', (Builtin.append_ #[108, 108] ty #[v, .slice A s.length c]).run Tryz.prog w = .ok v' w' ∧ Own w' base v' (l ++ s) ∧ Below base w w' := by
  obtain ⟨i, hi, hz, hs, hby⟩ := info_parts u8_row
  have hm : ∀ b ∈ l ++ s, b < 256 := by
    intro b hb
    rcases List.mem_append.1 hb with hb | hb
    · exact h.1 b hb
    · exact hr.1 b hb
  cases s with
  | nil =>
    refine ⟨v, w, ?_, by simpa using h, Below.refl _ _⟩
    rcases h.2.2 with ⟨rfl, _⟩ | ⟨g, cap, cur, rfl, _, _, hnc, _⟩
    · simp [Builtin.append_, run_underlying Tryz.underlying108, sizeOf, typeInfo, hi, Builtin.lenOf, Builtin.firstCells]
      cases A <;> simp [loadCells, loadCellsFrom]
    · simp [Builtin.append_, run_underlying Tryz.underlying108, sizeOf, typeInfo, hi, Builtin.lenOf, Builtin.firstCells, hnc]
      cases A <;> simp [loadCells, loadCellsFrom, storeCells]
  | cons b s =>
    obtain ⟨p, rfl, _, hc⟩ := hr.2 (by simp)
    obtain ⟨v', w', hrun, h2, h3, _, _⟩ := run_append_own_at (P := Tryz.prog) w base 108 ty 5 i _ 1 1 Tryz.underlying108 hi hz hs hby rfl (by omega) v l.length (cells l) h.2 p (b :: s).length c (cells (b :: s)) (by simp)
      (fun j u hu => by
        rcases Nat.lt_or_ge j (b :: s).length with hj | hj
        · rw [cells_get hj] at hu
          rw [← hu]; exact hc j hj
        · rw [List.getElem?_eq_none (by simpa using hj)] at hu; cases hu) (one_cells _) (by simp only [maxLen]; omega) (by omega) hbase
    refine ⟨v', w', hrun, ⟨hm, ?_⟩, (Below.refl base w).grown h3 hbase h.low⟩
    rw [List.length_append, cells_append]; exact h2
theorem Own.cap {w : World} {base : Nat} {A : Option Addr} {n c : Nat} {l : List Nat} (h : Own w base (.slice A n c) l) : l.length ≤ c := by
  rcases h.2.2 with ⟨e, h0⟩ | ⟨g, cap, cur, e, _, _, hnc, _⟩
  · omega
  · injection e with e1 e2 e3
    omega
theorem Rd.take_ {w : World} {L : Nat} {A : Option Addr} {l : List Nat} (h : Rd w L A l) (k : Nat) : Rd w L A (l.take k) := by
  refine ⟨fun b hb => h.1 b (List.mem_of_mem_take hb), fun hn => ?_⟩
  obtain ⟨p, e, hp, hc⟩ := h.2 (by intro e; rw [e] at hn; simp at hn)
  refine ⟨p, e, hp, fun j hj => ?_⟩
  have hj' : j < l.length := by simp at hj; omega
  rw [hc j hj', List.getElem_take]
theorem Rd.drop_ {w : World} {L : Nat} {p : Addr} {l : List Nat} (h : Rd w L (some p) l) (k : Nat) : Rd w L (some (p.add k)) (l.drop k) := by
  refine ⟨fun b hb => h.1 b (List.mem_of_mem_drop hb), fun hn => ?_⟩
  obtain ⟨q, e, hp, hc⟩ := h.2 (by intro e; rw [e] at hn; simp at hn)
  cases e
  refine ⟨_, rfl, by rw [add_block]; exact hp, fun j hj => ?_⟩
  have hj' : k + j < l.length := by simp at hj; omega
  have e : (p.add k).add j = p.add (k + j) := by
    unfold Addr.add
    by_cases hi : k = 0 <;> by_cases hj : j = 0 <;> simp [hi, hj, Nat.add_assoc]
  rw [e, hc (k + j) hj', List.getElem_drop]
theorem Rd.drewN {w : World} {L : Nat} {A : Option Addr} {l : List Nat} (h : Rd w L A l) (k : Nat) : Rd (w.drewN k) L A l := h
/-- 'append([]byte{}, b...)'. -/
theorem run_copy {w : World} {A : Option Addr} {l : List Nat} (c : Nat) (hr : Rd w w.heap.size A l) (hn : l.length ≤ 900000) :
    ∃ v' w', (Builtin.append_ #[108, 108] 108 #[.slice (some ⟨w.heap.size, 0, none⟩) 0 0, .slice A l.length c]).run Tryz.prog (w.alloc (.cells #[] 5)) = .ok v' w' ∧ Own w' w.heap.size v' l ∧ Below w.heap.size w w' := by
  have ho : Own (w.alloc (.cells #[] 5)) w.heap.size (.slice (some ⟨w.heap.size, 0, none⟩) 0 0) [] :=
    ⟨by simp, by simp [cells], .inr ⟨w.heap.size, 0, #[], rfl, Nat.le_refl _, by show (w.heap.push _)[w.heap.size]? = _; simp, Nat.le_refl _, by simp [maxLen], by simp, by simp [cells]⟩⟩
  have hb : Below w.heap.size w (w.alloc (.cells #[] 5)) := (Below.refl _ w).alloc (Nat.le_refl _) _
  obtain ⟨v', w', hrun, h1, h2⟩ := run_app 108 ho w.heap.size A c l (hr.below hb (Nat.le_refl _)) hb.size (by simp; omega)
  exact ⟨v', w', hrun, by simpa using h1, hb.trans h2⟩
/-- Bytes as a string. -/
def str (l : List Nat) : ByteArray := ⟨(l.map UInt8.ofNat).toArray⟩
/-- 'make([]byte, n)'. -/
theorem run_makeN {w : World} (base n : Nat) (hbase : base ≤ w.heap.size) (hn : n ≤ 1000000) :
    ∃ w', (Instr.makeSlice 108 (.int .i64 (n : Int)) (.int .i64 (n : Int))).run Tryz.prog w = .ok (.slice (some ⟨w.heap.size, 0, none⟩) n n) w' ∧ Own w' base (.slice (some ⟨w.heap.size, 0, none⟩) n n) (List.replicate n 0) ∧ w.grownBy w' none := by
  obtain ⟨i, hi, hz, hs, hby⟩ := info_parts u8_row
  obtain ⟨w', hr, ho, hg⟩ := run_make_full (P := Tryz.prog) w base 108 5 i _ 1 Tryz.underlying108 hi hz hs .i64 .i64 n (by rw [hby]; omega) (by simp only [maxLen]; omega) hbase
  refine ⟨w', hr, ⟨by simp, ?_⟩, hg⟩
  have e : (madeCells (Value.int .u8 0).cells (n * 1)).toList = cells (List.replicate n 0) := by
    have := toList_madeCells_one (.int .u8 0) n
    rw [Nat.mul_one]
    rw [show (Value.int .u8 0).cells = #[.int .u8 0] from rfl, this]
    simp [cells]
  rw [e] at ho
  rw [List.length_replicate]
  exact ho
theorem Own.at_ {w : World} {base : Nat} {v : Value} {l : List Nat} (h : Own w base v l) (n : Nat) (hn : l.length = n) (h0 : 0 < n) : ∃ p c, v = .slice (some p) n c ∧ p.block < w.heap.size ∧ ∀ k (b : Nat), l[k]? = some b → w.cell? (p.add k) = some (.int .u8 (b : Int)) := by
  obtain ⟨A, c, rfl, hr⟩ := h.form
  subst hn
  obtain ⟨p, rfl, hp, hc⟩ := hr.2 (by intro e; rw [e] at h0; simp at h0)
  refine ⟨p, c, rfl, hp, fun k b hb => ?_⟩
  obtain ⟨hk, rfl⟩ := List.getElem?_eq_some_iff.1 hb
  exact hc k hk
end Go.Proofs.YtfmdmfiljplkoaaGreat
