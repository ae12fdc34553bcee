/- Walks: a row of words of the call's own; what 'append' makes of it. -/
import Derived.Test.YtmdmejfcknaokaaDoorW1
import Derived.Test.YtmdmejfcknaokaaDoorW4
import Derived.Test.YtmdmejfcknaokaaDoorMath2
import Derived.Maps.AppendAt
import Derived.Laws.OwnMore
import Derived.Deep.AppendLies
import Derived.OwnWalk
namespace Go.Proofs.YtmdmejfcknaokaaDoor
open Go.RowKit

def wrow (x : Wd) : List Value := [.string (str x.1), .int .i64 x.2.1, .int .i64 x.2.2]
/-- Words as cells. -/
def wcells (l : List Wd) : List Value := l.flatMap wrow
theorem wcells_length (l : List Wd) : (wcells l).length = l.length * 3 := by
  induction l with
  | nil => rfl
  | cons a l ih => simp [wcells, wrow] at *; omega
theorem wcells_append (l m : List Wd) : wcells (l ++ m) = wcells l ++ wcells m := by simp [wcells]
theorem wcells_cons (a : Wd) (l : List Wd) : wcells (a :: l) = .string (str a.1) :: .int .i64 a.2.1 :: .int .i64 a.2.2 :: wcells l := rfl
theorem wcells_get : ∀ {l : List Wd} {k : Nat} (h : k < l.length), (wcells l)[k * 3]? = some (.string (str l[k].1)) ∧ (wcells l)[k * 3 + 1]? = some (.int .i64 l[k].2.1) ∧ (wcells l)[k * 3 + 2]? = some (.int .i64 l[k].2.2)
  | a :: l, 0, _ => ⟨rfl, rfl, rfl⟩
  | a :: l, k + 1, h => by
    have := wcells_get (l := l) (k := k) (by simpa using h)
    rw [wcells_cons]
    have e : (k + 1) * 3 = k * 3 + 1 + 1 + 1 := by omega
    rw [e]
    simpa using this
theorem wone_cells (l : List Wd) : ∀ u ∈ wcells l, u.oneCell' = true := by
  intro u hu
  simp only [wcells, List.mem_flatMap, wrow] at hu
  obtain ⟨b, _, hb⟩ := hu
  simp at hb
  rcases hb with rfl | rfl | rfl <;> rfl

/-- A slice of words that can be read in a world. -/
def WsAt (w : World) (L : Nat) (A : Option Addr) (l : List Wd) : Prop :=
  l ≠ [] → ∃ p, A = some p ∧ p.block < L ∧ ∀ k (h : k < l.length), w.cell? (p.add (k * 3)) = some (.string (str l[k].1)) ∧ w.cell? ((p.add (k * 3)).add 1) = some (.int .i64 l[k].2.1) ∧ w.cell? ((p.add (k * 3)).add 2) = some (.int .i64 l[k].2.2)

/-- The slice v is a row of the call's own (its blocks are those from 'base' on) and holds these words. -/
def OwnW (et : TypeId) (w : World) (base : Nat) (v : Value) (l : List Wd) : Prop := w.ownsRow base et 3 v l.length (wcells l)

section
variable {et : TypeId} {w w' : World} {base : Nat} {v : Value} {l : List Wd}
theorem add_add (p : Addr) (j i : Nat) : (p.add j).add i = p.add (j + i) := by
  unfold Addr.add
  by_cases h1 : j = 0
  · subst h1; simp
  · by_cases h2 : i = 0
    · subst h2; simp
    · simp [h1, h2]; omega
theorem OwnW.none_ (et : TypeId) (w : World) (base : Nat) : OwnW et w base (.slice none 0 0) [] := World.ownsRow_nil w base et 3
theorem OwnW.form (h : OwnW et w base v l) : ∃ A c, v = .slice A l.length c ∧ WsAt w w.heap.size A l := by
  rcases h.2 with ⟨rfl, h0⟩ | ⟨g, cap, cur, rfl, hb, hg, hc⟩
  · refine ⟨none, 0, by rw [h0], fun hn => absurd (List.eq_nil_of_length_eq_zero h0) hn⟩
  · refine ⟨_, _, rfl, fun _ => ⟨_, rfl, lt_of_block hg, fun k hk => ?_⟩⟩
    have hk2 := wcells_get hk
    exact ⟨World.ownsRow.cells h (g := g) rfl (k * 3) _ hk2.1, by rw [add_add]; exact World.ownsRow.cells h (g := g) rfl (k * 3 + 1) _ hk2.2.1, by rw [add_add]; exact World.ownsRow.cells h (g := g) rfl (k * 3 + 2) _ hk2.2.2⟩
theorem OwnW.keep (h : OwnW et w base v l) {row : Option Nat} (hg : w.grownBy w' row) (hr : ∀ k, row = some k → w.heap.size ≤ k) : OwnW et w' base v l := by
  refine h.kept hg ?_
  cases e : v.ownBlock with
  | none => exact .inl rfl
  | some k =>
    right
    intro e'
    have := hr k e'.symm
    have := (World.ownsRow.lt h k e).2
    omega
theorem OwnW.alloc (h : OwnW et w base v l) (o : Obj) : OwnW et (w.alloc o) base v l := World.ownsRow.alloc h o
theorem OwnW.low (h : OwnW et w base v l) : ∀ k, v.ownBlock = some k → base ≤ k := fun k e => (World.ownsRow.lt h k e).1
theorem OwnW.below (h : OwnW et w base v l) (hb : Below w.heap.size w w') : OwnW et w' base v l :=
  h.keep (row := none) ⟨hb.os, hb.tape, hb.output, hb.size, fun k hk _ => hb.block k hk⟩ (by simp)
end
theorem WsAt.grew {w w' : World} {L : Nat} {A : Option Addr} {l : List Wd} (h : WsAt w L A l) (hb : Below L w w') : WsAt w' L A l := fun hn => by
  obtain ⟨p, rfl, hp, hc⟩ := h hn
  have e : ∀ k, (p.add k).block = p.block := fun k => by unfold Addr.add; split <;> rfl
  refine ⟨p, rfl, hp, fun k hk => ?_⟩
  obtain ⟨a, b, c⟩ := hc k hk
  exact ⟨(hb.cell (by rw [e]; exact hp)).trans a, (hb.cell (by rw [add_add, e]; exact hp)).trans b, (hb.cell (by rw [add_add, e]; exact hp)).trans c⟩
theorem WsAt.more {w : World} {L L' : Nat} {A : Option Addr} {l : List Wd} (h : WsAt w L A l) (hl : L ≤ L') : WsAt w L' A l := fun hn => by
  obtain ⟨p, e, hp, hc⟩ := h hn
  exact ⟨p, e, by omega, hc⟩

/-- A slice type of words. -/
structure WType (st et : TypeId) : Prop where
  und : Tryd.prog.underlying st = some (.slice et)
  info : (Tryd.prog.info? et).map (fun i => (i.zero, i.size, i.bytes)) = some (some (.agg #[.string ⟨#[]⟩, .int .i64 0, .int .i64 0]), 3, 32)
theorem words_type : WType 28 33 := ⟨by kernel_rfl, by kernel_rfl⟩
theorem refs_type : WType 30 46 := ⟨by kernel_rfl, by kernel_rfl⟩

/-- 'append' of a word that lies somewhere, onto a row of the call's own. -/
theorem run_appW {st et : TypeId} (T : WType st et) {w : World} {base : Nat} {v : Value} {l : List Wd} (ty : TypeId) (h : OwnW et w base v l) (L : Nat) (A : Option Addr) (c : Nat) (x : Wd) (hr : WsAt w L A [x]) (hbase : base ≤ w.heap.size) (hn : l.length + 1 ≤ 1000000) :
    ∃ v' w', (Builtin.append_ #[st, st] ty #[v, .slice A 1 c]).run Tryd.prog w = .ok v' w' ∧ OwnW et w' base v' (l ++ [x]) ∧ Below base w w' := by
  obtain ⟨i, hi, hz, hs, hby⟩ := info_parts T.info
  obtain ⟨p, rfl, _, hc⟩ := hr (by simp)
  obtain ⟨v', w', hrun, h2, h3, _, _⟩ := run_append_own_at (P := Tryd.prog) w base st ty et i _ 3 32 T.und hi hz hs hby rfl (by omega) v l.length (wcells l) h p 1 c (wcells [x]) (wcells_length _)
    (fun j u hu => by
      have hc0 := hc 0 (by simp)
      rw [Nat.zero_mul, add_add, add_add] at hc0
      simp only [wcells_cons, List.getElem_cons_zero] at hc0 hu
      match j with
      | 0 => simp at hu; rw [← hu]; exact hc0.1
      | 1 => simp at hu; rw [← hu]; simpa using hc0.2.1
      | 2 => simp at hu; rw [← hu]; simpa using hc0.2.2
      | j + 3 => simp [wcells] at hu) (wone_cells _) (by simp only [maxLen]; omega) (by omega) hbase
  refine ⟨v', w', hrun, ?_, (Below.refl base w).grown h3 hbase h.low⟩
  unfold OwnW
  rw [List.length_append, wcells_append]; exact h2
/-- .. of a word out of a literal. -/
theorem run_pushW {st et : TypeId} (T : WType st et) {w : World} {base : Nat} {v : Value} {l : List Wd} (h : OwnW et w base v l) (t : List Nat) (a b : Nat) (hbase : base ≤ w.heap.size) (hn : l.length + 1 ≤ 1000000) :
    ∃ v' w', (Builtin.append_ #[st, st] st #[v, .slice (some ⟨w.heap.size, 0, none⟩) 1 1]).run Tryd.prog (w.alloc (.cells #[.string (str t), .int .i64 (a : Int), .int .i64 (b : Int)] et)) = .ok v' w' ∧ OwnW et w' base v' (l ++ [(t, a, b)]) ∧ Below base w w' := by
  have hb := Blk.new w #[.string (str t), .int .i64 (a : Int), .int .i64 (b : Int)] et
  have hr : WsAt (w.alloc (.cells #[.string (str t), .int .i64 (a : Int), .int .i64 (b : Int)] et)) (w.heap.size + 1) (some ⟨w.heap.size, 0, none⟩) [(t, a, b)] := fun _ => by
    refine ⟨_, rfl, by simp, fun k hk => ?_⟩
    have h0 : k = 0 := by simpa using hk
    subst h0
    refine ⟨?_, ?_, ?_⟩
    · exact hb.cell 0
    · rw [add_add]; exact hb.cell 1
    · rw [add_add]; exact hb.cell 2
  obtain ⟨v', w', h1, h2, h3⟩ := run_appW T st (h.alloc (.cells #[.string (str t), .int .i64 (a : Int), .int .i64 (b : Int)] et)) _ _ 1 (t, a, b) hr (by simp; omega) hn
  exact ⟨v', w', h1, h2, ((Below.refl _ w).alloc hbase _).trans h3⟩
end Go.Proofs.YtmdmejfcknaokaaDoor
