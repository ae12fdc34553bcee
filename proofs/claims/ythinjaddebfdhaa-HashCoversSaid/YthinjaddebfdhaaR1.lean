/- Rows of the call's own: of numbers, of ranges; what 'append' and the sort make of them. -/
import Derived.Test.YthinjaddebfdhaaS8
import Derived.Test.YthinjaddebfdhaaMath2
import Derived.Maps.AppendAt
import Derived.Laws.OwnMore
import Derived.OwnWalk
import Derived.OneCell
import Derived.Lib.OwnBridge
namespace Go.Proofs.Ythinjaddebfdhaa
open Go.RowKit

def ints (l : List Nat) : List Int := l.map fun n : Nat => (n : Int)
/-- The slice v is a row of the call's own (its blocks are those from 'base' on) and holds these numbers. -/
def OwnU (w : World) (base : Nat) (v : Value) (l : List Nat) : Prop := w.ownsRow base 24 1 v l.length ((ints l).map (Value.int .u64))
def rcells (l : List M.Rg) : List Value := l.flatMap fun r => [.int .u64 r.1, .int .u64 r.2]
/-- The same of ranges (element type e, slices' type t). -/
def OwnR (e : TypeId) (w : World) (base : Nat) (v : Value) (l : List M.Rg) : Prop := w.ownsRow base e 2 v l.length (rcells l)

theorem ints_length (l : List Nat) : (ints l).length = l.length := by simp [ints]
theorem rcells_length (l : List M.Rg) : (rcells l).length = l.length * 2 := by
  induction l with
  | nil => rfl
  | cons a l ih => simp [rcells] at *; omega
theorem rcells_append (l m : List M.Rg) : rcells (l ++ m) = rcells l ++ rcells m := by simp [rcells]
theorem rcells_get : ∀ {l : List M.Rg} {k : Nat} (h : k < l.length), (rcells l)[k * 2]? = some (.int .u64 (l[k].1 : Nat)) ∧ (rcells l)[k * 2 + 1]? = some (.int .u64 (l[k].2 : Nat))
  | a :: l, 0, _ => ⟨rfl, rfl⟩
  | a :: l, k + 1, h => by
    have := rcells_get (l := l) (k := k) (by simpa using h)
    have e : (k + 1) * 2 = k * 2 + 1 + 1 := by omega
    rw [e]
    simpa [rcells] using this

section
variable {w w' : World} {base : Nat} {v : Value} {l : List Nat} {r : List M.Rg} {e : TypeId}
theorem OwnU.none_ (w : World) (base : Nat) : OwnU w base (.slice none 0 0) [] := World.ownsRow_nil w base 24 1
theorem OwnR.none_ (w : World) (base : Nat) : OwnR e w base (.slice none 0 0) [] := World.ownsRow_nil w base e 2
theorem own_keep {e size n : Nat} {xs : List Value} (h : w.ownsRow base e size v n xs) {row : Option Nat} (hg : w.grownBy w' row) (hr : ∀ k, row = some k → w.heap.size ≤ k) : w'.ownsRow base e size v n xs := by
  refine h.kept hg ?_
  cases e' : v.ownBlock with
  | none => exact .inl rfl
  | some k =>
    right
    intro e2
    have := hr k e2.symm
    have := (World.ownsRow.lt h k e').2
    omega
theorem own_below {e size n : Nat} {xs : List Value} (h : w.ownsRow base e size v n xs) (hb : Below w.heap.size w w') : w'.ownsRow base e size v n xs :=
  own_keep h (row := none) ⟨hb.os, hb.tape, hb.output, hb.size, fun k hk _ => hb.block k hk⟩ (by simp)
theorem OwnU.below (h : OwnU w base v l) (hb : Below w.heap.size w w') : OwnU w' base v l := own_below h hb
theorem OwnR.below (h : OwnR e w base v r) (hb : Below w.heap.size w w') : OwnR e w' base v r := own_below h hb
theorem OwnU.low (h : OwnU w base v l) : ∀ k, v.ownBlock = some k → base ≤ k := fun k e => (World.ownsRow.lt h k e).1
theorem OwnR.low (h : OwnR e w base v r) : ∀ k, v.ownBlock = some k → base ≤ k := fun k e => (World.ownsRow.lt h k e).1
theorem OwnU.set (h : OwnU w base v l) {a : Addr} (ha : a.block < base) (x : Value) : OwnU (w.setCell a x) base v l := ownsRow_setCell_below h ha x
theorem OwnU.form (h : OwnU w base v l) : (v = .slice none 0 0 ∧ l = []) ∨ ∃ g c, v = .slice (some ⟨g, 0, none⟩) l.length c ∧ base ≤ g ∧ g < w.heap.size := by
  rcases h.2 with ⟨rfl, h0⟩ | ⟨g, cap, cur, rfl, hb, hg, hc⟩
  · exact .inl ⟨rfl, List.eq_nil_of_length_eq_zero h0⟩
  · exact .inr ⟨g, cap, rfl, hb, lt_of_block hg⟩
theorem OwnR.form (h : OwnR e w base v r) : (v = .slice none 0 0 ∧ r = []) ∨ ∃ g c, v = .slice (some ⟨g, 0, none⟩) r.length c ∧ base ≤ g ∧ g < w.heap.size := by
  rcases h.2 with ⟨rfl, h0⟩ | ⟨g, cap, cur, rfl, hb, hg, hc⟩
  · exact .inl ⟨rfl, List.eq_nil_of_length_eq_zero h0⟩
  · exact .inr ⟨g, cap, rfl, hb, lt_of_block hg⟩
theorem OwnU.get {g c : Nat} (h : OwnU w base (.slice (some ⟨g, 0, none⟩) l.length c) l) {k : Nat} (hk : k < l.length) : w.cell? ⟨g, k, none⟩ = some (.int .u64 (l[k] : Nat)) := by
  have := World.ownsRow.cellAt h k (by omega)
  rw [this]
  simp [ints, hk]
theorem OwnR.get {g c : Nat} (h : OwnR e w base (.slice (some ⟨g, 0, none⟩) r.length c) r) {k : Nat} (hk : k < r.length) :
    w.cell? ⟨g, k * 2, none⟩ = some (.int .u64 (r[k].1 : Nat)) ∧ w.cell? ⟨g, k * 2 + 1, none⟩ = some (.int .u64 (r[k].2 : Nat)) ∧ w.frozen? ⟨g, k * 2 + 1, none⟩ = false := by
  have h2 := rcells_get hk
  exact ⟨(World.ownsRow.cellAt h (k * 2) (by omega)).trans h2.1, (World.ownsRow.cellAt h (k * 2 + 1) (by omega)).trans h2.2, World.ownsRow.frozenAt h _⟩
/-- The last range's upper end is stored anew. -/
theorem OwnR.stored {g c n : Nat} {init : List M.Rg} {lo hi hi' : Nat} (h : OwnR e w base (.slice (some ⟨g, 0, none⟩) n c) (init ++ [(lo, hi)])) :
    OwnR e (w.setCell ⟨g, init.length * 2 + 1, none⟩ (.int .u64 (hi' : Nat))) base (.slice (some ⟨g, 0, none⟩) n c) (init ++ [(lo, hi')]) := by
  have hn : n = init.length + 1 := by
    rcases h.2 with ⟨h0, _⟩ | ⟨g', cap', cur, h0, _⟩
    · cases h0
    · have := h0; simp at this; exact this.2.1
  subst hn
  have hl : (init ++ [(lo, hi)]).length = init.length + 1 := by simp
  have hl2 : (init ++ [(lo, hi')]).length = init.length + 1 := by simp
  unfold OwnR at *
  rw [hl] at h
  rw [hl2]
  have := World.ownsRow.stored h (init.length * 2 + 1) (.int .u64 (hi' : Nat))
  have e2 : (rcells (init ++ [(lo, hi)])).set (init.length * 2 + 1) (.int .u64 (hi' : Nat)) = rcells (init ++ [(lo, hi')]) := by
    have hr := rcells_length init
    rw [rcells_append, rcells_append, List.set_append_right _ _ (by omega), hr]
    have : init.length * 2 + 1 - init.length * 2 = 1 := by omega
    rw [this]; rfl
  rw [← e2]
  exact this.1
end

theorem info_parts {e : TypeId} {z : Option Value} {s b : Nat} (h : (Try.prog.info? e).map (fun i => (i.zero, i.size, i.bytes)) = some (z, s, b)) : ∃ i, Try.prog.info? e = some i ∧ i.zero = z ∧ i.size = s ∧ i.bytes = b := by
  cases hi : Try.prog.info? e with
  | none => rw [hi] at h; cases h
  | some i => rw [hi] at h; simp at h; exact ⟨i, rfl, h.1, h.2.1, h.2.2⟩

theorem run_pushU {w : World} {base : Nat} {v : Value} {l : List Nat} (ty : TypeId) (h : OwnU w base v l) (b x : Nat) (hb : Blk w b #[.int .u64 x] 24) (hbase : base ≤ w.heap.size) (hn : l.length ≤ 100000) :
    ∃ v' w', (Builtin.append_ #[56, 56] ty #[v, .slice (some ⟨b, 0, none⟩) 1 1]).run Try.prog w = .ok v' w' ∧ OwnU w' base v' (l ++ [x]) ∧ Below base w w' := by
  obtain ⟨i, hi, hz, hs, hby⟩ := info_parts (show (Try.prog.info? 24).map (fun i => (i.zero, i.size, i.bytes)) = some (some (.int .u64 0), 1, 8) by kernel_rfl)
  obtain ⟨v', w', hrun, h2, h3, _, _⟩ := run_append_own_at (P := Try.prog) w base 56 ty 24 i _ 1 8 Try.underlying56 hi hz hs hby rfl (by omega) v l.length _ h ⟨b, 0, none⟩ 1 1 [.int .u64 x] rfl
    (fun j u hu => by
      cases j with
      | zero => simp at hu; subst hu; exact hb.cell 0
      | succ j => simp at hu) (by intro u hu; simp at hu; subst hu; rfl) (by simp only [maxLen]; omega) (by omega) hbase
  refine ⟨v', w', hrun, ?_, (Below.refl base w).grown h3 hbase h.low⟩
  unfold OwnU ints at *
  simpa using h2
theorem run_pushR {t e : TypeId} (hu : Try.prog.underlying t = some (.slice e)) (hinfo : (Try.prog.info? e).map (fun i => (i.zero, i.size, i.bytes)) = some (some (.agg #[.int .u64 0, .int .u64 0]), 2, 16))
    {w : World} {base : Nat} {v : Value} {l : List M.Rg} (ty : TypeId) (h : OwnR e w base v l) (b lo hi : Nat) (hb : Blk w b #[.int .u64 lo, .int .u64 hi] e) (hbase : base ≤ w.heap.size) (hn : l.length ≤ 100000) :
    ∃ v' w', (Builtin.append_ #[t, t] ty #[v, .slice (some ⟨b, 0, none⟩) 1 1]).run Try.prog w = .ok v' w' ∧ OwnR e w' base v' (l ++ [(lo, hi)]) ∧ Below base w w' := by
  obtain ⟨i, hi', hz, hs, hby⟩ := info_parts hinfo
  obtain ⟨v', w', hrun, h2, h3, _, _⟩ := run_append_own_at (P := Try.prog) w base t ty e i _ 2 16 hu hi' hz hs hby rfl (by omega) v l.length _ h ⟨b, 0, none⟩ 1 1 [.int .u64 lo, .int .u64 hi] rfl
    (fun j u hu => by
      match j with
      | 0 => simp at hu; subst hu; exact hb.cell 0
      | 1 => simp at hu; subst hu; exact hb.cell 1
      | j + 2 => simp at hu) (by intro u hu; simp at hu; rcases hu with rfl | rfl <;> rfl) (by simp only [maxLen]; omega) (by omega) hbase
  refine ⟨v', w', hrun, ?_, (Below.refl base w).grown h3 hbase h.low⟩
  unfold OwnR at *
  rw [rcells_append]
  have e1 : rcells [(lo, hi)] = [.int .u64 lo, .int .u64 hi] := rfl
  rw [e1]
  simpa using h2

/-- The sort of a row of the call's own. -/
theorem Sort_own {w : World} {base : Nat} {v : Value} {l : List Nat} (h : OwnU w base v l) (hne : l ≠ []) (hl : l.length ≤ 100000) :
    Calls Try.prog 26 #[v] w fun e w' => e = .returned (.tuple #[]) ∧ OwnU w' base v (M.srt l) ∧ Below base w w' := by
  have hv : v ≠ .slice none 0 0 := by
    rintro rfl
    rcases h.form with ⟨_, h0⟩ | ⟨g, c, h0, _⟩
    · exact hne h0
    · cases h0
  obtain ⟨g, cap, rfl, hb, hlt, _, _, hz, hH⟩ := Lib.holds_of_ownsRow h hv
  have hs := Sort_u pdqWalkU g 0 cap (ints l).toArray w hH hlt (by simp [ints_length]; omega)
  have e1 : (Sort.sort Sort.ltInt (ints l).toArray) = (ints (M.srt l)).toArray := by
    have h1 := Sort.sortInt (ints l)
    have h2 : ints (M.srt l) = (ints l).mergeSort (fun x y => decide (x ≤ y)) := List.map_mergeSort (by intro a _ b _; simp)
    rw [h2, ← h1]
  rw [e1] at hs
  have hz2 : ((ints l).toArray).size = l.length := by simp [ints_length]
  rw [hz2] at hs
  refine hs.mono ?_
  rintro e w' ⟨rfl, n, os, rfl⟩
  have hsl : (ints (M.srt l)).length = l.length := by rw [ints_length]; exact (M.srt_perm l).length_eq
  have hb2 : Below base w (Sort.putRow (Value.int .u64) (Sort.ahead w n) g 0 (ints (M.srt l)).toArray) := Lib.below_putRow (Below.refl base w) hb
  have ho := Lib.ownsRow_putRow (q := n) (k := l.length) h hsl (Nat.le_refl _)
  rw [List.take_of_length_le (by omega)] at ho
  have hg : ∀ (W : World) (os : Array Obj), Below W.heap.size W (Sort.grow W os) := fun W os => ⟨rfl, rfl, rfl, by simp, fun k hk => Sort.heap_grow_old W os hk⟩
  refine ⟨rfl, ?_, hb2.trans ((hg _ os).mono (by simp only [Sort.size_putRow, Sort.heap_ahead]; omega))⟩
  unfold OwnU
  rw [(M.srt_perm l).length_eq]
  exact own_below ho (hg _ os)

end Go.Proofs.Ythinjaddebfdhaa
