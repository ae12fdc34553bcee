/- A disk in memory: its block, its map, its row of loose writes; what a step leaves of it. -/
import Derived.Test.YtapllljbbldfkaaBytes
import Derived.Test.YtapllljbbldfkaaModel
import Derived.Maps.OwnSet
namespace Go.Proofs.Ytapllljbbldfkaa
open Go.RowKit Go.Maps

/-- w' is w, grown, but for the blocks in T. -/
structure Turn (T : List Nat) (w w' : World) : Prop where
  os : w'.os = w.os
  tape : w'.tape = w.tape
  output : w'.output = w.output
  size : w.heap.size ≤ w'.heap.size
  block : ∀ k, k < w.heap.size → k ∉ T → w'.heap[k]? = w.heap[k]?

section
variable {T T' : List Nat} {w w' w'' : World}
theorem Turn.refl (T : List Nat) (w : World) : Turn T w w := ⟨rfl, rfl, rfl, Nat.le_refl _, fun _ _ _ => rfl⟩
theorem Turn.of_below (h : Below w.heap.size w w') (T : List Nat) : Turn T w w' := ⟨h.os, h.tape, h.output, h.size, fun k hk _ => h.block k hk⟩
theorem Turn.mono (h : Turn T w w') (hs : ∀ k ∈ T, k < w.heap.size → k ∈ T') : Turn T' w w' := ⟨h.os, h.tape, h.output, h.size, fun k hk hn => h.block k hk (fun e => hn (hs k e hk))⟩
theorem Turn.trans (h : Turn T w w') (k : Turn T' w' w'') (hs : ∀ j ∈ T', j < w.heap.size → j ∈ T) : Turn T w w'' :=
  ⟨k.os.trans h.os, k.tape.trans h.tape, k.output.trans h.output, Nat.le_trans h.size k.size, fun j hj hn => (k.block j (Nat.lt_of_lt_of_le hj h.size) (fun e => hn (hs j e hj))).trans (h.block j hj hn)⟩
theorem Turn.tail (h : Turn T w w') (k : Below w'.heap.size w' w'') : Turn T w w'' := h.trans (Turn.of_below k []) (by simp)
theorem Turn.alloc (h : Turn T w w') (o : Obj) : Turn T w (w'.alloc o) := h.tail ((Below.refl _ w').alloc (Nat.le_refl _) o)
theorem Turn.drew (h : Turn T w w') : Turn T w w'.drew := ⟨h.os, h.tape, h.output, h.size, h.block⟩
theorem Turn.below (h : Turn T w w') {B : Nat} (hB : B ≤ w.heap.size) (hT : ∀ k ∈ T, B ≤ k) : Below B w w' := ⟨h.os, h.tape, h.output, h.size, fun k hk => h.block k (by omega) (fun e => by have := hT k e; omega)⟩
theorem Turn.set (h : Turn T w w') {a : Addr} (ha : a.block ∈ T ∨ w.heap.size ≤ a.block) (v : Value) : Turn T w (w'.setCell a v) :=
  ⟨h.os, h.tape, h.output, by simpa [World.setCell] using h.size, fun k hk hn => (Below.heap_setCell w' a v k (by rintro rfl; rcases ha with ha | ha; exact hn ha; omega)).trans (h.block k hk hn)⟩
theorem Turn.grown {row : Option Nat} (h : Turn T w w') (hg : w'.grownBy w'' row) (hr : ∀ k, row = some k → k ∈ T ∨ w.heap.size ≤ k) : Turn T w w'' :=
  ⟨hg.os.trans h.os, hg.tape.trans h.tape, hg.output.trans h.output, Nat.le_trans h.size hg.size, fun k hk hn => (hg.block k (Nat.lt_of_lt_of_le hk h.size) (fun e => by rcases hr k e.symm with h' | h'; exact hn h'; omega)).trans (h.block k hk hn)⟩
theorem Turn.mapped {m : Nat} (h : Turn T w w') (hg : w'.mapTurned w'' m) (hm : m ∈ T ∨ w.heap.size ≤ m) : Turn T w w'' := h.grown hg.grown (by intro k e; cases e; exact hm)
end

/-- No byte lies in the blocks of T. -/
def NoBytes (w : World) (T : List Nat) : Prop := ∀ k ∈ T, ∀ cs fz, w.heap[k]? ≠ some (.cells cs 5 fz)

/-- The slice v reads as these bytes; they lie in a block of bytes. -/
def Byt (w : World) (v : Value) (l : List Nat) : Prop :=
  (∀ b ∈ l, b < 256) ∧ ∃ p c, v = .slice (some p) l.length c ∧ l.length ≤ c ∧ (∃ cs fz, w.heap[p.block]? = some (.cells cs 5 fz)) ∧ ∀ k (h : k < l.length), w.cell? (p.add k) = some (.int .u8 ((l[k] : Nat) : Int))

section
variable {T : List Nat} {w w' : World} {v : Value} {l : List Nat}
theorem Byt.turn (h : Byt w v l) (k : Turn T w w') (hn : NoBytes w T) : Byt w' v l := by
  obtain ⟨h1, p, c, rfl, hc, ⟨cs, fz, hb⟩, hv⟩ := h
  have e : w'.heap[p.block]? = w.heap[p.block]? := k.block _ (lt_of_block hb) (fun he => hn _ he _ _ hb)
  refine ⟨h1, p, c, rfl, hc, ⟨cs, fz, e.trans hb⟩, fun k hk => ?_⟩
  rw [← hv k hk]
  exact World.cell?_of_block (by rw [add_block]; exact e)
theorem Byt.grew (h : Byt w v l) (k : Below w.heap.size w w') : Byt w' v l := h.turn (Turn.of_below k []) (by intro _ h; simp at h)
theorem Byt.rd (h : Byt w v l) : ∃ p c, v = .slice (some p) l.length c ∧ l.length ≤ c ∧ Rd w w.heap.size (some p) l := by
  obtain ⟨h1, p, c, rfl, hc, ⟨cs, fz, hb⟩, hv⟩ := h
  exact ⟨p, c, rfl, hc, h1, fun _ => ⟨p, rfl, lt_of_block hb, hv⟩⟩
theorem Byt.of_own {base : Nat} (h : Own w base v l) (hl : l ≠ []) : Byt w v l := by
  refine ⟨h.1, ?_⟩
  rcases h.2.2 with ⟨e, h0⟩ | ⟨g, cap, cur, e, hb, hg, hnc, _⟩
  · exact absurd (List.eq_nil_of_length_eq_zero h0) hl
  · exact ⟨_, _, e, hnc, ⟨_, _, hg⟩, fun k hk => World.ownsRow.cells h.2 (g := g) (by rw [e]; rfl) k _ (cells_get hk)⟩
end

/-- The blocks in which a disk's bytes may lie. -/
class Bar (ι : outParam Type) where
  P : Nat → Prop
instance barAll : Bar Unit := ⟨fun _ => True⟩
variable {ι : Type} [Bar ι]
/-- .. in a block where a disk's bytes may lie. -/
def BytP (w : World) (v : Value) (l : List Nat) : Prop := Byt w v l ∧ ∀ p n c, v = .slice (some p) n c → Bar.P p.block
/-- No byte of a disk lies in the blocks of T. -/
def Spares (w : World) (T : List Nat) : Prop := ∀ k ∈ T, (∀ cs fz, w.heap[k]? ≠ some (.cells cs 5 fz)) ∨ ¬ Bar.P k
theorem NoBytes.sp {w : World} {T : List Nat} (h : NoBytes w T) : Spares w T := fun k hk => .inl (h k hk)

section
variable {T : List Nat} {w w' : World} {v : Value} {l : List Nat}
theorem BytP.turn (h : BytP w v l) (k : Turn T w w') (hn : Spares w T) : BytP w' v l := by
  obtain ⟨⟨h1, p, c, rfl, hc, ⟨cs, fz, hb⟩, hv⟩, hP⟩ := h
  have e : w'.heap[p.block]? = w.heap[p.block]? := k.block _ (lt_of_block hb) (fun he => by
    rcases hn _ he with h | h
    · exact h _ _ hb
    · exact h (hP _ _ _ rfl))
  refine ⟨⟨h1, p, c, rfl, hc, ⟨cs, fz, e.trans hb⟩, fun k hk => ?_⟩, hP⟩
  rw [← hv k hk]
  exact World.cell?_of_block (by rw [add_block]; exact e)
theorem BytP.grew (h : BytP w v l) (k : Below w.heap.size w w') : BytP w' v l := h.turn (Turn.of_below k []) (by intro _ h; simp at h)
theorem BytP.of_own {base : Nat} (h : Own w base v l) (hl : l ≠ []) (hP : ∀ k, base ≤ k → Bar.P k) : BytP w v l := by
  refine ⟨Byt.of_own h hl, fun p n c e => ?_⟩
  rcases h.2.2 with ⟨e', h0⟩ | ⟨g, cap, cur, e', hb, _⟩
  · exact absurd (List.eq_nil_of_length_eq_zero h0) hl
  · rw [e] at e'
    injection e' with e' _ _
    injection e' with e'
    rw [e']
    exact hP _ hb
end

/-! ### the map -/
def R0 (v : Value) : Option (DataW Value × List MemPlace) := some (.held v, [])
def key (x : Int) : Lit := .int .i64 x
def nilv : Value := .slice none 0 0
def cnt (E : DataW Value) (s : Nat) : Nat := (List.range s).countP fun i => has E (key (i : Nat))

theorem countP_one {p q : Nat → Bool} {j : Nat} (hj : p j = false) (hq : q j = true) (hs : ∀ i, i ≠ j → q i = p i) : ∀ s, j < s → (List.range s).countP q = (List.range s).countP p + 1
  | 0, h => absurd h (by omega)
  | s + 1, h => by
    rw [List.range_succ, List.countP_append, List.countP_append]
    by_cases e : j = s
    · subst e
      have : (List.range j).countP q = (List.range j).countP p := List.countP_congr fun i hi => by rw [hs i (by have := List.mem_range.1 hi; omega)]
      rw [this]; simp [hj, hq]
    · have := countP_one hj hq hs s (by omega)
      rw [this]; simp [hs s (Ne.symm e)]; omega

theorem cnt_put {E : DataW Value} (hE : IsMap E) {x : Nat} {s : Nat} (hx : x < s) (d : DataW Value) : cnt (E.put (key x) d) s = if has E (key x) then cnt E s else cnt E s + 1 := by
  have hk : WideAt.IsKeyLit (key x) := trivial
  have ho : ∀ i : Nat, i ≠ x → has (E.put (key x) d) (key i) = has E (key i) := fun i hi => has_put_other (by simp [key]; omega) d
  have hs := has_put_same hE hk d
  split
  · rename_i h
    refine List.countP_congr fun i _ => ?_
    by_cases e : i = x
    · subst e; rw [hs, h]
    · rw [ho i e]
  · rename_i h
    exact countP_one (by simpa using h) hs ho s hx
theorem cnt_le (E : DataW Value) (s : Nat) : cnt E s ≤ s := by
  have := List.countP_le_length (p := fun i => has E (key (i : Nat))) (l := List.range s)
  simpa [cnt] using this

/-- Block m is a map of what is fast. -/
def Fast (w : World) (m : Nat) (s z : Nat) (f : Int → List Nat) : Prop :=
  ∃ n E, w.ownsMap Try.prog 3 R0 m n E ∧ size E ≤ cnt E s ∧ n ≤ cnt E s ∧ ∀ x v, E.atKey (key x) (.held nilv) = .held v → if has E (key x) then BytP w v (f x) else f x = List.replicate z 0

theorem Fast.new (w : World) (s z : Nat) : Fast (w.alloc (.map #[] 0)) w.heap.size s z (fun _ => List.replicate z 0) :=
  ⟨0, .map [], World.ownsMap_made w _ _ _, Nat.zero_le _, Nat.zero_le _, fun x v _ => by simp [has]⟩
theorem Fast.turnS {T : List Nat} {w w' : World} {m s z : Nat} {f : Int → List Nat} (h : Fast w m s z f) (k : Turn T w w') (hn : Spares w T) (hm : m ∉ T) : Fast w' m s z f := by
  obtain ⟨n, E, ho, h1, h2, h3⟩ := h
  refine ⟨n, E, ?_, h1, h2, fun x v hv => ?_⟩
  · obtain ⟨es, clock, hb, r⟩ := ho
    exact ⟨es, clock, (k.block m (lt_of_block hb) hm).trans hb, r⟩
  · have := h3 x v hv
    split
    · rename_i hh; rw [if_pos hh] at this; exact this.turn k hn
    · rename_i hh; rw [if_neg hh] at this; exact this
theorem Fast.turn {T : List Nat} {w w' : World} {m s z : Nat} {f : Int → List Nat} (h : Fast w m s z f) (k : Turn T w w') (hn : NoBytes w T) (hm : m ∉ T) : Fast w' m s z f := h.turnS k hn.sp hm
theorem Fast.lt {w : World} {m s z : Nat} {f : Int → List Nat} (h : Fast w m s z f) : m < w.heap.size := by
  obtain ⟨n, E, ho, _⟩ := h
  exact ho.lt
theorem Fast.kind {w : World} {m s z : Nat} {f : Int → List Nat} (h : Fast w m s z f) : ∃ es clock, w.heap[m]? = some (.map es clock) := by
  obtain ⟨n, E, ⟨es, clock, hb, _⟩, _⟩ := h
  exact ⟨es, clock, hb⟩
theorem size_le {w : World} {m n : Nat} {E : DataW Value} (h : w.ownsMap Try.prog 3 R0 m n E) {n' : Nat} (hn : size E ≤ n') : w.ownsMap Try.prog 3 R0 m n' E := by
  obtain ⟨es, clock, hb, F, hs, rfl⟩ := h
  exact ⟨es, clock, hb, F, by simpa [Maps.size, length_sorted] using hn, rfl⟩

theorem law3 : Keyed Try.prog 3 := int_keyed Try.underlying3
theorem zero35 (w : World) : (zeroValue 35).run Try.prog w = .ok nilv w := by kernel_rfl
theorem wf_key {x : Int} (h0 : -9223372036854775808 ≤ x) (h1 : x ≤ 9223372036854775807) : (Lit.int .i64 x).wf = true := by
  simp [Lit.wf, IntKind.min, IntKind.max, IntKind.signed, IntKind.bits]; omega

/-- 'b, is := m[x]'. -/
theorem Fast.look {w : World} {m s z : Nat} {f : Int → List Nat} (h : Fast w m s z f) {x : Int} (h0 : -9223372036854775808 ≤ x) (h1 : x ≤ 9223372036854775807) :
    ∃ v is, (Instr.lookup 61 (.map (some m)) (.int .i64 x) true).run Try.prog w = .ok (.tuple #[v, .bool is]) w ∧ if is = true then BytP w v (f x) else f x = List.replicate z 0 := by
  obtain ⟨n, E, ho, _, _, h3⟩ := h
  obtain ⟨v, ps, hrun, hv⟩ := ho.look_ok law3 Try.underlying61 (zero35 w) (zd := .held nilv) (zp := []) rfl (keyOf_int_mk Try.underlying3 (wf_key h0 h1))
  refine ⟨v, has E (key x), hrun, h3 x v ?_⟩
  have : (DataW.held v, ([] : List MemPlace)) = (E.atKey (.int .i64 x) (.held nilv), ps) := Option.some.inj hv
  exact (Prod.mk.inj this).1.symm

/-- 'm[x] = v'. -/
theorem Fast.store {w : World} {m s z : Nat} {f : Int → List Nat} (h : Fast w m s z f) {x : Nat} (hx : x < s) (hs : s ≤ 1048576) {v : Value} {l : List Nat} (hv : BytP w v l) :
    ∃ w', (Instr.mapUpdate 61 (.map (some m)) (.int .i64 x) v).run Try.prog w = .ok () w' ∧ Fast w' m s z (upd f x l) ∧ w.mapTurned w' m := by
  obtain ⟨n, E, ho, h1, h2, h3⟩ := h
  have hc := cnt_le E s
  obtain ⟨w', hrun, ho', ht⟩ := ho.store (d := .held v) (ps := []) law3 Try.underlying61 (by simp only [maxLen]; omega) (keyOf_int_mk Try.underlying3 (wf_key (x := (x : Int)) (by omega) (by omega))) rfl
  have hE := ho.tidy law3
  have hz := Maps.size_put (k := key x) hE (.held v)
  have hcp := cnt_put hE.isMap hx (.held v)
  have hturn : Turn [m] w w' := (Turn.refl [m] w).mapped ht (by simp)
  have hnb : NoBytes w [m] := by
    intro k hk cs fz e
    simp at hk; subst hk
    obtain ⟨es, clock, hb, _⟩ := ho
    rw [hb] at e; cases e
  have hle : size (E.put (key x) (.held v)) ≤ cnt (E.put (key x) (.held v)) s := by
    rw [hz, hcp]; split <;> omega
  refine ⟨w', hrun, ⟨_, E.put (key x) (.held v), size_le ho' hle, hle, Nat.le_refl _, fun y u hu => ?_⟩, ht⟩
  have hkl : WideAt.IsKeyLit (key (x : Int)) := trivial
  by_cases e : y = x
  · subst e
    rw [has_put_same hE.isMap hkl, if_pos rfl, upd_self]
    rw [atKey_put_same hE.isMap hkl] at hu
    cases hu
    exact hv.turn hturn hnb.sp
  · have hne : key y ≠ key x := by simp [key]; exact e
    rw [has_put_other hne, upd_other _ _ e]
    rw [atKey_put_other hne] at hu
    have := h3 y u hu
    split
    · rename_i hh; rw [if_pos hh] at this; exact this.turn hturn hnb.sp
    · rename_i hh; rw [if_neg hh] at this; exact this

end Go.Proofs.Ytapllljbbldfkaa
