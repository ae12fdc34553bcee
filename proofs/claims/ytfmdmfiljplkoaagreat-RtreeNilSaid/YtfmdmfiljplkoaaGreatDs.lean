/- Plain laws: the document's disk as functions of lists. A disk in memory: its block, its map, its row of loose writes; what a step leaves of it. A row of loose writes in memory; 'append' leaves the old view of the row standing. The whole disk. Walks: bytes.Clone; a row of one byte (full); the disk's small methods. Walks: New, Sectors, Size, Down, Loose, Arm, ready, act, kept. Walks: Write. Walks: Flush. Walks: the fates' closure. -/
import GoSem.Claim
import Derived.Test.YtfmdmfiljplkoaaGreatBytes
import Derived.Maps.OwnSet
import Derived.WalkLawsBesides
import Derived.Test.YtfmdmfiljplkoaaGreatFree
namespace Go.Proofs.YtfmdmfiljplkoaaGreat
/-- A disk: what stands fast, the loose writes, the act at which it goes down. -/
structure Dsk where
  sectors : Nat
  size : Nat
  fast : Int → List Nat
  loose : List (Int × List Nat)
  armed : Int
  down : Bool
def upd (f : Int → List Nat) (a : Int) (l : List Nat) : Int → List Nat := fun x => if x = a then l else f x
/-- The last loose write to a sector. -/
def last (a : Int) : List (Int × List Nat) → Option (List Nat)
  | [] => none
  | e :: r => match last a r with
    | some x => some x
    | none => if e.1 = a then some e.2 else none
def settle (f : Int → List Nat) (L : List (Int × List Nat)) : Int → List Nat := L.foldl (fun f e => upd f e.1 e.2) f
theorem last_cons (a : Int) (e : Int × List Nat) (r : List (Int × List Nat)) : last a (e :: r) = (last a r).or (if e.1 = a then some e.2 else none) := by
  show (match last a r with | some x => some x | none => _) = _
  cases last a r <;> rfl
/-- What a fate chooses of n. -/
def pick (fs : List Int) (n : Nat) : Nat := match fs with
  | [] => 0
  | x :: _ => (x % (n : Int)).toNat
def cutAt (size : Nat) (fs : List Int) (k n : Nat) : Nat := if k + 1 < n then size * pick (fs.drop k) 2 else pick (fs.drop k) (size + 1)
/-- What stands fast when k loose writes have had their fates. -/
def crashed (size : Nat) (fs : List Int) (f : Int → List Nat) (L : List (Int × List Nat)) : Nat → Int → List Nat
  | 0 => f
  | k + 1 => match L[k]? with
    | some e => upd (crashed size fs f L k) e.1 (e.2.take (cutAt size fs k L.length) ++ (crashed size fs f L k e.1).drop (cutAt size fs k L.length))
    | none => crashed size fs f L k
namespace Dsk
def ready (d : Dsk) (a : Int) : Int := if d.down then 4 else if a < 0 ∨ (d.sectors : Int) ≤ a then 2 else 0
def tells (d : Dsk) (a : Int) : List Nat := (last a d.loose).getD (d.fast a)
def act (d : Dsk) : Dsk := if 0 < d.armed then { d with armed := d.armed - 1, down := decide (d.armed - 1 = 0) } else d
def put (d : Dsk) (a : Int) (l : List Nat) : Dsk := if d.ready a ≠ 0 ∨ l.length ≠ d.size then d else { d.act with loose := d.loose ++ [(a, l)] }
def putErr (d : Dsk) (a : Int) (l : List Nat) : Int := if d.ready a ≠ 0 then d.ready a else if l.length ≠ d.size then 3 else if d.act.down then 4 else 0
def flush (d : Dsk) : Dsk := if d.down then d else if d.act.down then d.act else { d.act with fast := settle d.fast d.loose, loose := [] }
def flushErr (d : Dsk) : Int := if d.down ∨ d.act.down then 4 else 0
def crash (d : Dsk) (fs : List Int) : Dsk := { d with fast := crashed d.size fs d.fast d.loose d.loose.length, loose := [], armed := 0, down := false }
def arm (d : Dsk) (n : Int) : Dsk := { d with armed := max n 0 }
def new (s z : Nat) : Dsk := ⟨s, z, fun _ => List.replicate z 0, [], 0, false⟩
structure Ok (d : Dsk) : Prop where
  s1 : 1 ≤ d.sectors
  s2 : d.sectors ≤ 1048576
  z1 : 64 ≤ d.size
  z2 : d.size ≤ 4096
  len : ∀ x, (d.fast x).length = d.size
  byt : ∀ x, ∀ b ∈ d.fast x, b < 256
  lose : ∀ e ∈ d.loose, 0 ≤ e.1 ∧ e.1 < (d.sectors : Int) ∧ e.2.length = d.size ∧ ∀ b ∈ e.2, b < 256
  arm0 : 0 ≤ d.armed
  arm1 : d.armed ≤ 9223372036854775807
variable {d : Dsk}
theorem Ok.act (h : d.Ok) : d.act.Ok := by
  unfold Dsk.act
  split
  · exact ⟨h.s1, h.s2, h.z1, h.z2, h.len, h.byt, h.lose, by have := h.arm0; simp; omega, by have := h.arm1; simp; omega⟩
  · exact h
theorem act_loose : d.act.loose = d.loose := by unfold Dsk.act; split <;> rfl
theorem act_fast : d.act.fast = d.fast := by unfold Dsk.act; split <;> rfl
theorem act_size : d.act.size = d.size := by unfold Dsk.act; split <;> rfl
theorem act_sectors : d.act.sectors = d.sectors := by unfold Dsk.act; split <;> rfl
theorem ready_in {a : Int} (h : d.ready a = 0) : d.down = false ∧ 0 ≤ a ∧ a < (d.sectors : Int) := by
  unfold ready at h
  split at h
  · simp at h
  · split at h
    · simp at h
    · rename_i h1 h2
      refine ⟨by simpa using h1, by omega, by omega⟩
theorem Ok.push (h : d.Ok) {a : Int} {l : List Nat} (h0 : 0 ≤ a) (h1 : a < (d.sectors : Int)) (hl : l.length = d.size) (hb : ∀ b ∈ l, b < 256) : ({ d with loose := d.loose ++ [(a, l)] } : Dsk).Ok :=
  ⟨h.s1, h.s2, h.z1, h.z2, h.len, h.byt, fun e he => by
    rcases List.mem_append.1 he with he | he
    · exact h.lose e he
    · simp at he; subst he; exact ⟨h0, h1, hl, hb⟩, h.arm0, h.arm1⟩
theorem put_eq {a : Int} {l : List Nat} (hr : d.ready a = 0) (hl : l.length = d.size) : d.put a l = { d.act with loose := d.act.loose ++ [(a, l)] } := by
  unfold put; rw [if_neg (by simp [hr, hl]), act_loose]
theorem put_stay {a : Int} {l : List Nat} (h : d.ready a ≠ 0 ∨ l.length ≠ d.size) : d.put a l = d := by unfold put; rw [if_pos h]
theorem Ok.put (h : d.Ok) (a : Int) (l : List Nat) (hb : ∀ b ∈ l, b < 256) : (d.put a l).Ok := by
  by_cases hc : d.ready a ≠ 0 ∨ l.length ≠ d.size
  · rw [put_stay hc]; exact h
  · have hr : d.ready a = 0 := by omega
    have hl : l.length = d.size := by omega
    rw [put_eq hr hl]
    have := ready_in hr
    exact h.act.push this.2.1 (by rw [act_sectors]; exact this.2.2) (by rw [act_size]; exact hl) hb
end Dsk
theorem upd_len {f : Int → List Nat} {n : Nat} (h : ∀ x, (f x).length = n) {a : Int} {l : List Nat} (hl : l.length = n) : ∀ x, (upd f a l x).length = n := by
  intro x; unfold upd; split
  · exact hl
  · exact h x
theorem upd_byt {f : Int → List Nat} (h : ∀ x, ∀ b ∈ f x, b < 256) {a : Int} {l : List Nat} (hl : ∀ b ∈ l, b < 256) : ∀ x, ∀ b ∈ upd f a l x, b < 256 := by
  intro x; unfold upd; split
  · exact hl
  · exact h x
theorem upd_self (f : Int → List Nat) (a : Int) (l : List Nat) : upd f a l a = l := by simp [upd]
theorem upd_other (f : Int → List Nat) {a x : Int} (l : List Nat) (h : x ≠ a) : upd f a l x = f x := by simp [upd, h]
theorem settle_take (f : Int → List Nat) (L : List (Int × List Nat)) (k : Nat) (h : k < L.length) : settle f (L.take (k + 1)) = upd (settle f (L.take k)) L[k].1 L[k].2 := by
  unfold settle
  rw [List.take_add_one, List.getElem?_eq_getElem h, List.foldl_append]; rfl
theorem settle_ok {n : Nat} {P : Nat → Prop} : ∀ (L : List (Int × List Nat)) (f : Int → List Nat), (∀ x, (f x).length = n ∧ ∀ b ∈ f x, P b) → (∀ e ∈ L, e.2.length = n ∧ ∀ b ∈ e.2, P b) → ∀ x, (settle f L x).length = n ∧ ∀ b ∈ settle f L x, P b
  | [], _, h, _ => h
  | e :: L, f, h, hL => settle_ok L (upd f e.1 e.2) (fun x => by
      unfold upd; split
      · exact hL e (by simp)
      · exact h x) (fun e' he => hL e' (by simp [he]))
theorem settle_last (a : Int) : ∀ (L : List (Int × List Nat)) (f : Int → List Nat), settle f L a = (last a L).getD (f a)
  | [], _ => rfl
  | e :: L, f => by
    rw [show settle f (e :: L) = settle (upd f e.1 e.2) L from rfl, settle_last a L, last_cons]
    cases last a L with
    | some x => rfl
    | none =>
      unfold upd
      by_cases h : e.1 = a
      · simp [h]
      · rw [if_neg h, if_neg (Ne.symm h)]; rfl
theorem last_none (a : Int) : ∀ (L : List (Int × List Nat)), (∀ e ∈ L, e.1 ≠ a) → last a L = none
  | [], _ => rfl
  | e :: L, h => by
    rw [last_cons, last_none a L (fun e' he => h e' (by simp [he]))]
    simp [h e (by simp)]
theorem last_append (a : Int) : ∀ (L M : List (Int × List Nat)), last a (L ++ M) = (last a M).or (last a L)
  | [], M => by
    show last a M = (last a M).or none
    cases last a M <;> rfl
  | e :: L, M => by
    show last a (e :: (L ++ M)) = _
    rw [last_cons, last_cons, last_append a L M]
    cases last a M <;> cases last a L <;> rfl
namespace Dsk
variable {d : Dsk}
theorem Ok.flush (h : d.Ok) : d.flush.Ok := by
  unfold Dsk.flush
  split
  · exact h
  · split
    · exact h.act
    · have k := settle_ok (n := d.size) (P := fun b => b < 256) d.loose d.fast (fun x => ⟨h.len x, h.byt x⟩) (fun e he => ⟨(h.lose e he).2.2.1, (h.lose e he).2.2.2⟩)
      have a := h.act
      exact ⟨a.s1, a.s2, a.z1, a.z2, fun x => by show _ = d.act.size; rw [act_size]; exact (k x).1, fun x => (k x).2, by simp, a.arm0, a.arm1⟩
theorem Ok.new {s z : Nat} (h1 : 1 ≤ s) (h2 : s ≤ 1048576) (h3 : 64 ≤ z) (h4 : z ≤ 4096) : (Dsk.new s z).Ok :=
  ⟨h1, h2, h3, h4, by simp [Dsk.new], by simp [Dsk.new], by simp [Dsk.new], by simp [Dsk.new], by simp [Dsk.new]⟩
theorem put_sectors (a : Int) (l : List Nat) : (d.put a l).sectors = d.sectors ∧ (d.put a l).size = d.size := by
  unfold put; split
  · exact ⟨rfl, rfl⟩
  · exact ⟨act_sectors, act_size⟩
theorem flush_sectors : d.flush.sectors = d.sectors ∧ d.flush.size = d.size := by
  unfold flush; split
  · exact ⟨rfl, rfl⟩
  · split <;> exact ⟨act_sectors, act_size⟩
theorem put_loose (a : Int) (l : List Nat) : (d.put a l).loose.length ≤ d.loose.length + 1 := by
  unfold put; split <;> simp
theorem tells_ok (h : d.Ok) (a : Int) : (d.tells a).length = d.size ∧ ∀ b ∈ d.tells a, b < 256 := by
  have := settle_ok (n := d.size) (P := fun b => b < 256) d.loose d.fast (fun x => ⟨h.len x, h.byt x⟩) (fun e he => ⟨(h.lose e he).2.2.1, (h.lose e he).2.2.2⟩) a
  rw [settle_last] at this
  exact this
end Dsk
end Go.Proofs.YtfmdmfiljplkoaaGreat
namespace Go.Proofs.YtfmdmfiljplkoaaGreat
open Go.RowKit Go.Maps
/-- w' is w, grown, but for the blocks in T. -/
structure Turn (T : List Nat) (w w' : World) : Prop where
  os : w'.os = w.os
  tape : w'.tape = w.tape
  output : w'.output = w.output
  size : w.heap.size ≤ w'.heap.size
  block : ∀ k, k < w.heap.size → k ∉ T → w'.heap[k]? = w.heap[k]?
section
variable {T T' : List Nat} {w w' w'' : World}
theorem Turn.refl (T : List Nat) (w : World) : Turn T w w := ⟨rfl, rfl, rfl, Nat.le_refl _, fun _ _ _ => rfl⟩
theorem Turn.of_below (h : Below w.heap.size w w') (T : List Nat) : Turn T w w' := ⟨h.os, h.tape, h.output, h.size, fun k hk _ => h.block k hk⟩
theorem Turn.mono (h : Turn T w w') (hs : ∀ k ∈ T, k < w.heap.size → k ∈ T') : Turn T' w w' := ⟨h.os, h.tape, h.output, h.size, fun k hk hn => h.block k hk (fun e => hn (hs k e hk))⟩
theorem Turn.trans (h : Turn T w w') (k : Turn T' w' w'') (hs : ∀ j ∈ T', j < w.heap.size → j ∈ T) : Turn T w w'' :=
  ⟨k.os.trans h.os, k.tape.trans h.tape, k.output.trans h.output, Nat.le_trans h.size k.size, fun j hj hn => (k.block j (Nat.lt_of_lt_of_le hj h.size) (fun e => hn (hs j e hj))).trans (h.block j hj hn)⟩
theorem Turn.tail (h : Turn T w w') (k : Below w'.heap.size w' w'') : Turn T w w'' := h.trans (Turn.of_below k []) (by simp)
theorem Turn.alloc (h : Turn T w w') (o : Obj) : Turn T w (w'.alloc o) := h.tail ((Below.refl _ w').alloc (Nat.le_refl _) o)
theorem Turn.drew (h : Turn T w w') : Turn T w w'.drew := ⟨h.os, h.tape, h.output, h.size, h.block⟩
theorem Turn.below (h : Turn T w w') {B : Nat} (hB : B ≤ w.heap.size) (hT : ∀ k ∈ T, B ≤ k) : Below B w w' := ⟨h.os, h.tape, h.output, h.size, fun k hk => h.block k (by omega) (fun e => by have := hT k e; omega)⟩
theorem Turn.set (h : Turn T w w') {a : Addr} (ha : a.block ∈ T ∨ w.heap.size ≤ a.block) (v : Value) : Turn T w (w'.setCell a v) :=
  ⟨h.os, h.tape, h.output, by simpa [World.setCell] using h.size, fun k hk hn => (Below.heap_setCell w' a v k (by rintro rfl; rcases ha with ha | ha; exact hn ha; omega)).trans (h.block k hk hn)⟩
theorem Turn.grown {row : Option Nat} (h : Turn T w w') (hg : w'.grownBy w'' row) (hr : ∀ k, row = some k → k ∈ T ∨ w.heap.size ≤ k) : Turn T w w'' :=
  ⟨hg.os.trans h.os, hg.tape.trans h.tape, hg.output.trans h.output, Nat.le_trans h.size hg.size, fun k hk hn => (hg.block k (Nat.lt_of_lt_of_le hk h.size) (fun e => by rcases hr k e.symm with h' | h'; exact hn h'; omega)).trans (h.block k hk hn)⟩
theorem Turn.mapped {m : Nat} (h : Turn T w w') (hg : w'.mapTurned w'' m) (hm : m ∈ T ∨ w.heap.size ≤ m) : Turn T w w'' := h.grown hg.grown (by intro k e; cases e; exact hm)
end
/-- No byte lies in the blocks of T. -/
def NoBytes (w : World) (T : List Nat) : Prop := ∀ k ∈ T, ∀ cs fz, w.heap[k]? ≠ some (.cells cs 5 fz)
/-- The slice v reads as these bytes; they lie in a block of bytes. -/
def Byt (w : World) (v : Value) (l : List Nat) : Prop :=
  (∀ b ∈ l, b < 256) ∧ ∃ p c, v = .slice (some p) l.length c ∧ l.length ≤ c ∧ (∃ cs fz, w.heap[p.block]? = some (.cells cs 5 fz)) ∧ ∀ k (h : k < l.length), w.cell? (p.add k) = some (.int .u8 ((l[k] : Nat) : Int))
section
variable {T : List Nat} {w w' : World} {v : Value} {l : List Nat}
theorem Byt.turn (h : Byt w v l) (k : Turn T w w') (hn : NoBytes w T) : Byt w' v l := by
  obtain ⟨h1, p, c, rfl, hc, ⟨cs, fz, hb⟩, hv⟩ := h
  have e : w'.heap[p.block]? = w.heap[p.block]? := k.block _ (lt_of_block hb) (fun he => hn _ he _ _ hb)
  refine ⟨h1, p, c, rfl, hc, ⟨cs, fz, e.trans hb⟩, fun k hk => ?_⟩
  rw [← hv k hk]
  exact World.cell?_of_block (by rw [add_block]; exact e)
theorem Byt.grew (h : Byt w v l) (k : Below w.heap.size w w') : Byt w' v l := h.turn (Turn.of_below k []) (by intro _ h; simp at h)
theorem Byt.rd (h : Byt w v l) : ∃ p c, v = .slice (some p) l.length c ∧ l.length ≤ c ∧ Rd w w.heap.size (some p) l := by
  obtain ⟨h1, p, c, rfl, hc, ⟨cs, fz, hb⟩, hv⟩ := h
  exact ⟨p, c, rfl, hc, h1, fun _ => ⟨p, rfl, lt_of_block hb, hv⟩⟩
theorem Byt.of_own {base : Nat} (h : Own w base v l) (hl : l ≠ []) : Byt w v l := by
  refine ⟨h.1, ?_⟩
  rcases h.2.2 with ⟨e, h0⟩ | ⟨g, cap, cur, e, hb, hg, hnc, _⟩
  · exact absurd (List.eq_nil_of_length_eq_zero h0) hl
  · exact ⟨_, _, e, hnc, ⟨_, _, hg⟩, fun k hk => World.ownsRow.cells h.2 (g := g) (by rw [e]; rfl) k _ (cells_get hk)⟩
end
/-- The blocks in which a disk's bytes may lie. -/
class Bar (ι : outParam Type) where
  P : Nat → Prop
instance barAll : Bar Unit := ⟨fun _ => True⟩
variable {ι : Type} [Bar ι]
/-- .. in a block where a disk's bytes may lie. -/
def BytP (w : World) (v : Value) (l : List Nat) : Prop := Byt w v l ∧ ∀ p n c, v = .slice (some p) n c → Bar.P p.block
/-- No byte of a disk lies in the blocks of T. -/
def Spares (w : World) (T : List Nat) : Prop := ∀ k ∈ T, (∀ cs fz, w.heap[k]? ≠ some (.cells cs 5 fz)) ∨ ¬ Bar.P k
theorem NoBytes.sp {w : World} {T : List Nat} (h : NoBytes w T) : Spares w T := fun k hk => .inl (h k hk)
section
variable {T : List Nat} {w w' : World} {v : Value} {l : List Nat}
theorem BytP.turn (h : BytP w v l) (k : Turn T w w') (hn : Spares w T) : BytP w' v l := by
  obtain ⟨⟨h1, p, c, rfl, hc, ⟨cs, fz, hb⟩, hv⟩, hP⟩ := h
  have e : w'.heap[p.block]? = w.heap[p.block]? := k.block _ (lt_of_block hb) (fun he => by
    rcases hn _ he with h | h
    · exact h _ _ hb
    · exact h (hP _ _ _ rfl))
  refine ⟨⟨h1, p, c, rfl, hc, ⟨cs, fz, e.trans hb⟩, fun k hk => ?_⟩, hP⟩
  rw [← hv k hk]
  exact World.cell?_of_block (by rw [add_block]; exact e)
theorem BytP.grew (h : BytP w v l) (k : Below w.heap.size w w') : BytP w' v l := h.turn (Turn.of_below k []) (by intro _ h; simp at h)
theorem BytP.of_own {base : Nat} (h : Own w base v l) (hl : l ≠ []) (hP : ∀ k, base ≤ k → Bar.P k) : BytP w v l := by
  refine ⟨Byt.of_own h hl, fun p n c e => ?_⟩
  rcases h.2.2 with ⟨e', h0⟩ | ⟨g, cap, cur, e', hb, _⟩
  · exact absurd (List.eq_nil_of_length_eq_zero h0) hl
  · rw [e] at e'
    injection e' with e' _ _
    injection e' with e'
    rw [e']
    exact hP _ hb
end
/-! ### the map -/
def R0 (v : Value) : Option (DataW Value × List MemPlace) := some (.held v, [])
def key (x : Int) : Lit := .int .i64 x
def nilv : Value := .slice none 0 0
def cnt (E : DataW Value) (s : Nat) : Nat := (List.range s).countP fun i => has E (key (i : Nat))
theorem countP_one {p q : Nat → Bool} {j : Nat} (hj : p j = false) (hq : q j = true) (hs : ∀ i, i ≠ j → q i = p i) : ∀ s, j < s → (List.range s).countP q = (List.range s).countP p + 1
  | 0, h => absurd h (by omega)
  | s + 1, h => by
    rw [List.range_succ, List.countP_append, List.countP_append]
    by_cases e : j = s
    · subst e
      have : (List.range j).countP q = (List.range j).countP p := List.countP_congr fun i hi => by rw [hs i (by have := List.mem_range.1 hi; omega)]
      rw [this]; simp [hj, hq]
    · have := countP_one hj hq hs s (by omega)
      rw [this]; simp [hs s (Ne.symm e)]; omega
theorem cnt_put {E : DataW Value} (hE : IsMap E) {x : Nat} {s : Nat} (hx : x < s) (d : DataW Value) : cnt (E.put (key x) d) s = if has E (key x) then cnt E s else cnt E s + 1 := by
  have hk : WideAt.IsKeyLit (key x) := trivial
  have ho : ∀ i : Nat, i ≠ x → has (E.put (key x) d) (key i) = has E (key i) := fun i hi => has_put_other (by simp [key]; omega) d
  have hs := has_put_same hE hk d
  split
  · rename_i h
    refine List.countP_congr fun i _ => ?_
    by_cases e : i = x
    · subst e; rw [hs, h]
    · rw [ho i e]
  · rename_i h
    exact countP_one (by simpa using h) hs ho s hx
theorem cnt_le (E : DataW Value) (s : Nat) : cnt E s ≤ s := by
  have := List.countP_le_length (p := fun i => has E (key (i : Nat))) (l := List.range s)
  simpa [cnt] using this
/-- Block m is a map of what is fast. -/
def Fast (w : World) (m : Nat) (s z : Nat) (f : Int → List Nat) : Prop :=
  ∃ n E, w.ownsMap Tryz.prog 3 R0 m n E ∧ size E ≤ cnt E s ∧ n ≤ cnt E s ∧ ∀ x v, E.atKey (key x) (.held nilv) = .held v → if has E (key x) then BytP w v (f x) else f x = List.replicate z 0
theorem Fast.new (w : World) (s z : Nat) : Fast (w.alloc (.map #[] 0)) w.heap.size s z (fun _ => List.replicate z 0) :=
  ⟨0, .map [], World.ownsMap_made w _ _ _, Nat.zero_le _, Nat.zero_le _, fun x v _ => by simp [has]⟩
theorem Fast.turnS {T : List Nat} {w w' : World} {m s z : Nat} {f : Int → List Nat} (h : Fast w m s z f) (k : Turn T w w') (hn : Spares w T) (hm : m ∉ T) : Fast w' m s z f := by
  obtain ⟨n, E, ho, h1, h2, h3⟩ := h
  refine ⟨n, E, ?_, h1, h2, fun x v hv => ?_⟩
  · obtain ⟨es, clock, hb, r⟩ := ho
    exact ⟨es, clock, (k.block m (lt_of_block hb) hm).trans hb, r⟩
  · have := h3 x v hv
    split
    · rename_i hh; rw [if_pos hh] at this; exact this.turn k hn
    · rename_i hh; rw [if_neg hh] at this; exact this
theorem Fast.turn {T : List Nat} {w w' : World} {m s z : Nat} {f : Int → List Nat} (h : Fast w m s z f) (k : Turn T w w') (hn : NoBytes w T) (hm : m ∉ T) : Fast w' m s z f := h.turnS k hn.sp hm
theorem Fast.lt {w : World} {m s z : Nat} {f : Int → List Nat} (h : Fast w m s z f) : m < w.heap.size := by
  obtain ⟨n, E, ho, _⟩ := h
  exact ho.lt
theorem Fast.kind {w : World} {m s z : Nat} {f : Int → List Nat} (h : Fast w m s z f) : ∃ es clock, w.heap[m]? = some (.map es clock) := by
  obtain ⟨n, E, ⟨es, clock, hb, _⟩, _⟩ := h
  exact ⟨es, clock, hb⟩
theorem size_le {w : World} {m n : Nat} {E : DataW Value} (h : w.ownsMap Tryz.prog 3 R0 m n E) {n' : Nat} (hn : size E ≤ n') : w.ownsMap Tryz.prog 3 R0 m n' E := by
  obtain ⟨es, clock, hb, F, hs, rfl⟩ := h
  exact ⟨es, clock, hb, F, by simpa [Maps.size, length_sorted] using hn, rfl⟩
theorem law3 : Keyed Tryz.prog 3 := int_keyed Tryz.underlying3
theorem zero35 (w : World) : (zeroValue 108).run Tryz.prog w = .ok nilv w := by kernel_rfl
theorem wf_key {x : Int} (h0 : -9223372036854775808 ≤ x) (h1 : x ≤ 9223372036854775807) : (Lit.int .i64 x).wf = true := by
  simp [Lit.wf, IntKind.min, IntKind.max, IntKind.signed, IntKind.bits]; omega
/-- 'b, is := m[x]'. -/
theorem Fast.look {w : World} {m s z : Nat} {f : Int → List Nat} (h : Fast w m s z f) {x : Int} (h0 : -9223372036854775808 ≤ x) (h1 : x ≤ 9223372036854775807) :
    ∃ v is, (Instr.lookup 111 (.map (some m)) (.int .i64 x) true).run Tryz.prog w = .ok (.tuple #[v, .bool is]) w ∧ if is = true then BytP w v (f x) else f x = List.replicate z 0 := by
  obtain ⟨n, E, ho, _, _, h3⟩ := h
  obtain ⟨v, ps, hrun, hv⟩ := ho.look_ok law3 Tryz.underlying111 (zero35 w) (zd := .held nilv) (zp := []) rfl (keyOf_int_mk Tryz.underlying3 (wf_key h0 h1))
  refine ⟨v, has E (key x), hrun, h3 x v ?_⟩
  have : (DataW.held v, ([] : List MemPlace)) = (E.atKey (.int .i64 x) (.held nilv), ps) := Option.some.inj hv
  exact (Prod.mk.inj this).1.symm
/-- 'm[x] = v'. -/
theorem Fast.store {w : World} {m s z : Nat} {f : Int → List Nat} (h : Fast w m s z f) {x : Nat} (hx : x < s) (hs : s ≤ 1048576) {v : Value} {l : List Nat} (hv : BytP w v l) :
    ∃ w', (Instr.mapUpdate 111 (.map (some m)) (.int .i64 x) v).run Tryz.prog w = .ok () w' ∧ Fast w' m s z (upd f x l) ∧ w.mapTurned w' m := by
  obtain ⟨n, E, ho, h1, h2, h3⟩ := h
  have hc := cnt_le E s
  obtain ⟨w', hrun, ho', ht⟩ := ho.store (d := .held v) (ps := []) law3 Tryz.underlying111 (by simp only [maxLen]; omega) (keyOf_int_mk Tryz.underlying3 (wf_key (x := (x : Int)) (by omega) (by omega))) rfl
  have hE := ho.tidy law3
  have hz := Maps.size_put (k := key x) hE (.held v)
  have hcp := cnt_put hE.isMap hx (.held v)
  have hturn : Turn [m] w w' := (Turn.refl [m] w).mapped ht (by simp)
  have hnb : NoBytes w [m] := by
    intro k hk cs fz e
    simp at hk; subst hk
    obtain ⟨es, clock, hb, _⟩ := ho
    rw [hb] at e; cases e
  have hle : size (E.put (key x) (.held v)) ≤ cnt (E.put (key x) (.held v)) s := by
    rw [hz, hcp]; split <;> omega
  refine ⟨w', hrun, ⟨_, E.put (key x) (.held v), size_le ho' hle, hle, Nat.le_refl _, fun y u hu => ?_⟩, ht⟩
  have hkl : WideAt.IsKeyLit (key (x : Int)) := trivial
  by_cases e : y = x
  · subst e
    rw [has_put_same hE.isMap hkl, if_pos rfl, upd_self]
    rw [atKey_put_same hE.isMap hkl] at hu
    cases hu
    exact hv.turn hturn hnb.sp
  · have hne : key y ≠ key x := by simp [key]; exact e
    rw [has_put_other hne, upd_other _ _ e]
    rw [atKey_put_other hne] at hu
    have := h3 y u hu
    split
    · rename_i hh; rw [if_pos hh] at this; exact this.turn hturn hnb.sp
    · rename_i hh; rw [if_neg hh] at this; exact this
end Go.Proofs.YtfmdmfiljplkoaaGreat
namespace Go.Proofs.YtfmdmfiljplkoaaGreat
open Go.RowKit Go.Maps
variable {ι : Type} [Bar ι]
/-- 'append' onto a row of the call's own: and what the old slice value showed it shows still. -/
theorem run_append_keeps {P : Program} (w : World) (base : Nat) (t ty e : TypeId) (i : TypeInfo) (z : Value) (size bytes : Nat) (ht : P.underlying t = some (.slice e)) (hi : P.info? e = some i) (hz : i.zero = some z)
    (hsize : i.size = size) (hby : i.bytes = bytes) (hzs : z.cells.size = size) (hsz : 0 < size)
    (v : Value) (n : Nat) (xs : List Value) (hown : w.ownsRow base e size v n xs)
    (a : Addr) (m c : Nat) (news : List Value) (hl : news.length = m * size) (hnews : ∀ j u, news[j]? = some u → w.cell? (a.add j) = some u) (h1 : ∀ u ∈ news, u.oneCell' = true)
    (h63 : n + m ≤ maxLen) (hbytes : (n + m) * bytes ≤ 140737488355328) (hbase : base ≤ w.heap.size) :
    ∃ v' w', (Builtin.append_ #[t, t] ty #[v, .slice (some a) m c]).run P w = .ok v' w' ∧ w'.ownsRow base e size v' (n + m) (xs ++ news) ∧ w.grownBy w' v.ownBlock ∧
      (v'.ownBlock = v.ownBlock ∨ v'.ownBlock = some w.heap.size) ∧ w'.ownsRow base e size v n xs := by
  obtain ⟨v', w', hrun, h2, h3, _, h5⟩ := run_append_own_at (P := P) w base t ty e i z size bytes ht hi hz hsize hby hzs hsz v n xs hown a m c news hl hnews h1 h63 hbytes hbase
  refine ⟨v', w', hrun, h2, h3, h5, ?_⟩
  have hown' := hown
  subst hsize
  subst hby
  rcases hown.2 with ⟨rfl, rfl⟩ | ⟨g, cap, cur, rfl, hbg, hg, hnc, hcm, hcs, htake⟩
  · have : xs = [] := List.eq_nil_of_length_eq_zero (by simpa using hown.1)
    subst this
    exact World.ownsRow_nil _ _ _ _
  · by_cases hroom : n + m ≤ cap
    · have hfit : n * i.size + news.length ≤ cur.size := by rw [hl, hcs, ← Nat.add_mul]; exact Nat.mul_le_mul_right _ hroom
      have hr := run_append_room (P := P) w t ty e i ht hi g n cap cur hg a m c news hl hnews h1 hroom hfit
      rw [hrun] at hr
      injection hr with e1 e2
      subst e2
      refine ⟨hown.1, .inr ⟨g, cap, _, rfl, hbg, setRow_heap w g cur _ e _ hg, hnc, hcm, ?_, ?_⟩⟩
      · simp only [List.size_toArray, List.length_append, List.length_take, List.length_drop, Array.length_toList]
        omega
      · have hxl := hown.1
        rw [htake, ← hxl, List.append_assoc]
        exact List.take_left
    · have holds : ∀ j u, xs[j]? = some u → w.cell? ((⟨g, 0, none⟩ : Addr).add j) = some u := hown.cells (g := g) rfl
      have hr := run_append_grow (P := P) w t ty e i z ht hi hz ⟨g, 0, none⟩ n cap xs hown.1 holds a m c news hl hnews (by omega) (by simp only [maxLen] at h63; omega) (growslice_fits (by omega) hbytes)
      rw [hrun] at hr
      injection hr with e1 e2
      subst e2
      exact World.ownsRow.alloc (w := w.drew) hown' _
/-- Loose writes as cells. -/
def wcells (vs : List (Int × Value)) : List Value := vs.flatMap fun e => [.int .i64 e.1, e.2]
theorem wcells_cons (a : Int × Value) (l : List (Int × Value)) : wcells (a :: l) = .int .i64 a.1 :: a.2 :: wcells l := rfl
theorem wcells_get : ∀ {vs : List (Int × Value)} {k : Nat} {e : Int × Value}, vs[k]? = some e → (wcells vs)[k * 2]? = some (.int .i64 e.1) ∧ (wcells vs)[k * 2 + 1]? = some e.2
  | a :: l, 0, e, h => by simp at h; subst h; exact ⟨rfl, rfl⟩
  | a :: l, k + 1, e, h => by
    have := wcells_get (vs := l) (k := k) (e := e) (by simpa using h)
    rw [wcells_cons]
    have e' : (k + 1) * 2 = k * 2 + 1 + 1 := by omega
    rw [e']
    simpa using this
  | [], _, _, h => by simp at h
/-- The slice vl is a row of these loose writes. -/
def Loose (w : World) (vl : Value) (L : List (Int × List Nat)) : Prop :=
  ∃ vs : List (Int × Value), vs.length = L.length ∧ w.ownsRow 0 185 2 vl L.length (wcells vs) ∧ ∀ k (h : k < L.length), ∃ v, vs[k]? = some (L[k].1, v) ∧ BytP w v L[k].2
/-- The blocks of a disk. -/
def own (b m : Nat) (vl : Value) : List Nat := b :: m :: vl.ownBlock.toList
theorem mem_own {b m k : Nat} {vl : Value} : k ∈ own b m vl ↔ k = b ∨ k = m ∨ vl.ownBlock = some k := by
  unfold own
  cases h : vl.ownBlock with
  | none => simp
  | some g =>
    simp
    constructor
    · rintro (h | h | h)
      · exact .inl h
      · exact .inr (.inl h)
      · exact .inr (.inr h.symm)
    · rintro (h | h | h)
      · exact .inl h
      · exact .inr (.inl h)
      · exact .inr (.inr h.symm)
section
variable {T : List Nat} {w w' : World} {vl : Value} {L : List (Int × List Nat)}
theorem Loose.nil (w : World) : Loose w nilv [] := ⟨[], rfl, World.ownsRow_nil _ _ _ _, fun k h => absurd h (by simp)⟩
theorem Loose.lt (h : Loose w vl L) {g : Nat} (hg : vl.ownBlock = some g) : g < w.heap.size := by
  obtain ⟨vs, _, ho, _⟩ := h
  exact (ho.lt g hg).2
theorem Loose.kind (h : Loose w vl L) {g : Nat} (hg : vl.ownBlock = some g) : ∃ cs, w.heap[g]? = some (.cells cs 185 (0, 0)) := by
  obtain ⟨vs, _, ho, _⟩ := h
  rcases ho.2 with ⟨rfl, _⟩ | ⟨g', cap, cur, rfl, _, hh, _⟩
  · simp [Value.ownBlock] at hg
  · simp [Value.ownBlock] at hg; subst hg; exact ⟨_, hh⟩
theorem Loose.turnS (h : Loose w vl L) (k : Turn T w w') (hn : Spares w T) (hg : ∀ g, vl.ownBlock = some g → g ∉ T) : Loose w' vl L := by
  obtain ⟨vs, h1, ho, h2⟩ := h
  refine ⟨vs, h1, ?_, fun j hj => ?_⟩
  · refine ⟨ho.1, ?_⟩
    rcases ho.2 with h | ⟨g, cap, cur, rfl, hb, hh, r⟩
    · exact .inl h
    · exact .inr ⟨g, cap, cur, rfl, hb, (k.block g (lt_of_block hh) (hg g rfl)).trans hh, r⟩
  · obtain ⟨v, e, hb⟩ := h2 j hj
    exact ⟨v, e, hb.turn k hn⟩
theorem Loose.turn (h : Loose w vl L) (k : Turn T w w') (hn : NoBytes w T) (hg : ∀ g, vl.ownBlock = some g → g ∉ T) : Loose w' vl L := h.turnS k hn.sp hg
theorem Loose.form (h : Loose w vl L) : ∃ A c, vl = .slice A L.length c ∧ L.length ≤ c ∧ ∀ k (hk : k < L.length), ∃ p v, A = some p ∧ p.block < w.heap.size ∧ w.cell? (p.add (k * 2)) = some (.int .i64 L[k].1) ∧ w.cell? ((p.add (k * 2)).add 1) = some v ∧ Byt w v L[k].2 := by
  obtain ⟨vs, h1, ho, h2⟩ := h
  have aa : ∀ (p : Addr) (j i : Nat), (p.add j).add i = p.add (j + i) := by
    intro p j i
    unfold Addr.add
    by_cases h1 : j = 0
    · subst h1; simp
    · by_cases h2 : i = 0
      · subst h2; simp
      · simp [h1, h2]; omega
  rcases ho.2 with ⟨rfl, h0⟩ | ⟨g, cap, cur, rfl, hb, hh, hnc, _⟩
  · exact ⟨none, 0, by rw [h0], by omega, fun k hk => absurd hk (by omega)⟩
  · refine ⟨_, _, rfl, hnc, fun k hk => ?_⟩
    obtain ⟨v, e, hv⟩ := h2 k hk
    have := wcells_get e
    exact ⟨_, v, rfl, lt_of_block hh, World.ownsRow.cells ho (g := g) rfl _ _ this.1, by rw [aa]; exact World.ownsRow.cells ho (g := g) rfl _ _ this.2, hv.1⟩
end
theorem write_row : (Tryz.prog.info? 185).map (fun i => (i.zero, i.size, i.bytes)) = some (some (.agg #[.int .i64 0, nilv]), 2, 32) := by kernel_rfl
/-- 'append(d.loose, x)', x in a block of its own. -/
theorem Loose.append {w : World} {vl : Value} {L : List (Int × List Nat)} (h : Loose w vl L) (hn : L.length ≤ 1000000000) {g : Nat} {x : Int} {v : Value} {l : List Nat} (hg : Blk w g #[.int .i64 x, v] 185) (hv : BytP w v l) :
    ∃ v' w', (Builtin.append_ #[112, 112] 112 #[vl, .slice (some ⟨g, 0, none⟩) 1 1]).run Tryz.prog w = .ok v' w' ∧ Loose w' v' (L ++ [(x, l)]) ∧ Loose w' vl L ∧ w.grownBy w' vl.ownBlock ∧ (v'.ownBlock = vl.ownBlock ∨ v'.ownBlock = some w.heap.size) := by
  obtain ⟨i, hi, hz, hs, hby⟩ := info_parts write_row
  obtain ⟨vs, h1, ho, h2⟩ := id h
  have hc := hg.two
  obtain ⟨p, cc, rfl, hlc, hkb, hcl⟩ := hv.1.2
  obtain ⟨v', w', hrun, ho', hgr, hloc, hold⟩ := run_append_keeps (P := Tryz.prog) w 0 112 112 185 i _ 2 32 Tryz.underlying112 hi hz hs hby rfl (by omega) vl L.length (wcells vs) ho ⟨g, 0, none⟩ 1 1 [.int .i64 x, .slice (some p) l.length cc] rfl
    (fun j u hu => by
      match j, hu with
      | 0, hu => simp at hu; subst hu; exact hc.1
      | 1, hu => simp at hu; subst hu; exact hc.2.1) (by intro u hu; simp at hu; rcases hu with rfl | rfl <;> rfl) (by simp only [maxLen]; omega) (by omega) (Nat.zero_le _)
  have ht : Turn vl.ownBlock.toList w w' := (Turn.refl _ w).grown hgr (fun k e => .inl (by simp [e]))
  have hnb : NoBytes w vl.ownBlock.toList := by
    intro k hk cs fz e
    obtain ⟨cs', e'⟩ := h.kind (g := k) (by simpa using hk)
    rw [e'] at e; cases e
  refine ⟨v', w', hrun, ⟨vs ++ [(x, .slice (some p) l.length cc)], by simp [h1], ?_, fun k hk => ?_⟩, ⟨vs, h1, hold, fun k hk => ?_⟩, hgr, hloc⟩
  · have e : wcells (vs ++ [(x, .slice (some p) l.length cc)]) = wcells vs ++ [.int .i64 x, .slice (some p) l.length cc] := by simp [wcells]
    rw [e, List.length_append]; exact ho'
  · by_cases hlt : k < L.length
    · obtain ⟨u, e, hu⟩ := h2 k hlt
      refine ⟨u, ?_, ?_⟩
      · rw [List.getElem?_append_left (by omega), List.getElem_append_left hlt]; exact e
      · rw [List.getElem_append_left hlt]; exact hu.turn ht hnb.sp
    · have ek : k = L.length := by simp at hk; omega
      subst ek
      refine ⟨.slice (some p) l.length cc, ?_, ?_⟩
      · rw [List.getElem?_append_right (by omega), h1]; simp
      · simpa using hv.turn ht hnb.sp
  · obtain ⟨u, e, hu⟩ := h2 k hk
    exact ⟨u, e, hu.turn ht hnb.sp⟩
/-- Block b is this disk; its map is block m, its row of loose writes vl. -/
structure DiskAt (w : World) (b m : Nat) (vl : Value) (D : Dsk) : Prop where
  ok : D.Ok
  blk : Blk w b #[.int .i64 D.sectors, .int .i64 D.size, .map (some m), vl, .int .i64 D.armed, .bool D.down] 114
  fast : Fast w m D.sectors D.size D.fast
  loose : Loose w vl D.loose
  bar : ∀ k, w.heap.size ≤ k → Bar.P k
section
variable {T : List Nat} {w w' : World} {b m : Nat} {vl : Value} {D : Dsk}
theorem DiskAt.kinds (h : DiskAt w b m vl D) : b ≠ m ∧ (∀ g, vl.ownBlock = some g → g ≠ b ∧ g ≠ m) := by
  obtain ⟨es, clock, hm⟩ := h.fast.kind
  have hb := h.blk
  unfold Blk at hb
  refine ⟨fun e => ?_, fun g hg => ⟨fun e => ?_, fun e => ?_⟩⟩
  · subst e; rw [hb] at hm; cases hm
  · subst e; obtain ⟨cs, e'⟩ := h.loose.kind hg; rw [hb] at e'; cases e'
  · subst e; obtain ⟨cs, e'⟩ := h.loose.kind hg; rw [hm] at e'; cases e'
theorem DiskAt.nobytes (h : DiskAt w b m vl D) : NoBytes w (own b m vl) := by
  intro k hk cs fz e
  obtain ⟨es, clock, hm⟩ := h.fast.kind
  have hb := h.blk
  unfold Blk at hb
  rcases mem_own.1 hk with rfl | rfl | hk
  · rw [hb] at e; cases e
  · rw [hm] at e; cases e
  · obtain ⟨cs', e'⟩ := h.loose.kind hk; rw [e'] at e; cases e
theorem DiskAt.nobytes1 (h : DiskAt w b m vl D) : NoBytes w [b] := fun k hk => h.nobytes k (by simp at hk; simp [own, hk])
theorem DiskAt.lt (h : DiskAt w b m vl D) : ∀ k ∈ own b m vl, k < w.heap.size := by
  intro k hk
  rcases mem_own.1 hk with rfl | rfl | hk
  · exact h.blk.lt
  · exact h.fast.lt
  · exact h.loose.lt hk
theorem DiskAt.turnS (h : DiskAt w b m vl D) (k : Turn T w w') (hn : Spares w T) (hT : ∀ j ∈ own b m vl, j ∉ T) : DiskAt w' b m vl D :=
  ⟨h.ok, (k.block b h.blk.lt (hT b (mem_own.2 (.inl rfl)))).trans h.blk, h.fast.turnS k hn (hT m (mem_own.2 (.inr (.inl rfl)))), h.loose.turnS k hn (fun g hg => hT g (mem_own.2 (.inr (.inr hg)))), fun j hj => h.bar j (Nat.le_trans k.size hj)⟩
theorem DiskAt.turn (h : DiskAt w b m vl D) (k : Turn T w w') (hn : NoBytes w T) (hT : ∀ j ∈ own b m vl, j ∉ T) : DiskAt w' b m vl D := h.turnS k hn.sp hT
theorem DiskAt.grew (h : DiskAt w b m vl D) (k : Below w.heap.size w w') : DiskAt w' b m vl D := h.turn (Turn.of_below k []) (by intro _ h; simp at h) (by simp)
theorem DiskAt.drew (h : DiskAt w b m vl D) : DiskAt w.drew b m vl D := h.grew ⟨rfl, rfl, rfl, Nat.le_refl _, fun _ _ => rfl⟩
theorem DiskAt.alloc (h : DiskAt w b m vl D) (o : Obj) : DiskAt (w.alloc o) b m vl D := h.grew ((Below.refl _ w).alloc (Nat.le_refl _) o)
/-- The armed and the down cells are written. -/
theorem DiskAt.sets (h : DiskAt w b m vl D) {D' : Dsk} (hD : D'.Ok) (h1 : D'.sectors = D.sectors) (h2 : D'.size = D.size) (h3 : D'.fast = D.fast) (h4 : D'.loose = D.loose) (k : Turn [b] w w')
    (hb : Blk w' b #[.int .i64 D.sectors, .int .i64 D.size, .map (some m), vl, .int .i64 D'.armed, .bool D'.down] 114) : DiskAt w' b m vl D' := by
  refine ⟨hD, by rw [h1, h2]; exact hb, ?_, ?_, fun j hj => h.bar j (Nat.le_trans k.size hj)⟩
  · rw [h1, h2, h3]; exact h.fast.turn k h.nobytes1 (by simp; exact Ne.symm h.kinds.1)
  · rw [h4]; exact h.loose.turn k h.nobytes1 (fun g hg => by simp; exact (h.kinds.2 g hg).1)
theorem DiskAt.six (h : DiskAt w b m vl D) : w.cell? ⟨b, 0, none⟩ = some (.int .i64 D.sectors) ∧ w.cell? ⟨b, 1, none⟩ = some (.int .i64 D.size) ∧ w.cell? ⟨b, 2, none⟩ = some (.map (some m)) ∧ w.cell? ⟨b, 3, none⟩ = some vl ∧
    w.cell? ⟨b, 4, none⟩ = some (.int .i64 D.armed) ∧ w.cell? ⟨b, 5, none⟩ = some (.bool D.down) ∧ w.frozen? ⟨b, 3, none⟩ = false ∧ w.frozen? ⟨b, 4, none⟩ = false ∧ w.frozen? ⟨b, 5, none⟩ = false :=
  ⟨h.blk.cell 0, h.blk.cell 1, h.blk.cell 2, h.blk.cell 3, h.blk.cell 4, h.blk.cell 5, h.blk.free 3, h.blk.free 4, h.blk.free 5⟩
end
end Go.Proofs.YtfmdmfiljplkoaaGreat
namespace Go.Proofs.YtfmdmfiljplkoaaGreat
open Go.RowKit Go.Maps
set_option maxHeartbeats 1000000 in
theorem Clone_any (p : Addr) (l : List Nat) (n c : Nat) (w : World) (hn : l.length = n) (hr : Rd w w.heap.size (some p) l) (hl : n ≤ 900000) :
    Calls Tryz.prog 123 #[.slice (some p) n c] w fun e w' => ∃ v', e = .returned v' ∧ Own w' w.heap.size v' l ∧ Below w.heap.size w w' := by
  subst hn
  obtain ⟨v1, w1, hrun, ho, hb⟩ := run_copy c hr hl
  have RUN := Lib.hid hrun
  have HO := Lib.hid ho
  have HB := Lib.hid hb
  clear hrun ho hb hr
  have kn : ∀ w : World, (binOp .eql 108 (.slice (some p) l.length c) (.slice none 0 0)).run Tryz.prog w = .ok (.bool false) w := fun w => by
    have := run_equal_slice_nil (P := Tryz.prog) (w := w) 108 5 (some p) l.length c Tryz.underlying108
    simp only [binOp, Sem.run_bind, this]; rfl
  go_enter Tryz.func123, Tryz.ntmps123
  go_wp2_with (at_builtin; refine Lib.wpList_append_run _ rfl (.tmp 5) (.tmp 6) 108 108 rfl _ _ rfl rfl _ w1 RUN.out ?_)
  go_ret
  exact ⟨_, rfl, HO.out, HB.out⟩
theorem Own.base_ {w : World} {b b' : Nat} {e : TypeId} {s : Nat} {v : Value} {n : Nat} {xs : List Value} (hb : b ≤ b') (h : w.ownsRow b' e s v n xs) : w.ownsRow b e s v n xs :=
  ⟨h.1, h.2.imp id fun ⟨g, cap, cur, e, hg, r⟩ => ⟨g, cap, cur, e, by omega, r⟩⟩
theorem addr_add (g k : Nat) : (⟨g, 0, none⟩ : Addr).add k = ⟨g, k, none⟩ := by
  unfold Addr.add
  by_cases hk : k = 0 <;> simp [hk]
end Go.Proofs.YtfmdmfiljplkoaaGreat
namespace Go.Proofs.YtfmdmfiljplkoaaGreat
open Go.RowKit Go.Maps
variable {ι : Type} [Bar ι]
theorem beq_dec (x : Int) : (x == 0) = decide (x = 0) := by by_cases h : x = 0 <;> simp [h]
section
variable {b m : Nat} {vl : Value} {D : Dsk} {w : World}
theorem Sectors_any (h : DiskAt w b m vl D) : Calls Tryz.prog 107 #[.pointer (some ⟨b, 0, none⟩)] w fun e w' => e = .returned (.int .i64 D.sectors) ∧ w' = w := by
  have hs := h.six.1
  clear h
  go_enter Tryz.func107, Tryz.ntmps107
  go_wp2
  go_ret
  exact ⟨rfl, rfl⟩
theorem Size_any (h : DiskAt w b m vl D) : Calls Tryz.prog 108 #[.pointer (some ⟨b, 0, none⟩)] w fun e w' => e = .returned (.int .i64 D.size) ∧ w' = w := by
  have hs := h.six.2.1
  clear h
  go_enter Tryz.func108, Tryz.ntmps108
  go_wp2
  go_ret
  exact ⟨rfl, rfl⟩
/-- The cells for what goes down are written. -/
theorem DiskAt.write (h : DiskAt w b m vl D) {D' : Dsk} (hD : D'.Ok) (h1 : D'.sectors = D.sectors) (h2 : D'.size = D.size) (h3 : D'.fast = D.fast) (h4 : D'.loose = D.loose) {w' : World} (k : Turn [b] w w')
    {x : Int} {z : Bool} (hx : x = D'.armed) (hz : z = D'.down) (hb : Blk w' b #[.int .i64 D.sectors, .int .i64 D.size, .map (some m), vl, .int .i64 x, .bool z] 114) : DiskAt w' b m vl D' :=
  h.sets hD h1 h2 h3 h4 k (by rw [← hx, ← hz]; exact hb)
theorem ready_any (a : Int) (h : DiskAt w b m vl D) : Calls Tryz.prog 167 #[.pointer (some ⟨b, 0, none⟩), .int .i64 a] w fun e w' => e = .returned (.int .i64 (D.ready a)) ∧ w' = w := by
  obtain ⟨c0, c1, c2, c3, c4, c5, f3, f4, f5⟩ := h.six
  obtain ⟨r, hr⟩ : ∃ r, r = D.ready a := ⟨_, rfl⟩
  rw [← hr]
  unfold Dsk.ready at hr
  clear h c2 c3 c4 f3 f4 f5
  cases hd : D.down with
  | true =>
    rw [hd] at hr c5
    simp only [if_true] at hr
    subst hr
    go_enter Tryz.func167, Tryz.ntmps167
    go_wp2
    go_ret
    exact ⟨rfl, rfl⟩
  | false =>
    rw [hd] at hr c5
    simp only [Bool.false_eq_true, if_false] at hr
    by_cases h0 : a < 0
    · rw [if_pos (.inl h0)] at hr
      subst hr
      go_enter Tryz.func167, Tryz.ntmps167
      go_wp2
      go_ret
      exact ⟨rfl, rfl⟩
    · by_cases h1 : (D.sectors : Int) ≤ a
      · rw [if_pos (.inr h1)] at hr
        subst hr
        go_enter Tryz.func167, Tryz.ntmps167
        go_wp2
        go_ret
        exact ⟨rfl, rfl⟩
      · rw [if_neg (by omega)] at hr
        subst hr
        go_enter Tryz.func167, Tryz.ntmps167
        go_wp2
        go_ret
        exact ⟨rfl, rfl⟩
theorem act_any (h : DiskAt w b m vl D) : Calls Tryz.prog 116 #[.pointer (some ⟨b, 0, none⟩)] w fun e w' => e = .returned (.bool D.act.down) ∧ DiskAt w' b m vl D.act ∧ Turn [b] w w' := by
  obtain ⟨c0, c1, c2, c3, c4, c5, f3, f4, f5⟩ := h.six
  have h0 := h.ok.arm0
  have h1 := h.ok.arm1
  have H := Lib.hid h
  clear h c0 c1 c2 c3 f3
  by_cases hp : 0 < D.armed
  · have e : D.act = { D with armed := D.armed - 1, down := decide (D.armed - 1 = 0) } := by unfold Dsk.act; rw [if_pos hp]
    have hk : DiskAt ((w.setCell ⟨b, 4, none⟩ (.int .i64 (D.armed - 1))).setCell ⟨b, 5, none⟩ (.bool (D.armed - 1 == 0))) b m vl D.act ∧ Turn [b] w ((w.setCell ⟨b, 4, none⟩ (.int .i64 (D.armed - 1))).setCell ⟨b, 5, none⟩ (.bool (D.armed - 1 == 0))) := by
      have ht : Turn [b] w ((w.setCell ⟨b, 4, none⟩ (.int .i64 (D.armed - 1))).setCell ⟨b, 5, none⟩ (.bool (D.armed - 1 == 0))) := ((Turn.refl [b] w).set (.inl (by simp)) _).set (.inl (by simp)) _
      refine ⟨H.out.write H.out.ok.act Dsk.act_sectors Dsk.act_size Dsk.act_fast Dsk.act_loose ht (x := D.armed - 1) (z := D.armed - 1 == 0) (by rw [e]) (by rw [e]; exact beq_dec _) ?_, ht⟩
      have := (H.out.blk.set 4 (.int .i64 (D.armed - 1))).set 5 (.bool (D.armed - 1 == 0))
      simpa using this
    have hd : D.act.down = (D.armed - 1 == 0) := by rw [e]; exact (beq_dec _).symm
    rw [hd]
    have K := Lib.hid hk
    clear hk hd e
    generalize D.armed = x at *
    generalize D.down = z at *
    go_enter Tryz.func116, Tryz.ntmps116
    go_wp2
    all_goals (go_ret; exact ⟨rfl, K.out⟩)
  · have e : D.act = D := by unfold Dsk.act; rw [if_neg hp]
    rw [e]
    have K := Lib.hid (And.intro H.out (Turn.refl [b] w))
    clear e
    generalize D.armed = x at *
    generalize D.down = z at *
    go_enter Tryz.func116, Tryz.ntmps116
    go_wp2
    all_goals (go_ret; exact ⟨rfl, K.out⟩)
theorem kept_any (a : Int) (h0 : -9223372036854775808 ≤ a) (h1 : a ≤ 9223372036854775807) (h : DiskAt w b m vl D) :
    Calls Tryz.prog 203 #[.pointer (some ⟨b, 0, none⟩), .int .i64 a] w fun e w' => ∃ v, e = .returned v ∧ Byt w' v (D.fast a) ∧ Below w.heap.size w w' := by
  obtain ⟨c0, c1, c2, c3, c4, c5, f3, f4, f5⟩ := h.six
  obtain ⟨v, is, hrun, hv⟩ := h.fast.look h0 h1
  have hz1 := h.ok.z1
  have hz2 := h.ok.z2
  clear h c0 c3 c4 c5 f3 f4 f5
  obtain ⟨w1, hmk, ho, hg⟩ := run_makeN (w := w) w.heap.size D.size (Nat.le_refl _) (by omega)
  have HB := Lib.hid ((Below.refl w.heap.size w).grown hg (Nat.le_refl _) (by simp))
  cases is with
  | true =>
    simp only [if_true] at hv
    have HV := Lib.hid hv
    clear hv hmk ho hg
    go_enter Tryz.func203, Tryz.ntmps203
    go_wp2
    go_ret
    exact ⟨v, rfl, HV.out.1, Below.refl _ _⟩
  | false =>
    simp only [Bool.false_eq_true, if_false] at hv
    have HO := Lib.hid (Byt.of_own ho (by intro e; have := congrArg List.length e; simp at this; omega))
    rw [← hv] at HO
    clear hv ho hg
    go_enter Tryz.func203, Tryz.ntmps203
    go_wp2
    go_ret
    exact ⟨_, rfl, HO.out, HB.out⟩
theorem DiskAt.new (w : World) (hbar : ∀ k, w.heap.size ≤ k → Bar.P k) (s z : Nat) (h1 : 1 ≤ s) (h2 : s ≤ 1048576) (h3 : 64 ≤ z) (h4 : z ≤ 4096) :
    DiskAt ((w.alloc (.map #[] 0)).alloc (.cells #[.int .i64 s, .int .i64 z, .map (some w.heap.size), nilv, .int .i64 0, .bool false] 114)) (w.heap.size + 1) w.heap.size nilv (Dsk.new s z) := by
  have hm := Fast.new w s z
  refine ⟨Dsk.Ok.new h1 h2 h3 h4, Blk.new' _ _ _ (by simp), ?_, Loose.nil _, fun k hk => hbar k (by simp at hk; omega)⟩
  exact hm.turn (Turn.of_below ((Below.refl _ _).alloc (Nat.le_refl _) _) []) (by intro _ h; simp at h) (by simp)
theorem New_any (s z : Nat) (w : World) (hbar : ∀ k, w.heap.size ≤ k → Bar.P k) (h1 : (1 : Int) ≤ s) (h2 : (s : Int) ≤ 1048576) (h3 : (64 : Int) ≤ z) (h4 : (z : Int) ≤ 4096) :
    Calls Tryz.prog 21 #[.int .i64 s, .int .i64 z] w fun e w' => ∃ b m, e = .returned (.pointer (some ⟨b, 0, none⟩)) ∧ DiskAt w' b m nilv (Dsk.new s z) ∧ Below w.heap.size w w' ∧ w.heap.size ≤ b ∧ w.heap.size ≤ m := by
  have hn := Lib.hid (DiskAt.new w hbar s z (by omega) (by omega) (by omega) (by omega))
  have hb := Lib.hid (((Below.refl w.heap.size w).alloc (Nat.le_refl _) (.map #[] 0)).alloc (by simp) (.cells #[.int .i64 s, .int .i64 z, .map (some w.heap.size), nilv, .int .i64 0, .bool false] 114))
  have hmm := @run_makeMap Tryz.prog
  clear hbar
  go_enter Tryz.func21, Tryz.ntmps21
  go_wp2
  go_ret
  exact ⟨_, _, rfl, hn.out, hb.out, by omega, Nat.le_refl _⟩
end
end Go.Proofs.YtfmdmfiljplkoaaGreat
namespace Go.Proofs.YtfmdmfiljplkoaaGreat
open Go.RowKit Go.Maps
variable {ι : Type} [Bar ι]
theorem stands_disk (b m : Nat) (vl : Value) (D : Dsk) : Stands fun w => DiskAt w b m vl D := fun _ _ h k => k.grew h
theorem stands_turn (T : List Nat) (w : World) : Stands fun v => Turn T w v := fun _ _ h k => k.tail h
theorem stands_byt (v : Value) (l : List Nat) : Stands fun w => Byt w v l := fun _ _ h k => k.grew h
theorem stands_bytp (v : Value) (l : List Nat) : Stands fun w => BytP w v l := fun _ _ h k => k.grew h
theorem stands_loose (v : Value) (L : List (Int × List Nat)) : Stands fun w => Loose w v L := fun _ _ h k => k.turn (Turn.of_below h []) (by intro _ h; simp at h) (by simp)
theorem DiskAt.push {w : World} {b m : Nat} {vl v : Value} {D : Dsk} {L : List (Int × List Nat)} (h : DiskAt w b m vl D) (hl : Loose w v L) (hok : ({ D with loose := L } : Dsk).Ok) :
    DiskAt (w.setCell ⟨b, 3, none⟩ v) b m v { D with loose := L } := by
  have ht : Turn [b] w (w.setCell ⟨b, 3, none⟩ v) := (Turn.refl [b] w).set (.inl (by simp)) _
  refine ⟨hok, ?_, h.fast.turn ht h.nobytes1 (by simp; exact Ne.symm h.kinds.1), hl.turn ht h.nobytes1 (fun g hg => ?_), fun j hj => h.bar j (by simpa using hj)⟩
  · have := h.blk.set 3 v
    simpa using this
  · obtain ⟨cs, e⟩ := hl.kind hg
    simp
    intro e'
    subst e'
    have := h.blk
    unfold Blk at this
    rw [this] at e
    cases e
theorem clone_byt {w : World} {p : Addr} {n c : Nat} {l : List Nat} (h : Byt w (.slice (some p) n c) l) (h1 : 1 ≤ n) (h2 : n ≤ 4096) (hP : ∀ k, w.heap.size ≤ k → Bar.P k) :
    Calls Tryz.prog 123 #[.slice (some p) n c] w fun e w' => ∃ v, e = .returned v ∧ ∃ p' c', v = .slice (some p') n c' ∧ BytP w' v l ∧ Below w.heap.size w w' := by
  obtain ⟨p', c', e, hc, hr⟩ := h.rd
  injection e with e1 e2 e3
  injection e1 with e1
  subst e1
  refine (Clone_any p l n c w e2.symm hr (by omega)).mono ?_
  rintro e w' ⟨v, rfl, ho, hb⟩
  have hv := BytP.of_own ho (by intro e; rw [e] at e2; simp at e2; omega) hP
  obtain ⟨p2, c2, e', _, _⟩ := hv.1.rd
  exact ⟨v, rfl, p2, c2, by rw [e', e2], hv, hb⟩
set_option maxHeartbeats 4000000 in
theorem Write_main (a : Int) (p : Addr) (c : Nat) (l : List Nat) (b m : Nat) (vl : Value) (D : Dsk) (w : World) (h : DiskAt w b m vl D) (hb : Byt w (.slice (some p) D.size c) l) (hr : D.ready a = 0) (hn : l.length = D.size) (hL : D.loose.length ≤ 1000000000) :
    Calls Tryz.prog 112 #[.pointer (some ⟨b, 0, none⟩), .int .i64 a, .slice (some p) D.size c] w fun e w' => e = .returned (.int .i64 (if D.act.down then 4 else 0)) ∧ ∃ vl', DiskAt w' b m vl' (D.put a l) ∧ Turn (own b m vl) w w' ∧ ∀ g, vl'.ownBlock = some g → vl.ownBlock = some g ∨ w.heap.size ≤ g := by
  have hok := h.ok.put a l hb.1
  obtain ⟨DD, hDD⟩ : ∃ DD, DD = D.put a l := ⟨_, rfl⟩
  obtain ⟨z, hz⟩ : ∃ z, z = D.act.down := ⟨_, rfl⟩
  rw [← hDD, ← hz]
  have HE := Lib.hid (hDD.trans (Dsk.put_eq hr hn))
  have HZZ := Lib.hid hz
  rw [Dsk.put_eq hr hn] at hok
  clear hDD hz
  have HOK := Lib.hid hok
  have HZ := Lib.hid (And.intro (show 1 ≤ D.size from Nat.le_trans (by omega) h.ok.z1) h.ok.z2)
  have HL := Lib.hid hL
  have H := Lib.hid h
  have HB0 := Lib.hid hb
  have hrd := ready_any a h
  rw [hr] at hrd
  have HRD := Lib.hid hrd
  have hsz := h.six.2.1
  clear hok hL h hb hr hrd
  go_enter Tryz.func112, Tryz.ntmps112
  go_wp2_with fail
  refine HRD.out.mono ?_
  rintro e w1 ⟨rfl, rfl⟩
  go_wp2_with fail
  refine (act_any H.out).mono ?_
  rintro e w2 ⟨rfl, hd2, ht2⟩
  rw [← HZZ.out]
  have HD := Lib.hid hd2
  have HT := Lib.hid (show Turn (own b m vl) w1 w2 from ht2.mono (fun k hk _ => mem_own.2 (.inl (by simpa using hk))))
  have HB := Lib.hid (HB0.out.turn ht2 H.out.nobytes1)
  clear hd2 ht2 hsz HB0 H HRD
  go_wp2_with fail
  obtain ⟨Sa0, Sa0d⟩ : ∃ S : World → Prop, S = fun v : World => DiskAt v b m vl D.act ∧ Turn (own b m vl) w1 v ∧ Byt v (.slice (some p) D.size c) l ∧ w1.heap.size ≤ v.heap.size := ⟨_, rfl⟩
  have Sa0t0 : Stands Sa0 := by rw [Sa0d]; exact ((stands_disk _ _ _ _).and ((stands_turn _ _).and ((stands_byt _ _).and (stands_size _))))
  have Sa0u0 : ∀ v, Sa0 v → DiskAt v b m vl D.act ∧ Turn (own b m vl) w1 v ∧ Byt v (.slice (some p) D.size c) l ∧ w1.heap.size ≤ v.heap.size := fun v h => by rw [Sa0d] at h; exact h
  have Sa0m0 : ∀ v, (DiskAt v b m vl D.act ∧ Turn (own b m vl) w1 v ∧ Byt v (.slice (some p) D.size c) l ∧ w1.heap.size ≤ v.heap.size) → Sa0 v := fun v h => by rw [Sa0d]; exact h
  have Sa0u := Lib.hid Sa0u0
  have Sa0m := Lib.hid Sa0m0
  have Sa0t := Lib.hid Sa0t0
  clear Sa0d Sa0u0 Sa0m0 Sa0t0
  refine wp_region_X (S := Sa0) (by kernel_rfl) (Sa0m.out _ ⟨HD.out.drew, HT.out.drew, HB.out.grew ⟨rfl, rfl, rfl, Nat.le_refl _, fun _ _ => rfl⟩, (by simpa using HT.out.size)⟩) ?_
  clear HD HT HB
  refine wpX_take (i := 0) (v := ?_) Sa0t.out rfl rfl (by kernel_rfl) (by kernel_rfl) (by kernel_rfl) (by kernel_rfl) (fun _ _ _ h => h) (SteadyX.value (by rfl) ?_) ?_
  rotate_left
  · (intro w_ hS; go_simp; try with_reducible rfl)
  simp only [List.setIfInBounds_toArray, List.set_cons_zero, List.set_cons_succ]
  refine wpX_take (i := 1) (v := ?_) Sa0t.out rfl rfl (by kernel_rfl) (by kernel_rfl) (by kernel_rfl) (by kernel_rfl) (fun _ _ _ h => h) (SteadyX.value (by rfl) ?_) ?_
  rotate_left
  · (intro w_ hS; go_simp; try with_reducible rfl)
  simp only [List.setIfInBounds_toArray, List.set_cons_zero, List.set_cons_succ]
  refine wpX_take (i := 2) (v := ?_) Sa0t.out rfl rfl (by kernel_rfl) (by kernel_rfl) (by kernel_rfl) (by kernel_rfl) (fun _ _ _ h => h) (SteadyX.value (by rfl) ?_) ?_
  rotate_left
  · (intro w_ hS; obtain ⟨q0, q1, q2, q3⟩ := Sa0u.out _ hS; (have q9 := q0.six); go_simp; try with_reducible rfl)
  simp only [List.setIfInBounds_toArray, List.set_cons_zero, List.set_cons_succ]
  refine wpX_take (i := 3) (v := ?_) Sa0t.out rfl rfl (by kernel_rfl) (by kernel_rfl) (by kernel_rfl) (by kernel_rfl) (fun _ _ _ h => h) (SteadyX.value (by rfl) ?_) ?_
  rotate_left
  · (intro w_ hS; go_simp; try with_reducible rfl)
  simp only [List.setIfInBounds_toArray, List.set_cons_zero, List.set_cons_succ]
  refine wpX_take (i := 4) (v := ?_) Sa0t.out rfl rfl (by kernel_rfl) (by kernel_rfl) (by kernel_rfl) (by kernel_rfl) (fun _ _ _ h => h) (SteadyX.value (by rfl) ?_) ?_
  rotate_left
  · (intro w_ hS; obtain ⟨q0, q1, q2, q3⟩ := Sa0u.out _ hS; (have q9 := q0.six); go_simp; try with_reducible rfl)
  simp only [List.setIfInBounds_toArray, List.set_cons_zero, List.set_cons_succ]
  refine wpX_take (i := 5) (v := ?_) Sa0t.out rfl rfl (by kernel_rfl) (by kernel_rfl) (by kernel_rfl) (by kernel_rfl) (fun _ _ _ h => h) (SteadyX.value (by rfl) ?_) ?_
  rotate_left
  · (intro w_ hS; go_simp; try with_reducible rfl)
  simp only [List.setIfInBounds_toArray, List.set_cons_zero, List.set_cons_succ]
  refine wpX_take (i := 6) (v := ?_) Sa0t.out rfl rfl (by kernel_rfl) (by kernel_rfl) (by kernel_rfl) (by kernel_rfl) (fun _ _ _ h => h) (SteadyX.value (by rfl) ?_) ?_
  rotate_left
  · (intro w_ hS; go_simp; try with_reducible rfl)
  simp only [List.setIfInBounds_toArray, List.set_cons_zero, List.set_cons_succ]
  refine wpX_take (i := 7) (v := ?_) Sa0t.out rfl rfl (by kernel_rfl) (by kernel_rfl) (by kernel_rfl) (by kernel_rfl) (fun _ _ _ h => h) (SteadyX.value (by rfl) ?_) ?_
  rotate_left
  · (intro w_ hS; go_simp; try with_reducible rfl)
  simp only [List.setIfInBounds_toArray, List.set_cons_zero, List.set_cons_succ]
  refine wpX_one (i := 8) (by kernel_rfl) (fun w_ hS => ?_)
  obtain ⟨q0, q1, q2, q3⟩ := Sa0u.out _ hS
  refine wpX_call rfl rfl (by rfl) (clone_byt q2 HZ.out.1 HZ.out.2 q0.bar) (by go_simp) ?_
  rintro _ w1_ ⟨p5, c5, rfl, hv, hb⟩
  obtain ⟨Sa1, Sa1d⟩ : ∃ S : World → Prop, S = fun v : World => DiskAt v b m vl D.act ∧ Turn (own b m vl) w1 v ∧ Byt v (.slice (some p) D.size c) l ∧ w1.heap.size ≤ v.heap.size ∧ BytP v (.slice (some p5) D.size c5) l := ⟨_, rfl⟩
  have Sa1t0 : Stands Sa1 := by rw [Sa1d]; exact ((stands_disk _ _ _ _).and ((stands_turn _ _).and ((stands_byt _ _).and ((stands_size _).and (stands_bytp _ _)))))
  have Sa1u0 : ∀ v, Sa1 v → DiskAt v b m vl D.act ∧ Turn (own b m vl) w1 v ∧ Byt v (.slice (some p) D.size c) l ∧ w1.heap.size ≤ v.heap.size ∧ BytP v (.slice (some p5) D.size c5) l := fun v h => by rw [Sa1d] at h; exact h
  have Sa1m0 : ∀ v, (DiskAt v b m vl D.act ∧ Turn (own b m vl) w1 v ∧ Byt v (.slice (some p) D.size c) l ∧ w1.heap.size ≤ v.heap.size ∧ BytP v (.slice (some p5) D.size c5) l) → Sa1 v := fun v h => by rw [Sa1d]; exact h
  have Sa1u := Lib.hid Sa1u0
  have Sa1m := Lib.hid Sa1m0
  have Sa1t := Lib.hid Sa1t0
  clear Sa1d Sa1u0 Sa1m0 Sa1t0
  refine ⟨Sa1, Sa1t.out, .inr (fun v h => Sa0m.out _ (by obtain ⟨q0, q1, q2, q3, q4⟩ := Sa1u.out _ h; exact ⟨q0, q1, q2, q3⟩)), Sa1m.out _ ⟨(stands_disk _ _ _ _) _ _ hb q0, (stands_turn _ _) _ _ hb q1, (stands_byt _ _) _ _ hb q2, (stands_size _) _ _ hb q3, hv⟩, ?_⟩
  clear hS q0 q1 q2 q3
  clear hv hb
  clear w1_ w_
  simp only [List.setIfInBounds_toArray, List.set_cons_zero, List.set_cons_succ]
  refine wpX_take (i := 9) (v := ?_) Sa1t.out rfl rfl (by kernel_rfl) (by kernel_rfl) (by kernel_rfl) (by kernel_rfl) (fun _ _ _ h => h) (SteadyX.value (by rfl) ?_) ?_
  rotate_left
  · (intro w_ hS; go_simp; try with_reducible rfl)
  simp only [List.setIfInBounds_toArray, List.set_cons_zero, List.set_cons_succ]
  refine wpX_one (i := 10) (by kernel_rfl) (fun w_ hS => ?_)
  obtain ⟨q0, q1, q2, q3, q4⟩ := Sa1u.out _ hS
  obtain ⟨g_, hg_⟩ : ∃ g_, g_ = w_.heap.size := ⟨_, rfl⟩
  have LG := Lib.hid (fun g (hg : vl.ownBlock = some g) => Nat.ne_of_lt (show g < g_ by have := q0.loose.lt hg; omega))
  obtain ⟨Sa2, Sa2d⟩ : ∃ S : World → Prop, S = fun v : World => DiskAt v b m vl D.act ∧ Turn (own b m vl) w1 v ∧ Byt v (.slice (some p) D.size c) l ∧ w1.heap.size ≤ v.heap.size ∧ BytP v (.slice (some p5) D.size c5) l ∧ Blk v g_ #[.int .i64 a, (.slice (some p5) D.size c5)] 185 := ⟨_, rfl⟩
  have Sa2t0 : Stands Sa2 := by rw [Sa2d]; exact ((stands_disk _ _ _ _).and ((stands_turn _ _).and ((stands_byt _ _).and ((stands_size _).and ((stands_bytp _ _).and (stands_blk _ _ _))))))
  have Sa2u0 : ∀ v, Sa2 v → DiskAt v b m vl D.act ∧ Turn (own b m vl) w1 v ∧ Byt v (.slice (some p) D.size c) l ∧ w1.heap.size ≤ v.heap.size ∧ BytP v (.slice (some p5) D.size c5) l ∧ Blk v g_ #[.int .i64 a, (.slice (some p5) D.size c5)] 185 := fun v h => by rw [Sa2d] at h; exact h
  have Sa2m0 : ∀ v, (DiskAt v b m vl D.act ∧ Turn (own b m vl) w1 v ∧ Byt v (.slice (some p) D.size c) l ∧ w1.heap.size ≤ v.heap.size ∧ BytP v (.slice (some p5) D.size c5) l ∧ Blk v g_ #[.int .i64 a, (.slice (some p5) D.size c5)] 185) → Sa2 v := fun v h => by rw [Sa2d]; exact h
  have Sa2u := Lib.hid Sa2u0
  have Sa2m := Lib.hid Sa2m0
  have Sa2t := Lib.hid Sa2t0
  clear Sa2d Sa2u0 Sa2m0 Sa2t0
  have st_ : Sa2 (w_.alloc (.cells #[.int .i64 a, (.slice (some p5) D.size c5)] 185)) := Sa2m.out _ ⟨(stands_disk _ _ _ _) _ _ ((Below.refl _ w_).alloc (Nat.le_refl _) _) q0, (stands_turn _ _) _ _ ((Below.refl _ w_).alloc (Nat.le_refl _) _) q1, (stands_byt _ _) _ _ ((Below.refl _ w_).alloc (Nat.le_refl _) _) q2, (stands_size _) _ _ ((Below.refl _ w_).alloc (Nat.le_refl _) _) q3, (stands_bytp _ _) _ _ ((Below.refl _ w_).alloc (Nat.le_refl _) _) q4, Blk.new' w_ _ _ hg_⟩
  refine wpX_run (i := 10) (v := (.slice (some ⟨g_, 0, none⟩) 1 1)) (w' := (w_.alloc (.cells #[.int .i64 a, (.slice (some p5) D.size c5)] 185))) Sa2 rfl rfl (by rfl) (by (subst hg_; go_simp)) Sa2t.out (.inr fun v h => Sa1m.out _ (by obtain ⟨q0, q1, q2, q3, q4, q5⟩ := Sa2u.out _ h; exact ⟨q0, q1, q2, q3, q4⟩)) st_ ?_
  clear hS st_ hg_ q0 q1 q2 q3 q4
  clear w_
  simp only [List.setIfInBounds_toArray, List.set_cons_zero, List.set_cons_succ]
  refine wpX_one (i := 11) (by kernel_rfl) (fun w_ hS => ?_)
  obtain ⟨q0, q1, q2, q3, q4, q5⟩ := Sa2u.out _ hS
  obtain ⟨v6_, w6, happ, hl6, hl6', hgr6, hloc6⟩ := q0.loose.append (by rw [Dsk.act_loose]; exact HL.out) q5 q4
  obtain ⟨A6, c6, rfl, h61, h62⟩ := hl6.form
  clear h61 h62
  obtain ⟨v6, rv6⟩ : ∃ v6, v6 = Value.slice A6 (D.act.loose ++ [(a, l)]).length c6 := ⟨_, rfl⟩
  rw [← rv6] at happ hl6 hloc6
  have hnb := q0.nobytes
  have ht6 : Turn vl.ownBlock.toList w_ w6 := (Turn.refl _ w_).grown hgr6 (fun k e => .inl (by simp [e]))
  have hsub : ∀ k ∈ vl.ownBlock.toList, k ∈ own b m vl := fun k hk => mem_own.2 (.inr (.inr (by simpa using hk)))
  have hnb6 : NoBytes w_ vl.ownBlock.toList := fun k hk => hnb k (hsub k hk)
  have hkd := q0.kinds
  have hd6 : DiskAt w6 b m vl D.act := ⟨q0.ok, (ht6.block b q0.blk.lt (fun hk => (hkd.2 b (by simpa using hk)).1 rfl)).trans q0.blk, q0.fast.turn ht6 hnb6 (fun hk => (hkd.2 m (by simpa using hk)).2 rfl), hl6', fun j hj => q0.bar j (Nat.le_trans ht6.size hj)⟩
  have hg6 : Blk w6 g_ #[.int .i64 a, .slice (some p5) D.size c5] 185 := (ht6.block g_ q5.lt (fun hk => LG.out g_ (by simpa using hk) rfl)).trans q5
  have LV := Lib.hid (fun g (hg : v6.ownBlock = some g) => (show vl.ownBlock = some g ∨ w1.heap.size ≤ g by
    rcases hloc6 with e | e
    · exact .inl (e ▸ hg)
    · rw [hg] at e; injection e with e; omega))
  obtain ⟨Sa3, Sa3d⟩ : ∃ S : World → Prop, S = fun v : World => DiskAt v b m vl D.act ∧ Turn (own b m vl) w1 v ∧ Byt v (.slice (some p) D.size c) l ∧ w1.heap.size ≤ v.heap.size ∧ BytP v (.slice (some p5) D.size c5) l ∧ Blk v g_ #[.int .i64 a, (.slice (some p5) D.size c5)] 185 ∧ Loose v v6 (D.act.loose ++ [(a, l)]) := ⟨_, rfl⟩
  have Sa3t0 : Stands Sa3 := by rw [Sa3d]; exact ((stands_disk _ _ _ _).and ((stands_turn _ _).and ((stands_byt _ _).and ((stands_size _).and ((stands_bytp _ _).and ((stands_blk _ _ _).and (stands_loose _ _)))))))
  have Sa3u0 : ∀ v, Sa3 v → DiskAt v b m vl D.act ∧ Turn (own b m vl) w1 v ∧ Byt v (.slice (some p) D.size c) l ∧ w1.heap.size ≤ v.heap.size ∧ BytP v (.slice (some p5) D.size c5) l ∧ Blk v g_ #[.int .i64 a, (.slice (some p5) D.size c5)] 185 ∧ Loose v v6 (D.act.loose ++ [(a, l)]) := fun v h => by rw [Sa3d] at h; exact h
  have Sa3m0 : ∀ v, (DiskAt v b m vl D.act ∧ Turn (own b m vl) w1 v ∧ Byt v (.slice (some p) D.size c) l ∧ w1.heap.size ≤ v.heap.size ∧ BytP v (.slice (some p5) D.size c5) l ∧ Blk v g_ #[.int .i64 a, (.slice (some p5) D.size c5)] 185 ∧ Loose v v6 (D.act.loose ++ [(a, l)])) → Sa3 v := fun v h => by rw [Sa3d]; exact h
  have Sa3u := Lib.hid Sa3u0
  have Sa3m := Lib.hid Sa3m0
  have Sa3t := Lib.hid Sa3t0
  clear Sa3d Sa3u0 Sa3m0 Sa3t0
  have st_ : Sa3 w6 := Sa3m.out _ ⟨hd6, q1.trans ht6 (fun k hk _ => hsub k hk), q2.turn ht6 hnb6, Nat.le_trans q3 ht6.size, q4.turn ht6 hnb6.sp, hg6, hl6⟩
  refine wpX_run (i := 11) (v := v6) (w' := w6) Sa3 rfl rfl (by rfl) (by exact exec_append (.tmp 28) (.tmp 34) 112 112 rfl rfl rfl happ) Sa3t.out (.inr fun v h => Sa2m.out _ (by obtain ⟨q0, q1, q2, q3, q4, q5, q6⟩ := Sa3u.out _ h; exact ⟨q0, q1, q2, q3, q4, q5⟩)) st_ ?_
  clear hS st_ happ hl6 hl6' hgr6 hloc6 hnb ht6 hsub hnb6 hkd hd6 hg6 q0 q1 q2 q3 q4 q5
  clear w_
  simp only [List.setIfInBounds_toArray, List.set_cons_zero, List.set_cons_succ]
  clear w6 LG
  refine wpX_take (i := 12) (v := ?_) Sa3t.out rfl rfl (by kernel_rfl) (by kernel_rfl) (by kernel_rfl) (by kernel_rfl) (fun _ _ _ h => h) (SteadyX.value (by rfl) ?_) ?_
  rotate_left
  · (intro w_ hS; obtain ⟨q0, q1, q2, q3, q4, q5, q6⟩ := Sa3u.out _ hS; (have q9 := q0.six); go_simp; try with_reducible rfl)
  simp only [List.setIfInBounds_toArray, List.set_cons_zero, List.set_cons_succ]
  refine wpX_take (i := 13) (v := ?_) Sa3t.out rfl rfl (by kernel_rfl) (by kernel_rfl) (by kernel_rfl) (by kernel_rfl) (fun _ _ _ h => h) (SteadyX.value (by rfl) ?_) ?_
  rotate_left
  · (intro w_ hS; go_simp; try with_reducible rfl)
  simp only [List.setIfInBounds_toArray, List.set_cons_zero, List.set_cons_succ]
  refine wpX_one (i := 14) (by kernel_rfl) (fun w_ hS => ?_)
  obtain ⟨q0, q1, q2, q3, q4, q5, q6⟩ := Sa3u.out _ hS
  have q9 := q0.six
  obtain ⟨Sa4, Sa4d⟩ : ∃ S : World → Prop, S = fun v : World => DiskAt v b m v6 DD ∧ Turn (own b m vl) w1 v := ⟨_, rfl⟩
  have Sa4t0 : Stands Sa4 := by rw [Sa4d]; exact ((stands_disk _ _ _ _).and (stands_turn _ _))
  have Sa4u0 : ∀ v, Sa4 v → DiskAt v b m v6 DD ∧ Turn (own b m vl) w1 v := fun v h => by rw [Sa4d] at h; exact h
  have Sa4m0 : ∀ v, (DiskAt v b m v6 DD ∧ Turn (own b m vl) w1 v) → Sa4 v := fun v h => by rw [Sa4d]; exact h
  have Sa4u := Lib.hid Sa4u0
  have Sa4m := Lib.hid Sa4m0
  have Sa4t := Lib.hid Sa4t0
  clear Sa4d Sa4u0 Sa4m0 Sa4t0
  have st_ : Sa4 (w_.setCell ⟨b, 3, none⟩ v6) := Sa4m.out _ ⟨(by rw [HE.out]; exact q0.push q6 HOK.out), q1.set (.inl (mem_own.2 (.inl rfl))) _⟩
  refine wpX_store (i := 14) (w' := (w_.setCell ⟨b, 3, none⟩ v6)) Sa4 rfl rfl (by rfl) (by (subst rv6; go_simp)) Sa4t.out (.inl (by kernel_rfl)) st_ ?_
  clear hS st_ q9 q0 q1 q2 q3 q4 q5 q6
  clear w_
  refine wpX_done (by kernel_rfl) (fun W hS => ?_) _
  obtain ⟨q0, q1⟩ := Sa4u.out _ hS
  clear hS Sa0u Sa0m Sa0t Sa1u Sa1m Sa1t Sa2u Sa2m Sa2t Sa3u Sa3m Sa3t Sa4u Sa4m Sa4t
  clear Sa0 Sa1 Sa2 Sa3 Sa4
  clear HZ HL HOK HZZ HE
  cases z
  · go_wp2
    go_ret
    exact ⟨rfl, _, q0, q1, LV.out⟩
  · go_wp2
    go_ret
    exact ⟨rfl, _, q0, q1, LV.out⟩
theorem Write_any (a : Int) (p : Addr) (c n : Nat) (l : List Nat) (b m : Nat) (vl : Value) (D : Dsk) (w : World) (h : DiskAt w b m vl D) (hb : Byt w (.slice (some p) n c) l) (hn : l.length = n) (hL : D.loose.length ≤ 1000000000) :
    Calls Tryz.prog 112 #[.pointer (some ⟨b, 0, none⟩), .int .i64 a, .slice (some p) n c] w fun e w' => e = .returned (.int .i64 (D.putErr a l)) ∧ ∃ vl', DiskAt w' b m vl' (D.put a l) ∧ Turn (own b m vl) w w' ∧ ∀ g, vl'.ownBlock = some g → vl.ownBlock = some g ∨ w.heap.size ≤ g := by
  unfold Dsk.putErr
  by_cases hr : D.ready a = 0
  · by_cases hl : l.length = D.size
    · rw [if_neg (by simp [hr]), if_neg (by simp [hl])]
      have e : n = D.size := by omega
      subst e
      exact Write_main a p c l b m vl D w h hb hr hl hL
    · rw [if_neg (by simp [hr]), if_pos hl, Dsk.put_stay (.inr hl)]
      have hsz := h.six.2.1
      have hne : (n == D.size) = false := by simp; omega
      have hrd := ready_any a h
      rw [hr] at hrd
      have HRD := Lib.hid hrd
      have H := Lib.hid h
      clear h hb hr hl hn hrd hL
      go_enter Tryz.func112, Tryz.ntmps112
      go_wp2_with fail
      refine HRD.out.mono ?_
      rintro e w1 ⟨rfl, rfl⟩
      go_wp2_with fail
      all_goals (go_ret; exact ⟨rfl, _, H.out, Turn.refl _ _, fun _ h => .inl h⟩)
  · rw [if_pos hr, Dsk.put_stay (.inl hr)]
    have HRD := Lib.hid (ready_any a h)
    have hne : (D.ready a == 0) = false := by simpa using hr
    have H := Lib.hid h
    clear h hb hn hL
    generalize D.ready a = z at *
    go_enter Tryz.func112, Tryz.ntmps112
    go_wp2_with fail
    refine HRD.out.mono ?_
    rintro e w1 ⟨rfl, rfl⟩
    go_wp2_with fail
    all_goals (go_ret; exact ⟨rfl, _, H.out, Turn.refl _ _, fun _ h => .inl h⟩)
end Go.Proofs.YtfmdmfiljplkoaaGreat
namespace Go.Proofs.YtfmdmfiljplkoaaGreat
open Go.RowKit Go.Maps
variable {ι : Type} [Bar ι]
/-- 'm[k] = x', its run known as an equation. -/
theorem exec_mapUpdate {P : Program} {ev : Operand → Value} {o : Oper} (t : TypeId) (m k x : Operand) (ho : o.op = .mapUpdate t m k x) {vm vk vx : Value} {w w' : World} (hm : ev m = vm) (hk : ev k = vk) (hx : ev x = vx)
    (hr : (Instr.mapUpdate t vm vk vx).run P w = .ok () w') : (execOp ev o).run P w = .ok .skip w' := by
  unfold execOp
  simp only [ho, Sem.run_bind, Sem.run_pure, Result.andThen_ok, hm, hk, hx, hr]
namespace Dsk
/-- When k loose writes are fast. -/
def part (d : Dsk) (k : Nat) : Dsk := { d with fast := settle d.fast (d.loose.take k) }
theorem part_succ (d : Dsk) {k : Nat} (h : k < d.loose.length) : d.part (k + 1) = { d.part k with fast := upd (d.part k).fast d.loose[k].1 d.loose[k].2 } := by
  unfold part
  rw [settle_take _ _ _ h]
theorem flush_part (d : Dsk) (h1 : d.down = false) (h2 : d.act.down = false) : d.flush = { d.act.part d.act.loose.length with loose := [] } := by
  unfold flush part
  rw [h1, act_loose, act_fast]
  simp [h2]
theorem Ok.loose_nil {d : Dsk} (h : d.Ok) : ({ d with loose := [] } : Dsk).Ok := ⟨h.s1, h.s2, h.z1, h.z2, h.len, h.byt, by simp, h.arm0, h.arm1⟩
end Dsk
theorem Byt.len_val {w : World} {p : Addr} {n c : Nat} {l : List Nat} (h : Byt w (.slice (some p) n c) l) : l.length = n := by
  obtain ⟨_, _, _, e, _⟩ := h
  injection e with _ e _
  exact e.symm
theorem BytP.drew {w : World} {v : Value} {l : List Nat} (h : BytP w v l) : BytP w.drew v l := h.grew ⟨rfl, rfl, rfl, Nat.le_refl _, fun _ _ => rfl⟩
theorem Byt.drew {w : World} {v : Value} {l : List Nat} (h : Byt w v l) : Byt w.drew v l := h.grew ⟨rfl, rfl, rfl, Nat.le_refl _, fun _ _ => rfl⟩
theorem DiskAt.fastPut {w : World} {b m : Nat} {vl : Value} {D : Dsk} (h : DiskAt w b m vl D) {x : Int} (h0 : 0 ≤ x) (h1 : x < D.sectors) {v : Value} {l : List Nat} (hv : BytP w v l) (hl : l.length = D.size) :
    ∃ w', (Instr.mapUpdate 111 (.map (some m)) (.int .i64 x) v).run Tryz.prog w = .ok () w' ∧ DiskAt w' b m vl { D with fast := upd D.fast x l } ∧ Turn [m] w w' := by
  obtain ⟨n, rfl⟩ := Int.eq_ofNat_of_zero_le h0
  obtain ⟨w', hrun, hf, ht⟩ := h.fast.store (x := n) (by omega) h.ok.s2 hv
  have hturn : Turn [m] w w' := (Turn.refl [m] w).mapped ht (by simp)
  have hnb : NoBytes w [m] := fun k hk => h.nobytes k (by simp at hk; subst hk; exact mem_own.2 (.inr (.inl rfl)))
  have hk := h.kinds
  refine ⟨w', hrun, ⟨⟨h.ok.s1, h.ok.s2, h.ok.z1, h.ok.z2, upd_len h.ok.len hl, upd_byt h.ok.byt hv.1.1, h.ok.lose, h.ok.arm0, h.ok.arm1⟩, (hturn.block b h.blk.lt (by simp; exact hk.1)).trans h.blk, hf, h.loose.turn hturn hnb (fun g hg => by simp; exact (hk.2 g hg).2), fun j hj => h.bar j (Nat.le_trans hturn.size hj)⟩, hturn⟩
theorem Loose.at_ {w : World} {vl : Value} {L : List (Int × List Nat)} (h : Loose w vl L) (k : Nat) (hk : k < L.length) :
    ∃ g c p z d, vl = .slice (some ⟨g, 0, none⟩) L.length c ∧ L.length ≤ c ∧ w.cell? ⟨g, k * 2, none⟩ = some (.int .i64 L[k].1) ∧ w.cell? ⟨g, k * 2 + 1, none⟩ = some (.slice (some p) z d) ∧ BytP w (.slice (some p) z d) L[k].2 ∧ z = L[k].2.length := by
  obtain ⟨vs, h1, ho, h2⟩ := h
  obtain ⟨v, e, hb⟩ := h2 k hk
  obtain ⟨p, d, ev, _, _⟩ := hb.1.rd
  have := wcells_get e
  rcases ho.2 with ⟨rfl, h0⟩ | ⟨g, cap, cur, rfl, hb', hh, hnc, _⟩
  · omega
  · have q0 := World.ownsRow.cells ho (g := g) rfl _ _ this.1
    have q1 := World.ownsRow.cells ho (g := g) rfl _ _ this.2
    rw [addr_add] at q0 q1
    dsimp only at q1
    exact ⟨g, cap, p, _, d, rfl, hnc, q0, ev ▸ q1, ev ▸ hb, rfl⟩
set_option maxHeartbeats 4000000 in
theorem Flush_any (b m : Nat) (vl : Value) (D : Dsk) (w : World) (h : DiskAt w b m vl D) (hL : D.loose.length ≤ 1000000000) :
    Calls Tryz.prog 60 #[.pointer (some ⟨b, 0, none⟩)] w fun e w' => e = .returned (.int .i64 D.flushErr) ∧ ∃ vl', DiskAt w' b m vl' D.flush ∧ Turn (own b m vl) w w' ∧ ∀ g, vl'.ownBlock = some g → vl.ownBlock = some g := by
  obtain ⟨c0, c1, c2, c3, c4, c5, f3, f4, f5⟩ := h.six
  cases hd : D.down with
  | true =>
    have e1 : D.flushErr = 4 := by unfold Dsk.flushErr; simp [hd]
    have e2 : D.flush = D := by unfold Dsk.flush; simp [hd]
    rw [e1, e2]
    rw [hd] at c5
    have H := Lib.hid h
    clear h c0 c1 c2 c3 c4 f3 f4 f5 hL hd e1 e2
    go_enter Tryz.func60, Tryz.ntmps60
    go_wp2
    go_ret
    exact ⟨rfl, _, H.out, Turn.refl _ _, fun _ h => h⟩
  | false =>
    rw [hd] at c5
    obtain ⟨z, hz⟩ : ∃ z, z = D.act.down := ⟨_, rfl⟩
    have e1 : D.flushErr = if z then 4 else 0 := by unfold Dsk.flushErr; simp [hd, hz]
    rw [e1]
    have hOkA := h.ok.act
    have HLL := Lib.hid (show D.act.loose.length ≤ 1000000000 by rw [Dsk.act_loose]; exact hL)
    have hact := act_any h
    rw [← hz] at hact
    have HA := Lib.hid hact
    have H0 := Lib.hid h
    have HF := Lib.hid (fun h2 : D.act.down = false => Dsk.flush_part D hd h2)
    have HF2 := Lib.hid (fun h2 : D.act.down = true => (show D.flush = D.act by unfold Dsk.flush; simp [hd, h2]))
    have HZ := Lib.hid hz
    clear e1 hact hL c0 c1 c2 c3 c4 f3 f4 f5 hd h hz
    go_enter Tryz.func60, Tryz.ntmps60
    go_wp2_with fail
    refine HA.out.mono ?_
    rintro e w2 ⟨rfl, hd2, ht2⟩
    have HT := Lib.hid ht2
    have HD := Lib.hid hd2
    clear ht2
    cases z with
    | true =>
      clear hd2
      go_wp2
      go_ret
      refine ⟨rfl, _, ?_, HT.out.mono (fun k hk _ => mem_own.2 (.inl (by simpa using hk))), fun _ h => h⟩
      rw [HF2.out HZ.out.symm]
      exact HD.out
    | false =>
      obtain ⟨A, c, rfl, _, _⟩ := hd2.loose.form
      obtain ⟨c0, c1, c2, c3, c4, c5, f3, f4, f5⟩ := hd2.six
      have HOA := Lib.hid hOkA
      clear hd2 c0 c1 c2 c4 c5 f3 f4 f5 hOkA HA
      go_wp2
      go_loopw [22] (fun i wr => ∃ k : Nat, k ≤ D.act.loose.length ∧ i = .int .i64 k ∧ Hid (DiskAt wr b m (.slice A D.act.loose.length c) (D.act.part k) ∧ Turn (own b m (.slice A D.act.loose.length c)) w2 wr)) (fun i _ => D.act.loose.length - (intOf i).toNat)
      case atStart => exact ⟨0, by omega, rfl, HD.out, Turn.refl _ _⟩
      case round =>
        obtain ⟨k, hk, rfl, B⟩ := hrel
        clear HD
        by_cases hlt : k < D.act.loose.length
        · obtain ⟨g, c', p5, z, c5, e', _, hc0, hc1, hb, rz⟩ := B.out.1.loose.at_ k hlt
          injection e' with e1 e2 e3
          subst e1 e3
          have hx := HOA.out.lose _ (List.getElem_mem hlt)
          have hn := Dsk.part_succ D.act hlt
          have hzz : (D.act.part k).loose[k]'hlt = D.act.loose[k] := rfl
          rw [hzz] at hc0 hb rz
          obtain ⟨⟨x, l⟩, hxl⟩ : ∃ q, q = D.act.loose[k] := ⟨_, rfl⟩
          rw [← hxl] at hx hn hc0 hb rz
          have HB := Lib.hid hb
          have HN := Lib.hid hn
          have HX := Lib.hid (And.intro hx.1 (And.intro (show x < ((D.act.part k).sectors : Int) from hx.2.1) (show l.length = (D.act.part k).size from hx.2.2.1)))
          clear hb hn hx hzz hxl rz e2
          simp only at hc0
          have hR : ∀ w', w' = (wr.alloc (.cells #[.int .i64 x, .slice (some p5) z c5] 185)) → DiskAt w' b m (.slice (some ⟨g, 0, none⟩) D.act.loose.length c) (D.act.part k) ∧ Turn (own b m (.slice (some ⟨g, 0, none⟩) D.act.loose.length c)) w2 w' ∧ BytP w' (.slice (some p5) z c5) l ∧ Blk w' wr.heap.size #[.int .i64 x, .slice (some p5) z c5] 185 := by
            rintro w' rfl
            have hg := (Below.refl wr.heap.size wr).alloc (Nat.le_refl _) (.cells #[.int .i64 x, .slice (some p5) z c5] 185)
            exact ⟨B.out.1.grew hg, B.out.2.tail hg, HB.out.grew hg, Blk.new' _ _ _ rfl⟩
          have HRR := Lib.hid hR
          clear hR HB
          go_wp2_with fail
          obtain ⟨w3, hw3⟩ : ∃ w3, w3 = wr.alloc (.cells #[.int .i64 x, .slice (some p5) z c5] 185) := ⟨_, rfl⟩
          rw [← hw3]
          have HR := HRR.out _ hw3
          clear HRR hw3
          obtain ⟨Sa0, Sa0d⟩ : ∃ S : World → Prop, S = fun v : World => DiskAt v b m (.slice (some ⟨g, 0, none⟩) D.act.loose.length c) (D.act.part k) ∧ Turn (own b m (.slice (some ⟨g, 0, none⟩) D.act.loose.length c)) w2 v ∧ BytP v (.slice (some p5) z c5) l ∧ Blk v wr.heap.size #[.int .i64 x, .slice (some p5) z c5] 185 := ⟨_, rfl⟩
          have Sa0t0 : Stands Sa0 := by rw [Sa0d]; exact ((stands_disk _ _ _ _).and ((stands_turn _ _).and ((stands_bytp _ _).and (stands_blk _ _ _))))
          have Sa0u0 : ∀ v, Sa0 v → DiskAt v b m (.slice (some ⟨g, 0, none⟩) D.act.loose.length c) (D.act.part k) ∧ Turn (own b m (.slice (some ⟨g, 0, none⟩) D.act.loose.length c)) w2 v ∧ BytP v (.slice (some p5) z c5) l ∧ Blk v wr.heap.size #[.int .i64 x, .slice (some p5) z c5] 185 := fun v h => by rw [Sa0d] at h; exact h
          have Sa0m0 : ∀ v, (DiskAt v b m (.slice (some ⟨g, 0, none⟩) D.act.loose.length c) (D.act.part k) ∧ Turn (own b m (.slice (some ⟨g, 0, none⟩) D.act.loose.length c)) w2 v ∧ BytP v (.slice (some p5) z c5) l ∧ Blk v wr.heap.size #[.int .i64 x, .slice (some p5) z c5] 185) → Sa0 v := fun v h => by rw [Sa0d]; exact h
          have Sa0u := Lib.hid Sa0u0
          have Sa0m := Lib.hid Sa0m0
          have Sa0t := Lib.hid Sa0t0
          clear Sa0d Sa0u0 Sa0m0 Sa0t0
          refine wp_region_X (S := Sa0) (by kernel_rfl) (Sa0m.out _ ⟨HR.1.drew, HR.2.1.drew, HR.2.2.1.drew, HR.2.2.2.drew⟩) ?_
          clear HR
          refine wpX_take (i := 0) (v := ?_) Sa0t.out rfl rfl (by kernel_rfl) (by kernel_rfl) (by kernel_rfl) (by kernel_rfl) (fun _ _ _ h => h) (SteadyX.value (by rfl) ?_) ?_
          rotate_left
          · (intro w_ hS; go_simp; try with_reducible rfl)
          simp only [List.setIfInBounds_toArray, List.set_cons_zero, List.set_cons_succ]
          refine wpX_take (i := 1) (v := ?_) Sa0t.out rfl rfl (by kernel_rfl) (by kernel_rfl) (by kernel_rfl) (by kernel_rfl) (fun _ _ _ h => h) (SteadyX.value (by rfl) ?_) ?_
          rotate_left
          · (intro w_ hS; obtain ⟨q0, q1, q2, q3⟩ := Sa0u.out _ hS; (have q9 := q0.six); (have q8 := q3.two); go_simp; try with_reducible rfl)
          simp only [List.setIfInBounds_toArray, List.set_cons_zero, List.set_cons_succ]
          refine wpX_take (i := 2) (v := ?_) Sa0t.out rfl rfl (by kernel_rfl) (by kernel_rfl) (by kernel_rfl) (by kernel_rfl) (fun _ _ _ h => h) (SteadyX.value (by rfl) ?_) ?_
          rotate_left
          · (intro w_ hS; go_simp; try with_reducible rfl)
          simp only [List.setIfInBounds_toArray, List.set_cons_zero, List.set_cons_succ]
          refine wpX_take (i := 3) (v := ?_) Sa0t.out rfl rfl (by kernel_rfl) (by kernel_rfl) (by kernel_rfl) (by kernel_rfl) (fun _ _ _ h => h) (SteadyX.value (by rfl) ?_) ?_
          rotate_left
          · (intro w_ hS; obtain ⟨q0, q1, q2, q3⟩ := Sa0u.out _ hS; (have q9 := q0.six); (have q8 := q3.two); go_simp; try with_reducible rfl)
          simp only [List.setIfInBounds_toArray, List.set_cons_zero, List.set_cons_succ]
          refine wpX_take (i := 4) (v := ?_) Sa0t.out rfl rfl (by kernel_rfl) (by kernel_rfl) (by kernel_rfl) (by kernel_rfl) (fun _ _ _ h => h) (SteadyX.value (by rfl) ?_) ?_
          rotate_left
          · (intro w_ hS; go_simp; try with_reducible rfl)
          simp only [List.setIfInBounds_toArray, List.set_cons_zero, List.set_cons_succ]
          refine wpX_take (i := 5) (v := ?_) Sa0t.out rfl rfl (by kernel_rfl) (by kernel_rfl) (by kernel_rfl) (by kernel_rfl) (fun _ _ _ h => h) (SteadyX.value (by rfl) ?_) ?_
          rotate_left
          · (intro w_ hS; go_simp; try with_reducible rfl)
          simp only [List.setIfInBounds_toArray, List.set_cons_zero, List.set_cons_succ]
          refine wpX_take (i := 6) (v := ?_) Sa0t.out rfl rfl (by kernel_rfl) (by kernel_rfl) (by kernel_rfl) (by kernel_rfl) (fun _ _ _ h => h) (SteadyX.value (by rfl) ?_) ?_
          rotate_left
          · (intro w_ hS; obtain ⟨q0, q1, q2, q3⟩ := Sa0u.out _ hS; (have q9 := q0.six); (have q8 := q3.two); go_simp; try with_reducible rfl)
          simp only [List.setIfInBounds_toArray, List.set_cons_zero, List.set_cons_succ]
          refine wpX_take (i := 7) (v := ?_) Sa0t.out rfl rfl (by kernel_rfl) (by kernel_rfl) (by kernel_rfl) (by kernel_rfl) (fun _ _ _ h => h) (SteadyX.value (by rfl) ?_) ?_
          rotate_left
          · (intro w_ hS; go_simp; try with_reducible rfl)
          simp only [List.setIfInBounds_toArray, List.set_cons_zero, List.set_cons_succ]
          refine wpX_take (i := 8) (v := ?_) Sa0t.out rfl rfl (by kernel_rfl) (by kernel_rfl) (by kernel_rfl) (by kernel_rfl) (fun _ _ _ h => h) (SteadyX.value (by rfl) ?_) ?_
          rotate_left
          · (intro w_ hS; obtain ⟨q0, q1, q2, q3⟩ := Sa0u.out _ hS; (have q9 := q0.six); (have q8 := q3.two); go_simp; try with_reducible rfl)
          simp only [List.setIfInBounds_toArray, List.set_cons_zero, List.set_cons_succ]
          refine wpX_one (i := 9) (by kernel_rfl) (fun w_ hS => ?_)
          obtain ⟨q0, q1, q2, q3⟩ := Sa0u.out _ hS
          obtain ⟨w8, hrun, hd8, ht8⟩ := q0.fastPut HX.out.1 HX.out.2.1 q2 HX.out.2.2
          obtain ⟨Sa1, Sa1d⟩ : ∃ S : World → Prop, S = fun v : World => DiskAt v b m (.slice (some ⟨g, 0, none⟩) D.act.loose.length c) (D.act.part (k + 1)) ∧ Turn (own b m (.slice (some ⟨g, 0, none⟩) D.act.loose.length c)) w2 v := ⟨_, rfl⟩
          have Sa1t0 : Stands Sa1 := by rw [Sa1d]; exact ((stands_disk _ _ _ _).and (stands_turn _ _))
          have Sa1u0 : ∀ v, Sa1 v → DiskAt v b m (.slice (some ⟨g, 0, none⟩) D.act.loose.length c) (D.act.part (k + 1)) ∧ Turn (own b m (.slice (some ⟨g, 0, none⟩) D.act.loose.length c)) w2 v := fun v h => by rw [Sa1d] at h; exact h
          have Sa1m0 : ∀ v, (DiskAt v b m (.slice (some ⟨g, 0, none⟩) D.act.loose.length c) (D.act.part (k + 1)) ∧ Turn (own b m (.slice (some ⟨g, 0, none⟩) D.act.loose.length c)) w2 v) → Sa1 v := fun v h => by rw [Sa1d]; exact h
          have Sa1u := Lib.hid Sa1u0
          have Sa1m := Lib.hid Sa1m0
          have Sa1t := Lib.hid Sa1t0
          clear Sa1d Sa1u0 Sa1m0 Sa1t0
          have st_ : Sa1 w8 := Sa1m.out _ ⟨(by rw [HN.out]; exact hd8), q1.trans ht8 (fun j hj _ => by simp at hj; subst hj; exact mem_own.2 (.inr (.inl rfl)))⟩
          refine wpX_store (i := 9) (w' := w8) Sa1 rfl rfl (by rfl) (by exact exec_mapUpdate _ (.tmp 29) (.tmp 32) (.tmp 34) rfl rfl rfl rfl hrun) Sa1t.out (.inl (by kernel_rfl)) st_ ?_
          clear hS st_ hrun hd8 ht8 q0 q1 q2 q3
          clear w_
          refine wpX_done (by kernel_rfl) (fun W hS => ?_) _
          obtain ⟨q0, q1⟩ := Sa1u.out _ hS
          clear hS Sa0u Sa0m Sa0t Sa1u Sa1m Sa1t
          clear Sa0 Sa1
          have BB := Lib.hid (And.intro q0 q1)
          clear q0 q1 B HN HX
          have hkb : (k : Int) ≤ 1000000000 := by have := HLL.out; omega
          go_wp2
          go_round
          case rel => exact ⟨k + 1, by omega, val_int (by simp), BB⟩
          case measure => simp only [intOf]; omega
        · have hke : k = D.act.loose.length := by omega
          have HE := Lib.hid hke
          obtain ⟨c0, c1, c2, c4, c6, c7, f3, f4, f5⟩ := B.out.1.six
          clear c0 c1 c2 c6 c7 f4 f5
          clear hk hke
          go_wp2
          go_ret
          refine ⟨?_, nilv, ?_, ?_, fun g hg => by simp [nilv, Value.ownBlock] at hg⟩
          · rfl
          · rw [HF.out HZ.out.symm, ← HE.out]
            exact B.out.1.push (Loose.nil _) (Dsk.Ok.loose_nil B.out.1.ok)
          · exact ((HT.out.mono (fun k hk _ => mem_own.2 (.inl (by simpa using hk)))).trans B.out.2 (fun _ h _ => h)).set (.inl (mem_own.2 (.inl rfl))) _
end Go.Proofs.YtfmdmfiljplkoaaGreat
namespace Go.Proofs.YtfmdmfiljplkoaaGreat
open Go.RowKit Go.Maps
/-- From A on the world holds these numbers. -/
def IRd (w : World) (A : Option Addr) (l : List Int) : Prop :=
  (∀ x ∈ l, -9223372036854775808 ≤ x ∧ x ≤ 9223372036854775807) ∧ (l ≠ [] → ∃ p, A = some p ∧ p.block < w.heap.size ∧ ∀ k (h : k < l.length), w.cell? (p.add k) = some (.int .i64 l[k]))
/-- The fates that are left, in block F. -/
def Fat (w : World) (F : Nat) (T : List Nat) (fs : List Int) : Prop :=
  ∃ A c, Blk w F #[.slice A fs.length c] 118 ∧ fs.length ≤ c ∧ IRd w A fs ∧ (fs ≠ [] → ∀ p, A = some p → p.block ∉ T ∧ p.block ≠ F)
end Go.Proofs.YtfmdmfiljplkoaaGreat
