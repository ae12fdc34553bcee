/- Walks: log.Clean. -/
import Derived.Test.YtfmdmfiljplkoaaGreatA2
import Derived.Test.YtfmdmfiljplkoaaGreatLD
namespace Go.Proofs.YtfmdmfiljplkoaaGreat
open Go.RowKit Go.Maps Go.Shelf
attribute [local go_sem] Oper.semAt_some
set_option maxRecDepth 8000
variable {ι : Type} [Bar ι]
/-- Which of a log's first k slots are no sectors, and not empty. -/
def isTorn (s : List Nat) (i : Nat) : Bool := (slotEp s i == 0) && !slotEmpty s i
def tornL (D : Dsk) (f : Nat) : Nat → List Nat
  | 0 => []
  | k + 1 => if isTorn (D.tells ((f : Int) + k)) k then tornL D f k ++ [k] else tornL D f k
theorem tornL_lt (D : Dsk) (f : Nat) : ∀ k, ∀ i ∈ tornL D f k, i < k
  | 0, i, h => by simp [tornL] at h
  | k + 1, i, h => by
    unfold tornL at h
    split at h
    · rcases List.mem_append.1 h with h | h
      · have := tornL_lt D f k i h; omega
      · simp at h; omega
    · have := tornL_lt D f k i h; omega
theorem tornL_len (D : Dsk) (f : Nat) : ∀ k, (tornL D f k).length ≤ k
  | 0 => Nat.le_refl _
  | k + 1 => by
    have := tornL_len D f k
    unfold tornL
    split
    · simp; omega
    · omega
def icells (l : List Nat) : List Value := l.map fun x : Nat => .int .i64 (x : Int)
theorem int_row : (Tryz.prog.info? 3).map (fun i => (i.zero, i.size, i.bytes)) = some (some (.int .i64 0), 1, 8) := by kernel_rfl
structure ClS (w0 v : World) (b m : Nat) (vl : Value) (D : Dsk) (f c X EB TB d l : Nat) (tv : Value) (ts : List Nat) (o : Loop) : Prop where
  disk : DiskAt v b m vl D
  kX : Blk v X #[.pointer (some ⟨b, 0, none⟩), .int .i64 f, .int .i64 c] 172
  kE : Blk v EB #[.int .i64 0] 30
  kT : Blk v TB #[tv] 118
  row : v.ownsRow w0.heap.size 3 1 tv ts.length (icells ts)
  kd : v.heap[d]? = some (.deferred (some []))
  kl : v.heap[l]? = some (.loop o)
  low : Below w0.heap.size w0 v
  lo : w0.heap.size ≤ TB ∧ w0.heap.size ≤ l ∧ w0.heap.size ≤ d
theorem row_kind {v : World} {base : Nat} {e : TypeId} {s n : Nat} {tv : Value} {xs : List Value} (h : v.ownsRow base e s tv n xs) {g : Nat} (hg : tv.ownBlock = some g) : ∃ cs, v.heap[g]? = some (.cells cs e (0, 0)) := by
  rcases h.2 with ⟨rfl, _⟩ | ⟨g', cap, cur, rfl, _, hh, _⟩
  · simp [Value.ownBlock] at hg
  · simp [Value.ownBlock] at hg; subst hg; exact ⟨_, hh⟩
theorem row_turn {T : List Nat} {v v' : World} {base : Nat} {e : TypeId} {s n : Nat} {tv : Value} {xs : List Value} (h : v.ownsRow base e s tv n xs) (k : Turn T v v') (hT : ∀ g, tv.ownBlock = some g → g ∉ T) : v'.ownsRow base e s tv n xs := by
  refine ⟨h.1, ?_⟩
  rcases h.2 with h | ⟨g, cap, cur, rfl, hb, hh, r⟩
  · exact .inl h
  · exact .inr ⟨g, cap, cur, rfl, hb, (k.block g (lt_of_block hh) (hT g rfl)).trans hh, r⟩
theorem disk_kinds {v : World} {b m : Nat} {vl : Value} {D : Dsk} (hd : DiskAt v b m vl D) : ∀ j ∈ own b m vl, (∀ cs fz, v.heap[j]? ≠ some (.cells cs 3 fz)) ∧ (∀ cs fz, v.heap[j]? ≠ some (.cells cs 118 fz)) ∧ (∀ cs fz, v.heap[j]? ≠ some (.cells cs 30 fz)) ∧ (∀ cs fz, v.heap[j]? ≠ some (.cells cs 172 fz)) ∧ (∀ o, v.heap[j]? ≠ some (.deferred o)) := by
  intro j hj
  rcases mem_own.1 hj with rfl | rfl | hg
  · have := hd.blk; unfold Blk at this
    refine ⟨fun cs fz e => ?_, fun cs fz e => ?_, fun cs fz e => ?_, fun cs fz e => ?_, fun o e => ?_⟩ <;> (rw [this] at e; cases e)
  · obtain ⟨es, clock, hx⟩ := hd.fast.kind
    refine ⟨fun cs fz e => ?_, fun cs fz e => ?_, fun cs fz e => ?_, fun cs fz e => ?_, fun o e => ?_⟩ <;> (rw [hx] at e; cases e)
  · obtain ⟨cs2, e2⟩ := hd.loose.kind hg
    refine ⟨fun cs fz e => ?_, fun cs fz e => ?_, fun cs fz e => ?_, fun cs fz e => ?_, fun o e => ?_⟩ <;> (rw [e2] at e; cases e)
section
variable {w0 v v' : World} {b m : Nat} {vl : Value} {D : Dsk} {f c X EB TB d l : Nat} {tv : Value} {ts : List Nat} {o o' : Loop}
theorem ClS.grew (h : ClS w0 v b m vl D f c X EB TB d l tv ts o) (k : Below v.heap.size v v') : ClS w0 v' b m vl D f c X EB TB d l tv ts o :=
  ⟨h.disk.grew k, h.kX.grew k, h.kE.grew k, h.kT.grew k, row_turn h.row (Turn.of_below k []) (by simp), (k.block _ (lt_of_block h.kd)).trans h.kd, (k.block _ (lt_of_block h.kl)).trans h.kl, grow h.low k, h.lo⟩
theorem ClS.turned (h : ClS w0 v b m vl D f c X EB TB d l tv ts o) (k : Turned l (.loop o') v v') : ClS w0 v' b m vl D f c X EB TB d l tv ts o' := by
  refine ⟨h.disk.turned h.kl k, h.kX.turned h.kl k, h.kE.turned h.kl k, h.kT.turned h.kl k, row_turn h.row k.turn (fun g hg hm => ?_), (k.same d ?_).trans h.kd, k.at_, h.low.trans (k.below h.lo.2.1), h.lo⟩
  · obtain ⟨cs, hx⟩ := row_kind h.row hg
    simp at hm; subst hm; rw [h.kl] at hx; cases hx
  · intro hx
    have := h.kd
    rw [hx, h.kl] at this
    cases this
/-- A turn of blocks of kinds 3 and 55 that are no others: all but these stands. -/
theorem ClS.push (h : ClS w0 v b m vl D f c X EB TB d l tv ts o) (i : Nat) (hn : ts.length ≤ 1000000000) :
    ∃ tv' v3, (Builtin.append_ #[118, 118] 118 #[tv, .slice (some ⟨v.heap.size, 0, none⟩) 1 1]).run Tryz.prog (v.alloc (.cells #[.int .i64 i] 3)) = .ok tv' v3 ∧ v3.cell? ⟨TB, 0, none⟩ = some tv ∧ v3.frozen? ⟨TB, 0, none⟩ = false ∧
      ClS w0 (v3.setCell ⟨TB, 0, none⟩ tv') b m vl D f c X EB TB d l tv' (ts ++ [i]) o := by
  obtain ⟨v2, h2⟩ : ∃ v2, v2 = v.alloc (.cells #[.int .i64 i] 3) := ⟨_, rfl⟩
  have k2 : Below v.heap.size v v2 := by subst h2; exact grow_alloc (Below.refl _ _) _
  have hB : Blk v2 v.heap.size #[.int .i64 i] 3 := by subst h2; exact Blk.new _ _ _
  have g2 := h.grew k2
  have hsz : w0.heap.size ≤ v2.heap.size := Nat.le_trans h.low.size k2.size
  obtain ⟨ii, hi, hz, hs, hby⟩ := info_parts int_row
  have hc := hB.one
  obtain ⟨tv', v3, hrun, ho', hgr, hloc, hold⟩ := run_append_keeps (P := Tryz.prog) v2 w0.heap.size 118 118 3 ii _ 1 8 Tryz.underlying118 hi hz hs hby rfl (by omega) tv ts.length (icells ts) g2.row ⟨v.heap.size, 0, none⟩ 1 1 [.int .i64 i] rfl
    (fun j u hu => by
      match j, hu with
      | 0, hu => simp at hu; subst hu; exact hc.1) (by intro u hu; simp at hu; subst hu; rfl) (by simp only [maxLen]; omega) (by omega) hsz
  rw [← h2]
  have ht : Turn tv.ownBlock.toList v2 v3 := (Turn.refl _ v2).grown hgr (fun k e => .inl (by simp [e]))
  have hT : ∀ j ∈ tv.ownBlock.toList, ∃ cs, v2.heap[j]? = some (.cells cs 3 (0, 0)) := fun j hj => row_kind g2.row (by simpa using hj)
  have no : ∀ (x : Nat) (o : Obj), v2.heap[x]? = some o → (∀ cs, o ≠ .cells cs 3 (0, 0)) → x ∉ tv.ownBlock.toList := by
    intro x o hx ho hm
    obtain ⟨cs', e'⟩ := hT x hm
    rw [hx] at e'
    exact ho _ (Option.some.inj e')
  have nb : NoBytes v2 tv.ownBlock.toList := by
    intro j hj cs fz hx
    obtain ⟨cs', e'⟩ := hT j hj
    rw [hx] at e'; cases e'
  have bl : ∀ {x : Nat} {cs : Array Value} {t : TypeId}, Blk v2 x cs t → t ≠ 3 → Blk v3 x cs t := fun hb htt => (ht.block _ hb.lt (no _ _ hb (by intro cs hx; cases hx; exact htt rfl))).trans hb
  have hlo : ∀ j ∈ tv.ownBlock.toList, w0.heap.size ≤ j := fun j hj => (World.ownsRow.lt g2.row j (by simpa using hj)).1
  have hd3 : DiskAt v3 b m vl D := g2.disk.turn ht nb (fun j hj hm => by
    obtain ⟨cs, e⟩ := hT j hm
    exact (disk_kinds g2.disk j hj).1 _ _ e)
  have kT3 := bl g2.kT (by decide)
  have k : Turn [TB] v3 (v3.setCell ⟨TB, 0, none⟩ tv') := (Turn.refl [TB] v3).set (.inl (by simp)) _
  have nbT : NoBytes v3 [TB] := by
    intro j hj cs fz hx
    simp at hj; subst hj
    unfold Blk at kT3; rw [kT3] at hx; cases hx
  have noT : ∀ (x : Nat) (o : Obj), v3.heap[x]? = some o → (∀ cs, o ≠ .cells cs 118 (0, 0)) → x ∉ [TB] := by
    intro x o hx ho hm
    simp at hm; subst hm
    unfold Blk at kT3; rw [kT3] at hx
    exact ho _ (Option.some.inj hx).symm
  have blT : ∀ {x : Nat} {cs : Array Value} {t : TypeId}, Blk v3 x cs t → t ≠ 118 → Blk (v3.setCell ⟨TB, 0, none⟩ tv') x cs t := fun hb htt => (k.block _ hb.lt (noT _ _ hb (by intro cs hx; cases hx; exact htt rfl))).trans hb
  have kd3 : v3.heap[d]? = some (.deferred (some [])) := (ht.block d (lt_of_block g2.kd) (no _ _ g2.kd (by intro cs hx; cases hx))).trans g2.kd
  have kl3 : v3.heap[l]? = some (.loop o) := (ht.block l (lt_of_block g2.kl) (no _ _ g2.kl (by intro cs hx; cases hx))).trans g2.kl
  refine ⟨tv', v3, hrun, kT3.cell 0, kT3.free 0, hd3.turn k nbT (fun j hj hm => ?_), blT (bl g2.kX (by decide)) (by decide), blT (bl g2.kE (by decide)) (by decide), ?_, ?_, (k.block d (lt_of_block kd3) (noT _ _ kd3 (by intro cs hx; cases hx))).trans kd3, (k.block l (lt_of_block kl3) (noT _ _ kl3 (by intro cs hx; cases hx))).trans kl3, ((g2.low.trans (ht.below g2.low.size hlo))).setCell (p := ⟨TB, 0, none⟩) h.lo.1 _, h.lo⟩
  · simp at hm; subst hm
    unfold Blk at kT3
    exact (disk_kinds hd3 _ hj).2.1 _ _ kT3
  · have := kT3.set 0 tv'
    simpa using this
  · have e : icells (ts ++ [i]) = icells ts ++ [.int .i64 (i : Int)] := by simp [icells]
    rw [e, List.length_append]
    refine row_turn ho' k (fun g hg hm => ?_)
    obtain ⟨cs, hx⟩ := row_kind ho' hg
    simp at hm; subst hm
    unfold Blk at kT3; rw [kT3] at hx; cases hx
end
/-- The disk behind the zeros. -/
def wiped (D : Dsk) (f : Nat) (ts : List Nat) : Dsk := ts.foldl (fun (D : Dsk) (i : Nat) => D.put ((f : Int) + i) (List.replicate D.size 0)) D
theorem put_up {D : Dsk} (hd : D.down = false) (ha : D.armed = 0) (a : Int) (l : List Nat) (h0 : 0 ≤ a) (h1 : a < (D.sectors : Int)) (hl : l.length = D.size) : D.put a l = { D with loose := D.loose ++ [(a, l)] } ∧ D.putErr a l = 0 := by
  have hr : D.ready a = 0 := by unfold Dsk.ready; rw [hd, if_neg (by simp), if_neg (by omega)]
  have hact : D.act = D := by unfold Dsk.act; rw [if_neg (by omega)]
  refine ⟨by rw [Dsk.put_eq hr hl, hact], ?_⟩
  unfold Dsk.putErr
  rw [hr, if_neg (by simp), if_neg (by simp [hl]), hact, hd]
  rfl
end Go.Proofs.YtfmdmfiljplkoaaGreat
