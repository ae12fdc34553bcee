/- strings.Builder's contracts with the frame that reaches above the builder; what stands in memory while a text's signs are gone through. -/
import Derived.Shelf.Strings.BuilderK
import Derived.Lib.OwnKind
import Derived.Test.YtmdmejfcknaokaaDoorRow
import Derived.Test.YtmdmejfcknaokaaDoorW6
import Derived.Test.YtmdmejfcknaokaaDoorRange
namespace Go.Proofs.YtmdmejfcknaokaaDoor
open Go.RowKit

theorem F_cells {B b : Nat} {bs : List Value} {w : World} (h : Lib.IsBuilderF 50 5 B b bs w) : B ≤ b ∧ ∃ p v, Blk w b #[p, v] 50 ∧ w.ownsRowF B 5 1 v bs.length bs ∧ v.ownBlock ≠ some b ∧ (p = .pointer none ∨ p = .pointer (some ⟨b, 0, none⟩)) := by
  rcases h with ⟨hB, v, hb, ho, hn⟩ | ⟨hB, v, hb, ho, hn⟩
  · exact ⟨hB, _, v, hb, ho, hn, Or.inl rfl⟩
  · exact ⟨hB, _, v, hb, ho, hn, Or.inr rfl⟩
theorem F_of {B b : Nat} {bs : List Value} {w : World} {p v : Value} (hB : B ≤ b) (h : Blk w b #[p, v] 50) (ho : w.ownsRowF B 5 1 v bs.length bs) (hn : v.ownBlock ≠ some b) (hp : p = .pointer none ∨ p = .pointer (some ⟨b, 0, none⟩)) : Lib.IsBuilderF 50 5 B b bs w := by
  rcases hp with rfl | rfl
  · exact Or.inl ⟨hB, v, h, ho, hn⟩
  · exact Or.inr ⟨hB, v, h, ho, hn⟩
theorem F_new {B b : Nat} {w : World} (hB : B ≤ b) (h : Blk w b #[.pointer none, .slice none 0 0] 50) : Lib.IsBuilderF 50 5 B b [] w := Lib.IsBuilderF.of (IsBuilder_new hB h)

theorem copyCheck_k (B b : Nat) (bs : List Value) (w : World) (h : Lib.IsBuilderF 50 5 B b bs w) :
    Calls Tryd.prog 35 #[.pointer (some ⟨b, 0, none⟩)] w fun e w' => e = .returned (.tuple #[]) ∧ Lib.BuilderAtF 50 5 B b (.pointer (some ⟨b, 0, none⟩)) bs w' ∧ Below B w w' ∧ Lib.OthersKept 5 (some b) w w' := by
  rcases h with h | h
  · refine (copy_fresh b w h.cell0 h.shape h.frozen0).mono ?_
    rintro e w' ⟨rfl, rfl⟩
    exact ⟨rfl, h.used _, (Below.refl B w).setCell (p := ⟨b, 0, none⟩) h.1 _, (Lib.OthersKept.refl _ _ w).setCell ⟨b, 0, none⟩ rfl _⟩
  · refine (copy_used b w h.cell0).mono ?_
    rintro e w' ⟨rfl, rfl⟩
    exact ⟨rfl, h, Below.refl B _, Lib.OthersKept.refl _ _ _⟩

theorem WriteString_k (B b : Nat) (bs : List Value) (s : ByteArray) (w : World) (h : Lib.IsBuilderF 50 5 B b bs w) (hlen : bs.length + s.size ≤ 140737488355328) (hBw : B ≤ w.heap.size) :
    Calls Tryd.prog 28 #[.pointer (some ⟨b, 0, none⟩), .string s] w fun e w' => e = .returned (.tuple #[.int .i64 s.size, .nilIface]) ∧ Lib.IsBuilderF 50 5 B b (bs ++ Lib.strCells s) w' ∧ Below B w w' ∧ Lib.OthersKept 5 (some b) w w' := by
  obtain ⟨i0, hi, hz0, hz1, hz2⟩ := info_parts info5
  have HC := Lib.hid (copyCheck_k B b bs w h)
  have HI := Lib.hid hi
  have HZ := Lib.hid (And.intro hz0 (And.intro hz1 hz2))
  clear h hi hz0 hz1 hz2
  go_enter Tryd.func28, Tryd.ntmps28
  go_wp2_with fail
  refine HC.out.mono ?_
  rintro e w1 ⟨rfl, ⟨hB, v, hbk, hown, hne⟩, hb1, hk1⟩
  have hlt : b < w1.heap.size := lt_of_block hbk
  have c1 : w1.cell? ⟨b, 1, none⟩ = some v := by rw [Lib.cell_of_heap hbk]; rfl
  have HB := Lib.hid hbk
  have HO := Lib.hid hown
  clear hbk hown HC
  go_wp2_with (at_builtin; refine Lib.wpList_append_own_stringF _ rfl _ _ 48 9 rfl B 5 i0 Tryd.underlying48 Tryd.underlying9 HI.out HZ.out.1 HZ.out.2.1 HZ.out.2.2 _ _ _ rfl HO.out s rfl ?c3 ?c4 ?c5 ?_)
  case c3 => unfold maxLen; omega
  case c4 => omega
  case c5 => have := hb1.size; omega
  intro v' w2 hown' hgrow _
  have hb2 : w2.heap[b]? = some (.cells #[.pointer (some ⟨b, 0, none⟩), v] 50 (0, 0)) := by
    rw [hgrow.block b hlt (fun e => hne e.symm)]
    exact HB.out
  have f1 : w2.frozen? ⟨b, 1, none⟩ = false := Lib.frozen_of_heap hb2 1
  have d1 : w2.cell? ⟨b, 1, none⟩ = some v := by rw [Lib.cell_of_heap hb2]; rfl
  obtain ⟨ao, n', cap, rfl⟩ : ∃ ao n' cap, v' = .slice ao n' cap := by
    rcases hown'.2 with ⟨hv, _⟩ | ⟨g, cap, cur, fz, hv, _⟩
    · exact ⟨_, _, _, hv⟩
    · exact ⟨_, _, _, hv⟩
  have H2 := Lib.hid hb2
  have HO2 := Lib.hid hown'
  have HK := Lib.hid hk1
  clear hb2 hown' hk1
  go_wp2
  go_ret2
  refine ⟨rfl, Or.inr ?_, ?_, (HK.out.grown hgrow (Lib.ownsRowF_kind HO.out)).setCell ⟨b, 1, none⟩ rfl _⟩
  · exact Lib.BuilderAtF.put (T := 50) (e := 5) hB H2.out (bs' := bs ++ Lib.strCells s) (by simpa [Lib.strCells_length] using HO2.out) (by decide)
  · exact (hb1.grown hgrow (by have := hb1.size; omega) (fun k hk => (HO.out.lt k hk).1)).setCell (p := ⟨b, 1, none⟩) hB _

theorem Reset_k (B b : Nat) (bs : List Value) (w : World) (h : Lib.IsBuilderF 50 5 B b bs w) :
    Calls Tryd.prog 26 #[.pointer (some ⟨b, 0, none⟩)] w fun e w' => e = .returned (.tuple #[]) ∧ Lib.IsBuilderF 50 5 B b [] w' ∧ Below B w w' ∧ Lib.OthersKept 5 (some b) w w' := by
  obtain ⟨hB, p, v, hb, _⟩ := F_cells h
  have f := hb.two
  have HB := Lib.hid hb
  clear h hb
  go_enter Tryd.func26, Tryd.ntmps26
  go_wp2
  go_end0
  refine ⟨rfl, F_new hB ?_, ?_, ?_⟩
  · exact (HB.out.set 0 _).set 1 _
  · exact ((Below.refl _ _).setCell (p := ⟨b, 0, none⟩) hB _).setCell (p := ⟨b, 1, none⟩) hB _
  · exact ((Lib.OthersKept.refl _ _ w).setCell ⟨b, 0, none⟩ rfl _).setCell ⟨b, 1, none⟩ rfl _

theorem String_k (B b : Nat) (l : List UInt8) (w : World) (h : Lib.IsBuilderF 50 5 B b (Lib.byteCells l) w) (h0 : l ≠ []) :
    Calls Tryd.prog 25 #[.pointer (some ⟨b, 0, none⟩)] w fun e w' => e = .returned (.string ⟨l.toArray⟩) ∧ Lib.IsBuilderF 50 5 B b (Lib.byteCells l) w' ∧ Below B w w' ∧ Lib.OthersKept 5 (some b) w w' :=
  Any.Builder_String_k Tryd.lays169 Tryd.extra169 B b l w h h0
theorem Len_f (B b : Nat) (bs : List Value) (w : World) (h : Lib.IsBuilderF 50 5 B b bs w) :
    Calls Tryd.prog 27 #[.pointer (some ⟨b, 0, none⟩)] w fun e w' => e = .returned (.int .i64 bs.length) ∧ w' = w :=
  Any.Builder_Len_f Tryd.lays170 B b bs w h

/-! ### What stands -/

/-- All blocks but those of X stand. -/
structure Same (X : Nat → Prop) (W W' : World) : Prop where
  size : W.heap.size ≤ W'.heap.size
  at_ : ∀ k o, W.heap[k]? = some o → ¬ X k → W'.heap[k]? = some o
section
variable {X : Nat → Prop} {W W' : World}
theorem Same.turned {l : Nat} {o : Obj} (h : Turned l o W W') : Same (fun k => k = l) W W' := ⟨Nat.le_of_eq h.size.symm, fun k _ hk hx => (h.same k hx).trans hk⟩
theorem Same.below (h : Below W.heap.size W W') : Same (fun _ => False) W W' := ⟨h.size, fun k _ hk _ => (h.block k (lt_of_block hk)).trans hk⟩
theorem Same.set (W : World) (b i : Nat) (v : Value) : Same (fun k => k = b) W (W.setCell ⟨b, i, none⟩ v) := ⟨by simp, fun k _ hk hx => (Below.heap_setCell W ⟨b, i, none⟩ v k hx).trans hk⟩
theorem Same.others {b : Nat} (h : Lib.OthersKept 5 (some b) W W') (hs : W.heap.size ≤ W'.heap.size) : Same (fun k => k = b ∨ ∃ c fz, W.heap[k]? = some (.cells c 5 fz)) W W' :=
  ⟨hs, fun k o hk hx => h k o hk (fun e => hx (Or.inl (Option.some.inj e))) (fun c fz e => hx (Or.inr ⟨c, fz, e ▸ hk⟩))⟩
theorem Same.grown {row : Option Nat} (h : W.grownBy W' row) : Same (fun k => some k = row) W W' := ⟨h.size, fun k _ hk hx => (h.block k (lt_of_block hk) hx).trans hk⟩
theorem Same.iterAt (W : World) (b : Nat) (s : ByteArray) (pos : Nat) : Same (fun k => k = b) W (W.iterAt b s pos) := ⟨by rw [Lib.iterAt_size]; exact Nat.le_refl _, fun k _ hk hx => (Lib.iterAt_other W b k s pos hx).trans hk⟩
theorem Same.trans {Y : Nat → Prop} {W2 : World} (h : Same X W W') (k : Same Y W' W2) : Same (fun i => X i ∨ Y i) W W2 :=
  ⟨Nat.le_trans h.size k.size, fun i o hi hx => k.at_ i o (h.at_ i o hi (fun e => hx (Or.inl e))) (fun e => hx (Or.inr e))⟩
theorem Blk.same {b : Nat} {c : Array Value} {t : TypeId} (h : Blk W b c t) (s : Same X W W') (hx : ¬ X b) : Blk W' b c t := s.at_ _ _ h hx
theorem OwnW.same {et : TypeId} {B : Nat} {v : Value} {l : List Wd} (h : OwnW et W B v l) (s : Same X W W') (hx : ∀ k c fz, W.heap[k]? = some (.cells c et fz) → ¬ X k) : OwnW et W' B v l := by
  refine ⟨h.1, ?_⟩
  rcases h.2 with hn | ⟨g, cap, cur, hv, hb, hg, rest⟩
  · exact Or.inl hn
  · exact Or.inr ⟨g, cap, cur, hv, hb, s.at_ _ _ hg (hx _ _ _ hg), rest⟩
theorem F_same {B b : Nat} {bs : List Value} (h : Lib.IsBuilderF 50 5 B b bs W) (s : Same X W W') (hb : ¬ X b) (hx : ∀ k c fz, W.heap[k]? = some (.cells c 5 fz) → ¬ X k) : Lib.IsBuilderF 50 5 B b bs W' := by
  obtain ⟨hB, p, v, hbk, ho, hn, hp⟩ := F_cells h
  refine F_of hB (hbk.same s hb) ⟨ho.1, ?_⟩ hn hp
  rcases ho.2 with hn | ⟨g, cap, cur, fz, hv, hb, hg, rest⟩
  · exact Or.inl hn
  · exact Or.inr ⟨g, cap, cur, fz, hv, hb, s.at_ _ _ hg (hx _ _ _ hg), rest⟩
end

def ub (t : List Nat) : List UInt8 := t.map UInt8.ofNat
theorem str_ub (t : List Nat) : (⟨(ub t).toArray⟩ : ByteArray) = str t := rfl
theorem strCells_str (t : List Nat) : Lib.strCells (str t) = Lib.byteCells (ub t) := by
  unfold Lib.strCells Lib.byteCells str ub; simp
theorem cells_append (t f : List Nat) : Lib.byteCells (ub t) ++ Lib.strCells (str f) = Lib.byteCells (ub (t ++ f)) := by
  rw [strCells_str]; unfold Lib.byteCells ub; simp
theorem cells_len (t : List Nat) : (Lib.byteCells (ub t)).length = t.length := by unfold Lib.byteCells ub; simp

/-- What stands in memory: 'out' (B), the builder (B + 1), 'from' (B + 2), 'cut' (B + 3), the text (B + 4), what is deferred (B + 5), the loop (B + 6), the iterator (B + 7). -/
structure St (w0 : World) (B : Nat) (s : ByteArray) (rec : Loop) (pos : Nat) (vo vr : Value) (l : List Wd) (fr : Int) (cu : Bool) (t : List Nat) (W : World) : Prop where
  out : Blk W B #[vo] 28
  row : OwnW 33 W B vr l
  now : Lib.IsBuilderF 50 5 B (B + 1) (Lib.byteCells (ub t)) W
  fr : Blk W (B + 2) #[.int .i64 fr] 3
  cut : Blk W (B + 3) #[.bool cu] 4
  txt : Blk W (B + 4) #[.string s] 9
  d : W.heap[B + 5]? = some (.deferred (some []))
  lp : W.heap[B + 6]? = some (.loop rec)
  it : W.heap[B + 7]? = some (.stringIter s pos)
  bel : Below B w0 W
section
variable {w0 W W' : World} {B : Nat} {s : ByteArray} {rec : Loop} {pos : Nat} {vo vr : Value} {l : List Wd} {fr : Int} {cu : Bool} {t : List Nat}
theorem notCells {k : Nat} {c : Array Value} {e : TypeId} {fz : Nat × Nat} {o : Obj} {j : Nat} (hj : W.heap[j]? = some o) (ho : ∀ c fz, o ≠ .cells c e fz) (hk : W.heap[k]? = some (.cells c e fz)) : k ≠ j := by
  intro h; subst h; rw [hj] at hk; exact ho _ _ (Option.some.inj hk)
theorem Blk.apart {b k : Nat} {c c2 : Array Value} {t e : TypeId} {fz : Nat × Nat} (h : Blk W b c t) (hte : t ≠ e) (hk : W.heap[k]? = some (.cells c2 e fz)) : k ≠ b :=
  notCells h (fun _ _ h => hte (by cases h; rfl)) hk
theorem St.via {X : Nat → Prop} (h : St w0 B s rec pos vo vr l fr cu t W) (hs : Same X W W') (hx : ∀ j, j < 8 → ¬ X (B + j)) (h33 : ∀ k c fz, W.heap[k]? = some (.cells c 33 fz) → ¬ X k) (h5 : ∀ k c fz, W.heap[k]? = some (.cells c 5 fz) → ¬ X k) (hb : Below B w0 W') : St w0 B s rec pos vo vr l fr cu t W' :=
  ⟨h.out.same hs (hx 0 (by omega)), h.row.same hs h33, F_same h.now hs (hx 1 (by omega)) h5, h.fr.same hs (hx 2 (by omega)), h.cut.same hs (hx 3 (by omega)), h.txt.same hs (hx 4 (by omega)), hs.at_ _ _ h.d (hx 5 (by omega)), hs.at_ _ _ h.lp (hx 6 (by omega)), hs.at_ _ _ h.it (hx 7 (by omega)), hb⟩
theorem St.lt (h : St w0 B s rec pos vo vr l fr cu t W) : B ≤ W.heap.size := Nat.le_of_lt h.out.lt
theorem St.grew (h : St w0 B s rec pos vo vr l fr cu t W) (hb : Below W.heap.size W W') : St w0 B s rec pos vo vr l fr cu t W' :=
  h.via (Same.below hb) (fun _ _ h => h) (fun _ _ _ _ h => h) (fun _ _ _ _ h => h) (h.bel.trans (hb.mono h.lt))
theorem St.drew (h : St w0 B s rec pos vo vr l fr cu t W) : St w0 B s rec pos vo vr l fr cu t W.drew := h.grew (Below.drew (Below.refl _ W))
theorem St.turned {rec' : Loop} (h : St w0 B s rec pos vo vr l fr cu t W) (k : Turned (B + 6) (.loop rec') W W') : St w0 B s rec' pos vo vr l fr cu t W' := by
  have hs := Same.turned k
  exact ⟨h.out.same hs (by omega), h.row.same hs (fun k c fz hk => notCells h.lp (fun _ _ e => by cases e) hk), F_same h.now hs (by omega) (fun k c fz hk => notCells h.lp (fun _ _ e => by cases e) hk), h.fr.same hs (by omega), h.cut.same hs (by omega), h.txt.same hs (by omega), hs.at_ _ _ h.d (by omega), k.at_, hs.at_ _ _ h.it (by omega), h.bel.trans (k.below (by omega))⟩
theorem St.iter (h : St w0 B s rec pos vo vr l fr cu t W) (pos' : Nat) : St w0 B s rec pos' vo vr l fr cu t (W.iterAt (B + 7) s pos') := by
  have hs := Same.iterAt W (B + 7) s pos'
  exact ⟨h.out.same hs (by omega), h.row.same hs (fun k c fz hk => notCells h.it (fun _ _ e => by cases e) hk), F_same h.now hs (by omega) (fun k c fz hk => notCells h.it (fun _ _ e => by cases e) hk), h.fr.same hs (by omega), h.cut.same hs (by omega), h.txt.same hs (by omega), hs.at_ _ _ h.d (by omega), hs.at_ _ _ h.lp (by omega), Lib.iterAt_heap W _ s pos pos' h.it, Lib.below_iterAt h.bel (by omega) s pos'⟩
theorem St.setFr (h : St w0 B s rec pos vo vr l fr cu t W) (x : Int) : St w0 B s rec pos vo vr l x cu t (W.setCell ⟨B + 2, 0, none⟩ (.int .i64 x)) := by
  have hs := Same.set W (B + 2) 0 (.int .i64 x)
  exact ⟨h.out.same hs (by omega), h.row.same hs (fun k c fz hk => h.fr.apart (by decide) hk), F_same h.now hs (by omega) (fun k c fz hk => h.fr.apart (by decide) hk), h.fr.set 0 _, h.cut.same hs (by omega), h.txt.same hs (by omega), hs.at_ _ _ h.d (by omega), hs.at_ _ _ h.lp (by omega), hs.at_ _ _ h.it (by omega), h.bel.setCell (by show B ≤ B + 2; omega) _⟩
theorem St.setCut (h : St w0 B s rec pos vo vr l fr cu t W) (x : Bool) : St w0 B s rec pos vo vr l fr x t (W.setCell ⟨B + 3, 0, none⟩ (.bool x)) := by
  have hs := Same.set W (B + 3) 0 (.bool x)
  exact ⟨h.out.same hs (by omega), h.row.same hs (fun k c fz hk => h.cut.apart (by decide) hk), F_same h.now hs (by omega) (fun k c fz hk => h.cut.apart (by decide) hk), h.fr.same hs (by omega), h.cut.set 0 _, h.txt.same hs (by omega), hs.at_ _ _ h.d (by omega), hs.at_ _ _ h.lp (by omega), hs.at_ _ _ h.it (by omega), h.bel.setCell (by show B ≤ B + 3; omega) _⟩
/-- The builder is written, read or set back. -/
theorem St.built {t' : List Nat} (h : St w0 B s rec pos vo vr l fr cu t W) (hf : Lib.IsBuilderF 50 5 B (B + 1) (Lib.byteCells (ub t')) W') (hb : Below B W W') (hk : Lib.OthersKept 5 (some (B + 1)) W W') : St w0 B s rec pos vo vr l fr cu t' W' := by
  have hs := Same.others hk hb.size
  have hn : ∀ {j : Nat} {o : Obj}, W.heap[j]? = some o → (∀ c fz, o ≠ .cells c 5 fz) → j ≠ B + 1 → ¬ (j = B + 1 ∨ ∃ c fz, W.heap[j]? = some (.cells c 5 fz)) := by
    intro j o hj ho hne hh
    rcases hh with hh | ⟨c, fz, hh⟩
    · exact hne hh
    · rw [hj] at hh; exact ho _ _ (Option.some.inj hh)
  have hc : ∀ {b : Nat} {c : Array Value} {ty : TypeId}, Blk W b c ty → ty ≠ 5 → b ≠ B + 1 → Blk W' b c ty := fun hB ht hne => hB.same hs (hn hB (fun _ _ e => ht (by cases e; rfl)) hne)
  obtain ⟨_, p, v, hbk, _⟩ := F_cells h.now
  exact ⟨hc h.out (by decide) (by omega), h.row.same hs (fun k c fz hk2 => hn hk2 (fun _ _ e => by cases e) (hbk.apart (by decide) hk2)), hf, hc h.fr (by decide) (by omega), hc h.cut (by decide) (by omega), hc h.txt (by decide) (by omega),
    hs.at_ _ _ h.d (hn h.d (fun _ _ e => by cases e) (by omega)), hs.at_ _ _ h.lp (hn h.lp (fun _ _ e => by cases e) (by omega)), hs.at_ _ _ h.it (hn h.it (fun _ _ e => by cases e) (by omega)), h.bel.trans hb⟩
/-- A word is put behind: the row. -/
theorem St.app {vr' : Value} {l' : List Wd} (h : St w0 B s rec pos vo vr l fr cu t W) (hg : W.grownBy W' vr.ownBlock) (ho : OwnW 33 W' B vr' l') : St w0 B s rec pos vo vr' l' fr cu t W' := by
  have hs := Same.grown hg
  have hrow : ∀ k, some k = vr.ownBlock → ∃ c, W.heap[k]? = some (.cells c 33 (0, 0)) := by
    intro k hk
    rcases h.row.2 with ⟨hv, _⟩ | ⟨g, cap, cur, hv, _, hg, _⟩
    · rw [hv] at hk; simp [Value.ownBlock] at hk
    · rw [hv] at hk; simp only [Value.ownBlock, Option.some.injEq] at hk; subst hk; exact ⟨_, hg⟩
  have n33 : ∀ {j : Nat} {o : Obj}, W.heap[j]? = some o → (∀ c fz, o ≠ .cells c 33 fz) → ¬ (some j = vr.ownBlock) := by
    intro j o hj ho hh
    obtain ⟨c, hc⟩ := hrow j hh
    rw [hj] at hc; exact ho _ _ (Option.some.inj hc)
  obtain ⟨_, p, v, hbk, _⟩ := F_cells h.now
  exact ⟨h.out.same hs (n33 h.out (fun _ _ e => by cases e)), ho, F_same h.now hs (n33 hbk (fun _ _ e => by cases e)) (fun k c fz hk => n33 hk (fun _ _ e => by cases e)), h.fr.same hs (n33 h.fr (fun _ _ e => by cases e)), h.cut.same hs (n33 h.cut (fun _ _ e => by cases e)), h.txt.same hs (n33 h.txt (fun _ _ e => by cases e)),
    hs.at_ _ _ h.d (n33 h.d (fun _ _ e => by cases e)), hs.at_ _ _ h.lp (n33 h.lp (fun _ _ e => by cases e)), hs.at_ _ _ h.it (n33 h.it (fun _ _ e => by cases e)), h.bel.grown hg h.lt h.row.low⟩
theorem St.setOut (h : St w0 B s rec pos vo vr l fr cu t W) (x : Value) : St w0 B s rec pos x vr l fr cu t (W.setCell ⟨B, 0, none⟩ x) := by
  have hs := Same.set W B 0 x
  exact ⟨h.out.set 0 _, h.row.same hs (fun k c fz hk => h.out.apart (by decide) hk), F_same h.now hs (by omega) (fun k c fz hk => h.out.apart (by decide) hk), h.fr.same hs (by omega), h.cut.same hs (by omega), h.txt.same hs (by omega), hs.at_ _ _ h.d (by omega), hs.at_ _ _ h.lp (by omega), hs.at_ _ _ h.it (by omega), h.bel.setCell (by show B ≤ B; omega) _⟩
end
/-- 'append' of a word that lies in a block, with what it leaves. -/
theorem run_pushK {st et : TypeId} (T : WType st et) {w : World} {base R : Nat} {v : Value} {l : List Wd} (h : OwnW et w base v l) (t : List Nat) (a b : Nat) (hb : Blk w R #[.string (str t), .int .i64 (a : Int), .int .i64 (b : Int)] et) (hbase : base ≤ w.heap.size) (hn : l.length + 1 ≤ 1000000) :
    ∃ v' w', (Builtin.append_ #[st, st] st #[v, .slice (some ⟨R, 0, none⟩) 1 1]).run Tryd.prog w = .ok v' w' ∧ OwnW et w' base v' (l ++ [(t, a, b)]) ∧ w.grownBy w' v.ownBlock := by
  obtain ⟨i, hi, hz, hs, hby⟩ := info_parts T.info
  obtain ⟨v', w', hrun, h2, h3, _, _⟩ := run_append_own_at (P := Tryd.prog) _ base st st et i _ 3 32 T.und hi hz hs hby rfl (by omega) v l.length (wcells l) h ⟨R, 0, none⟩ 1 1 (wcells [(t, a, b)]) (wcells_length _)
    (fun j u hu => by
      match j with
      | 0 => simp [wcells, wrow] at hu; rw [← hu]; exact hb.cell 0
      | 1 => simp [wcells, wrow] at hu; rw [← hu]; exact hb.cell 1
      | 2 => simp [wcells, wrow] at hu; rw [← hu]; exact hb.cell 2
      | j + 3 => simp [wcells, wrow] at hu) (wone_cells _) (by simp only [maxLen]; omega) (by omega) hbase
  refine ⟨v', w', hrun, ?_, h3⟩
  unfold OwnW
  rw [List.length_append, wcells_append]; exact h2
end Go.Proofs.YtmdmejfcknaokaaDoor
