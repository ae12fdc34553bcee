/- Walks: recall. Printed by mk_p29.py. -/
import Derived.Test.YtklppnknllbfnaaGreatPD
import Derived.Lib.OwnBridge
namespace Go.Proofs.YtklppnknllbfnaaGreat
open Go.RowKit Go.Maps Go.Lib Go.Sort
set_option maxRecDepth 8000
variable {ι : Type} [Bar ι]
theorem get4_app_left {a b : List Nat} {i : Nat} (h : 4 * i + 4 ≤ a.length) : get4 (a ++ b) i = get4 a i := by
 unfold get4
 rw [List.drop_append_of_le_length (by omega), List.take_append_of_le_length (by simp; omega)]
theorem get4_at {a b : List Nat} {n : Int} {i : Nat} (h : a.length = 4 * i) (h0 : 0 ≤ n) (h1 : n < 4294967296) : ((get4 (a ++ (lebZ n 4 ++ b)) i : Nat) : Int) = n := by
 unfold get4
 obtain ⟨m, rfl⟩ := Int.eq_ofNat_of_zero_le h0
 rw [← h, List.drop_left, List.take_append_of_le_length (by simp), lebZ_nat, List.take_of_length_le (by simp), num_leb]
 show m < 2 ^ 32
 omega
theorem get4_metaR (r : R8) {k : Nat} (hr : ∀ k, 0 ≤ r.get k ∧ r.get k ≤ 2147483647) : ∀ (n : Nat) (b : List Nat), k < n → ((get4 (metaR r n ++ b) k : Nat) : Int) = r.get k
 | 0, _, h => absurd h (by omega)
 | n + 1, b, h => by
  rw [metaR_succ, List.append_assoc]
  by_cases e : k = n
  ·subst e
   have := hr k
   exact get4_at (metaR_length r k) this.1 (by omega)
  ·have hle : 4 * k + 4 ≤ (metaR r n).length := by rw [metaR_length]; omega
   rw [get4_app_left hle]
   have := get4_metaR r (k := k) hr n [] (by omega)
   rw [List.append_nil] at this
   exact this
theorem meta_get (s : Sta) {P : Nat} (h : s.Ok P) (rm k : Nat) (hk : k < 8) : ((get4 (widen rm s.metaL) k : Nat) : Int) = s.roots.get k := by
 unfold widen Sta.metaL
 rw [List.append_assoc, List.append_assoc]
 exact get4_metaR s.roots h.rt 8 _ hk
theorem meta_next (s : Sta) {P : Nat} (h : s.Ok P) (hP : P ≤ 1048576) (rm : Nat) : ((get4 (widen rm s.metaL) 8 : Nat) : Int) = s.next := by
 unfold widen Sta.metaL
 rw [List.append_assoc, List.append_assoc]
 have := h.n2
 exact get4_at (metaR_length _ 8) (by omega) (by omega)
theorem top_lt (s : Sta) {P : Nat} (h : s.Ok P) : s.top ≤ s.next := by
 rcases last_cases s.free with ⟨_, h2⟩ | ⟨k, _, hk, h2⟩
 ·unfold Sta.top; omega
 ·have := h.fb _ (List.getElem_mem hk)
  unfold Sta.top; omega
theorem meta_top (s : Sta) {P : Nat} (h : s.Ok P) (hP : P ≤ 1048576) (rm : Nat) : ((get4 (widen rm s.metaL) 9 : Nat) : Int) = s.top := by
 unfold widen Sta.metaL
 rw [List.append_assoc, List.append_assoc, ← List.append_assoc]
 have := h.n2
 have := top_lt s h
 exact get4_at (by simp [metaR_length]) (by omega) (by omega)
theorem link_get {n rm : Nat} (h : (n : Int) < 4294967296) : ((get4 (widen rm (lebZ n 4)) 0 : Nat) : Int) = n := by
 have := get4_at (a := []) (b := List.replicate (rm - (lebZ n 4).length) 0) (n := n) (i := 0) rfl (by omega) h
 exact this
/-- What is known of a page without what was seen. -/
def Pl.val (S : Pl) (D : Dsk) (k : Nat) : List Nat := ((S.pend k).or (S.last k)).getD (placeL D S.first k)
/-- What was seen is what lies in the places. -/
def SeenF (S : Pl) (D : Dsk) (f : Pgs) : Prop := ∀ k l, f k = some l → k < S.pages D ∧ l = placeL D S.first k
/-- The page that was given back ahead of the i-th. -/
def prev (l : List Nat) (i : Nat) : Nat := if i = 0 then 0 else l[i - 1]?.getD 0
def R8.upto (s o : R8) : Nat → R8
 | 0 => o
 | k + 1 => (R8.upto s o k).set k (s.get k)
theorem upto_all (s o : R8) : R8.upto s o 8 = s := by
 obtain ⟨a0, a1, a2, a3, a4, a5, a6, a7⟩ := s
 obtain ⟨b0, b1, b2, b3, b4, b5, b6, b7⟩ := o
 simp [R8.upto, R8.set, R8.get]
section
variable {w w' : World} {M M' M2 : Mem} {S : Pl} {D D' : Dsk} {b m : Nat} {vl : Value} {f : Pgs} {x : Sta}
theorem SeenF.ok (h : SeenF S D f) (hd : D.Ok) : f.Ok (S.pages D) D.rm := fun k l hk => ⟨(h k l hk).1, by rw [(h k l hk).2]; exact placeL_len hd⟩
theorem SeenF.put (h : SeenF S D f) {k : Nat} (hk : k < S.pages D) : SeenF S D (f.put k (placeL D S.first k)) := by
 intro j l hj
 unfold Pgs.put at hj
 split at hj
 ·rename_i e; cases hj; subst e; exact ⟨hk, rfl⟩
 ·exact h j l hj
theorem SeenF.none_ : SeenF S D Pgs.none_ := fun k l h => by simp [Pgs.none_] at h
theorem seen_page (h : SeenF S D f) (k : Nat) : ({ S with now := x, seen := f } : Pl).page D k = S.val D k := by
 unfold Pl.page Pl.known Pl.val
 dsimp only
 cases hp : (S.pend k).or (S.last k) with
 | some l => rfl
 | none =>
  cases hf : f k with
  | none => rfl
  | some l => exact (h k l hf).2
theorem seen_loaded (h : SeenF S D f) {k : Nat} (hk : k < S.pages D) : ∃ f', ({ S with now := x, seen := f } : Pl).loaded D k = { S with now := x, seen := f' } ∧ SeenF S D f' := by
 unfold Pl.loaded
 split
 ·exact ⟨f, rfl, h⟩
 ·refine ⟨_, rfl, ?_⟩
  dsimp only
  split
  ·exact SeenF.none_.put hk
  ·exact h.put hk
theorem Pl.Ok.with_now (h : S.Ok D) (hx : x.Ok (S.pages D)) (hf : SeenF S D f) (hd : D.Ok) : ({ S with now := x, seen := f } : Pl).Ok D :=
 ⟨h.z, h.s, h.s2, h.slots, h.first, hx, h.was, h.last, h.pend, hf.ok hd⟩
theorem Byt.pwent {v : Value} {l : List Nat} (h : Byt w v l) (hp : PoolAt w M S D) (k : PWent w w' M M') : Byt w' v l := h.turn k.1 hp.nobytes
/-- slices.Reverse at a row of numbers of the call's own. -/
theorem Reverse_row {v : Value} {l : List Nat} (h : RowI w v l) (hl : l.length ≤ 1048576) : Calls Tryz.prog 88 #[v] w fun e w' => e = .returned (.tuple #[]) ∧ RowI w' v l.reverse ∧ Turn v.ownBlock.toList w w' := by
 rcases id h.2 with ⟨rfl, h0⟩ | ⟨g, cap, cur, rfl, hb, hh, hn, hm, hs, ht⟩
 ·refine (Tryz.slices_Reverse_int_empty none 0 w).mono ?_
  rintro e _ ⟨rfl, rfl⟩
  have := List.eq_nil_of_length_eq_zero h0
  subst this
  exact ⟨rfl, h, Turn.refl _ _⟩
 ·have hH : Holds (Value.int .i64) w g 0 ((l.map fun n : Nat => (n : Int)).toArray) := by
   intro j hj
   have hj' : j < l.length := by simpa using hj
   refine ⟨?_, by simp [World.frozen?, hh]⟩
   rw [Nat.zero_add, World.ownsRow.cellAt h j (by simpa using hj')]
   simp [hj', getElem!_pos]
  have hc := Tryz.slices_Reverse_int g 0 cap (l.map fun n : Nat => (n : Int)) w hH (by simp; omega)
  rw [List.length_map] at hc
  refine hc.mono ?_
  rintro e w' ⟨rfl, q, rfl⟩
  have ho : w.ownsRow 0 3 1 (.slice (some ⟨g, 0, none⟩) l.length cap) l.length ((l.map fun n : Nat => (n : Int)).map (Value.int .i64)) := by
   rw [List.map_map]; exact h
  have hp := ownsRow_putRow (enc := Value.int .i64) (q := q) (k := l.length) (ys := (l.map fun n : Nat => (n : Int)).reverse) ho (by simp) (Nat.le_refl _)
  refine ⟨rfl, ?_, ?_⟩
  ·unfold RowI
   rw [List.length_reverse]
   have e : (l.map fun n : Nat => (n : Int)).reverse.map (Value.int .i64) = l.reverse.map fun n : Nat => Value.int .i64 (n : Int) := by rw [← List.map_reverse, List.map_map]; rfl
   rw [List.take_of_length_le (by simp), e] at hp
   exact hp
  ·refine ⟨rfl, rfl, rfl, by simp [putRow, mapBlock, Sort.ahead], fun k hk hnk => ?_⟩
   have : k ≠ g := by intro e; subst e; simp [Value.ownBlock] at hnk
   simp [putRow, mapBlock, Sort.ahead, Array.getElem?_modify, Ne.symm this]
/-- The row of free pages was turned in its place. -/
theorem PoolAt.free_row (h : PoolAt w M S D) {l : List Nat} (hr : RowI w' M.vf l) (ht : Turn M.vf.ownBlock.toList w w') : PoolAt w' M { S with now := { S.now with free := l } } D ∧ PWent w w' M M := by
 have hap := h.apart
 have hsub : ∀ j ∈ M.vf.ownBlock.toList, j ∈ M.own := fun j hj => mem_mem.2 (by rw [Option.mem_toList] at hj; simp [hj])
 have hn : NoBytes w M.vf.ownBlock.toList := fun j hj => h.nobytes j (hsub j hj)
 have hm : ∀ j, (j = M.p ∨ j = M.ml ∨ j = M.mn ∨ j = M.ms ∨ M.G = some j ∨ M.vw.ownBlock = some j ∨ j ∈ own M.b M.m M.vl) → j ∉ M.vf.ownBlock.toList := by
  intro j hj hk
  have hap2 := (Mem.perm_vf M M.vf).nodup_iff.1 hap
  refine (List.nodup_append.1 hap2).2.2 j hk j ?_ rfl
  simp [Option.mem_toList]
  exact hj
 exact ⟨⟨h.blk.turn ht (hm _ (by simp)), h.disk.turn ht hn (fun j hj => hm j (by simp [hj])), h.log.turn ht (fun g e => hm g (by simp [e])), hr, h.wfree.turn ht (fun g e => hm g (by simp [e])),
  h.last.turn ht hn (hm _ (by simp)), h.pend.turn ht hn (hm _ (by simp)), h.seen.turn ht hn (hm _ (by simp)), hap⟩, PWent.of_turn ht hsub⟩
/-- A page behind the free ones. -/
theorem push_end (h : PoolAt w M S D) {v' : Value} {w1 : World} {l : List Nat} (hr : RowI w1 v' l) (ht : Turn M.vf.ownBlock.toList w w1) (hg : ∀ g, v'.ownBlock = some g → M.vf.ownBlock = some g ∨ w.heap.size ≤ g) :
  PoolAt (w1.setCell ⟨M.p, 1, none⟩ v') { M with vf := v' } { S with now := { S.now with free := l } } D ∧ PWent w (w1.setCell ⟨M.p, 1, none⟩ v') M { M with vf := v' } := by
 have hap := h.apart
 have hsub : ∀ j ∈ M.vf.ownBlock.toList, j ∈ M.own := fun j hj => mem_mem.2 (by rw [Option.mem_toList] at hj; simp [hj])
 have hn : NoBytes w M.vf.ownBlock.toList := fun j hj => h.nobytes j (hsub j hj)
 have hm : ∀ j, (j = M.p ∨ j = M.ml ∨ j = M.mn ∨ j = M.ms ∨ M.G = some j ∨ M.vw.ownBlock = some j ∨ j ∈ own M.b M.m M.vl) → j ∉ M.vf.ownBlock.toList := by
  intro j hj hk
  have hap2 := (Mem.perm_vf M M.vf).nodup_iff.1 hap
  refine (List.nodup_append.1 hap2).2.2 j hk j ?_ rfl
  simp [Option.mem_toList]
  exact hj
 have ht2 : Turn [M.p] w1 (w1.setCell ⟨M.p, 1, none⟩ v') := (Turn.refl [M.p] w1).set (.inl (by simp)) v'
 obtain ⟨w2, hw2⟩ : ∃ w2, w2 = w1.setCell ⟨M.p, 1, none⟩ v' := ⟨_, rfl⟩
 have hv : ∀ g, v'.ownBlock = some g → M.vf.ownBlock = some g ∨ g ∉ M.own := fun g e => (hg g e).imp id fun hl hm => by have := h.lt g hm; omega
 have hp : ∀ j, (j = M.ml ∨ j = M.mn ∨ j = M.ms ∨ M.G = some j ∨ M.vf.ownBlock = some j ∨ M.vw.ownBlock = some j ∨ j ∈ own M.b M.m M.vl) → j ∉ [M.p] := by
  intro j hj e
  simp only [List.mem_singleton] at e
  subst e
  refine (List.nodup_cons.1 hap).1 ?_
  simp [Option.mem_toList]
  exact hj
 rw [← hw2] at ht2
 have hT : Turn (M.p :: M.vf.ownBlock.toList) w w2 := (ht.mono (fun k hk _ => List.mem_cons_of_mem _ hk)).trans ht2 (by intro j hj _; simp at hj; simp [hj])
 have hnT : NoBytes w (M.p :: M.vf.ownBlock.toList) := by
  intro j hj
  rcases List.mem_cons.1 hj with e | e
  ·exact h.nobytes j (mem_mem.2 (by simp [e]))
  ·exact hn j e
 have hmT : ∀ j, (j = M.ml ∨ j = M.mn ∨ j = M.ms ∨ M.G = some j ∨ M.vw.ownBlock = some j ∨ j ∈ own M.b M.m M.vl) → j ∉ M.p :: M.vf.ownBlock.toList := by
  intro j hj e
  rcases List.mem_cons.1 e with e | e
  ·exact hp j (by rcases hj with h | h | h | h | h | h <;> simp [h]) (by simp [e])
  ·exact hm j (by rcases hj with h | h | h | h | h | h <;> simp [h]) e
 have hb1 : Blk w1 M.p (plCells M S) 84 := h.blk.turn ht (hm _ (by simp))
 have hb2 := hb1.set 1 v'
 rw [← hw2] at hb2 ⊢
 refine ⟨⟨hb2, h.disk.turn hT hnT (fun j hj => hmT j (by simp [hj])), h.log.turn hT (fun g e => hmT g (by simp [e])), hr.turn ht2 (fun g e => ?_), h.wfree.turn hT (fun g e => hmT g (by simp [e])),
  h.last.turn hT hnT (hmT _ (by simp)), h.pend.turn hT hnT (hmT _ (by simp)), h.seen.turn hT hnT (hmT _ (by simp)), Mem.nodup_vf hap hv⟩, hT.mono (fun j hj _ => ?_), fun g hgm => ?_, rfl⟩
 ·rcases hv g e with h1 | h1
  ·exact hp g (by simp [h1])
  ·intro h2; simp at h2; subst h2; exact h1 (mem_mem.2 (.inl rfl))
 ·rcases List.mem_cons.1 hj with e | e
  ·exact mem_mem.2 (.inl e)
  ·exact hsub j e
 ·rcases List.mem_append.1 ((Mem.perm_vf M v').mem_iff.1 hgm) with h1 | h1
  ·rw [Option.mem_toList] at h1
   rcases hg g (by simpa using h1) with h2 | h2
   ·exact .inl (mem_mem.2 (by simp [h2]))
   ·exact .inr h2
  ·exact .inl ((Mem.perm_vf M M.vf).mem_iff.2 (List.mem_append.2 (.inr h1)))
/-- The chain's last j pages, the last one first. -/
def tailJ (l : List Nat) (j : Nat) : List Nat := (l.drop (l.length - j)).reverse
theorem tailJ_all (l : List Nat) : tailJ l l.length = l.reverse := by simp [tailJ]
theorem tailJ_len (l : List Nat) {j : Nat} (h : j ≤ l.length) : (tailJ l j).length = j := by simp [tailJ]; omega
theorem tailJ_succ (l : List Nat) {j : Nat} (h : j < l.length) : tailJ l (j + 1) = tailJ l j ++ [prev l (l.length - j)] := by
 unfold tailJ prev
 have h1 : l.length - (j + 1) < l.length := by omega
 rw [List.drop_eq_getElem_cons h1, List.reverse_cons]
 have e : l.length - (j + 1) + 1 = l.length - j := by omega
 have e2 : l.length - j - 1 = l.length - (j + 1) := by omega
 rw [e, if_neg (by omega), e2, List.getElem?_eq_getElem h1]
 rfl
theorem tailJ_mem (l : List Nat) (j : Nat) : ∀ k ∈ tailJ l j, k ∈ l := fun _ hk => List.mem_of_mem_drop (List.mem_reverse.1 hk)
theorem tailJ_nodup {l : List Nat} (h : l.Nodup) (j : Nat) : (tailJ l j).Nodup := List.pairwise_reverse.2 ((h.sublist (List.drop_sublist _ _)).imp fun h => h.symm)
theorem prev_top (s : Sta) : prev s.free s.free.length = s.top := by
 unfold prev Sta.top
 by_cases h : s.free.length = 0
 ·rw [if_pos h, List.eq_nil_of_length_eq_zero h]; rfl
 ·rw [if_neg h, List.getLast?_eq_getElem?]
theorem Sta.Ok.prev_in {s : Sta} {P i : Nat} (h : s.Ok P) (h0 : 0 < i) (hi : i ≤ s.free.length) : ∃ hk : i - 1 < s.free.length, prev s.free i = s.free[i - 1] ∧ 1 ≤ prev s.free i ∧ prev s.free i < s.next := by
 have hk : i - 1 < s.free.length := by omega
 have e : prev s.free i = s.free[i - 1] := by unfold prev; rw [if_neg (by omega), List.getElem?_eq_getElem hk]; rfl
 have := h.fb _ (List.getElem_mem hk)
 exact ⟨hk, e, by omega, by omega⟩
/-- How far the chain still goes from a page. -/
def far (l : List Nat) (x : Nat) : Nat := if x = 0 then 0 else l.idxOf x + 1
theorem Sta.Ok.far_prev {s : Sta} {P i : Nat} (h : s.Ok P) (hi : i ≤ s.free.length) : far s.free (prev s.free i) = i := by
 by_cases h0 : i = 0
 ·subst h0; simp [far, prev]
 ·obtain ⟨hk, e, h1, _⟩ := h.prev_in (by omega) hi
  unfold far
  rw [if_neg (by omega), e, h.nd.idxOf_getElem]
  omega
theorem Sta.Ok.part {s : Sta} {P : Nat} (h : s.Ok P) (j : Nat) : Sta.Ok ⟨s.next, tailJ s.free j, s.roots⟩ P :=
 ⟨h.n1, h.n2, tailJ_nodup h.nd j, fun k hk => h.fb k (tailJ_mem _ _ k hk), h.rt⟩
set_option maxHeartbeats 16000000 in
theorem recall_any (h : PoolAt w M S D) (ok : S.Ok D) (hnf : S.now.free = []) (hsn : SeenF S D S.seen) (hL : D.loose.length ≤ 1000000000) (hd : D.down = false) (s : Sta) (hs : s.Ok (S.pages D)) (h0 : S.val D 0 = widen D.rm s.metaL)
  (hch : ∀ i (hi : i < s.free.length), S.val D s.free[i] = widen D.rm (lebZ (prev s.free i : Nat) 4)) :
  Calls Tryz.prog 56 #[.pointer (some ⟨M.p, 0, none⟩)] w fun e w' => e = .returned (.int .i64 0) ∧ ∃ M' f, PoolAt w' M' { S with now := s, seen := f } D ∧ PWent w w' M M' ∧ SeenF S D f := by
 have HD := h.disk.ok
 have hpg : 0 < S.pages D := by have := hs.n1; have := hs.n2; omega
 have hP : S.pages D ≤ 1048576 := by have := ok.s2; unfold Pl.pages; omega
 have hrm := ok.rm1 HD
 have hrm2 := rm_le D
 have HL0 := Lib.hid (load_any h ok hL hd 0 hpg)
 have hp0 : S.page D 0 = S.val D 0 := seen_page (S := S) (x := S.now) (f := S.seen) hsn 0
 obtain ⟨f1, hl1, hsn1⟩ := seen_loaded (S := S) (x := S.now) (f := S.seen) hsn hpg
 have hl1' : S.loaded D 0 = { S with now := S.now, seen := f1 } := hl1
 rw [hp0, h0, hl1'] at HL0
 obtain ⟨l0, hl0⟩ : ∃ l0, l0 = widen D.rm s.metaL := ⟨_, rfl⟩
 have HLE : Hid (l0.length = D.rm ∧ 460 ≤ D.rm) := Lib.hid ⟨by rw [hl0]; exact widen_length (by rw [metaL_length]; omega), hrm⟩
 have HGK : Hid (∀ k, k < 8 → ((get4 l0 k : Nat) : Int) = s.roots.get k) := Lib.hid (fun k hk => by rw [hl0]; exact meta_get s hs _ k hk)
 have HGN : Hid (((get4 l0 8 : Nat) : Int) = s.next) := Lib.hid (by rw [hl0]; exact meta_next s hs hP _)
 have HGT : Hid (((get4 l0 9 : Nat) : Int) = prev s.free s.free.length) := Lib.hid (by rw [hl0, prev_top]; exact meta_top s hs hP _)
 rw [← hl0] at HL0
 have HSN1 := Lib.hid hsn1
 have HOK := Lib.hid ok
 have HS := Lib.hid hs
 have HCH := Lib.hid hch
 have HLO := Lib.hid (And.intro hL hd)
 have HDO := Lib.hid HD
 have HNF := Lib.hid hnf
 have HP8 : Hid (S.pages D ≤ 1048576 ∧ s.next ≤ S.pages D) := Lib.hid ⟨hP, hs.n2⟩
 clear h ok hsn hL hd hs h0 hch HD hpg hP hrm hrm2 hp0 hl1 hl1' hl0 hsn1 hnf
 go_enter Tryz.func56, Tryz.ntmps56
 go_wp2_with fail
 refine HL0.out.mono ?_
 rintro e w1 ⟨u, rfl, v, rfl, hby, hp, hw⟩
 obtain ⟨p0, c0, rfl, hc0, _⟩ := hby.rd
 obtain ⟨n0, hn0⟩ : ∃ n0, n0 = l0.length := ⟨_, rfl⟩
 rw [← hn0] at hby
 rw [← hn0]
 have HN0 := Lib.hid hn0
 have HBY := Lib.hid hby
 have HP := Lib.hid hp
 have HW := Lib.hid hw
 clear hby hp hw hc0 hn0 HL0
 go_wp2_with fail
 go_loopw [17] (fun iv wr => ∃ (k : Nat), k ≤ 8 ∧ iv = .int .i64 k ∧ Hid (PoolAt wr M { S with now := { S.now with roots := R8.upto s.roots S.now.roots k }, seen := f1 } D) ∧ Hid (PWent w wr M M) ∧ Hid (Byt wr (.slice (some p0) n0 c0) l0)) (fun iv _ => 8 - (intOf iv).toNat)
 case atStart => exact ⟨0, by omega, rfl, HP, HW, HBY⟩
 case round =>
  clear HP HW HBY
  obtain ⟨k, hk, rfl, HP, HW, HBY⟩ := hrel
  by_cases hk8 : k < 8
  ·have hk8' : (k : Int) < 8 := by omega
   have HG := Lib.hid (HGK.out k hk8)
   obtain ⟨Sk, hSk⟩ : ∃ Sk : Pl, Sk = { S with now := { S.now with roots := R8.upto s.roots S.now.roots k }, seen := f1 } := ⟨_, rfl⟩
   rw [← hSk] at HP
   have HSK := Lib.hid hSk
   clear hSk
   go_wp2_with fail
   refine wp_region_H (fun _ => True) (by kernel_rfl) (fun v0 hv0 => ?_)
   have hS0 : (fun _ => True) v0 := trivial
   have HV0 : Hid (PoolAt v0 M Sk D) := Lib.hid (by subst hv0; exact HP.out.drew)
   have HW0 : Hid (PWent w v0 M M) := Lib.hid (by subst hv0; exact HW.out.tail (Below.refl _ _).drew)
   have HB0 : Hid (Byt v0 (.slice (some p0) n0 c0) l0) := Lib.hid (by subst hv0; exact HBY.out.drew)
   clear hv0 HP HW HBY
   obtain ⟨p0', c0', e0, hc0, hrd0⟩ := HB0.out.rd
   injection e0 with q1 q2 q3
   injection q1 with q1
   subst q1
   subst q3
   have hgt := get4_any p0 l0 n0 c0 k v0 q2.symm hrd0 (by have := HLE.out; omega) (by omega)
   rw [HG.out] at hgt
   refine wpH_t 0 ?_ rfl rfl (by kernel_rfl) (fun _ _ _ h => h) rfl ?_ hS0 ?_
   rotate_left
   ·(intro w_ hw_; go_simp; try with_reducible rfl)
   simp only [sL]
   refine wpH_t 1 ?_ rfl rfl (by kernel_rfl) (fun _ _ _ h => h) rfl ?_ hS0 ?_
   rotate_left
   ·(intro w_ hw_; go_simp; try with_reducible rfl)
   simp only [sL]
   refine wpH_t 2 ?_ rfl rfl (by kernel_rfl) (fun _ _ _ h => h) rfl ?_ hS0 ?_
   rotate_left
   ·(intro w_ hw_; go_simp; try with_reducible rfl)
   simp only [sL]
   refine wpH_t 3 ?_ rfl rfl (by kernel_rfl) (fun _ _ _ h => h) rfl ?_ hS0 ?_
   rotate_left
   ·(intro w_ hw_; go_simp; try with_reducible rfl)
   simp only [sL]
   refine wpH_t 5 ?_ rfl rfl (by kernel_rfl) (fun _ _ _ h => h) rfl ?_ hS0 ?_
   rotate_left
   ·(intro w_ hw_; skip; go_simp; try with_reducible rfl)
   simp only [sL]
   refine wpH_t 6 ?_ rfl rfl (by kernel_rfl) (fun _ _ _ h => h) rfl ?_ hS0 ?_
   rotate_left
   ·(intro w_ hw_; go_simp; try with_reducible rfl)
   simp only [sL]
   refine wpH_t 7 ?_ rfl rfl (by kernel_rfl) (fun _ _ _ h => h) rfl ?_ hS0 ?_
   rotate_left
   ·(intro w_ hw_; go_simp; try with_reducible rfl)
   simp only [sL]
   refine wpH_call (i := 4) (by kernel_rfl) rfl rfl (by rfl) (hgt) (by go_simp) (fun v1 hR => ?_)
   have hS1 : (fun _ => True) v1 := trivial
   clear hS0
   refine ⟨hS1, ?_⟩
   simp only [sL]
   have HV1 : Hid (PoolAt v1 M Sk D) := Lib.hid (by subst hR; exact HV0.out)
   have HW1 : Hid (PWent w v1 M M) := Lib.hid (by subst hR; exact HW0.out)
   have HB1 : Hid (Byt v1 (.slice (some p0) n0 c0) l0) := Lib.hid (by subst hR; exact HB0.out)
   clear hR HV0 HW0 HB0 hgt hrd0 hc0 q2
   have hcr := HV1.out.c_root k hk8
   have hfr := HV1.out.c_fz (2 + k)
   have hsr := HV1.out.set_root k hk8 (s.roots.get k)
   refine wpH_t 8 ?_ rfl rfl (by kernel_rfl) (fun _ _ _ h => h) rfl ?_ hS1 ?_
   rotate_left
   ·(intro w_ hw_; go_simp; try with_reducible rfl)
   simp only [sL]
   obtain ⟨v2, hv2⟩ : ∃ v2, v2 = v1.setCell ⟨M.p, 2 + k, none⟩ (.int .i64 (s.roots.get k)) := ⟨_, rfl⟩
   rw [← hv2] at hsr
   have HSR := Lib.hid hsr
   have HB2 : Hid (Byt v2 (.slice (some p0) n0 c0) l0) := Lib.hid (HB1.out.pwent HV1.out hsr.2)
   clear hsr
   have hS2 : (fun _ => True) v2 := trivial
   clear hS1
   refine wpH_store (i := 9) (w' := v2) (by kernel_rfl) rfl rfl (by rfl) (by subst hv2; go_simp) hS2 ?_
   clear hS2
   refine wpAnyH_done (by kernel_rfl) ?_ _
   have HP3 : Hid (PoolAt v2 M { S with now := { S.now with roots := R8.upto s.roots S.now.roots (k + 1) }, seen := f1 } D) := Lib.hid (by
    have := HSR.out.1
    rw [HSK.out] at this
    exact this)
   have HW3 := Lib.hid (HW1.out.trans HSR.out.2)
   clear HSR HW1 HV1 HB1 HSK hcr hfr hv2 HG
   go_wp2
   go_round
   case rel => exact ⟨k + 1, by omega, by simp, HP3, HW3, HB2⟩
   case measure => simp [intOf]; omega
  ·obtain rfl : k = 8 := by omega
   have hnt : ¬ (8 : Int) < 8 := by omega
   obtain ⟨p0', c0', e0, hc0, hrd0⟩ := HBY.out.rd
   injection e0 with q1 q2 q3
   injection q1 with q1
   subst q1
   subst q3
   have hg8 := get4_any p0 l0 n0 c0 8 _ q2.symm hrd0 (by have := HLE.out; omega) (by omega)
   have hg9 := fun w2 (h : Rd w2 w2.heap.size (some p0) l0) => get4_any p0 l0 n0 c0 9 w2 q2.symm h (by have := HLE.out; omega) (by omega)
   rw [HGN.out] at hg8
   simp only [HGT.out] at hg9
   have HG8 := Lib.hid hg8
   have HG9 := Lib.hid hg9
   rw [upto_all] at HP
   have hcn := HP.out.c_next
   have hfn := HP.out.c_fz 0
   have hsn := HP.out.set_next s.next
   clear hg8 hg9 hrd0 hc0 q2 hk hk8
   go_wp2_with fail
   refine HG8.out.mono ?_
   rintro e w3 ⟨rfl, rfl⟩
   obtain ⟨w4, hw4⟩ : ∃ w4, w4 = w3.setCell ⟨M.p, 0, none⟩ (.int .i64 s.next) := ⟨_, rfl⟩
   rw [← hw4] at hsn
   have hby4 := HBY.out.pwent HP.out hsn.2
   obtain ⟨p1, c1, e1, _, hrd4⟩ := hby4.rd
   injection e1 with q1 q2 q3
   injection q1 with q1
   subst q1
   have HR4 := Lib.hid (HG9.out w4 hrd4)
   have HP4 : Hid (PoolAt w4 { M with vf := M.vf } { S with now := ⟨s.next, tailJ s.free 0, s.roots⟩, seen := f1 } D) := Lib.hid (by
    have := hsn.1
    unfold tailJ
    simp only [Nat.sub_zero, List.drop_length, List.reverse_nil]
    rw [HNF.out] at this
    exact this)
   have HW4 : Hid (PWent w w4 M { M with vf := M.vf }) := Lib.hid (HW.out.trans hsn.2)
   clear hsn hby4 hrd4 HG8 HG9 q2 q3 HP HW HBY
   go_wp2_with fail
   rw [← hw4]
   refine HR4.out.mono ?_
   rintro e w5 ⟨rfl, rfl⟩
   clear hcn hfn hw4 HR4
   obtain ⟨n, hn⟩ : ∃ n, n = s.free.length := ⟨_, rfl⟩
   rw [← hn]
   have HN := Lib.hid hn
   clear hn
   go_wp2_with fail
   go_loopw [6] (fun av wr => ∃ (j : Nat) (f : Pgs) (vf : Value), j ≤ n ∧ av = .int .i64 (prev s.free (n - j) : Nat) ∧ Hid (PoolAt wr { M with vf := vf } { S with now := ⟨s.next, tailJ s.free j, s.roots⟩, seen := f } D) ∧ Hid (PWent w wr M { M with vf := vf }) ∧ Hid (SeenF S D f)) (fun av _ => far s.free (intOf av).toNat)
   case atStart => exact ⟨0, f1, M.vf, by omega, rfl, HP4, HW4, HSN1⟩
   case round =>
    clear HP4 HW4 HSN1
    obtain ⟨j, f, vf, hj, rfl, HP, HW, HSF⟩ := hrel
    by_cases hjn : j < n
    ·have hjl : j < s.free.length := by rw [← HN.out]; exact hjn
     obtain ⟨hk9, he9, hp1, hp2⟩ := HS.out.prev_in (i := n - j) (by omega) (by rw [← HN.out]; omega)
     have hchk := HCH.out (n - j - 1) hk9
     rw [← he9] at hchk
     have hts := tailJ_succ s.free hjl
     rw [← HN.out] at hts
     have hpn : prev s.free (n - j - 1) ≤ S.pages D := by
      by_cases h0 : n - j - 1 = 0
      ·rw [h0]; unfold prev; simp
      ·obtain ⟨_, _, _, h4⟩ := HS.out.prev_in (i := n - j - 1) (by omega) (by rw [← HN.out]; omega)
       have := HP8.out; omega
     have hfarp := HS.out.far_prev (i := n - j) (by rw [← HN.out]; omega)
     have hfarq := HS.out.far_prev (i := n - j - 1) (by rw [← HN.out]; omega)
     obtain ⟨pg, hpg⟩ : ∃ pg, pg = prev s.free (n - j) := ⟨_, rfl⟩
     obtain ⟨pq, hpq⟩ : ∃ pq, pq = prev s.free (n - j - 1) := ⟨_, rfl⟩
     rw [← hpg] at hchk hp1 hp2 hts hfarp
     rw [← hpq] at hchk hpn hfarq
     have HPQ := Lib.hid hpq
     rw [← hpg]
     have HCK := Lib.hid hchk
     have HTS := Lib.hid hts
     have HFR := Lib.hid (And.intro hfarp hfarq)
     have HPN := Lib.hid hpn
     clear hpn hpg he9 hk9 hchk hts hpq hfarp hfarq
     have hne : ((pg : Int) == 0) = false := by simp; omega
     have hpgP : pg < S.pages D := by have := HP8.out; omega
     have hlen := tailJ_len s.free (j := j) (by omega)
     have hsl : n + 1 ≤ s.next := by have := HS.out.len; rw [HN.out]; exact this
     have hcf := HP.out.c_free
     have hff := HP.out.c_fz 1
     have hcn := HP.out.c_next
     dsimp only at hcf hff hcn
     obtain ⟨A8, c8, e8, hx8⟩ := HP.out.free.form
     clear hx8
     dsimp only at e8
     rw [hlen] at e8
     obtain ⟨v', w1, hrun, hr1, ht1, hg1⟩ := run_pushI (w := _) 43 HP.out.free pg (by dsimp only; have := HP8.out; omega)
     dsimp only at hrun hr1 ht1 hg1
     rw [← HTS.out] at hr1
     have hpe := push_end HP.out hr1 ht1 hg1
     obtain ⟨A9, c9, e9, hx9⟩ := hr1.form
     clear hx9
     rw [tailJ_len s.free (j := j + 1) (by omega)] at e9
     subst e9
     have hb1 : Blk w1 M.p (plCells { M with vf := vf } { S with now := ⟨s.next, tailJ s.free j, s.roots⟩, seen := f }) 84 := HP.out.blk.turn ht1 (fun hm => by
      have hap2 := (Mem.perm_vf { M with vf := vf } vf).nodup_iff.1 HP.out.apart
      exact (List.nodup_append.1 hap2).2.2 M.p hm M.p (by simp) rfl)
     have hc1 : w1.cell? ⟨M.p, 1, none⟩ = some vf := hb1.cell 1
     have hf1 : w1.frozen? ⟨M.p, 1, none⟩ = false := hb1.free 1
     obtain ⟨w2, hw2⟩ : ∃ w2, w2 = w1.setCell ⟨M.p, 1, none⟩ (.slice A9 (j + 1) c9) := ⟨_, rfl⟩
     dsimp only at hpe
     rw [← hw2] at hpe
     have HC1 : Hid (w2.cell? ⟨M.p, 1, none⟩ = some (.slice A9 (j + 1) c9)) := Lib.hid hpe.1.c_free
     have HC0 : Hid (w2.cell? ⟨M.p, 0, none⟩ = some (.int .i64 s.next)) := Lib.hid hpe.1.c_next
     obtain ⟨Mk, hMk⟩ : ∃ Mk : Mem, Mk = { M with vf := .slice A9 (j + 1) c9 } := ⟨_, rfl⟩
     obtain ⟨Sk, hSk⟩ : ∃ Sk : Pl, Sk = { S with now := ⟨s.next, tailJ s.free (j + 1), s.roots⟩, seen := f } := ⟨_, rfl⟩
     rw [← hMk] at hpe
     have HP2 : Hid (PoolAt w2 Mk Sk D) := Lib.hid (by rw [hSk]; exact hpe.1)
     have HW2 := Lib.hid (HW.out.trans hpe.2)
     have RUN := Lib.hid hrun
     have HMK := Lib.hid hMk
     have HSK := Lib.hid hSk
     have hmp : Mk.p = M.p := by rw [hMk]
     subst e8
     have HNU := Lib.hid (And.intro (And.intro hp1 hp2) (And.intro hsl (And.intro hjn (And.intro hjl hpgP))))
     clear hrun hr1 ht1 hg1 hpe hb1 hMk hSk HP HW hcn hlen hp1 hp2 hsl hjn hjl hpgP hj hnt
     go_wp2_with (at_builtin; refine Lib.wpList_append_run _ rfl (.tmp 45) (.tmp 47) 43 43 rfl _ _ rfl rfl (.slice A9 (j + 1) c9) w1 RUN.out ?_)
     rw [← hw2]
     clear hw2 hc1 hf1 hcf hff RUN
     obtain ⟨⟨hp1, hp2⟩, hsl, hjn, hjl, hpgP⟩ := HNU.out
     have e1 : ¬ ((s.next : Int) ≤ (j + 1 : Nat)) := by omega
     have e2 : ¬ ((s.next : Int) ≤ pg) := by omega
     refine wp_region_H (fun v => v.cell? ⟨M.p, 1, none⟩ = some (.slice A9 (j + 1) c9) ∧ v.cell? ⟨M.p, 0, none⟩ = some (.int .i64 s.next)) (by kernel_rfl) (fun v0 hv0 => ?_)
     have hS0 : (fun v => v.cell? ⟨M.p, 1, none⟩ = some (.slice A9 (j + 1) c9) ∧ v.cell? ⟨M.p, 0, none⟩ = some (.int .i64 s.next)) v0 := by subst hv0; exact ⟨HC1.out, HC0.out⟩
     have HV0 : Hid (PoolAt v0 Mk Sk D) := Lib.hid (by subst hv0; exact HP2.out.drew)
     have HW0 : Hid (PWent w v0 M Mk) := Lib.hid (by subst hv0; exact HW2.out.tail (Below.refl _ _).drew)
     clear hv0 HP2 HW2 HC0 HC1
     refine wpH_t 0 ?_ rfl rfl (by kernel_rfl) (fun _ _ _ h => h) rfl ?_ hS0 ?_
     rotate_left
     ·(intro w_ hw_; go_simp; try with_reducible rfl)
     simp only [sL]
     refine wpH_t 1 ?_ rfl rfl (by kernel_rfl) (fun _ _ _ h => h) rfl ?_ hS0 ?_
     rotate_left
     ·(intro w_ hw_; obtain ⟨q1, q2⟩ := hw_; go_simp; try with_reducible rfl)
     simp only [sL]
     refine wpH_t 2 ?_ rfl rfl (by kernel_rfl) (fun _ _ _ h => h) rfl ?_ hS0 ?_
     rotate_left
     ·(intro w_ hw_; go_simp; try with_reducible rfl)
     simp only [sL]
     refine wpH_t 3 ?_ rfl rfl (by kernel_rfl) (fun _ _ _ h => h) rfl ?_ hS0 ?_
     rotate_left
     ·(intro w_ hw_; go_simp; try with_reducible rfl)
     simp only [sL]
     refine wpH_t 4 ?_ rfl rfl (by kernel_rfl) (fun _ _ _ h => h) rfl ?_ hS0 ?_
     rotate_left
     ·(intro w_ hw_; obtain ⟨q1, q2⟩ := hw_; go_simp; try with_reducible rfl)
     simp only [sL]
     refine wpH_t 5 ?_ rfl rfl (by kernel_rfl) (fun _ _ _ h => h) rfl ?_ hS0 ?_
     rotate_left
     ·(intro w_ hw_; obtain ⟨q1, q2⟩ := hw_; go_simp; try with_reducible rfl)
     simp only [sL]
     refine wpH_t 6 ?_ rfl rfl (by kernel_rfl) (fun _ _ _ h => h) rfl ?_ hS0 ?_
     rotate_left
     ·(intro w_ hw_; go_simp; try with_reducible rfl)
     simp only [sL]
     refine wpH_t 7 ?_ rfl rfl (by kernel_rfl) (fun _ _ _ h => h) rfl ?_ hS0 ?_
     rotate_left
     ·(intro w_ hw_; obtain ⟨q1, q2⟩ := hw_; go_simp; try with_reducible rfl)
     simp only [sL]
     refine wpH_t 8 ?_ rfl rfl (by kernel_rfl) (fun _ _ _ h => h) rfl ?_ hS0 ?_
     rotate_left
     ·(intro w_ hw_; go_simp; try with_reducible rfl)
     simp only [sL]
     refine wpH_t 9 ?_ rfl rfl (by kernel_rfl) (fun _ _ _ h => h) rfl ?_ hS0 ?_
     rotate_left
     ·(intro w_ hw_; go_simp; try with_reducible rfl)
     simp only [sL]
     refine wpH_t 10 ?_ rfl rfl (by kernel_rfl) (fun _ _ _ h => h) rfl ?_ hS0 ?_
     rotate_left
     ·(intro w_ hw_; obtain ⟨q1, q2⟩ := hw_; go_simp; try with_reducible rfl)
     simp only [sL]
     refine wpH_take (i := 11) (v := (.bool false)) rfl rfl (by kernel_rfl) (by kernel_rfl) (by kernel_rfl) (fun _ _ _ h => h) (Or.inl ⟨by rfl, ?_⟩) hS0 ?_
     ·(intro w_ hw_; obtain ⟨q1, q2⟩ := hw_; go_simp; try omega)
     simp only [sL]
     refine wpH_t 12 ?_ rfl rfl (by kernel_rfl) (fun _ _ _ h => h) rfl ?_ hS0 ?_
     rotate_left
     ·(intro w_ hw_; go_simp; try with_reducible rfl)
     simp only [sL]
     refine wpH_t 13 ?_ rfl rfl (by kernel_rfl) (fun _ _ _ h => h) rfl ?_ hS0 ?_
     rotate_left
     ·(intro w_ hw_; go_simp; try with_reducible rfl)
     simp only [sL]
     refine wpH_t 14 ?_ rfl rfl (by kernel_rfl) (fun _ _ _ h => h) rfl ?_ hS0 ?_
     rotate_left
     ·(intro w_ hw_; go_simp; try with_reducible rfl)
     simp only [sL]
     refine wpH_t 15 ?_ rfl rfl (by kernel_rfl) (fun _ _ _ h => h) rfl ?_ hS0 ?_
     rotate_left
     ·(intro w_ hw_; obtain ⟨q1, q2⟩ := hw_; go_simp; try with_reducible rfl)
     simp only [sL]
     refine wpH_t 16 ?_ rfl rfl (by kernel_rfl) (fun _ _ _ h => h) rfl ?_ hS0 ?_
     rotate_left
     ·(intro w_ hw_; go_simp; try with_reducible rfl)
     simp only [sL]
     refine wpH_t 17 ?_ rfl rfl (by kernel_rfl) (fun _ _ _ h => h) rfl ?_ hS0 ?_
     rotate_left
     ·(intro w_ hw_; go_simp; try with_reducible rfl)
     simp only [sL]
     refine wpH_t 18 ?_ rfl rfl (by kernel_rfl) (fun _ _ _ h => h) rfl ?_ hS0 ?_
     rotate_left
     ·(intro w_ hw_; obtain ⟨q1, q2⟩ := hw_; go_simp; try with_reducible rfl)
     simp only [sL]
     refine wpH_take (i := 19) (v := (.bool false)) rfl rfl (by kernel_rfl) (by kernel_rfl) (by kernel_rfl) (fun _ _ _ h => h) (Or.inl ⟨by rfl, ?_⟩) hS0 ?_
     ·(intro w_ hw_; obtain ⟨q1, q2⟩ := hw_; go_simp; try omega)
     simp only [sL]
     refine wpH_t 20 ?_ rfl rfl (by kernel_rfl) (fun _ _ _ h => h) rfl ?_ hS0 ?_
     rotate_left
     ·(intro w_ hw_; go_simp; try with_reducible rfl)
     simp only [sL]
     clear hS0
     refine wpAnyH_done (by kernel_rfl) ?_ _
     obtain ⟨f', hl', hsf'⟩ := seen_loaded (x := ⟨s.next, tailJ s.free (j + 1), s.roots⟩) HSF.out hpgP
     have hpage := seen_page (x := ⟨s.next, tailJ s.free (j + 1), s.roots⟩) HSF.out pg
     have hokk := HOK.out.with_now (HS.out.part (j + 1)) HSF.out HDO.out
     rw [← HSK.out] at hl' hpage hokk
     have hld := load_any HV0.out hokk HLO.out.1 HLO.out.2 pg (by rw [HSK.out]; exact hpgP)
     rw [hpage, HCK.out, hl', hmp] at hld
     have HLD := Lib.hid hld
     have HSF' := Lib.hid hsf'
     have hg0 : ((get4 (widen D.rm (lebZ pq 4)) 0 : Nat) : Int) = pq := link_get (by have := HPN.out; have := HP8.out; omega)
     have hwl : (widen D.rm (lebZ pq 4)).length = D.rm := widen_length (by simp; have := HLE.out; omega)
     obtain ⟨l9, hl9⟩ : ∃ l9, l9 = widen D.rm (lebZ pq 4) := ⟨_, rfl⟩
     rw [← hl9] at hg0 hwl HLD
     have HG0 := Lib.hid hg0
     have HWL := Lib.hid hwl
     clear hl' hpage hokk hld hsf' hg0 hwl hl9 HCK HSK
     go_wp2_with fail
     refine HLD.out.mono ?_
     rintro e w6 ⟨u6, rfl, v6, rfl, hby6, hp6, hw6⟩
     obtain ⟨p6, c6, rfl, hc6, hrd6⟩ := hby6.rd
     have hg6 := get4_any p6 l9 l9.length c6 0 w6 rfl hrd6 (by have := HWL.out; have := HLE.out; omega) (by omega)
     rw [HG0.out] at hg6
     have HG6 := Lib.hid hg6
     have HP6 := Lib.hid hp6
     have HW6 := Lib.hid (HW0.out.trans hw6)
     clear hby6 hp6 hw6 hc6 hrd6 hg6 HV0 HW0 HLD
     go_wp2_with fail
     refine HG6.out.mono ?_
     rintro e w7 ⟨rfl, rfl⟩
     go_wp2
     go_roundw
     case rel => exact ⟨j + 1, f', .slice A9 (j + 1) c9, by omega, by rw [HPQ.out, show n - (j + 1) = n - j - 1 by omega], Lib.hid (by rw [← HMK.out]; exact HP6.out), Lib.hid (by rw [← HMK.out]; exact HW6.out), HSF'⟩
     case measure =>
      have h1 := HFR.out
      show far s.free (intOf (.int .i64 (pq : Nat))).toNat < far s.free (intOf (.int .i64 (pg : Nat))).toNat
      simp only [intOf, Int.toNat_natCast]
      omega
    ·have hjE : j = n := by omega
     subst hjE
     have e0 : prev s.free (j - j) = 0 := by rw [Nat.sub_self]; rfl
     rw [e0]
     rw [show tailJ s.free j = s.free.reverse by rw [HN.out, tailJ_all]] at HP
     have hcf := HP.out.c_free
     dsimp only at hcf
     have hrv := Reverse_row HP.out.free (by dsimp only; rw [List.length_reverse]; have := HS.out.len; have := HP8.out; omega)
     dsimp only at hrv
     have HRV := Lib.hid hrv
     clear hrv
     go_wp2_with fail
     refine HRV.out.mono ?_
     rintro e w6 ⟨rfl, hr6, ht6⟩
     rw [List.reverse_reverse] at hr6
     have h6 := HP.out.free_row hr6 ht6
     have HP6 := Lib.hid h6.1
     have HW6 := Lib.hid (HW.out.trans h6.2)
     clear h6 hr6 ht6 HP HW HRV
     go_wp2
     go_ret
     exact ⟨rfl, _, f, HP6.out, HW6.out, HSF.out⟩
end
end Go.Proofs.YtklppnknllbfnaaGreat
