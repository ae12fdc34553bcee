/- Walks: a slot's change. A row of groups in memory; what a log's slots hold in an epoch. What stands in memory while a log's slots are read. Walks: log.Read. (UNDER WAY) -/
import Derived.Test.YtklppnknllbfnaaGreatLB
namespace Go.Proofs.YtklppnknllbfnaaGreat
open Go.RowKit Go.Maps
set_option maxRecDepth 8000
variable {ι : Type} [Bar ι]
/-- What a slot's load says: a page, its load, whether it is the last of a group. -/
def chOf (ld : List Nat) : Option ((Int × List Nat) × Bool) := if 2147483647 < num (ld.take 8) ∨ 1 < ld[8]?.getD 0 then none else some (((num (ld.take 8) : Int), ld.drop 9), ld[8]?.getD 0 == 1)
theorem byt_drop9 {w : World} {A : Addr} {n c : Nat} {l : List Nat} (h : Byt w (.slice (some A) n c) l) (hn : 28 ≤ n) : Byt w (.slice (some ⟨A.block, A.off + 9, none⟩) (n - 9) (c - 9)) (l.drop 9) := by
 have hl := h.len_val
 have hc := h.cap_val
 obtain ⟨h1, p, c', e, _, hk, hv⟩ := h
 injection e with e1 e2 e3
 injection e1 with e1
 subst e1
 refine ⟨fun b hb => h1 b (List.mem_of_mem_drop hb), ⟨A.block, A.off + 9, none⟩, c - 9, by rw [List.length_drop, hl], by rw [List.length_drop]; omega, hk, fun k hk => ?_⟩
 have hk' : 9 + k < l.length := by simp at hk; omega
 have := hv (9 + k) hk'
 rw [List.getElem_drop, ← this]
 congr 1
 unfold Addr.add
 by_cases h0 : k = 0
 ·subst h0; simp
 ·simp [h0]; omega
theorem change_set {w w1 : World} {Z : Nat} {c0 : Array Value} (hZ : Blk w1 Z c0 94) (hb : Below w.heap.size w w1) (hc : c0 = #[.int .i64 0, .slice none 0 0]) (hlt : w.heap.size ≤ Z) (p : Int) (v : Value) :
  Below w.heap.size w ((w1.setCell ⟨Z, 0, none⟩ (.int .i64 p)).setCell ⟨Z, 1, none⟩ v) ∧ Blk ((w1.setCell ⟨Z, 0, none⟩ (.int .i64 p)).setCell ⟨Z, 1, none⟩ v) Z #[.int .i64 p, v] 94 ∧ Turn [Z] w1 ((w1.setCell ⟨Z, 0, none⟩ (.int .i64 p)).setCell ⟨Z, 1, none⟩ v) := by
 subst hc
 refine ⟨(hb.setCell (p := ⟨Z, 0, none⟩) hlt _).setCell (p := ⟨Z, 1, none⟩) hlt _, ?_, ((Turn.refl [Z] w1).set (.inl (by simp)) _).set (.inl (by simp)) _⟩
 have := (hZ.set 0 (.int .i64 p)).set 1 v
 simpa using this
set_option maxHeartbeats 4000000 in
theorem change_any (ep : Int) (em : Bool) (A : Addr) (n c : Nat) (ld : List Nat) (w : World) (hu : Byt w (.slice (some A) n c) ld) (hn : (28 : Int) ≤ n) :
  Calls Tryz.prog 86 #[.agg #[.int .i64 ep, .slice (some A) n c, .bool em]] w fun e w' => Below w.heap.size w w' ∧ ((chOf ld = none ∧ e = .returned (.tuple #[.agg #[.int .i64 0, .slice none 0 0], .bool false, .bool false])) ∨
   ∃ p l last v, chOf ld = some ((p, l), last) ∧ e = .returned (.tuple #[.agg #[.int .i64 p, v], .bool last, .bool true]) ∧ Byt w' v l) := by
 have hlen := hu.len_val
 have hl8 : 8 < ld.length := by omega
 obtain ⟨w1, hw1⟩ : ∃ w1, w1 = (w.alloc (.cells #[.int .i64 ep, .slice (some A) n c, .bool em] 124)).alloc (.cells #[.int .i64 0, .slice none 0 0] 94) := ⟨_, rfl⟩
 have hb : Below w.heap.size w w1 := by subst hw1; exact grow_alloc (grow_alloc (Below.refl _ _) _) _
 have hX : Blk w1 w.heap.size #[.int .i64 ep, .slice (some A) n c, .bool em] 124 := by subst hw1; exact (Blk.new w _ _).alloc _
 have hZ : Blk w1 (w.heap.size + 1) #[.int .i64 0, .slice none 0 0] 94 := by subst hw1; exact Blk.new' _ _ _ (by simp)
 have hu1 := hu.grew hb
 have HN := Lib.hid (number64_any A ld n c w1 hlen hu1.rdv (by omega))
 obtain ⟨q, eq, _, hc8, hb8⟩ := hu1.rdv.get hl8
 cases eq
 have e8 : A.add 8 = ⟨A.block, A.off + 8, none⟩ := by simp [Addr.add]
 rw [e8] at hc8
 clear e8
 have x1 := hX.cell 1
 have z0 := hZ.free 0
 have z1 := hZ.free 1
 have zc0 : w1.cell? ⟨w.heap.size + 1, 0, none⟩ = some (.int .i64 0) := hZ.cell 0
 have zc1 : w1.cell? ⟨w.heap.size + 1, 1, none⟩ = some (.slice none 0 0) := hZ.cell 1
 obtain ⟨N, hNe⟩ : ∃ N, N = num (ld.take 8) := ⟨_, rfl⟩
 obtain ⟨F, hFe⟩ : ∃ F, F = ld[8] := ⟨_, rfl⟩
 have hch : chOf ld = if 2147483647 < N ∨ 1 < F then none else some (((N : Int), ld.drop 9), F == 1) := by
  unfold chOf
  rw [List.getElem?_eq_getElem hl8, Option.getD_some, ← hNe, ← hFe]
 rw [← hNe] at HN
 rw [← hFe] at hc8 hb8
 have HCH := Lib.hid hch
 have HU1 := Lib.hid hu1
 have HB := Lib.hid hb
 have HZ := Lib.hid hZ
 clear hu hu1 hX hZ hch hNe hFe hl8 hb hlen
 by_cases h1 : 2147483647 < N
 ·have h1' : (2147483647 : Int) < N := by omega
  go_enter Tryz.func86, Tryz.ntmps86
  go_wp2_with fail
  rw [← hw1]
  clear hw1
  refine HN.out.mono ?_
  rintro e w2 ⟨rfl, hw2⟩
  subst hw2
  have HS := Lib.hid (change_set HZ.out HB.out rfl (by omega) 0 (.slice none 0 0))
  go_wp2
  refine bodyPost_ret (v := .tuple #[.agg #[.int .i64 0, .slice none 0 0], .bool false, .bool false]) ?_ rfl ⟨HS.out.1, Or.inl ⟨by rw [HCH.out, if_pos (Or.inl h1)], rfl⟩⟩
  have kk := HS.out.2.1.two
  simp [results, Tryz.results86, go_sem, kk]
 ·have h1' : ¬ (2147483647 : Int) < N := by omega
  by_cases h2 : 1 < F
  ·have h2' : (1 : Int) < F := by omega
   go_enter Tryz.func86, Tryz.ntmps86
   go_wp2_with fail
   rw [← hw1]
   clear hw1
   refine HN.out.mono ?_
   rintro e w2 ⟨rfl, hw2⟩
   subst hw2
   have HS := Lib.hid (change_set HZ.out HB.out rfl (by omega) 0 (.slice none 0 0))
   go_wp2
   refine bodyPost_ret (v := .tuple #[.agg #[.int .i64 0, .slice none 0 0], .bool false, .bool false]) ?_ rfl ⟨HS.out.1, Or.inl ⟨by rw [HCH.out, if_pos (Or.inr h2)], rfl⟩⟩
   have kk := HS.out.2.1.two
   simp [results, Tryz.results86, go_sem, kk]
  ·have h2' : ¬ (1 : Int) < F := by omega
   obtain ⟨K, hK⟩ : ∃ K, K = (F == 1) := ⟨_, rfl⟩
   have HCH2 : Hid (chOf ld = some (((N : Int), ld.drop 9), K)) := Lib.hid (by rw [HCH.out, if_neg (by omega), hK])
   have hKi : ((F : Int) == 1) = K := by rw [hK, Bool.eq_iff_iff]; simp; omega
   have hcap := HU1.out.cap_val
   have hc9 : ¬ c = 9 := by omega
   have HBY := Lib.hid (byt_drop9 HU1.out (by omega))
   have HS := Lib.hid (change_set HZ.out HB.out rfl (by omega) N (.slice (some ⟨A.block, A.off + 9, none⟩) (n - 9) (c - 9)))
   clear hK HCH
   go_enter Tryz.func86, Tryz.ntmps86
   go_wp2_with fail
   rw [← hw1]
   clear hw1
   refine HN.out.mono ?_
   rintro e w2 ⟨rfl, hw2⟩
   subst hw2
   go_wp2
   refine bodyPost_ret (v := .tuple #[.agg #[.int .i64 N, .slice (some ⟨A.block, A.off + 9, none⟩) (n - 9) (c - 9)], .bool K, .bool true]) ?_ rfl ⟨HS.out.1, Or.inr ⟨N, _, K, _, HCH2.out, rfl, ?_⟩⟩
   ·have kk := HS.out.2.1.two
    simp [results, Tryz.results86, go_sem, kk]
   ·refine HBY.out.turn HS.out.2.2 ?_
    intro j hj cs fz e
    simp at hj; subst hj
    have := HZ.out; unfold Blk at this; rw [this] at e; cases e
end Go.Proofs.YtklppnknllbfnaaGreat
namespace Go.Proofs.YtklppnknllbfnaaGreat
open Go.RowKit Go.Maps
set_option maxRecDepth 8000
/-- The slice v is a row of these groups, whose rows lie below block B. -/
def Grps (w : World) (v : Value) (gs : List (List (Int × List Nat))) (B : Nat) : Prop :=
 ∃ vs : List Value, vs.length = gs.length ∧ w.ownsRow 0 92 1 v gs.length vs ∧ ∀ k (h : k < gs.length), ∃ u, vs[k]? = some u ∧ u.oneCell' = true ∧ Chg w u gs[k] ∧ ∀ j, u.ownBlock = some j → j < B
section
variable {T : List Nat} {w w' : World} {v : Value} {gs : List (List (Int × List Nat))} {B : Nat}
theorem Grps.nil (w : World) (B : Nat) : Grps w nilv [] B := ⟨[], rfl, World.ownsRow_nil _ _ _ _, fun k h => absurd h (by simp)⟩
theorem Grps.kind (h : Grps w v gs B) {g : Nat} (hg : v.ownBlock = some g) : ∃ cs, w.heap[g]? = some (.cells cs 92 (0, 0)) := by
 obtain ⟨vs, _, ho, _⟩ := h
 rcases ho.2 with ⟨rfl, _⟩ | ⟨g', cap, cur, rfl, _, hh, _⟩
 ·simp [Value.ownBlock] at hg
 ·simp [Value.ownBlock] at hg; subst hg; exact ⟨_, hh⟩
theorem Grps.turn (h : Grps w v gs B) (k : Turn T w w') (hn : NoBytes w T) (hr : ∀ k ∈ T, (∀ cs fz, w.heap[k]? ≠ some (.cells cs 94 fz)) ∨ B ≤ k) (hg : ∀ g, v.ownBlock = some g → g ∉ T) : Grps w' v gs B := by
 obtain ⟨vs, h1, ho, h2⟩ := h
 refine ⟨vs, h1, ?_, fun j hj => ?_⟩
 ·refine ⟨ho.1, ?_⟩
  rcases ho.2 with h | ⟨g, cap, cur, rfl, hb, hh, r⟩
  ·exact .inl h
  ·exact .inr ⟨g, cap, cur, rfl, hb, (k.block g (lt_of_block hh) (hg g rfl)).trans hh, r⟩
 ·obtain ⟨u, e, e1, hb, hB⟩ := h2 j hj
  refine ⟨u, e, e1, hb.turn k hn (fun g hg hm => ?_), hB⟩
  obtain ⟨cs, hx⟩ := hb.kind hg
  rcases hr g hm with h | h
  ·exact h _ _ hx
  ·have := hB g hg; omega
theorem Grps.grew (h : Grps w v gs B) (k : Below w.heap.size w w') : Grps w' v gs B := h.turn (Turn.of_below k []) (by intro _ h; simp at h) (by intro _ h; simp at h) (by simp)
/-- .. and the group begun has a row of its own. -/
def Gap (w : World) (v : Value) (gs : List (List (Int × List Nat))) (gv : Value) : Prop := ∃ B, B ≤ w.heap.size ∧ Grps w v gs B ∧ ∀ j, gv.ownBlock = some j → B ≤ j
variable {gv : Value}
theorem Gap.nil (w : World) : Gap w nilv [] nilv := ⟨0, Nat.zero_le _, Grps.nil _ _, by simp⟩
theorem Gap.kind (h : Gap w v gs gv) {g : Nat} (hg : v.ownBlock = some g) : ∃ cs, w.heap[g]? = some (.cells cs 92 (0, 0)) := by
 obtain ⟨B, _, h, _⟩ := h; exact h.kind hg
theorem Gap.turn (h : Gap w v gs gv) (k : Turn T w w') (hn : NoBytes w T) (hr : ∀ k ∈ T, ∀ cs fz, w.heap[k]? ≠ some (.cells cs 94 fz)) (hg : ∀ g, v.ownBlock = some g → g ∉ T) : Gap w' v gs gv := by
 obtain ⟨B, h0, h1, h2⟩ := h
 exact ⟨B, Nat.le_trans h0 k.size, h1.turn k hn (fun k hk => .inl (hr k hk)) hg, h2⟩
theorem Gap.turnG (h : Gap w v gs gv) (k : Turn gv.ownBlock.toList w w') (hn : NoBytes w gv.ownBlock.toList) (hg : ∀ g, v.ownBlock = some g → gv.ownBlock ≠ some g) {gv' : Value} (hg' : ∀ j, gv'.ownBlock = some j → gv.ownBlock = some j ∨ w.heap.size ≤ j) : Gap w' v gs gv' := by
 obtain ⟨B, h0, h1, h2⟩ := h
 refine ⟨B, Nat.le_trans h0 k.size, h1.turn k hn (fun j hj => .inr (h2 j (by simpa using hj))) (fun g e hm => hg g e (by simpa using hm)), fun j hj => ?_⟩
 rcases hg' j hj with h | h
 ·exact h2 j h
 ·omega
theorem Gap.grew (h : Gap w v gs gv) (k : Below w.heap.size w w') : Gap w' v gs gv := h.turn (Turn.of_below k []) (by intro _ h; simp at h) (by intro _ h; simp at h) (by simp)
end
theorem grp_row : (Tryz.prog.info? 92).map (fun i => (i.zero, i.size, i.bytes)) = some (some (.slice none 0 0), 1, 24) := by kernel_rfl
theorem Chg.slice {w : World} {v : Value} {l : List (Int × List Nat)} (h : Chg w v l) : ∃ A c, v = .slice A l.length c := by
 obtain ⟨A, c, e, _⟩ := h.form
 exact ⟨A, c, e⟩
/-- 'append(out, group)', the group's slice in a block of its own. -/
theorem Grps.append {w : World} {v : Value} {gs : List (List (Int × List Nat))} {B : Nat} (h : Grps w v gs B) (hn : gs.length ≤ 1000000000) {g : Nat} {u : Value} {l : List (Int × List Nat)} (hg : Blk w g #[u] 92) (hu : Chg w u l) :
  ∃ v' w', (Builtin.append_ #[89, 89] 89 #[v, .slice (some ⟨g, 0, none⟩) 1 1]).run Tryz.prog w = .ok v' w' ∧ Grps w' v' (gs ++ [l]) w.heap.size ∧ Grps w' v gs B ∧ Chg w' u l ∧ (∀ {x : Value} {r : List (Int × List Nat)}, Chg w x r → Chg w' x r) ∧ w.grownBy w' v.ownBlock ∧ (v'.ownBlock = v.ownBlock ∨ v'.ownBlock = some w.heap.size) := by
 obtain ⟨i, hi, hz, hs, hby⟩ := info_parts grp_row
 obtain ⟨vs, h1, ho, h2⟩ := id h
 have hc := hg.one
 obtain ⟨A, c, rfl⟩ := hu.slice
 obtain ⟨v', w', hrun, ho', hgr, hloc, hold⟩ := run_append_keeps (P := Tryz.prog) w 0 89 89 92 i _ 1 24 Tryz.underlying89 hi hz hs hby rfl (by omega) v gs.length vs ho ⟨g, 0, none⟩ 1 1 [.slice A l.length c] rfl
  (fun j u hu => by
   match j, hu with
   | 0, hu => simp at hu; subst hu; exact hc.1) (by intro u hu; simp at hu; subst hu; rfl) (by simp only [maxLen]; omega) (by omega) (Nat.zero_le _)
 have ht : Turn v.ownBlock.toList w w' := (Turn.refl _ w).grown hgr (fun k e => .inl (by simp [e]))
 have hnb : NoBytes w v.ownBlock.toList := by
  intro k hk cs fz e
  obtain ⟨cs', e'⟩ := h.kind (g := k) (by simpa using hk)
  rw [e'] at e; cases e
 have hne : ∀ {u : Value} {l : List (Int × List Nat)}, Chg w u l → Chg w' u l := fun hb => hb.turn ht hnb (fun j hj hm => by
  obtain ⟨cs, e⟩ := hb.kind hj
  obtain ⟨cs', e'⟩ := h.kind (g := j) (by simpa using hm)
  rw [e] at e'; cases e')
 refine ⟨v', w', hrun, ⟨vs ++ [.slice A l.length c], by simp [h1], ?_, fun k hk => ?_⟩, ⟨vs, h1, hold, fun k hk => ?_⟩, hne hu, hne, hgr, hloc⟩
 ·rw [List.length_append]; exact ho'
 ·by_cases hlt : k < gs.length
  ·obtain ⟨u, e, e1, hb, _⟩ := h2 k hlt
   refine ⟨u, ?_, e1, ?_, fun j hj => hb.lt hj⟩
   ·rw [List.getElem?_append_left (by omega)]; exact e
   ·rw [List.getElem_append_left hlt]; exact hne hb
  ·have ek : k = gs.length := by simp at hk; omega
   subst ek
   refine ⟨.slice A l.length c, ?_, rfl, ?_, fun j hj => hu.lt hj⟩
   ·rw [List.getElem?_append_right (by omega), h1]; simp
   ·simpa using hne hu
 ·obtain ⟨u, e, e1, hb, hB⟩ := h2 k hk
  exact ⟨u, e, e1, hne hb, hB⟩
/-- What slots hold in an epoch, of what each says (its epoch, its change): the groups, behind 'out' and the group 'g' begun. -/
def grpL (e : Int) : List (Int × Option ((Int × List Nat) × Bool)) → List (List (Int × List Nat)) → List (Int × List Nat) → List (List (Int × List Nat))
 | [], out, _ => out
 | (a, b) :: r, out, g =>
  if a ≠ e then out
  else match b with
   | none => out
   | some (c, last) => if last then grpL e r (out ++ [g ++ [c]]) [] else grpL e r out (g ++ [c])
theorem grpL_other {e a : Int} (h : a ≠ e) (b : Option ((Int × List Nat) × Bool)) (r : List (Int × Option ((Int × List Nat) × Bool))) (out : List (List (Int × List Nat))) (g : List (Int × List Nat)) : grpL e ((a, b) :: r) out g = out := by
 show (if a ≠ e then _ else _) = _; rw [if_pos h]
theorem grpL_none (e : Int) (r : List (Int × Option ((Int × List Nat) × Bool))) (out : List (List (Int × List Nat))) (g : List (Int × List Nat)) : grpL e ((e, none) :: r) out g = out := by
 show (if e ≠ e then _ else _) = _; rw [if_neg (by simp)]
theorem grpL_some (e : Int) (c : Int × List Nat) (last : Bool) (r : List (Int × Option ((Int × List Nat) × Bool))) (out : List (List (Int × List Nat))) (g : List (Int × List Nat)) :
  grpL e ((e, some (c, last)) :: r) out g = if last then grpL e r (out ++ [g ++ [c]]) [] else grpL e r out (g ++ [c]) := by
 show (if e ≠ e then _ else _) = _; rw [if_neg (by simp)]
/-- What n slots from i on say. -/
def slL (D : Dsk) (f : Nat) : Nat → Nat → List (Int × Option ((Int × List Nat) × Bool))
 | 0, _ => []
 | n + 1, i => (slotEp (D.tells ((f : Int) + i)) i, chOf (slotLoad (D.tells ((f : Int) + i)) i)) :: slL D f n (i + 1)
theorem slL_succ (D : Dsk) (f n i : Nat) : slL D f (n + 1) i = (slotEp (D.tells ((f : Int) + i)) i, chOf (slotLoad (D.tells ((f : Int) + i)) i)) :: slL D f n (i + 1) := rfl
/-- What n slots from i on hold in an epoch: the groups, behind 'out' and the group 'g' begun. -/
def grp (D : Dsk) (f : Nat) (e : Int) (n i : Nat) (out : List (List (Int × List Nat))) (g : List (Int × List Nat)) : List (List (Int × List Nat)) := grpL e (slL D f n i) out g
theorem grp_succ (D : Dsk) (f : Nat) (e : Int) (n i : Nat) (out : List (List (Int × List Nat))) (g : List (Int × List Nat)) :
  grp D f e (n + 1) i out g = grpL e ((slotEp (D.tells ((f : Int) + i)) i, chOf (slotLoad (D.tells ((f : Int) + i)) i)) :: slL D f n (i + 1)) out g := by
 unfold grp; rw [slL_succ]
end Go.Proofs.YtklppnknllbfnaaGreat
namespace Go.Proofs.YtklppnknllbfnaaGreat
open Go.RowKit Go.Maps
set_option maxRecDepth 8000
variable {ι : Type} [Bar ι]
structure RdS (w0 v : World) (b m : Nat) (vl : Value) (D : Dsk) (f c X EP EB OB GB d l : Nat) (e : Int) (ov gv : Value) (gs : List (List (Int × List Nat))) (g : List (Int × List Nat)) (o : Loop) : Prop where
 disk : DiskAt v b m vl D
 kX : Blk v X #[.pointer (some ⟨b, 0, none⟩), .int .i64 f, .int .i64 c] 116
 kP : Blk v EP #[.int .i64 e] 3
 kE : Blk v EB #[.int .i64 0] 25
 kO : Blk v OB #[ov] 89
 kG : Blk v GB #[gv] 92
 out : Gap v ov gs gv
 row : Chg v gv g
 ne : ∀ j, ov.ownBlock = some j → j ≠ GB ∧ w0.heap.size ≤ j
 nw : ∀ j, gv.ownBlock = some j → w0.heap.size ≤ j
 kd : v.heap[d]? = some (.deferred (some []))
 kl : v.heap[l]? = some (.loop o)
 low : Below w0.heap.size w0 v
 lo : w0.heap.size ≤ OB ∧ w0.heap.size ≤ GB ∧ w0.heap.size ≤ l ∧ w0.heap.size ≤ d
section
variable {w0 v v' : World} {b m : Nat} {vl : Value} {D : Dsk} {f c X EP EB OB GB d l : Nat} {e : Int} {ov gv : Value} {gs : List (List (Int × List Nat))} {g : List (Int × List Nat)} {o o' : Loop}
theorem RdS.grew (h : RdS w0 v b m vl D f c X EP EB OB GB d l e ov gv gs g o) (k : Below v.heap.size v v') : RdS w0 v' b m vl D f c X EP EB OB GB d l e ov gv gs g o :=
 ⟨h.disk.grew k, h.kX.grew k, h.kP.grew k, h.kE.grew k, h.kO.grew k, h.kG.grew k, h.out.grew k, h.row.grew k, h.ne, h.nw, (k.block _ (lt_of_block h.kd)).trans h.kd, (k.block _ (lt_of_block h.kl)).trans h.kl, grow h.low k, h.lo⟩
theorem RdS.turned (h : RdS w0 v b m vl D f c X EP EB OB GB d l e ov gv gs g o) (k : Turned l (.loop o') v v') : RdS w0 v' b m vl D f c X EP EB OB GB d l e ov gv gs g o' := by
 have nb := nobytes_loop h.kl
 have nr : ∀ j ∈ [l], ∀ cs fz, v.heap[j]? ≠ some (.cells cs 94 fz) := by
  intro j hj cs fz hx; simp at hj; subst hj; rw [h.kl] at hx; cases hx
 refine ⟨h.disk.turned h.kl k, h.kX.turned h.kl k, h.kP.turned h.kl k, h.kE.turned h.kl k, h.kO.turned h.kl k, h.kG.turned h.kl k, h.out.turn k.turn nb nr (fun j hj hm => ?_), h.row.turn k.turn nb (fun j hj hm => ?_), h.ne, h.nw, (k.same d ?_).trans h.kd, k.at_, h.low.trans (k.below h.lo.2.2.1), h.lo⟩
 ·obtain ⟨cs, hx⟩ := h.out.kind hj
  simp at hm; subst hm; rw [h.kl] at hx; cases hx
 ·obtain ⟨cs, hx⟩ := h.row.kind hj
  simp at hm; subst hm; rw [h.kl] at hx; cases hx
 ·intro hx
  have := h.kd
  rw [hx, h.kl] at this
  cases this
/-- A turn of a row of changes: all but that row stands. -/
theorem RdS.moved {T : List Nat} (h : RdS w0 v b m vl D f c X EP EB OB GB d l e ov gv gs g o) (k : Turn T v v') (hT : ∀ j ∈ T, ∃ cs, v.heap[j]? = some (.cells cs 94 (0, 0))) (hlo : ∀ j ∈ T, w0.heap.size ≤ j) (hgs : Gap v' ov gs gv) (hg' : Chg v' gv g) :
  RdS w0 v' b m vl D f c X EP EB OB GB d l e ov gv gs g o := by
 have nb : NoBytes v T := by
  intro j hj cs fz hx
  obtain ⟨cs', e'⟩ := hT j hj
  rw [hx] at e'; cases e'
 have no : ∀ (x : Nat) (o : Obj), v.heap[x]? = some o → (∀ cs, o ≠ .cells cs 94 (0, 0)) → x ∉ T := by
  intro x o hx ho hm
  obtain ⟨cs', e'⟩ := hT x hm
  rw [hx] at e'
  exact ho _ (Option.some.inj e')
 have bl : ∀ {x : Nat} {cs : Array Value} {t : TypeId}, Blk v x cs t → t ≠ 94 → Blk v' x cs t := fun hb ht => (k.block _ hb.lt (no _ _ hb (by intro cs hx; cases hx; exact ht rfl))).trans hb
 refine ⟨h.disk.turn k nb (fun j hj => ?_), bl h.kX (by decide), bl h.kP (by decide), bl h.kE (by decide), bl h.kO (by decide), bl h.kG (by decide), hgs, hg', h.ne, h.nw,
  (k.block d (lt_of_block h.kd) (no _ _ h.kd (by intro cs hx; cases hx))).trans h.kd, (k.block l (lt_of_block h.kl) (no _ _ h.kl (by intro cs hx; cases hx))).trans h.kl, h.low.trans (k.below h.low.size hlo), h.lo⟩
 rcases mem_own.1 hj with e | e | hg
 ·rw [e]; exact no _ _ h.disk.blk (by intro cs hx; cases hx)
 ·obtain ⟨es, clock, hm⟩ := h.disk.fast.kind; rw [e]; exact no _ _ hm (by intro cs hx; cases hx)
 ·obtain ⟨cs, e⟩ := h.disk.loose.kind hg; exact no _ _ e (by intro cs hx; cases hx)
/-- The group's variable is written. -/
theorem RdS.setG (h : RdS w0 v b m vl D f c X EP EB OB GB d l e ov gv gs g o) {gv' : Value} {g' : List (Int × List Nat)} (hg' : Chg v gv' g') (hgp : Gap v ov gs gv') (hnw : ∀ j, gv'.ownBlock = some j → w0.heap.size ≤ j) :
  RdS w0 (v.setCell ⟨GB, 0, none⟩ gv') b m vl D f c X EP EB OB GB d l e ov gv' gs g' o := by
 have k : Turn [GB] v (v.setCell ⟨GB, 0, none⟩ gv') := (Turn.refl [GB] v).set (.inl (by simp)) _
 have nb : NoBytes v [GB] := by
  intro j hj cs fz hx
  simp at hj; subst hj
  have := h.kG; unfold Blk at this; rw [this] at hx; cases hx
 have no : ∀ (x : Nat) (o : Obj), v.heap[x]? = some o → (∀ cs, o ≠ .cells cs 92 (0, 0)) → x ∉ [GB] := by
  intro x o hx ho hm
  simp at hm; subst hm
  have := h.kG; unfold Blk at this; rw [this] at hx
  exact ho _ (Option.some.inj hx).symm
 have bl : ∀ {x : Nat} {cs : Array Value} {t : TypeId}, Blk v x cs t → t ≠ 92 → Blk (v.setCell ⟨GB, 0, none⟩ gv') x cs t := fun hb ht => (k.block _ hb.lt (no _ _ hb (by intro cs hx; cases hx; exact ht rfl))).trans hb
 have nr : ∀ j ∈ [GB], ∀ cs fz, v.heap[j]? ≠ some (.cells cs 94 fz) := by
  intro j hj cs fz hx
  simp at hj; subst hj
  have := h.kG; unfold Blk at this; rw [this] at hx; cases hx
 refine ⟨h.disk.turn k nb (fun j hj => ?_), bl h.kX (by decide), bl h.kP (by decide), bl h.kE (by decide), bl h.kO (by decide), ?_, hgp.turn k nb nr (fun j hj hm => (h.ne j hj).1 (by simpa using hm)), hg'.turn k nb (fun j hj hm => ?_), h.ne, hnw,
  (k.block d (lt_of_block h.kd) (no _ _ h.kd (by intro cs hx; cases hx))).trans h.kd, (k.block l (lt_of_block h.kl) (no _ _ h.kl (by intro cs hx; cases hx))).trans h.kl, h.low.setCell (p := ⟨GB, 0, none⟩) h.lo.2.1 _, h.lo⟩
 ·rcases mem_own.1 hj with e | e | hg
  ·rw [e]; exact no _ _ h.disk.blk (by intro cs hx; cases hx)
  ·obtain ⟨es, clock, hm⟩ := h.disk.fast.kind; rw [e]; exact no _ _ hm (by intro cs hx; cases hx)
  ·obtain ⟨cs, e⟩ := h.disk.loose.kind hg; exact no _ _ e (by intro cs hx; cases hx)
 ·have := h.kG.set 0 gv'
  simpa using this
 ·obtain ⟨cs, hx⟩ := hg'.kind hj
  exact nr j hm _ _ hx
/-- A turn of the row of groups: all but that row stands. -/
theorem RdS.movedO {T : List Nat} (h : RdS w0 v b m vl D f c X EP EB OB GB d l e ov gv gs g o) (k : Turn T v v') (hT : ∀ j ∈ T, ∃ cs, v.heap[j]? = some (.cells cs 92 (0, 0))) (hlo : ∀ j ∈ T, w0.heap.size ≤ j) (hGB : GB ∉ T) (hgs : Gap v' ov gs gv) (hg' : Chg v' gv g) :
  RdS w0 v' b m vl D f c X EP EB OB GB d l e ov gv gs g o := by
 have nb : NoBytes v T := by
  intro j hj cs fz hx
  obtain ⟨cs', e'⟩ := hT j hj
  rw [hx] at e'; cases e'
 have no : ∀ (x : Nat) (o : Obj), v.heap[x]? = some o → (∀ cs, o ≠ .cells cs 92 (0, 0)) → x ∉ T := by
  intro x o hx ho hm
  obtain ⟨cs', e'⟩ := hT x hm
  rw [hx] at e'
  exact ho _ (Option.some.inj e')
 have bl : ∀ {x : Nat} {cs : Array Value} {t : TypeId}, Blk v x cs t → t ≠ 92 → Blk v' x cs t := fun hb ht => (k.block _ hb.lt (no _ _ hb (by intro cs hx; cases hx; exact ht rfl))).trans hb
 refine ⟨h.disk.turn k nb (fun j hj => ?_), bl h.kX (by decide), bl h.kP (by decide), bl h.kE (by decide), bl h.kO (by decide), (k.block GB h.kG.lt hGB).trans h.kG, hgs, hg', h.ne, h.nw,
  (k.block d (lt_of_block h.kd) (no _ _ h.kd (by intro cs hx; cases hx))).trans h.kd, (k.block l (lt_of_block h.kl) (no _ _ h.kl (by intro cs hx; cases hx))).trans h.kl, h.low.trans (k.below h.low.size hlo), h.lo⟩
 rcases mem_own.1 hj with e | e | hg
 ·rw [e]; exact no _ _ h.disk.blk (by intro cs hx; cases hx)
 ·obtain ⟨es, clock, hm⟩ := h.disk.fast.kind; rw [e]; exact no _ _ hm (by intro cs hx; cases hx)
 ·obtain ⟨cs, e⟩ := h.disk.loose.kind hg; exact no _ _ e (by intro cs hx; cases hx)
/-- The groups' variable is written, and the group's variable emptied. -/
theorem RdS.setOG (h : RdS w0 v b m vl D f c X EP EB OB GB d l e ov gv gs g o) {ov' : Value} {gs' : List (List (Int × List Nat))} (hg' : Gap v ov' gs' nilv) (hne : ∀ j, ov'.ownBlock = some j → j ≠ GB ∧ w0.heap.size ≤ j) :
  RdS w0 ((v.setCell ⟨OB, 0, none⟩ ov').setCell ⟨GB, 0, none⟩ nilv) b m vl D f c X EP EB OB GB d l e ov' nilv gs' [] o ∧ (v.setCell ⟨OB, 0, none⟩ ov').cell? ⟨GB, 0, none⟩ = some gv ∧ (v.setCell ⟨OB, 0, none⟩ ov').frozen? ⟨GB, 0, none⟩ = false := by
 have k : Turn [OB, GB] v ((v.setCell ⟨OB, 0, none⟩ ov').setCell ⟨GB, 0, none⟩ nilv) := ((Turn.refl [OB, GB] v).set (.inl (by simp)) _).set (.inl (by simp)) _
 have nb : NoBytes v [OB, GB] := by
  intro j hj cs fz hx
  simp at hj; rcases hj with rfl | rfl
  ·have := h.kO; unfold Blk at this; rw [this] at hx; cases hx
  ·have := h.kG; unfold Blk at this; rw [this] at hx; cases hx
 have no : ∀ (x : Nat) (o : Obj), v.heap[x]? = some o → (∀ cs, o ≠ .cells cs 89 (0, 0)) → (∀ cs, o ≠ .cells cs 92 (0, 0)) → x ∉ [OB, GB] := by
  intro x o hx ho ho2 hm
  simp at hm; rcases hm with rfl | rfl
  ·have := h.kO; unfold Blk at this; rw [this] at hx
   exact ho _ (Option.some.inj hx).symm
  ·have := h.kG; unfold Blk at this; rw [this] at hx
   exact ho2 _ (Option.some.inj hx).symm
 have bl : ∀ {x : Nat} {cs : Array Value} {t : TypeId}, Blk v x cs t → t ≠ 89 → t ≠ 92 → Blk ((v.setCell ⟨OB, 0, none⟩ ov').setCell ⟨GB, 0, none⟩ nilv) x cs t := fun hb ht ht2 => (k.block _ hb.lt (no _ _ hb (by intro cs hx; cases hx; exact ht rfl) (by intro cs hx; cases hx; exact ht2 rfl))).trans hb
 have nr : ∀ j ∈ [OB, GB], ∀ cs fz, v.heap[j]? ≠ some (.cells cs 94 fz) := by
  intro j hj cs fz hx
  simp at hj; rcases hj with rfl | rfl
  ·have := h.kO; unfold Blk at this; rw [this] at hx; cases hx
  ·have := h.kG; unfold Blk at this; rw [this] at hx; cases hx
 have hOG : OB ≠ GB := by
  intro e
  have h1 := h.kO; have h2 := h.kG
  unfold Blk at h1 h2
  rw [e, h2] at h1
  cases h1
 have hG1 : Blk (v.setCell ⟨OB, 0, none⟩ ov') GB #[gv] 92 := h.kG.other (a := ⟨OB, 0, none⟩) (fun e => hOG e.symm) _
 refine ⟨⟨h.disk.turn k nb (fun j hj => ?_), bl h.kX (by decide) (by decide), bl h.kP (by decide) (by decide), bl h.kE (by decide) (by decide), ?_, ?_, hg'.turn k nb nr (fun j hj hm => ?_), Chg.nil _, hne, by intro j hj; simp [nilv, Value.ownBlock] at hj,
  (k.block d (lt_of_block h.kd) (no _ _ h.kd (by intro cs hx; cases hx) (by intro cs hx; cases hx))).trans h.kd, (k.block l (lt_of_block h.kl) (no _ _ h.kl (by intro cs hx; cases hx) (by intro cs hx; cases hx))).trans h.kl, (h.low.setCell (p := ⟨OB, 0, none⟩) h.lo.1 _).setCell (p := ⟨GB, 0, none⟩) h.lo.2.1 _, h.lo⟩, hG1.cell 0, hG1.free 0⟩
 ·rcases mem_own.1 hj with e | e | hg
  ·rw [e]; exact no _ _ h.disk.blk (by intro cs hx; cases hx) (by intro cs hx; cases hx)
  ·obtain ⟨es, clock, hm⟩ := h.disk.fast.kind; rw [e]; exact no _ _ hm (by intro cs hx; cases hx) (by intro cs hx; cases hx)
  ·obtain ⟨cs, e⟩ := h.disk.loose.kind hg; exact no _ _ e (by intro cs hx; cases hx) (by intro cs hx; cases hx)
 ·have hO1 : Blk (v.setCell ⟨OB, 0, none⟩ ov') OB #[ov'] 89 := by
   have := h.kO.set 0 ov'
   simpa using this
  exact hO1.other (a := ⟨GB, 0, none⟩) hOG _
 ·have := hG1.set 0 nilv
  simpa using this
 ·obtain ⟨cs, hx⟩ := hg'.kind hj
  simp at hm; rcases hm with rfl | rfl
  ·have := h.kO; unfold Blk at this; rw [this] at hx; cases hx
  ·exact (hne j hj).1 rfl
end
end Go.Proofs.YtklppnknllbfnaaGreat
namespace Go.Proofs.YtklppnknllbfnaaGreat
open Go.RowKit Go.Maps Go.Shelf
attribute [local go_sem] Oper.semAt_some
set_option maxRecDepth 8000
variable {ι : Type} [Bar ι]
theorem wpListIn_append_run {F : Fence} {n : Nat} {P : Program} (w : World) {ops : Array Oper} {rest : List Oper} {o : Oper} {a : Act} {Q : Exit → Act → World → Prop} (hgd : o.guard = none) (s x : Operand) (t tn : TypeId)
  (ho : o.op = .call { callee := .builtin .append, args := #[s, x], argTypes := #[t, tn] }) (vs vx : Value) (hs : a.eval s = vs) (hx : a.eval x = vx)
  (v' : Value) (w' : World) (hr : (Builtin.append_ #[t, tn] o.type #[vs, vx]).run P w = .ok v' w') (h : wpListIn F n P ops Q rest (a.put o.dst v') w') : wpListIn F n P ops Q (o :: rest) a w := by
 refine wpListIn_plain hgd fun K hK => ?_
 unfold Oper.wpIn
 refine ⟨?_, ?_⟩
 ·simp [Oper.about, ho, resolve, Target.leads, Sem.run_pure]
 ·rw [Oper.semAt_plain F _ _ (by rw [ho]; intro c hc'; cases hc')]
  simp [execOp, ho, resolve, invoke, builtin, hs, hx, hr, Result.andThen]
  exact hK _ _ h
theorem Gap.slice {w : World} {v gv : Value} {gs : List (List (Int × List Nat))} (h : Gap w v gs gv) : ∃ A n c, v = .slice A n c := by
 obtain ⟨B, _, ⟨vs, _, ho, _⟩, _⟩ := h
 rcases ho.2 with ⟨rfl, _⟩ | ⟨g, cap, cur, rfl, _⟩
 ·exact ⟨none, 0, 0, rfl⟩
 ·exact ⟨_, _, _, rfl⟩
theorem slot_28 {s : List Nat} {k : Nat} (h64 : 64 ≤ s.length) (h1 : 1 ≤ slotEp s k) : 28 ≤ (slotLoad s k).length := by
 have hs : slotOk s k = true := by
  cases h : slotOk s k with
  | true => rfl
  | false => rw [(slot_no h).1] at h1; omega
 rw [(slot_yes hs).2.1]
 have hr : readOk s = true := by
  unfold slotOk at hs
  simp only [Bool.and_eq_true] at hs
  have := hs.1.1
  unfold readErr at this
  cases h : readOk s with
  | true => rfl
  | false => rw [h] at this; simp at this
 unfold readLoad
 rw [if_pos hr, List.length_drop, List.length_take]
 omega
theorem RdS.end_ {w0 v v' : World} {b m : Nat} {vl : Value} {D : Dsk} {f c X EP EB OB GB d l : Nat} {e : Int} {ov gv : Value} {gs : List (List (Int × List Nat))} {g : List (Int × List Nat)} {o : Loop} (h : RdS w0 v b m vl D f c X EP EB OB GB d l e ov gv gs g o) {p : Obj} (k : Turned d p v v') :
  Gap v' ov gs gv ∧ Below w0.heap.size w0 v' := by
 refine ⟨h.out.turn k.turn ?_ ?_ ?_, h.low.trans (k.below h.lo.2.2.2)⟩
 ·intro j hj cs fz hx; simp at hj; subst hj; rw [h.kd] at hx; cases hx
 ·intro j hj cs fz hx; simp at hj; subst hj; rw [h.kd] at hx; cases hx
 ·intro j hj hm
  obtain ⟨cs, hx⟩ := h.out.kind hj
  simp at hm; subst hm; rw [h.kd] at hx; cases hx
section
variable {w0 v : World} {b m : Nat} {vl : Value} {D : Dsk} {f c X EP EB OB GB d l : Nat} {e : Int} {ov gv : Value} {gs : List (List (Int × List Nat))} {g : List (Int × List Nat)} {o : Loop}
/-- A change is appended to the group begun. -/
theorem RdS.push (h : RdS w0 v b m vl D f c X EP EB OB GB d l e ov gv gs g o) {x : Int} {u : Value} {ll : List Nat} (hu : Byt v u ll) (hn : g.length ≤ 1000000000) :
  ∃ gv' v6, (Builtin.append_ #[92, 92] 92 #[gv, .slice (some ⟨v.heap.size + 1, 0, none⟩) 1 1]).run Tryz.prog ((v.alloc (.cells #[.int .i64 x, u] 94)).alloc (.cells #[.int .i64 x, u] 94)) = .ok gv' v6 ∧
   v6.cell? ⟨GB, 0, none⟩ = some gv ∧ v6.frozen? ⟨GB, 0, none⟩ = false ∧ RdS w0 (v6.setCell ⟨GB, 0, none⟩ gv') b m vl D f c X EP EB OB GB d l e ov gv' gs (g ++ [(x, ll)]) o := by
 obtain ⟨v5, h5⟩ : ∃ v5, v5 = (v.alloc (.cells #[.int .i64 x, u] 94)).alloc (.cells #[.int .i64 x, u] 94) := ⟨_, rfl⟩
 have k5 : Below v.heap.size v v5 := by subst h5; exact grow_alloc (grow_alloc (Below.refl _ _) _) _
 have hB : Blk v5 (v.heap.size + 1) #[.int .i64 x, u] 94 := by subst h5; exact Blk.new' _ _ _ (by simp)
 have g5 := h.grew k5
 obtain ⟨gv', v6, hrun, h1, h2, hgr, hloc⟩ := g5.row.append hn hB (hu.grew k5)
 rw [← h5]
 have ht : Turn gv.ownBlock.toList v5 v6 := (Turn.refl _ v5).grown hgr (fun k e => .inl (by simp [e]))
 have hT : ∀ j ∈ gv.ownBlock.toList, ∃ cs, v5.heap[j]? = some (.cells cs 94 (0, 0)) := fun j hj => g5.row.kind (by simpa using hj)
 have nb : NoBytes v5 gv.ownBlock.toList := by
  intro j hj cs fz hx
  obtain ⟨cs', e'⟩ := hT j hj
  rw [hx] at e'; cases e'
 have hk : ∀ j, gv.ownBlock = some j → w0.heap.size ≤ j := h.nw
 have hne : ∀ g, ov.ownBlock = some g → gv.ownBlock ≠ some g := fun j hj e => by
  obtain ⟨cs, hx⟩ := g5.out.kind hj
  obtain ⟨cs', hy⟩ := g5.row.kind e
  rw [hx] at hy; cases hy
 have g6 : RdS w0 v6 b m vl D f c X EP EB OB GB d l e ov gv gs g o := g5.moved ht hT (fun j hj => hk j (by simpa using hj)) (g5.out.turnG ht nb hne (fun j hj => .inl hj)) h2
 have hsz : w0.heap.size ≤ v5.heap.size := Nat.le_trans h.low.size k5.size
 refine ⟨gv', v6, hrun, g6.kG.cell 0, g6.kG.free 0, g6.setG h1 (g5.out.turnG ht nb hne (fun j hj => ?_)) (fun j hj => ?_)⟩
 ·rcases hloc with e | e
  ·exact .inl (by rw [← e]; exact hj)
  ·rw [e] at hj; cases hj; exact .inr (Nat.le_refl _)
 rcases hloc with e | e
 ·exact hk j (by rw [← e]; exact hj)
 ·rw [e] at hj; cases hj; exact hsz
/-- The group is appended to the groups, and a new one begun. -/
theorem RdS.close (h : RdS w0 v b m vl D f c X EP EB OB GB d l e ov gv gs g o) (hn : gs.length ≤ 1000000000) :
  ∃ ov' v9, (Builtin.append_ #[89, 89] 89 #[ov, .slice (some ⟨v.heap.size, 0, none⟩) 1 1]).run Tryz.prog (v.alloc (.cells #[gv] 92)) = .ok ov' v9 ∧
   v9.cell? ⟨OB, 0, none⟩ = some ov ∧ v9.frozen? ⟨OB, 0, none⟩ = false ∧ (v9.setCell ⟨OB, 0, none⟩ ov').cell? ⟨GB, 0, none⟩ = some gv ∧ (v9.setCell ⟨OB, 0, none⟩ ov').frozen? ⟨GB, 0, none⟩ = false ∧
   RdS w0 ((v9.setCell ⟨OB, 0, none⟩ ov').setCell ⟨GB, 0, none⟩ (.slice none 0 0)) b m vl D f c X EP EB OB GB d l e ov' (.slice none 0 0) (gs ++ [g]) [] o := by
 obtain ⟨v8, h8⟩ : ∃ v8, v8 = v.alloc (.cells #[gv] 92) := ⟨_, rfl⟩
 have k8 : Below v.heap.size v v8 := by subst h8; exact grow_alloc (Below.refl _ _) _
 have hB : Blk v8 v.heap.size #[gv] 92 := by subst h8; exact Blk.new _ _ _
 have g8 := h.grew k8
 obtain ⟨B, q0, q1, q2⟩ := g8.out
 obtain ⟨ov', v9, hrun, h1, h2, h3, h4, hgr, hloc⟩ := q1.append hn hB g8.row
 rw [← h8]
 have ht : Turn ov.ownBlock.toList v8 v9 := (Turn.refl _ v8).grown hgr (fun k e => .inl (by simp [e]))
 have hT : ∀ j ∈ ov.ownBlock.toList, ∃ cs, v8.heap[j]? = some (.cells cs 92 (0, 0)) := fun j hj => q1.kind (by simpa using hj)
 have hGB : GB ∉ ov.ownBlock.toList := fun hm => (h.ne GB (by simpa using hm)).1 rfl
 have hnb : NoBytes v8 ov.ownBlock.toList := by
  intro j hj cs fz hx
  obtain ⟨cs', e'⟩ := hT j hj
  rw [hx] at e'; cases e'
 have hnr : ∀ j ∈ ov.ownBlock.toList, ∀ cs fz, v8.heap[j]? ≠ some (.cells cs 94 fz) := by
  intro j hj cs fz hx
  obtain ⟨cs', e'⟩ := hT j hj
  rw [hx] at e'; cases e'
 have hgp : Gap v9 ov gs gv := ⟨B, Nat.le_trans q0 ht.size, h2, q2⟩
 have g9 : RdS w0 v9 b m vl D f c X EP EB OB GB d l e ov gv gs g o := g8.movedO ht hT (fun j hj => (h.ne j (by simpa using hj)).2) hGB hgp h3
 have hsz : w0.heap.size ≤ v8.heap.size := Nat.le_trans h.low.size k8.size
 have hlt : GB < v8.heap.size := g8.kG.lt
 have g10 := g9.setOG ⟨_, ht.size, h1, by intro j hj; simp [nilv, Value.ownBlock] at hj⟩ (fun j hj => by
  rcases hloc with e | e
  ·exact h.ne j (by rw [← e]; exact hj)
  ·rw [e] at hj; cases hj; exact ⟨by omega, hsz⟩)
 exact ⟨ov', v9, hrun, g9.kO.cell 0, g9.kO.free 0, g10.2.1, g10.2.2, g10.1⟩
end
set_option maxHeartbeats 8000000 in
theorem LRead_any {w : World} {b m : Nat} {vl : Value} {D : Dsk} (h : DiskAt w b m vl D) (f c : Nat) (ep : Int) (hk : okAt D f c = true) (he : okEp ep = true) (hlo : D.loose.length ≤ 1000000000) (hdn : D.down = false) (R : List (List (Int × List Nat))) (hR : grp D f ep c 0 [] [] = R) :
  Calls Tryz.prog 55 #[.pointer (some ⟨b, 0, none⟩), .int .i64 f, .int .i64 c, .int .i64 ep] w fun e w' => ∃ ov, e = .returned (.tuple #[ov, .int .i64 0]) ∧ (∃ B, Grps w' ov R B) ∧ Below w.heap.size w w' := by
 refine (callsIn_wide (n := 5)).1 ?_
 have hP : ∀ v, v = w.alloc (.cells #[.int .i64 ep] 3) → DiskAt v b m vl D ∧ Blk v w.heap.size #[.int .i64 ep] 3 ∧ Below w.heap.size w v := by
  rintro v rfl
  exact ⟨h.alloc _, Blk.new _ _ _, grow_alloc (Below.refl _ _) _⟩
 have HP := Lib.hid hP
 have HAT := Lib.hid (fun v (h : DiskAt v b m vl D) => at_ok h f c hk)
 have HME := Lib.hid (fun w => lmay_any ep w)
 rw [he] at HME
 have HEP : Hid (1 ≤ ep) := Lib.hid (of_decide_eq_true he).1
 unfold okAt at hk
 have hk2 := of_decide_eq_true hk
 have hs2 := h.ok.s2
 have HUP : Hid (∀ k : Nat, k < c → D.ready ((f : Int) + k) = 0) := Lib.hid (fun k hkc => by unfold Dsk.ready; rw [hdn, if_neg (by simp), if_neg (by omega)])
 have HLO := Lib.hid hlo
 have HGR := Lib.hid hR
 have hcb : (c : Int) ≤ 1048576 := by omega
 have hfb : (f : Int) ≤ 1048576 := by omega
 clear h hk hk2 hs2 hlo hdn hP he hR
 refine callsIn_of_wp_marks Tryz.func55 rfl trivial ?_
 simp only [Tryz.ntmps55, List.size_toArray, List.length_cons, List.length_nil, Nat.reduceAdd, Nat.reduceSub, Array.replicate_succ, Array.replicate_zero, List.push_toArray, List.append_toArray, List.nil_append, List.cons_append]
 gi_wp2_with fail
 have hp := HP.out _ rfl
 obtain ⟨EP, hEP⟩ : ∃ EP, EP = w.heap.size := ⟨_, rfl⟩
 rw [← hEP] at hp
 refine ⟨trivial, callsIn_wide.2 ((HAT.out _ hp.1).mono ?_)⟩
 rintro e w1 ⟨rfl, hb1⟩
 have H1 : Hid (DiskAt w1 b m vl D ∧ Blk w1 EP #[.int .i64 ep] 3 ∧ Below w.heap.size w w1) := Lib.hid ⟨hp.1.grew hb1, hp.2.1.grew hb1, grow (by rw [hEP] at hp; exact hp.2.2) hb1⟩
 rw [← hEP]
 have H2 : Hid (∀ v, v = ((w1.alloc (.cells #[.pointer (some ⟨b, 0, none⟩), .int .i64 f, .int .i64 c] 116)).alloc (.cells #[.int .i64 0] 25)) → DiskAt v b m vl D ∧ Blk v EP #[.int .i64 ep] 3 ∧ Below w.heap.size w v) := Lib.hid (by
  rintro v rfl
  have g0 : Below w1.heap.size w1 ((w1.alloc (.cells #[.pointer (some ⟨b, 0, none⟩), .int .i64 f, .int .i64 c] 116)).alloc (.cells #[.int .i64 0] 25)) := grow_alloc (grow_alloc (Below.refl _ _) _) _
  exact ⟨H1.out.1.grew g0, H1.out.2.1.grew g0, grow H1.out.2.2 g0⟩)
 have hcp := (H2.out _ rfl).2.1.cell 0
 clear hp hb1 HP HAT hEP
 gi_wp2_with fail
 refine ⟨trivial, callsIn_wide.2 ((HME.out _).mono ?_)⟩
 rintro e w2 ⟨rfl, hw2⟩
 have H3 : Hid (∀ v, v = ((w2.alloc (.cells #[.slice none 0 0] 89)).alloc (.cells #[.slice none 0 0] 92)) → DiskAt v b m vl D ∧ Blk v EP #[.int .i64 ep] 3 ∧ Blk v (w1.heap.size + 1) #[.int .i64 0] 25 ∧ Blk v (w1.heap.size + 1 + 1) #[.slice none 0 0] 89 ∧ Blk v (w1.heap.size + 1 + 1 + 1) #[.slice none 0 0] 92 ∧ Below w.heap.size w v ∧ w.heap.size ≤ w1.heap.size) := Lib.hid (by
  rintro v rfl
  have h2 := H2.out w2 hw2
  have hE : Blk w2 (w1.heap.size + 1) #[.int .i64 0] 25 := by rw [hw2]; exact Blk.new' _ _ _ (by simp)
  have hz : w2.heap.size = w1.heap.size + 1 + 1 := by rw [hw2]; simp
  have g0 : Below w2.heap.size w2 ((w2.alloc (.cells #[.slice none 0 0] 89)).alloc (.cells #[.slice none 0 0] 92)) := grow_alloc (grow_alloc (Below.refl _ _) _) _
  exact ⟨h2.1.grew g0, h2.2.1.grew g0, hE.grew g0, (Blk.new' _ _ _ hz.symm).alloc _, Blk.new' _ _ _ (by simp [hz]), grow h2.2.2 g0, H1.out.2.2.size⟩)
 subst hw2
 clear hcp H2 HME H1
 gi_wp2_with fail
 have h3 := H3.out _ rfl
 refine ⟨trivial, callsIn_wide.2 ((slots_any _ _ _ _ _).mono ?_)⟩
 rintro e w4 ⟨X, rfl, hX, hX1, hXl, hb4⟩
 clear hX1 hXl
 have H4 := Lib.hid (And.intro (h3.1.grew hb4) (And.intro (h3.2.1.grew hb4) (And.intro (h3.2.2.1.grew hb4) (And.intro (h3.2.2.2.1.grew hb4) (And.intro (h3.2.2.2.2.1.grew hb4) (And.intro (grow h3.2.2.2.2.2.1 hb4) (And.intro h3.2.2.2.2.2.2 hX)))))))
 clear h3 hX hb4 H3
 have hz1 : w.heap.size ≤ w1.heap.size + 1 + 1 ∧ w.heap.size ≤ w1.heap.size + 1 + 1 + 1 := by have := H4.out.2.2.2.2.2.2.1; omega
 have HZ1 := Lib.hid hz1
 clear hz1
 generalize w1.heap.size + 1 + 1 + 1 = GB at *
 generalize w1.heap.size + 1 + 1 = OB at *
 generalize w1.heap.size + 1 = EB at *
 gi_wp2_with fail
 refine wpIn_range rfl (by decide) (gf := 97) (lb := #[.pointer (some ⟨X, 0, none⟩), .pointer (some ⟨X + 1, 0, none⟩)]) rfl trivial (enters_of Tryz.func97 (by kernel_rfl) rfl) ?_
 intro fn hfn W1 hb1 hz1 hD hL
 generalize hrec : recOf fn _ _ _ _ _ = rec at hL ⊢
 have HR := Lib.hid hrec
 clear hrec
 have R1 : RdS w W1 b m vl D f c X EP EB OB GB w4.heap.size (w4.heap.size + 1) ep nilv nilv [] [] (rec .ready none) :=
  ⟨H4.out.1.grew hb1, H4.out.2.2.2.2.2.2.2.grew hb1, H4.out.2.1.grew hb1, H4.out.2.2.1.grew hb1, H4.out.2.2.2.1.grew hb1, H4.out.2.2.2.2.1.grew hb1, Gap.nil _, Chg.nil _, by intro j hj; simp [nilv, Value.ownBlock] at hj, by intro j hj; simp [nilv, Value.ownBlock] at hj, hD, hL, grow H4.out.2.2.2.2.2.1 hb1,
   ⟨HZ1.out.1, HZ1.out.2, Nat.le_trans H4.out.2.2.2.2.2.1.size (by omega), H4.out.2.2.2.2.2.1.size⟩⟩
 have RR := Lib.hid R1
 clear H4 hD hL hb1 R1 hz1 HZ1
 generalize w4.heap.size = d at *
 refine (iter_any (fun k W => ∃ ov gv gs g, RdS w W b m vl D f c X EP EB OB GB d (d + 1) ep ov gv gs g (rec .ready none) ∧ grp D f ep (c - k) k gs g = R ∧ gs.length ≤ k ∧ g.length ≤ k ∧ k ≤ c)
  (fun W => ∃ ov gv g, RdS w W b m vl D f c X EP EB OB GB d (d + 1) ep ov gv R g (rec .done (some (.exit 0)))) f c hcb hfb (fun k W h => by obtain ⟨ov, gv, gs, g, h, _⟩ := h; exact ⟨h.kX, h.disk⟩)
  (fun k W W' h hb => by obtain ⟨ov, gv, gs, g, h, r⟩ := h; exact ⟨ov, gv, gs, g, h.grew hb, r⟩) HLO.out HUP.out ?_ ⟨nilv, nilv, [], [], RR.out, HGR.out, by simp, by simp, Nat.zero_le _⟩).mono ?_
 ·intro k W v R9 hkc hJ ho hR hRx
  obtain ⟨ov, gv, gs, g, hS, hg, hl1, hl2, hl3⟩ := hJ
  obtain ⟨B, ho⟩ := ho
  have hck : c - k = (c - k - 1) + 1 := by omega
  rw [hck, grp_succ] at hg
  have hst := Dsk.tells_ok hS.disk.ok ((f : Int) + k)
  have hz1 := hS.disk.ok.z1
  have hsl : 1 ≤ slotEp (D.tells ((f : Int) + k)) k → 28 ≤ (slotLoad (D.tells ((f : Int) + k)) k).length := slot_28 (by omega)
  have hnx : slL D f (c - k - 1) (k + 1) = slL D f (c - (k + 1)) (k + 1) := by congr 1
  rw [hnx] at hg
  have hgx : ∀ gs g, grpL ep (slL D f (c - (k + 1)) (k + 1)) gs g = R → grp D f ep (c - (k + 1)) (k + 1) gs g = R := fun _ _ h => h
  have HGX := Lib.hid hgx
  clear hgx hst hnx hck hz1
  have dL := hS.kl
  rw [← HR.out] at dL
  refine yield_of trivial dL rfl ?_
  have HS := Lib.hid hS
  have HO := Lib.hid ho
  have HRR := Lib.hid hR
  have HRX := Lib.hid hRx
  have HSL := Lib.hid hsl
  generalize slL D f (c - (k + 1)) (k + 1) = rest at *
  generalize slotLoad (D.tells ((f : Int) + k)) k = ld at *
  generalize slotEmpty (D.tells ((f : Int) + k)) k = em at *
  generalize slotEp (D.tells ((f : Int) + k)) k = se at *
  have HG := Lib.hid hg
  clear hS ho hR hRx dL RR HUP hsl hg
  obtain ⟨n9, hn9⟩ : ∃ n9, n9 = ld.length := ⟨_, rfl⟩
  by_cases hse : se = ep
  ·rw [hse] at HSL HG ⊢
   clear hse
   have hl28 : (28 : Int) ≤ n9 := by have := HSL.out HEP.out; omega
   have hby := Byt.of_own HO.out (by intro e; rw [e] at hn9; simp at hn9; omega)
   obtain ⟨p, c9, rfl, _, _⟩ := hby.rd
   rw [← hn9] at hby ⊢
   have H2 : Hid (∀ W2, W2 = W.alloc (.cells #[.int .i64 ep, .slice (some p) n9 c9, .bool em] 124) → RdS w W2 b m vl D f c X EP EB OB GB d (d + 1) ep ov gv gs g (rec .ready none) ∧ Blk W2 W.heap.size #[.int .i64 ep, .slice (some p) n9 c9, .bool em] 124 ∧ Byt W2 (.slice (some p) n9 c9) ld) := Lib.hid (by
    rintro W2 rfl
    have gg := grow_alloc (Below.refl _ W) (.cells #[.int .i64 ep, .slice (some p) n9 c9, .bool em] 124)
    exact ⟨HS.out.grew gg, Blk.new _ _ _, hby.grew gg⟩)
   clear HSL hn9 HO hby
   gi_wp2_with fail
   obtain ⟨W2, hW2⟩ : ∃ W2, W2 = W.alloc (.cells #[.int .i64 ep, .slice (some p) n9 c9, .bool em] 124) := ⟨_, rfl⟩
   rw [← hW2]
   have h2 := H2.out W2 hW2
   obtain ⟨Y, hY⟩ : ∃ Y, Y = W.heap.size := ⟨_, rfl⟩
   rw [← hY] at h2 ⊢
   have dL := h2.1.kl
   refine ⟨by rw [HR.out]; exact dL, ?_⟩
   intro W3 hT
   rw [HR.out] at hT
   have h3 := h2.1.turned hT
   have b3 := h2.2.1.turned dL hT
   have y3 : Byt W3 (.slice (some p) n9 c9) ld := h2.2.2.turn hT.turn (nobytes_loop dL)
   have c0 := b3.cell 0
   have c1 := b3.cell 1
   have c2 := b3.cell 2
   have cP := h3.kP.cell 0
   have HCH := Lib.hid (change_any ep em p n9 c9 ld W3 y3 hl28)
   have H3 := Lib.hid h3
   clear H2 HS hW2 hY h2 dL hT h3 b3 y3 hl28
   gi_wp2_with fail
   refine ⟨trivial, CallsIn.inRound _ (callsIn_wide.2 (HCH.out.mono ?_))⟩
   rintro e W4 ⟨hb4, ⟨hch, rfl⟩ | ⟨x, ll, last, u, hch, rfl, hu⟩⟩
   ·have H4 := Lib.hid (H3.out.grew (grow_alloc hb4 (.cells #[.int .i64 0, .slice none 0 0] 94)))
    have HRXX : Hid (∀ W', RdS w W' b m vl D f c X EP EB OB GB d (d + 1) ep ov gv gs g (rec .done (some (.exit 0))) → R9 (.returned (.bool false)) W') := Lib.hid (fun W' h => HRX.out W' ⟨ov, gv, g, by
     have := HG.out
     rw [hch, grpL_none] at this
     rw [← this]; exact h⟩)
    clear HG HGX HRX HRR HCH H3 hb4 hch c0 c1 c2 cP
    gi_wp2
    refine ⟨by rw [HR.out]; exact H4.out.kl, ?_⟩
    intro W5 hT5
    rw [HR.out] at hT5
    exact HRXX.out W5 (H4.out.turned hT5)
   ·have h4 := H3.out.grew hb4
    have hg4 := HG.out
    rw [hch, grpL_some] at hg4
    obtain ⟨gv', v6, hrun, q0, q1, h7⟩ := h4.push (x := x) hu (by omega)
    obtain ⟨A7, c7', e7⟩ := h7.row.slice
    obtain ⟨n7, hn7⟩ : ∃ n7, n7 = (g ++ [(x, ll)]).length := ⟨_, rfl⟩
    rw [← hn7] at e7
    subst e7
    obtain ⟨p7, c7, rfl, _⟩ := hu.rd
    have cG := (h4.grew (grow_alloc (Below.refl _ W4) (.cells #[.int .i64 x, .slice (some p7) ll.length c7] 94))).kG.cell 0
    have HRUN := Lib.hid hrun
    cases last with
    | false =>
     have HS7 : Hid (∀ W', RdS w W' b m vl D f c X EP EB OB GB d (d + 1) ep ov (.slice A7 n7 c7') gs (g ++ [(x, ll)]) (rec .ready none) → R9 (.returned (.bool true)) W') := Lib.hid (fun W' h => HRR.out W' ⟨_, _, _, _, h, HGX.out _ _ hg4, by omega, by rw [List.length_append]; exact Nat.add_le_add_right hl2 1, hkc⟩)
     have H7 := Lib.hid h7
     clear HG HCH H3 hb4 hch c0 c1 c2 cP hu hrun h7 hg4 h4 HRX HRR HGX hn7
     gi_wp2_with (gi_at_builtin; refine wpListIn_append_run _ rfl (.tmp 49) (.tmp 51) 92 92 rfl _ _ rfl rfl _ v6 HRUN.out ?_)
     refine ⟨by rw [HR.out]; exact H7.out.kl, ?_⟩
     intro W5 hT5
     rw [HR.out] at hT5
     exact HS7.out W5 (H7.out.turned hT5)
    | true =>
     obtain ⟨v7, hv7⟩ : ∃ v7, v6.setCell ⟨GB, 0, none⟩ (.slice A7 n7 c7') = v7 := ⟨_, rfl⟩
     rw [hv7] at h7
     obtain ⟨ov', v9, hrun9, r0, r1, r2, r3, h9⟩ := h7.close (by omega)
     obtain ⟨A9, n9', c9', e9⟩ := h9.out.slice
     subst e9
     have HRUN9 := Lib.hid hrun9
     have cO : v7.cell? ⟨OB, 0, none⟩ = some ov := h7.kO.cell 0
     have cG7 : v7.cell? ⟨GB, 0, none⟩ = some (.slice A7 n7 c7') := h7.kG.cell 0
     have HS9 : Hid (∀ W', RdS w W' b m vl D f c X EP EB OB GB d (d + 1) ep (.slice A9 n9' c9') (.slice none 0 0) (gs ++ [g ++ [(x, ll)]]) [] (rec .ready none) → R9 (.returned (.bool true)) W') := Lib.hid (fun W' h => HRR.out W' ⟨_, _, _, _, h, HGX.out _ _ hg4, by rw [List.length_append]; exact Nat.add_le_add_right hl1 1, Nat.zero_le _, hkc⟩)
     have H9 := Lib.hid h9
     clear HG HCH H3 hb4 hch c0 c1 c2 cP hu hrun h7 hg4 h4 HRX HRR HGX hn7 hrun9 h9
     gi_wp2_with (gi_at_builtin; first
      | refine wpListIn_append_run _ rfl (.tmp 49) (.tmp 51) 92 92 rfl _ _ rfl rfl _ v6 HRUN.out ?_
      | refine wpListIn_append_run _ rfl (.tmp 54) (.tmp 56) 89 89 rfl _ _ rfl rfl _ v9 HRUN9.out ?_)
     refine ⟨by rw [HR.out]; exact H9.out.kl, ?_⟩
     intro W5 hT5
     rw [HR.out] at hT5
     exact HS9.out W5 (H9.out.turned hT5)
  ·obtain ⟨A, c9, rfl, _⟩ := HO.out.form
   rw [← hn9]
   have H2 : Hid (∀ W2, W2 = W.alloc (.cells #[.int .i64 se, .slice A n9 c9, .bool em] 124) → RdS w W2 b m vl D f c X EP EB OB GB d (d + 1) ep ov gv gs g (rec .ready none) ∧ Blk W2 W.heap.size #[.int .i64 se, .slice A n9 c9, .bool em] 124) := Lib.hid (by
    rintro W2 rfl
    exact ⟨HS.out.grew (grow_alloc (Below.refl _ _) _), Blk.new _ _ _⟩)
   have HRXX : Hid (∀ W', RdS w W' b m vl D f c X EP EB OB GB d (d + 1) ep ov gv gs g (rec .done (some (.exit 0))) → R9 (.returned (.bool false)) W') := Lib.hid (fun W' h => HRX.out W' ⟨ov, gv, g, by
    have := HG.out
    rw [grpL_other hse] at this
    rw [← this]; exact h⟩)
   clear HG HGX HRX HRR HSL hn9 HO
   gi_wp2_with fail
   obtain ⟨W2, hW2⟩ : ∃ W2, W2 = W.alloc (.cells #[.int .i64 se, .slice A n9 c9, .bool em] 124) := ⟨_, rfl⟩
   rw [← hW2]
   have h2 := H2.out W2 hW2
   obtain ⟨Y, hY⟩ : ∃ Y, Y = W.heap.size := ⟨_, rfl⟩
   rw [← hY] at h2 ⊢
   have dL := h2.1.kl
   refine ⟨by rw [HR.out]; exact dL, ?_⟩
   intro W3 hT
   rw [HR.out] at hT
   have h3 := h2.1.turned hT
   have b3 := h2.2.turned dL hT
   have c0 := b3.cell 0
   have cP := h3.kP.cell 0
   have H3 := Lib.hid h3
   clear H2 HS hW2 hY h2 dL hT h3 b3
   gi_wp2
   refine ⟨by rw [HR.out]; exact H3.out.kl, ?_⟩
   intro W5 hT5
   rw [HR.out] at hT5
   exact HRXX.out W5 (H3.out.turned hT5)
 ·rintro e W2 ⟨⟨v, rfl⟩, ⟨ov, gv, gs, g, hj, hg, _⟩ | ⟨ov, gv, g, hj⟩⟩
  ·have hgs : gs = R := by rw [← hg, Nat.sub_self]; rfl
   subst hgs
   refine ⟨⟨_, rfl⟩, Or.inl ⟨hj.kl, ?_⟩⟩
   intro W3 hT
   have h3 := hj.turned hT
   have c0 := h3.kE.cell 0
   have c1 := h3.kO.cell 0
   have H3 := Lib.hid h3
   clear h3 hj hT RR HUP hg HGR
   gi_wp2
   have hT := Turned.put (.deferred none) H3.out.kd
   refine ⟨by simp, .inl ⟨_, _, rfl, run_takeDeferred H3.out.kd, ?_⟩⟩
   exact ⟨_, results_tmp2 rfl _ _ _, _, rfl, by obtain ⟨⟨B, _, hB, _⟩, hb⟩ := H3.out.end_ hT; exact ⟨⟨B, hB⟩, hb⟩⟩
  ·refine ⟨⟨_, rfl⟩, Or.inr ⟨.exit 0, hj.kl, ?_⟩⟩
   intro W3 hT
   have h3 := hj.turned hT
   have c0 := h3.kE.cell 0
   have c1 := h3.kO.cell 0
   have H3 := Lib.hid h3
   clear h3 hj hT RR HUP HGR
   gi_wp2
   have hT := Turned.put (.deferred none) H3.out.kd
   refine ⟨by simp, .inl ⟨_, _, rfl, run_takeDeferred H3.out.kd, ?_⟩⟩
   exact ⟨_, results_tmp2 rfl _ _ _, _, rfl, by obtain ⟨⟨B, _, hB, _⟩, hb⟩ := H3.out.end_ hT; exact ⟨⟨B, hB⟩, hb⟩⟩
end Go.Proofs.YtklppnknllbfnaaGreat
