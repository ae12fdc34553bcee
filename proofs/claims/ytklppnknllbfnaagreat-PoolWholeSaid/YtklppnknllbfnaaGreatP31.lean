/- Walks: Open. Printed by mk_p31.py. -/
import Derived.Test.YtklppnknllbfnaaGreatP30
import Derived.Test.YtklppnknllbfnaaGreatLC
namespace Go.Proofs.YtklppnknllbfnaaGreat
open Go.RowKit Go.Maps
set_option maxRecDepth 8000
variable {ι : Type} [Bar ι]
def putG (f : Pgs) (g : List (Int × List Nat)) : Pgs := g.foldl (fun f c => f.put c.1.toNat c.2) f
/-- What a log's groups make of the pages. -/
def putR (f : Pgs) (R : List (List (Int × List Nat))) : Pgs := R.foldl putG f
theorem putG_snoc (f : Pgs) (g : List (Int × List Nat)) {k : Nat} (h : k < g.length) : putG f (g.take (k + 1)) = (putG f (g.take k)).put g[k].1.toNat g[k].2 := by
 unfold putG
 rw [List.take_add_one, List.getElem?_eq_getElem h, Option.toList_some, List.foldl_append]; rfl
theorem putR_snoc (f : Pgs) (R : List (List (Int × List Nat))) {k : Nat} (h : k < R.length) : putR f (R.take (k + 1)) = putG (putR f (R.take k)) R[k] := by
 unfold putR
 rw [List.take_add_one, List.getElem?_eq_getElem h, Option.toList_some, List.foldl_append]; rfl
theorem putG_ok {P r : Nat} : ∀ (g : List (Int × List Nat)) (f : Pgs), f.Ok P r → (∀ c ∈ g, c.1.toNat < P ∧ c.2.length = r) → (putG f g).Ok P r
 | [], _, h, _ => h
 | c :: g, f, h, hg => putG_ok g (f.put c.1.toNat c.2) (h.put (hg c (by simp)).1 (hg c (by simp)).2) (fun d hd => hg d (by simp [hd]))
theorem putR_ok {P r : Nat} : ∀ (R : List (List (Int × List Nat))) (f : Pgs), f.Ok P r → (∀ g ∈ R, ∀ c ∈ g, c.1.toNat < P ∧ c.2.length = r) → (putR f R).Ok P r
 | [], _, h, _ => h
 | g :: R, f, h, hR => putR_ok R (putG f g) (putG_ok g f h (hR g (by simp))) (fun d hd => hR d (by simp [hd]))
theorem goWipe_facts (f : Nat) : ∀ (ts : List Nat) (D : Dsk), (goWipe f D ts).2.sectors = D.sectors ∧ (goWipe f D ts).2.size = D.size ∧ (goWipe f D ts).2.loose.length ≤ D.loose.length + ts.length
 | [], D => ⟨Dsk.flush_sectors.1, Dsk.flush_sectors.2, by have := Dsk.flush_loose (d := D); simp [goWipe]; omega⟩
 | i :: r, D => by
  have hs := Dsk.put_sectors (d := D) ((f : Int) + i) (List.replicate D.size 0)
  have hl := Dsk.put_loose (d := D) ((f : Int) + i) (List.replicate D.size 0)
  have ih := goWipe_facts f r (D.put ((f : Int) + i) (List.replicate D.size 0))
  unfold goWipe
  simp only [List.length_cons]
  split
  ·exact ⟨hs.1, hs.2, by dsimp only; omega⟩
  ·exact ⟨ih.1.trans hs.1, ih.2.1.trans hs.2, by omega⟩
theorem beg_seen (S : Pl) (f : Pgs) (D : Dsk) (ep : Nat) : (beg { S with seen := f } D ep).1 = (beg S D ep).1 ∧ (beg { S with seen := f } D ep).2.2 = (beg S D ep).2.2 ∧ (beg { S with seen := f } D ep).2.1.fresh = (beg S D ep).2.1.fresh := by
 unfold beg
 by_cases h1 : D.putErr ((ep % 2 : Nat) : Int) (headL D ep) = 0
 ·by_cases h2 : (D.put ((ep % 2 : Nat) : Int) (headL D ep)).flushErr = 0
  ·simp only [h1, h2, ne_eq, not_true_eq_false, if_false]
   exact ⟨trivial, trivial, rfl⟩
  ·simp only [h1, h2, ne_eq, not_true_eq_false, not_false_eq_true, if_false, if_true]
   exact ⟨trivial, trivial, rfl⟩
 ·simp only [h1, ne_eq, not_false_eq_true, if_true]
  exact ⟨trivial, trivial, rfl⟩
/-- What was seen says nothing in a checkpoint. -/
theorem point_seen (S : Pl) (f : Pgs) (D : Dsk) : (point { S with seen := f } D).1 = (point S D).1 ∧ (point { S with seen := f } D).2.2 = (point S D).2.2 ∧ ((point S D).1 = 0 → (point { S with seen := f } D).2.1 = (point S D).2.1) := by
 unfold point
 dsimp only
 generalize layAll S.first S.last D (S.last.keys D.sectors) = Y
 unfold pointed
 dsimp only
 have hb := beg_seen S f Y.2.flush (S.epoch + 1)
 by_cases h1 : Y.1 = 0
 ·by_cases h2 : Y.2.flushErr = 0
  ·by_cases h3 : (beg S Y.2.flush (S.epoch + 1)).1 = 0
   ·have h3' : (beg { S with seen := f } Y.2.flush (S.epoch + 1)).1 = 0 := hb.1.trans h3
    simp only [h1, h2, h3, h3', ne_eq, not_true_eq_false, if_false]
    exact ⟨trivial, hb.2.1, fun _ => hb.2.2⟩
   ·have h3' : (beg { S with seen := f } Y.2.flush (S.epoch + 1)).1 ≠ 0 := by rw [hb.1]; exact h3
    simp only [h1, h2, h3, h3', ne_eq, not_true_eq_false, not_false_eq_true, if_false, if_true]
    exact ⟨hb.1, hb.2.1, fun h => h.elim⟩
  ·simp only [h1, h2, ne_eq, not_true_eq_false, not_false_eq_true, if_false, if_true]
   exact ⟨trivial, trivial, fun h => h.elim⟩
 ·simp only [h1, ne_eq, not_false_eq_true, if_true]
  exact ⟨trivial, trivial, fun h => h.elim⟩
/-- The pool that Open finds on a disk: epoch E, groups R, state s. -/
def Pl.found (D : Dsk) (E : Nat) (R : List (List (Int × List Nat))) (s : Sta) : Pl := { Pl.laid D 0 with epoch := E, last := putR Pgs.none_ R, now := s, was := s }
/-- Open: its answer, the pool and the disk behind it. -/
def opened (D : Dsk) (E : Nat) (R : List (List (Int × List Nat))) (s : Sta) : Int × Pl × Dsk :=
 if (goWipe 2 D (tornL D 2 ((D.sectors - 2) / 4))).1 ≠ 0 then ((goWipe 2 D (tornL D 2 ((D.sectors - 2) / 4))).1, Pl.found D E R s, (goWipe 2 D (tornL D 2 ((D.sectors - 2) / 4))).2)
 else point (Pl.found D E R s) (goWipe 2 D (tornL D 2 ((D.sectors - 2) / 4))).2
section
variable {w w' : World} {M M2 : Mem} {S : Pl} {D D' : Dsk} {b m : Nat} {vl : Value}
theorem Sta.Ok.same {s : Sta} {P P' : Nat} (h : s.Ok P) (e : P' = P) : s.Ok P' := by rw [e]; exact h
theorem Pl.Ok.same (h : S.Ok D) (h1 : D'.sectors = D.sectors) (h2 : D'.size = D.size) : S.Ok D' := by
 have e : S.pages D' = S.pages D := by unfold Pl.pages; rw [h1]
 have e2 := rm_same h2
 exact ⟨by rw [h2]; exact h.z, by rw [h1]; exact h.s, by rw [h1]; exact h.s2, by rw [h1]; exact h.slots, h.first, by rw [e]; exact h.now, by rw [e]; exact h.was, by rw [e, e2]; exact h.last, by rw [e, e2]; exact h.pend, by rw [e, e2]; exact h.seen⟩
theorem LRead_tup (h : DiskAt w b m vl D) (f c : Nat) (ep : Int) (hk : okAt D f c = true) (he : okEp ep = true) (hlo : D.loose.length ≤ 1000000000) (hdn : D.down = false) (R : List (List (Int × List Nat))) (hR : grp D f ep c 0 [] [] = R) :
  Calls Tryz.prog 55 #[.pointer (some ⟨b, 0, none⟩), .int .i64 f, .int .i64 c, .int .i64 ep] w fun e w' => ∃ u, e = .returned u ∧ ∃ ov, u = .tuple #[ov, .int .i64 0] ∧ (∃ B, Grps w' ov R B) ∧ Below w.heap.size w w' := by
 refine (LRead_any h f c ep hk he hlo hdn R hR).mono ?_
 rintro e w' ⟨ov, rfl, h1⟩
 exact ⟨_, rfl, ov, rfl, h1⟩
theorem Grps.at_ {v : Value} {gs : List (List (Int × List Nat))} {B : Nat} (h : Grps w v gs B) (k : Nat) (hk : k < gs.length) : ∃ g c A n, v = .slice (some ⟨g, 0, none⟩) gs.length c ∧ w.cell? ⟨g, k, none⟩ = some (.slice A gs[k].length n) ∧ Chg w (.slice A gs[k].length n) gs[k] := by
 obtain ⟨vs, h1, ho, h2⟩ := h
 obtain ⟨u, e, _, hc, _⟩ := h2 k hk
 obtain ⟨A, n, rfl⟩ := hc.slice
 rcases ho.2 with ⟨rfl, h0⟩ | ⟨g, cap, cur, rfl, hb, hh, hnc, _⟩
 ·omega
 ·have q0 := World.ownsRow.cells ho (g := g) rfl _ _ e
  rw [addr_add] at q0
  exact ⟨g, cap, A, n, rfl, q0, hc⟩
theorem Grps.slice {v : Value} {gs : List (List (Int × List Nat))} {B : Nat} (h : Grps w v gs B) : ∃ A c, v = .slice A gs.length c := by
 obtain ⟨vs, h1, ho, h2⟩ := h
 rcases ho.2 with ⟨rfl, h0⟩ | ⟨g, cap, cur, rfl, _⟩
 ·exact ⟨none, 0, by rw [h0]⟩
 ·exact ⟨_, _, rfl⟩
structure OpSt (w wr : World) (b m : Nat) (vl : Value) (M : Mem) (S : Pl) (D : Dsk) (f : Pgs) (gv : Value) (R : List (List (Int × List Nat))) (B : Nat) : Prop where
 pool : PoolAt wr M { S with last := f } D
 went : FWent w wr b m vl M
 rows : Grps wr gv R B
theorem OpSt.grew {wr wr' : World} {f : Pgs} {gv : Value} {R : List (List (Int × List Nat))} {B : Nat} (h : OpSt w wr b m vl M S D f gv R B) (k : Below wr.heap.size wr wr') : OpSt w wr' b m vl M S D f gv R B :=
 ⟨h.pool.grew k, h.went.tail k, h.rows.grew k⟩
theorem OpSt.put {wr wr' : World} {f f' : Pgs} {gv : Value} {R : List (List (Int × List Nat))} {B : Nat} (h : OpSt w wr b m vl M S D f gv R B) (hm : PgMap wr' M.ml D.sectors f') (ht : Turn [M.ml] wr wr') : OpSt w wr' b m vl M S D f' gv R B := by
 have h1 := h.pool.set_last hm ht
 obtain ⟨es, cl, hk⟩ := h.pool.last.kind
 refine ⟨h1.1, h.went.trans h1.2 rfl rfl, h.rows.turn ht (map_nobytes h.pool.last) (fun k hk' => .inl (fun cs fz e => ?_)) (fun g hg hm => ?_)⟩
 ·simp at hk'; subst hk'; rw [hk] at e; cases e
 ·simp at hm; subst hm
  obtain ⟨cs, e⟩ := h.rows.kind hg
  rw [hk] at e; cases e
theorem FWent.disk {wr : World} (h : FWent w wr b m vl M) (hp : PoolAt wr M S D) : ∃ vl', DiskAt wr b m vl' D ∧ Turn (own b m vl) w wr ∧ ∀ g, vl'.ownBlock = some g → vl.ownBlock = some g ∨ w.heap.size ≤ g := by
 have hd := hp.disk
 refine ⟨M.vl, by rw [← h.2.2.1, ← h.2.2.2]; exact hd, h.1, fun g hg => ?_⟩
 have hk := hd.kinds.2 g hg
 rcases h.2.1 g (mem_mem.2 (by simp [own, hg])) with h1 | h1
 ·rcases mem_own.1 h1 with e | e | e
  ·exact absurd (e.trans h.2.2.1.symm) hk.1
  ·exact absurd (e.trans h.2.2.2.symm) hk.2
  ·exact .inl e
 ·exact .inr h1
set_option maxHeartbeats 16000000 in
theorem Open_any (h : DiskAt w b m vl D) (hs : 24 ≤ D.sectors) (hz : 512 ≤ D.size) (hd : D.down = false) (hL : D.loose.length ≤ 90000) (E : Nat) (hE : headsZ D 2 = (E : Int)) (hE1 : 1 ≤ E) (hE2 : E ≤ 1000000000000) (R : List (List (Int × List Nat))) (hR : grp D 2 E ((D.sectors - 2) / 4) 0 [] [] = R)
  (hR1 : ∀ g ∈ R, ∀ c ∈ g, 0 ≤ c.1 ∧ c.1.toNat < (Pl.laid D 0).pages D ∧ c.2.length = D.rm) (hR2 : R.length ≤ 1048576) (hR3 : ∀ g ∈ R, g.length ≤ 1048576)
  (s : Sta) (hs' : s.Ok ((Pl.laid D 0).pages D)) (h0 : (Pl.found D E R s).val D 0 = widen D.rm s.metaL) (hch : ∀ i (hi : i < s.free.length), (Pl.found D E R s).val D s.free[i] = widen D.rm (lebZ (prev s.free i : Nat) 4))
  (X : Int × Pl × Dsk) (hX : X = opened D E R s) :
  Calls Tryz.prog 18 #[.pointer (some ⟨b, 0, none⟩)] w fun e w' => (X.1 = 0 ∧ ∃ M, e = .returned (.tuple #[.pointer (some ⟨M.p, 0, none⟩), .int .i64 0]) ∧ PoolAt w' M X.2.1 X.2.2 ∧ FWent w w' b m vl M) ∨
   (X.1 ≠ 0 ∧ e = .returned (.tuple #[.pointer none, .int .i64 X.1]) ∧ ∃ vl', DiskAt w' b m vl' X.2.2 ∧ Turn (own b m vl) w w' ∧ ∀ g, vl'.ownBlock = some g → vl.ownBlock = some g ∨ w.heap.size ≤ g) := by
 have HLA := lay_ok h 0 hs hz
 rw [show ((0 : Nat) : Int) = 0 from rfl] at HLA
 have HLA := Lib.hid HLA
 have hs2 := h.ok.s2
 have hlok := laid_ok h.ok hs hz 0
 have HLK := Lib.hid hlok
 obtain ⟨sl, hsl⟩ : ∃ sl, sl = (D.sectors - 2) / 4 := ⟨_, rfl⟩
 have hk : okAt D 2 sl = true := by unfold okAt; simp; omega
 have HZ0 := Lib.hid (And.intro (And.intro hs hz) (And.intro hs2 (And.intro h.ok.z1 h.ok.z2)))
 unfold opened at hX
 rw [← hsl] at hR hX
 have HX := Lib.hid hX
 have HR := Lib.hid hR
 have HR1 := Lib.hid hR1
 have HR2 := Lib.hid (And.intro hR2 hR3)
 have HSO := Lib.hid hs'
 have HV0 := Lib.hid (And.intro h0 hch)
 have HKO := Lib.hid hk
 have HEO : Hid (okEp E = true) := Lib.hid (by unfold okEp; simp; omega)
 have HE2 := Lib.hid hE2
 have hHE := fun w' (k : Below w.heap.size w w') => heads_any (h.grew k) (by omega) hd (by omega)
 simp only [hE] at hHE
 have HHE := Lib.hid hHE
 have HLO : Hid (D.loose.length ≤ 1000000000 ∧ D.down = false) := Lib.hid ⟨by omega, hd⟩
 have HL9 := Lib.hid hL
 have HOK := Lib.hid h.ok
 have HSL := Lib.hid hsl
 have hE3 : (E : Int) ≠ 0 := by omega
 have hne : ((E : Int) == 0) = false := by simp; omega
 clear h hs hz hd hL hs2 hk hE hE1 hE2 hR hR1 hR2 hR3 hs' h0 hch hX hHE hsl hlok hE3
 go_enter Tryz.func18, Tryz.ntmps18
 go_wp2_with fail
 refine HLA.out.mono ?_
 rintro r w1 ⟨M, rfl, hp, hb, hm, hvl, hown, hlow⟩
 have HP1 := Lib.hid hp
 have HM := Lib.hid (And.intro hb (And.intro hm hvl))
 have HW1 : Hid (FWent w w1 b m vl M) := Lib.hid ⟨Turn.of_below hlow _, hown, hb, hm⟩
 have HHE1 := Lib.hid (HHE.out w1 hlow)
 clear hp hb hm hvl hown hlow HLA HHE
 go_wp2_with fail
 refine HHE1.out.mono ?_
 rintro r w2 ⟨rfl, hb2⟩
 have hp2 := HP1.out.grew hb2
 have hc22 := hp2.c_epoch
 have hf22 := hp2.c_fz 22
 have hse := hp2.set_epoch E
 obtain ⟨wq, hwq⟩ : ∃ wq, wq = w2.setCell ⟨M.p, 22, none⟩ (.int .i64 (E : Nat)) := ⟨_, rfl⟩
 rw [← hwq] at hse
 obtain ⟨S0, hS0⟩ : ∃ S0 : Pl, S0 = { Pl.laid D 0 with epoch := E } := ⟨_, rfl⟩
 have hsp := hse.1
 rw [← hS0] at hsp
 have HP := Lib.hid hsp
 have HW := Lib.hid ((HW1.out.tail hb2).trans hse.2 rfl rfl)
 have HSS : Hid (S0.slots = sl ∧ S0.first = 2 + sl ∧ S0.epoch = E) := Lib.hid (by rw [hS0, HSL.out]; exact ⟨rfl, rfl, rfl⟩)
 have HS0 := Lib.hid hS0
 have hcq := hsp.c_epoch
 rw [HSS.out.2.2] at hcq
 clear hb2 hp2 hse hS0 hsp HP1 HW1 HHE1
 go_wp2_with fail
 rw [← hwq]
 clear hwq hc22 hf22 hcq
 refine wp_region_H (fun v => v.cell? ⟨M.p, 23, none⟩ = some (.int .i64 sl) ∧ v.cell? ⟨M.p, 22, none⟩ = some (.int .i64 E)) (by kernel_rfl) (fun v0 hv0 => ?_)
 have hS0 : (fun v => v.cell? ⟨M.p, 23, none⟩ = some (.int .i64 sl) ∧ v.cell? ⟨M.p, 22, none⟩ = some (.int .i64 E)) v0 := by subst hv0; exact ⟨by have := (HP.out.drew).c_slots; rw [HSS.out.1] at this; exact this, by have := (HP.out.drew).c_epoch; rw [HSS.out.2.2] at this; exact this⟩
 have HV0 : Hid (PoolAt v0 M S0 D) := Lib.hid (by subst hv0; exact HP.out.drew)
 have HW0 : Hid (FWent w v0 b m vl M) := Lib.hid (by subst hv0; exact HW.out.tail (Below.refl _ _).drew)
 clear hv0 HP HW
 refine wpH_t 0 ?_ rfl rfl (by kernel_rfl) (fun _ _ _ h => h) rfl ?_ hS0 ?_
 rotate_left
 ·(intro w_ hw_; go_simp; try with_reducible rfl)
 simp only [sL]
 refine wpH_t 1 ?_ rfl rfl (by kernel_rfl) (fun _ _ _ h => h) rfl ?_ hS0 ?_
 rotate_left
 ·(intro w_ hw_; go_simp; try with_reducible rfl)
 simp only [sL]
 refine wpH_t 2 ?_ rfl rfl (by kernel_rfl) (fun _ _ _ h => h) rfl ?_ hS0 ?_
 rotate_left
 ·(intro w_ hw_; obtain ⟨q1, q2⟩ := hw_; go_simp; try with_reducible rfl)
 simp only [sL]
 refine wpH_t 3 ?_ rfl rfl (by kernel_rfl) (fun _ _ _ h => h) rfl ?_ hS0 ?_
 rotate_left
 ·(intro w_ hw_; go_simp; try with_reducible rfl)
 simp only [sL]
 refine wpH_t 4 ?_ rfl rfl (by kernel_rfl) (fun _ _ _ h => h) rfl ?_ hS0 ?_
 rotate_left
 ·(intro w_ hw_; obtain ⟨q1, q2⟩ := hw_; go_simp; try with_reducible rfl)
 simp only [sL]
 refine wpH_t 5 ?_ rfl rfl (by kernel_rfl) (fun _ _ _ h => h) rfl ?_ hS0 ?_
 rotate_left
 ·(intro w_ hw_; go_simp; try with_reducible rfl)
 simp only [sL]
 refine wpH_t 6 ?_ rfl rfl (by kernel_rfl) (fun _ _ _ h => h) rfl ?_ hS0 ?_
 rotate_left
 ·(intro w_ hw_; obtain ⟨q1, q2⟩ := hw_; go_simp; try with_reducible rfl)
 simp only [sL]
 refine wpH_t 7 ?_ rfl rfl (by kernel_rfl) (fun _ _ _ h => h) rfl ?_ hS0 ?_
 rotate_left
 ·(intro w_ hw_; go_simp; try with_reducible rfl)
 simp only [sL]
 refine wpH_t 8 ?_ rfl rfl (by kernel_rfl) (fun _ _ _ h => h) rfl ?_ hS0 ?_
 rotate_left
 ·(intro w_ hw_; obtain ⟨q1, q2⟩ := hw_; go_simp; try with_reducible rfl)
 simp only [sL]
 have hrd := LRead_tup HV0.out.disk 2 sl E HKO.out HEO.out HLO.out.1 HLO.out.2 R HR.out
 rw [HM.out.1] at hrd
 simp only [show ((2 : Nat) : Int) = 2 from rfl] at hrd
 refine wpH_callv (i := 9) (by kernel_rfl) rfl rfl (by rfl) (hrd) (by go_simp) ?_
 rintro _ v1 ⟨ov, rfl, ⟨B, hgr⟩, hb1⟩
 have hS1 : (fun v => v.cell? ⟨M.p, 23, none⟩ = some (.int .i64 sl) ∧ v.cell? ⟨M.p, 22, none⟩ = some (.int .i64 E)) v1 := ⟨by have := (HV0.out.grew hb1).c_slots; rw [HSS.out.1] at this; exact this, by have := (HV0.out.grew hb1).c_epoch; rw [HSS.out.2.2] at this; exact this⟩
 clear hS0
 refine ⟨hS1, ?_⟩
 simp only [sL]
 have HP := Lib.hid (HV0.out.grew hb1)
 have HW := Lib.hid (HW0.out.tail hb1)
 have HG := Lib.hid hgr
 clear hgr hb1 HV0 HW0 hrd
 refine wpH_t 10 ?_ rfl rfl (by kernel_rfl) (fun _ _ _ h => h) rfl ?_ hS1 ?_
 rotate_left
 ·(intro w_ hw_; go_simp; try with_reducible rfl)
 simp only [sL]
 refine wpH_t 11 ?_ rfl rfl (by kernel_rfl) (fun _ _ _ h => h) rfl ?_ hS1 ?_
 rotate_left
 ·(intro w_ hw_; go_simp; try with_reducible rfl)
 simp only [sL]
 refine wpH_t 12 ?_ rfl rfl (by kernel_rfl) (fun _ _ _ h => h) rfl ?_ hS1 ?_
 rotate_left
 ·(intro w_ hw_; go_simp; try with_reducible rfl)
 simp only [sL]
 refine wpH_t 13 ?_ rfl rfl (by kernel_rfl) (fun _ _ _ h => h) rfl ?_ hS1 ?_
 rotate_left
 ·(intro w_ hw_; go_simp; try with_reducible rfl)
 simp only [sL]
 refine wpH_t 14 ?_ rfl rfl (by kernel_rfl) (fun _ _ _ h => h) rfl ?_ hS1 ?_
 rotate_left
 ·(intro w_ hw_; go_simp; try with_reducible rfl)
 simp only [sL]
 clear hS1
 refine wpAnyH_done (by kernel_rfl) ?_ _
 obtain ⟨A0, c0, rfl⟩ := HG.out.slice
 obtain ⟨n, hn⟩ : ∃ n, n = R.length := ⟨_, rfl⟩
 rw [← hn]
 have HN := Lib.hid hn
 have hnb : (n : Int) ≤ 1048576 := by have := HR2.out.1; omega
 have HO : Hid (OpSt w v1 b m vl M S0 D (putR Pgs.none_ (R.take 0)) (.slice A0 n c0) R B) := Lib.hid ⟨by
  have := HP.out
  rw [HS0.out] at this
  rw [HS0.out]
  exact this, HW.out, by rw [hn]; exact HG.out⟩
 clear hn HP HW HG
 go_wp2_with fail
 go_loopw [56] (fun iv wr => ∃ (k : Nat), k ≤ n ∧ iv = .int .i64 k ∧ Hid (OpSt w wr b m vl M S0 D (putR Pgs.none_ (R.take k)) (.slice A0 n c0) R B)) (fun iv _ => n - (intOf iv).toNat)
 case atStart => exact ⟨0, by omega, rfl, HO⟩
 case round =>
  clear HO
  obtain ⟨k, hk, rfl, HO⟩ := hrel
  by_cases hkn : k < n
  ·have hkl : k < R.length := by rw [← HN.out]; exact hkn
   have hkn' : (k : Int) < n := by omega
   obtain ⟨g0, c0', A, ng, e0, hcg, hchg⟩ := HO.out.rows.at_ k hkl
   injection e0 with e1 e2 e3
   subst e1
   have HR1k := Lib.hid (HR1.out R[k] (List.getElem_mem hkl))
   have hgl := HR2.out.2 R[k] (List.getElem_mem hkl)
   have hsn := putR_snoc Pgs.none_ R hkl
   obtain ⟨g, hg⟩ : ∃ g, g = R[k] := ⟨_, rfl⟩
   rw [← hg] at hcg hchg hgl hsn HR1k
   obtain ⟨f0, hf0⟩ : ∃ f0, f0 = putR Pgs.none_ (R.take k) := ⟨_, rfl⟩
   rw [← hf0] at HO hsn
   have HSN := Lib.hid hsn
   obtain ⟨lg, hlg⟩ : ∃ lg, lg = g.length := ⟨_, rfl⟩
   rw [← hlg] at hcg hchg
   have hlb : (lg : Int) ≤ 1048576 := by omega
   have HLG := Lib.hid hlg
   have HC := Lib.hid hchg
   have HO2 : Hid (OpSt w wr b m vl M S0 D (putG f0 (g.take 0)) (.slice (some ⟨g0, 0, none⟩) n c0) R B) := HO
   clear hg hchg hgl hsn hf0 hlg e2 e3 HO
   go_wp2_with fail
   go_loopw [62] (fun iv wr => ∃ (j : Nat), j ≤ lg ∧ iv = .int .i64 j ∧ Hid (OpSt w wr b m vl M S0 D (putG f0 (g.take j)) (.slice (some ⟨g0, 0, none⟩) n c0) R B) ∧ Hid (Chg wr (.slice A lg ng) g)) (fun iv _ => lg - (intOf iv).toNat)
   case atStart => exact ⟨0, by omega, rfl, HO2, HC⟩
   case round =>
    clear HO2 HC hcg
    rename_i wr
    obtain ⟨j, hj, rfl, HO, HC⟩ := hrel
    by_cases hjl : j < lg
    ·have hjl2 : j < g.length := by rw [← HLG.out]; exact hjl
     have hjl' : (j : Int) < lg := by omega
     obtain ⟨gq, cg, p9, n9, c9, e0, _, hq0, hq1, hby, hn9⟩ := HC.out.at_ j hjl2
     injection e0 with e1 e2 e3
     subst e1
     subst e3
     have hr1 := HR1k.out g[j] (List.getElem_mem hjl2)
     have hpi : g[j].1 = ((g[j].1.toNat : Nat) : Int) := by omega
     have hps := putG_snoc f0 g hjl2
     obtain ⟨pg, hpg⟩ : ∃ pg, pg = g[j].1.toNat := ⟨_, rfl⟩
     rw [← hpg] at hpi hr1 hps
     rw [hpi] at hq0
     have HPG : Hid (pg < D.sectors) := Lib.hid (by have := hr1.2.1; unfold Pl.pages at this; omega)
     obtain ⟨l9, hl9⟩ : ∃ l9, l9 = g[j].2 := ⟨_, rfl⟩
     rw [← hl9] at hby hps
     have HPS := Lib.hid hps
     obtain ⟨f, hf⟩ : ∃ f, f = putG f0 (g.take j) := ⟨_, rfl⟩
     rw [← hf] at HO HPS
     obtain ⟨gv, hgv⟩ : ∃ gv, gv = Value.slice (some ⟨g0, 0, none⟩) n c0 := ⟨_, rfl⟩
     rw [← hgv] at HO
     have HGV := Lib.hid hgv
     have HB2 : Hid (∀ wz, wz = wr.alloc (.cells #[.int .i64 (pg : Nat), .slice (some p9) n9 c9] 94) → OpSt w wz b m vl M S0 D f gv R B ∧ Blk wz wr.heap.size #[.int .i64 (pg : Nat), .slice (some p9) n9 c9] 94 ∧ Byt wz (.slice (some p9) n9 c9) l9 ∧ Chg wz (.slice (some ⟨gq, 0, none⟩) lg ng) g) := Lib.hid (by
      rintro wz rfl
      have hgb : Below wr.heap.size wr (wr.alloc (.cells #[.int .i64 (pg : Nat), .slice (some p9) n9 c9] 94)) := (Below.refl _ wr).alloc (Nat.le_refl _) _
      exact ⟨HO.out.grew hgb, Blk.new _ _ _, hby.grew hgb, HC.out.grew hgb⟩)
     clear hpi hr1 hpg hps hl9 hf hgv hby hn9 e2 HO HC
     go_wp2_with fail
     obtain ⟨wz, hwz⟩ : ∃ wz, wz = wr.alloc (.cells #[.int .i64 (pg : Nat), .slice (some p9) n9 c9] 94) := ⟨_, rfl⟩
     have h2 := HB2.out wz hwz
     rw [← hwz]
     obtain ⟨Z, hZ⟩ : ∃ Z, Z = wr.heap.size := ⟨_, rfl⟩
     rw [← hZ] at h2 ⊢
     have HS2 := Lib.hid h2.1
     have HZB := Lib.hid h2.2.1
     have HBY2 := Lib.hid h2.2.2.1
     have HC2 : Hid (Chg wz (.slice (some ⟨gq, 0, none⟩) lg ng) g) := Lib.hid h2.2.2.2
     clear HB2 h2 hwz hZ hq0 hq1
     refine wp_region_H (fun v => v.cell? ⟨M.p, 25, none⟩ = some (.map (some M.ml)) ∧ v.cell? ⟨Z, 0, none⟩ = some (.int .i64 (pg : Nat)) ∧ v.cell? ⟨Z, 1, none⟩ = some (.slice (some p9) n9 c9)) (by kernel_rfl) (fun v0 hv0 => ?_)
     have hS0 : (fun v => v.cell? ⟨M.p, 25, none⟩ = some (.map (some M.ml)) ∧ v.cell? ⟨Z, 0, none⟩ = some (.int .i64 (pg : Nat)) ∧ v.cell? ⟨Z, 1, none⟩ = some (.slice (some p9) n9 c9)) v0 := by subst hv0; exact ⟨(HS2.out.pool.drew).c_last, (HZB.out.drew).cell 0, (HZB.out.drew).cell 1⟩
     have HS3 : Hid (OpSt w v0 b m vl M S0 D f gv R B) := Lib.hid (by subst hv0; exact HS2.out.grew (Below.refl _ _).drew)
     have HZ3 : Hid (Blk v0 Z #[.int .i64 (pg : Nat), .slice (some p9) n9 c9] 94) := Lib.hid (by subst hv0; exact HZB.out.drew)
     have HB3 : Hid (Byt v0 (.slice (some p9) n9 c9) l9) := Lib.hid (by subst hv0; exact HBY2.out.drew)
     have HC3 : Hid (Chg v0 (.slice (some ⟨gq, 0, none⟩) lg ng) g) := Lib.hid (by subst hv0; exact HC2.out.grew (Below.refl _ _).drew)
     clear hv0 HS2 HZB HBY2 HC2
     refine wpH_t 0 ?_ rfl rfl (by kernel_rfl) (fun _ _ _ h => h) rfl ?_ hS0 ?_
     rotate_left
     ·(intro w_ hw_; go_simp; try with_reducible rfl)
     simp only [sL]
     refine wpH_t 1 ?_ rfl rfl (by kernel_rfl) (fun _ _ _ h => h) rfl ?_ hS0 ?_
     rotate_left
     ·(intro w_ hw_; obtain ⟨q1, q2, q3⟩ := hw_; go_simp; try with_reducible rfl)
     simp only [sL]
     refine wpH_t 2 ?_ rfl rfl (by kernel_rfl) (fun _ _ _ h => h) rfl ?_ hS0 ?_
     rotate_left
     ·(intro w_ hw_; go_simp; try with_reducible rfl)
     simp only [sL]
     refine wpH_t 3 ?_ rfl rfl (by kernel_rfl) (fun _ _ _ h => h) rfl ?_ hS0 ?_
     rotate_left
     ·(intro w_ hw_; obtain ⟨q1, q2, q3⟩ := hw_; go_simp; try with_reducible rfl)
     simp only [sL]
     refine wpH_t 4 ?_ rfl rfl (by kernel_rfl) (fun _ _ _ h => h) rfl ?_ hS0 ?_
     rotate_left
     ·(intro w_ hw_; go_simp; try with_reducible rfl)
     simp only [sL]
     refine wpH_t 5 ?_ rfl rfl (by kernel_rfl) (fun _ _ _ h => h) rfl ?_ hS0 ?_
     rotate_left
     ·(intro w_ hw_; obtain ⟨q1, q2, q3⟩ := hw_; go_simp; try with_reducible rfl)
     simp only [sL]
     refine wpH_t 6 ?_ rfl rfl (by kernel_rfl) (fun _ _ _ h => h) rfl ?_ hS0 ?_
     rotate_left
     ·(intro w_ hw_; go_simp; try with_reducible rfl)
     simp only [sL]
     refine wpH_t 7 ?_ rfl rfl (by kernel_rfl) (fun _ _ _ h => h) rfl ?_ hS0 ?_
     rotate_left
     ·(intro w_ hw_; obtain ⟨q1, q2, q3⟩ := hw_; go_simp; try with_reducible rfl)
     simp only [sL]
     obtain ⟨v1, hrun, hm1, ht1⟩ := HS3.out.pool.last.store (k := pg) HPG.out HB3.out
     have hs1 := HS3.out.put hm1 ht1
     have hz1 := HZ3.out.turn ht1 (fun hm => by
      simp at hm
      obtain ⟨es, cl, hk⟩ := HS3.out.pool.last.kind
      have := HZ3.out
      unfold Blk at this
      rw [hm, hk] at this; cases this)
     have hc1 : Chg v1 (.slice (some ⟨gq, 0, none⟩) lg ng) g := HC3.out.turn ht1 (map_nobytes HS3.out.pool.last) (fun g hg hm => by
      simp at hm
      obtain ⟨cs, hk⟩ := HC3.out.kind hg
      obtain ⟨es, cl, hk2⟩ := HS3.out.pool.last.kind
      rw [hm, hk2] at hk; cases hk)
     have HS4 := Lib.hid hs1
     have HC4 := Lib.hid hc1
     have hS1 : (fun v => v.cell? ⟨M.p, 25, none⟩ = some (.map (some M.ml)) ∧ v.cell? ⟨Z, 0, none⟩ = some (.int .i64 (pg : Nat)) ∧ v.cell? ⟨Z, 1, none⟩ = some (.slice (some p9) n9 c9)) v1 := ⟨hs1.pool.c_last, hz1.cell 0, hz1.cell 1⟩
     clear hS0
     refine wpH_store (i := 8) (w' := v1) (by kernel_rfl) rfl rfl (by rfl) (by exact exec_mapUpdate _ (.tmp 69) (.tmp 71) (.tmp 73) rfl rfl rfl rfl hrun) hS1 ?_
     clear hrun hm1 ht1 hs1 hz1 hc1 HS3 HZ3 HB3 HC3
     clear hS1
     refine wpAnyH_done (by kernel_rfl) ?_ _
     go_wp2
     go_roundw
     case rel => exact ⟨j + 1, by omega, by go_num, Lib.hid (by rw [HPS.out, ← HGV.out]; exact HS4.out), HC4⟩
     case measure => simp [intOf]; omega
    ·have hjE : j = lg := by omega
     subst hjE
     have HO3 : Hid (OpSt w wr b m vl M S0 D (putR Pgs.none_ (R.take (k + 1))) (.slice (some ⟨g0, 0, none⟩) n c0) R B) := Lib.hid (by
      rw [HSN.out]
      have := HO.out
      rw [List.take_of_length_le (by rw [← HLG.out]; exact Nat.le_refl _)] at this
      exact this)
     have hnj : ¬ (j : Int) < j := by omega
     clear HO HC
     go_wp2
     go_roundw
     case rel => exact ⟨k + 1, by omega, by go_num, HO3⟩
     case measure => simp [intOf]; omega
  ·have hkE : k = n := by omega
   subst hkE
   have hnj : ¬ (k : Int) < k := by omega
   have HP0 := HO.out.pool
   rw [List.take_of_length_le (by rw [← HN.out]; exact Nat.le_refl _)] at HP0
   obtain ⟨S1, hS1⟩ : ∃ S1 : Pl, S1 = { Pl.laid D 0 with epoch := E, last := putR Pgs.none_ R } := ⟨_, rfl⟩
   rw [HS0.out] at HP0
   have HP : Hid (PoolAt wr M S1 D) := Lib.hid (by rw [hS1]; exact HP0)
   have HW := Lib.hid HO.out.went
   have hok1 : S1.Ok D := by
    rw [hS1]
    have h1 := HLK.out
    exact ⟨h1.z, h1.s, h1.s2, h1.slots, h1.first, h1.now, h1.was, putR_ok R _ Pgs.Ok.none_ (fun g hg c hc => ⟨(HR1.out g hg c hc).2.1, (HR1.out g hg c hc).2.2⟩), h1.pend, h1.seen⟩
   have HOK1 := Lib.hid hok1
   have hv : ∀ k, S1.val D k = (Pl.found D E R s).val D k := fun k => by rw [hS1]; rfl
   have hrc := recall_any HP.out hok1 (by rw [hS1]; rfl) (by rw [hS1]; exact SeenF.none_) HLO.out.1 HLO.out.2 s (by rw [hS1]; exact HSO.out) (by rw [hv]; exact HV0.out.1) (fun i hi => by rw [hv]; exact HV0.out.2 i hi)
   have HRC := Lib.hid hrc
   have HS1 := Lib.hid hS1
   have HSFL : Hid (s.free.length ≤ 1048576) := Lib.hid (by have := HSO.out.len; have := HSO.out.n2; have := HZ0.out; unfold Pl.pages at *; omega)
   clear HP0 HO hok1 hv hrc hS1 HP
   go_wp2_with fail
   refine HRC.out.mono ?_
   rintro r w8 ⟨rfl, M3, f, hp3, hw3, hsf⟩
   have hmp3 : M3.p = M.p := hw3.p_eq
   have HMB3 : Hid (M3.b = b ∧ M3.m = m) := Lib.hid ⟨hw3.b_eq.trans HM.out.1, hw3.m_eq.trans HM.out.2.1⟩
   have HW8 := Lib.hid (HW.out.trans hw3 hw3.b_eq hw3.m_eq)
   obtain ⟨S4, hS4⟩ : ∃ S4 : Pl, S4 = { S1 with now := s, seen := f } := ⟨_, rfl⟩
   rw [← hS4] at hp3
   have HP8 := Lib.hid hp3
   have HS4 := Lib.hid hS4
   have HSF := Lib.hid hsf
   clear hp3 hw3 hsf hS4 HRC HW
   have HC := Lib.hid (clone_any HP8.out.free (by rw [HS4.out]; exact HSFL.out))
   unfold Sta.val at HC
   have a0 : w8.cell? ⟨M3.p, 0, none⟩ = _ := HP8.out.blk.cell 0
   have a1 : w8.cell? ⟨M3.p, 1, none⟩ = _ := HP8.out.blk.cell 1
   have a2 : w8.cell? ⟨M3.p, 2, none⟩ = _ := HP8.out.blk.cell 2
   have a3 : w8.cell? ⟨M3.p, 3, none⟩ = _ := HP8.out.blk.cell 3
   have a4 : w8.cell? ⟨M3.p, 4, none⟩ = _ := HP8.out.blk.cell 4
   have a5 : w8.cell? ⟨M3.p, 5, none⟩ = _ := HP8.out.blk.cell 5
   have a6 : w8.cell? ⟨M3.p, 6, none⟩ = _ := HP8.out.blk.cell 6
   have a7 : w8.cell? ⟨M3.p, 7, none⟩ = _ := HP8.out.blk.cell 7
   have a8 : w8.cell? ⟨M3.p, 8, none⟩ = _ := HP8.out.blk.cell 8
   have a9 : w8.cell? ⟨M3.p, 9, none⟩ = _ := HP8.out.blk.cell 9
   simp only [plCells, List.getElem?_toArray, List.getElem?_cons_succ, List.getElem?_cons_zero] at a0 a1 a2 a3 a4 a5 a6 a7 a8 a9
   rw [hmp3] at a0 a1 a2 a3 a4 a5 a6 a7 a8 a9
   go_wp2_with fail
   refine HC.out.mono ?_
   rintro e w9 ⟨v9, rfl, hr9, hf9, hb9⟩
   have hp9 := HP8.out.grew hb9
   have b10 : w9.cell? ⟨M3.p, 10, none⟩ = _ := hp9.blk.cell 10
   have f10 := hp9.c_fz 10
   have b11 : w9.cell? ⟨M3.p, 11, none⟩ = _ := hp9.blk.cell 11
   have f11 := hp9.c_fz 11
   have b12 : w9.cell? ⟨M3.p, 12, none⟩ = _ := hp9.blk.cell 12
   have f12 := hp9.c_fz 12
   have b13 : w9.cell? ⟨M3.p, 13, none⟩ = _ := hp9.blk.cell 13
   have f13 := hp9.c_fz 13
   have b14 : w9.cell? ⟨M3.p, 14, none⟩ = _ := hp9.blk.cell 14
   have f14 := hp9.c_fz 14
   have b15 : w9.cell? ⟨M3.p, 15, none⟩ = _ := hp9.blk.cell 15
   have f15 := hp9.c_fz 15
   have b16 : w9.cell? ⟨M3.p, 16, none⟩ = _ := hp9.blk.cell 16
   have f16 := hp9.c_fz 16
   have b17 : w9.cell? ⟨M3.p, 17, none⟩ = _ := hp9.blk.cell 17
   have f17 := hp9.c_fz 17
   have b18 : w9.cell? ⟨M3.p, 18, none⟩ = _ := hp9.blk.cell 18
   have f18 := hp9.c_fz 18
   have b19 : w9.cell? ⟨M3.p, 19, none⟩ = _ := hp9.blk.cell 19
   have f19 := hp9.c_fz 19
   simp only [plCells, List.getElem?_toArray, List.getElem?_cons_succ, List.getElem?_cons_zero] at b10 b11 b12 b13 b14 b15 b16 b17 b18 b19
   rw [hmp3] at b10 b11 b12 b13 b14 b15 b16 b17 b18 b19 f10 f11 f12 f13 f14 f15 f16 f17 f18 f19
   obtain ⟨X9, c9, e9, hx9⟩ := hr9.form
   clear hx9
   subst e9
   have h1 := hp9.set_was hr9 (fun g hg => .inr fun hm => by have := hf9 g hg; have := HP8.out.lt g hm; omega)
   have hpw := PWent.of_vw ((Turn.of_below hb9 M3.own).trans h1.2 (fun _ hj _ => hj)) (v := (.slice X9 (S4.now.free.length) c9)) (fun g hg => .inr (hf9 g hg))
   have h1p := h1.1
   rw [hmp3] at h1p hpw
   obtain ⟨wA, hwA⟩ : ∃ wA, putWas w9 M.p S4.now (.slice X9 S4.now.free.length c9) = wA := ⟨_, rfl⟩
   rw [hwA] at h1p hpw
   unfold putWas at hwA
   obtain ⟨M5, hM5⟩ : ∃ M5 : Mem, M5 = { M3 with p := M.p, vw := .slice X9 S4.now.free.length c9 } := ⟨_, rfl⟩
   rw [← hM5] at h1p hpw
   have hmp5 : M5.p = M.p := by rw [hM5]
   have HMB5 : Hid (M5.b = b ∧ M5.m = m) := Lib.hid (by rw [hM5]; exact HMB3.out)
   obtain ⟨S5, hS5⟩ : ∃ S5 : Pl, S5 = { S4 with was := S4.now } := ⟨_, rfl⟩
   rw [← hS5] at h1p
   have HP := Lib.hid h1p
   have HW := Lib.hid (HW8.out.trans hpw (by rw [hM5]) (by rw [hM5]))
   have HS5 : Hid (S5 = { S1 with now := s, was := s, seen := f }) := Lib.hid (by rw [hS5, HS4.out])
   clear h1 h1p hpw hr9 hf9 hb9 hp9 HC HP8 HW8 hM5 hS5 HMB3 a0 a1 a2 a3 a4 a5 a6 a7 a8 a9 HS4
   have hs5 : S5.slots = sl ∧ S5.epoch = E := by rw [HS5.out, HS1.out, HSL.out]; exact ⟨rfl, rfl⟩
   have hcs := HP.out.c_slots
   rw [hmp5, hs5.1] at hcs
   have HS5E := Lib.hid hs5.2
   obtain ⟨Y, hY⟩ : ∃ Y, Y = goWipe 2 D (tornL D 2 sl) := ⟨_, rfl⟩
   have hx := HX.out
   rw [← hY] at hx
   have hcg := CleanG_any HP.out.disk 2 sl HKO.out (by have := HL9.out; omega) HLO.out.2 Y hY
   rw [HMB5.out.1] at hcg
   simp only [show ((2 : Nat) : Int) = 2 from rfl] at hcg
   have HCG := Lib.hid hcg
   have hgf := goWipe_facts 2 (tornL D 2 sl) D
   rw [← hY] at hgf
   have HGF := Lib.hid hgf
   have HX5 := Lib.hid hx
   clear hs5 hcg hgf hY hx HX
   go_wp2_with fail
   clear b10 b11 b12 b13 b14 b15 b16 b17 b18 b19 f10 f11 f12 f13 f14 f15 f16 f17 f18 f19 hwA
   refine HCG.out.mono ?_
   rintro r wB ⟨rfl, vlB, hdB, htB, hgB⟩
   have hkB := HP.out.disked (vl' := vlB) (D' := Y.2) (w' := wB) (by rw [HMB5.out.1]; exact hdB) HGF.out.1 (by rw [HMB5.out.1]; exact htB) hgB
   obtain ⟨M6, hM6⟩ : ∃ M6 : Mem, M6 = { M5 with vl := vlB } := ⟨_, rfl⟩
   rw [← hM6] at hkB
   have hmp6 : M6.p = M.p := by rw [hM6]; exact hmp5
   have HP6 := Lib.hid hkB.1
   have HW6 := Lib.hid (HW.out.trans hkB.2 (by rw [hM6]) (by rw [hM6]))
   obtain ⟨ye, hye⟩ : ∃ ye, ye = Y.1 := ⟨_, rfl⟩
   rw [← hye] at HX5
   rw [← hye]
   clear hkB hdB htB hgB hM6 hye HP HW HCG hcs
   by_cases hy0 : ye = 0
   ·subst hy0
    have hx := HX5.out
    rw [if_neg (by simp)] at hx
    have hok6 : S5.Ok Y.2 := by
     have h1 := HOK1.out
     rw [HS5.out]
     have hpe : S1.pages D = (Pl.laid D 0).pages D := by rw [HS1.out]; rfl
     have hso : s.Ok (S1.pages D) := HSO.out.same hpe
     have h2 : ({ S1 with now := s, was := s, seen := f } : Pl).Ok D := ⟨h1.z, h1.s, h1.s2, h1.slots, h1.first, hso, hso, h1.last, h1.pend, HSF.out.ok HOK.out⟩
     exact h2.same HGF.out.1 HGF.out.2.1
    have hpt := point_any HP6.out hok6 (by have h1 := HGF.out.2.2; have h2 := tornL_len D 2 sl; have h3 := HL9.out; have h4 := HZ0.out; have h5 := HSL.out; omega) (by rw [HS5E.out]; exact HE2.out) _ rfl
    rw [hmp6] at hpt
    have hfd : S5 = { Pl.found D E R s with seen := f } := by rw [HS5.out, HS1.out]; rfl
    have hps := point_seen (Pl.found D E R s) f Y.2
    rw [← hfd, ← hx] at hps
    obtain ⟨V, hV⟩ : ∃ V, V = point S5 Y.2 := ⟨_, rfl⟩
    rw [← hV] at hpt hps
    have HPT := Lib.hid hpt
    have HPS := Lib.hid hps
    clear hx hok6 hpt hfd hps hV HX5
    go_wp2_with fail
    refine HPT.out.mono ?_
    rintro r wC ⟨rfl, M7, hp7, hw7⟩
    have HP7 := Lib.hid hp7
    have hmp7 : M7.p = M.p := hw7.p_eq.trans hmp6
    have HW7 := Lib.hid (HW6.out.trans hw7 hw7.b_eq hw7.m_eq)
    obtain ⟨Ve, VS, VD⟩ := V
    dsimp only at HP7 HPS ⊢
    clear hp7 hw7 HPT HP6 HW6
    by_cases hv0 : Ve = 0
    ·subst hv0
     go_wp2
     go_ret2
     have h1 := HPS.out
     exact .inl ⟨h1.1.symm, M7, by rw [hmp7]; rfl, by rw [← h1.2.2 h1.1.symm, ← h1.2.1]; exact HP7.out, HW7.out⟩
    ·have hne2 : (Ve == 0) = false := by simpa using hv0
     go_wp2
     go_ret2
     have h1 := HPS.out
     exact .inr ⟨by rw [← h1.1]; exact hv0, by rw [← h1.1]; rfl, by rw [← h1.2.1]; exact HW7.out.disk HP7.out⟩
   ·have hne2 : (ye == 0) = false := by simpa using hy0
    have hx := HX5.out
    rw [if_pos hy0] at hx
    have HX6 := Lib.hid hx
    clear hx HX5
    go_wp2
    go_ret2
    rw [HX6.out]
    exact .inr ⟨hy0, rfl, HW6.out.disk HP6.out⟩
end
end Go.Proofs.YtklppnknllbfnaaGreat
