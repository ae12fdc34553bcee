/- Walks: put. Printed by mk_l5.py. -/
import Derived.Test.YtklppnknllbfnaaGreatLA
namespace Go.Proofs.YtklppnknllbfnaaGreat
open Go.RowKit Go.Maps
set_option maxRecDepth 8000
variable {ι : Type} [Bar ι]
/-- The sector of a change. -/
def secOf (z : Nat) (L : Lg) (p : Nat) (last : Bool) (l : List Nat) : List Nat := sector z (L.epoch * 2097152 + L.next + 1) (leb p 8 ++ [if last then 1 else 0] ++ l)
theorem rd_one {w : World} {g f : Nat} (h : Blk w g #[.int .u8 f] 5) (hf : f < 256) : Rd w w.heap.size (some ⟨g, 0, none⟩) [f] := by
 refine ⟨by simpa using hf, fun _ => ⟨_, rfl, h.lt, fun k hk => ?_⟩⟩
 have : k = 0 := by simpa using hk
 subst this
 have := h.cell 0
 simpa [Addr.add] using this
theorem build_own {w : World} {base : Nat} {v : Value} {l : List Nat} {m : Nat} (z : Nat) (h : Own w base v l) (h1 : 64 ≤ z) (h2 : z ≤ 4096) (h3 : (1 : Int) ≤ m) (h4 : (m : Int) ≤ 4611686018427387904) (hl : l.length + 36 = z) :
  Calls Tryz.prog 79 #[.int .i64 z, .int .i64 m, v] w fun e w' => ∃ u, e = .returned u ∧ ∃ p c, u = .tuple #[.slice (some p) z c, .int .i64 0] ∧ Byt w' (.slice (some p) z c) (sector z m l) ∧ Below w.heap.size w w' := by
 obtain ⟨A, c, rfl, hr⟩ := h.form
 refine (Build_ok z m A l c w hr (by omega) (by omega) h3 h4 (by omega)).mono ?_
 rintro e w' ⟨v', rfl, ho, hb⟩
 have hlen : (sector z m l).length = z := sector_length (by omega)
 have hby := Byt.of_own ho (by intro e; rw [e] at hlen; simp at hlen; omega)
 obtain ⟨p, c', rfl, _, _⟩ := hby.rd
 rw [hlen] at hby ⊢
 exact ⟨_, rfl, p, c', rfl, hby, hb⟩
/-- What a step of a log leaves standing. -/
def Went (w w' : World) (G b m : Nat) (vl vl' : Value) : Prop := Turn (G :: own b m vl) w w' ∧ ∀ g, vl'.ownBlock = some g → vl.ownBlock = some g ∨ w.heap.size ≤ g
theorem log_apart {w : World} {G b m : Nat} {vl : Value} {D : Dsk} {L : Lg} (hl : LogIn w G b L) (hd : DiskAt w b m vl D) : ∀ j ∈ own b m vl, j ≠ G := by
 intro j hj e
 subst e
 unfold LogIn Blk at hl
 rcases mem_own.1 hj with e | e | hg
 ·have := hd.blk; unfold Blk at this; rw [← e, hl] at this; cases this
 ·obtain ⟨es, clock, hm⟩ := hd.fast.kind; rw [← e, hl] at hm; cases hm
 ·obtain ⟨cs, e⟩ := hd.loose.kind hg; rw [hl] at e; cases e
theorem log_nobytes {w : World} {G b : Nat} {L : Lg} (hl : LogIn w G b L) : NoBytes w [G] := by
 intro k hk cs fz e
 simp at hk; subst hk
 unfold LogIn Blk at hl
 rw [hl] at e; cases e
theorem log_next {t : World} {G b m : Nat} {vl u : Value} {D : Dsk} {L : Lg} {s : List Nat} (hl : LogIn t G b L) (hd : DiskAt t b m vl D) (hu : Byt t u s) :
  DiskAt (t.setCell ⟨G, 4, none⟩ (.int .i64 ((L.next : Int) + 1))) b m vl D ∧ LogIn (t.setCell ⟨G, 4, none⟩ (.int .i64 ((L.next : Int) + 1))) G b { L with next := L.next + 1 } ∧ Byt (t.setCell ⟨G, 4, none⟩ (.int .i64 ((L.next : Int) + 1))) u s ∧ Turn [G] t (t.setCell ⟨G, 4, none⟩ (.int .i64 ((L.next : Int) + 1))) := by
 have ht : Turn [G] t (t.setCell ⟨G, 4, none⟩ (.int .i64 ((L.next : Int) + 1))) := (Turn.refl [G] t).set (.inl (by simp)) _
 refine ⟨hd.turn ht (log_nobytes hl) (fun j hj => by simpa using log_apart hl hd j hj), ?_, hu.turn ht (log_nobytes hl), ht⟩
 have := Blk.set hl 4 (.int .i64 ((L.next : Int) + 1))
 simpa [LogIn] using this
theorem put_end {w t0 t1 w9 : World} {G b m : Nat} {vl vl' u : Value} {D D' : Dsk} {L' : Lg} {s : List Nat} (hb : Below w.heap.size w t0) (hs : DiskAt t1 b m vl D ∧ LogIn t1 G b L' ∧ Byt t1 u s ∧ Turn [G] t0 t1)
  (hd : DiskAt w9 b m vl' D') (ht : Turn (own b m vl) t1 w9) (hg : ∀ g, vl'.ownBlock = some g → vl.ownBlock = some g ∨ t1.heap.size ≤ g) : DiskAt w9 b m vl' D' ∧ LogIn w9 G b L' ∧ Went w w9 G b m vl vl' := by
 refine ⟨hd, (ht.block G (Blk.lt hs.2.1) (fun hk => log_apart hs.2.1 hs.1 G hk rfl)).trans hs.2.1, ?_, fun g h => ?_⟩
 ·have h1 : Turn (G :: own b m vl) w t0 := Turn.of_below hb _
  have h2 := h1.trans hs.2.2.2 (by intro j hj _; simp at hj; simp [hj])
  exact h2.trans ht (by intro j hj _; simp [hj])
 ·rcases hg g h with h | h
  ·exact .inl h
  ·have := hs.2.2.2.size; have := hb.size; exact .inr (by omega)
set_option maxHeartbeats 8000000 in
theorem put_any {G b m : Nat} {vl : Value} {D : Dsk} {L : Lg} {w : World} (h : DiskAt w b m vl D) (hl : LogIn w G b L) (hok : L.Ok) (hnx : L.next < L.count) (p : Nat) (hp : (p : Int) ≤ 2147483647) (A : Addr) (n c : Nat) (l : List Nat) (hu : Byt w (.slice (some A) n c) l)
  (hln : l.length + 45 = D.size) (last : Bool) (hL : D.loose.length ≤ 1000000000) :
  Calls Tryz.prog 94 #[.pointer (some ⟨G, 0, none⟩), .agg #[.int .i64 p, .slice (some A) n c], .bool last] w fun e w' => e = .returned (.int .i64 (D.putErr ((L.first : Int) + L.next) (secOf D.size L p last l))) ∧
   ∃ vl', DiskAt w' b m vl' (D.put ((L.first : Int) + L.next) (secOf D.size L p last l)) ∧ LogIn w' G b { L with next := L.next + 1 } ∧ Went w w' G b m vl vl' := by
 obtain ⟨w1, hw1⟩ : ∃ w1, w1 = w.alloc (.cells #[.int .i64 p, .slice (some A) n c] 94) := ⟨_, rfl⟩
 obtain ⟨X, hX⟩ : ∃ X, X = w.heap.size := ⟨_, rfl⟩
 have hb01 : Below w.heap.size w w1 := by subst hw1; exact grow_alloc (Below.refl _ w) _
 have HB01 := Lib.hid hb01
 have HX : Hid (Blk w1 X #[.int .i64 p, .slice (some A) n c] 94) := Lib.hid (by subst hw1; subst hX; exact Blk.new _ _ _)
 have HD := Lib.hid (h.grew hb01)
 have HLG := Lib.hid (hl.grew hb01)
 have HBY := Lib.hid (hu.grew hb01)
 have HLN : Hid (l.length = n ∧ l.length + 45 = D.size) := Lib.hid ⟨hu.len_val, hln⟩
 have HLO := Lib.hid hL
 have HOK := Lib.hid hok
 have HSZ := Lib.hid (And.intro h.ok.z1 h.ok.z2)
 have HC3 : Hid (∀ v, Below w1.heap.size w1 v → v.cell? ⟨G, 0, none⟩ = some (.pointer (some ⟨b, 0, none⟩)) ∧ v.cell? ⟨G, 3, none⟩ = some (.int .i64 L.epoch) ∧ v.cell? ⟨G, 4, none⟩ = some (.int .i64 L.next)) := Lib.hid (fun v hv => ⟨(HLG.out.grew hv).cell 0, (HLG.out.grew hv).cell 3, (HLG.out.grew hv).cell 4⟩)
 have HC4 : Hid (∀ v, Below w1.heap.size w1 v → v.cell? ⟨G, 1, none⟩ = some (.int .i64 L.first) ∧ v.cell? ⟨G, 4, none⟩ = some (.int .i64 L.next)) := Lib.hid (fun v hv => ⟨(HLG.out.grew hv).cell 1, (HLG.out.grew hv).cell 4⟩)
 have HME : Hid ((1 ≤ (L.epoch : Int) ∧ (L.epoch : Int) ≤ 1099511627776) ∧ (0 ≤ (L.next : Int) ∧ (L.next : Int) ≤ 1048576)) := Lib.hid ⟨⟨by have := hok.e; omega, by have := hok.e; omega⟩, by omega, by have := hok.c; omega⟩
 have HMK : Hid ((1 : Int) ≤ ((L.epoch * 2097152 + L.next + 1 : Nat) : Int) ∧ ((L.epoch * 2097152 + L.next + 1 : Nat) : Int) ≤ 4611686018427387904) := Lib.hid ⟨by omega, by have := hok.e; have := hok.c; omega⟩
 have h0 : Blk w1 X #[.int .i64 p, .slice (some A) n c] 94 := HX.out
 have c0 := h0.cell 0
 have HA := Lib.hid (add64_any w1 w1.heap.size (.slice none 0 0) [] p (Own.none_ _ _) (Nat.le_refl _) (by simp))
 clear h hl hok hu hb01 h0 hln hL hnx
 cases last
 ·go_enter Tryz.func94, Tryz.ntmps94
  go_wp2_with fail
  rw [← hw1, ← hX]
  clear hw1 hX
  refine HA.out.mono ?_
  rintro e w2 ⟨v7, rfl, ho2, hb2⟩
  rw [List.nil_append, lebZ_nat] at ho2
  have HB2 : Hid (Below w1.heap.size w1 w2 ∧ Own w2 w1.heap.size v7 (leb p 8)) := Lib.hid ⟨hb2, ho2⟩
  clear ho2 hb2 HA c0
  go_wp2_with fail
  refine wp_region_H (fun v => v.cell? ⟨X, 1, none⟩ = some (.slice (some A) n c)) (by kernel_rfl) (fun v0 hv0 => ?_)
  have hS0 : (fun v => v.cell? ⟨X, 1, none⟩ = some (.slice (some A) n c)) v0 := by subst hv0; exact ((HX.out.grew HB2.out.1).drew).cell 1
  have HV0 : Hid (Below w1.heap.size w1 v0 ∧ Own v0 w1.heap.size v7 (leb p 8)) := Lib.hid (by subst hv0; exact ⟨HB2.out.1.trans ((Below.refl _ _).drew.mono HB2.out.1.size), HB2.out.2.below (Below.refl _ _).drew⟩)
  clear hv0 HB2
  refine wpH_t 0 ?_ rfl rfl (by kernel_rfl) (fun _ _ _ h => h) rfl ?_ hS0 ?_
  rotate_left
  ·(intro w_ hw_; go_simp; try with_reducible rfl)
  simp only [sL]
  refine wpH_t 1 ?_ rfl rfl (by kernel_rfl) (fun _ _ _ h => h) rfl ?_ hS0 ?_
  rotate_left
  ·(intro w_ hw_; go_simp; try with_reducible rfl)
  simp only [sL]
  refine wpH_t 4 ?_ rfl rfl (by kernel_rfl) (fun _ _ _ h => h) rfl ?_ hS0 ?_
  rotate_left
  ·(intro w_ hw_; go_simp; try with_reducible rfl)
  simp only [sL]
  refine wpH_t 5 ?_ rfl rfl (by kernel_rfl) (fun _ _ _ h => h) rfl ?_ hS0 ?_
  rotate_left
  ·(intro w_ hw_; have q1 := hw_; go_simp; try with_reducible rfl)
  simp only [sL]
  obtain ⟨g_, hg_⟩ : ∃ g_, g_ = v0.heap.size := ⟨_, rfl⟩
  obtain ⟨v1, hv1⟩ : ∃ v1, v1 = v0.alloc (.cells #[.int .u8 0] 5) := ⟨_, rfl⟩
  have hg1 : Below v0.heap.size v0 v1 := by subst hv1; exact (Below.refl _ _).alloc (Nat.le_refl _) _
  have HV1 : Hid (Below w1.heap.size w1 v1 ∧ Own v1 w1.heap.size v7 (leb p 8) ∧ Blk v1 g_ #[.int .u8 0] 5) := Lib.hid ⟨HV0.out.1.trans (hg1.mono HV0.out.1.size), HV0.out.2.below hg1, by subst hv1; subst hg_; exact Blk.new _ _ _⟩
  have hS1 : (fun v => v.cell? ⟨X, 1, none⟩ = some (.slice (some A) n c)) v1 := (HX.out.grew HV1.out.1).cell 1
  clear hS0
  refine wpH_run (i := 2) (v := (.slice (some ⟨g_, 0, none⟩) 1 1)) (w' := v1) (by kernel_rfl) rfl rfl (by rfl) (by subst hv1; subst hg_; go_simp) hS1 ?_
  simp only [sL]
  clear HV0 hg1 hv1 hg_ v0
  obtain ⟨v8, v3, happ, ho8, hb8⟩ := run_app 31 HV1.out.2.1 v1.heap.size (some ⟨g_, 0, none⟩) 1 [0] (rd_one HV1.out.2.2 (by omega)) HV1.out.1.size (by simp [leb])
  have HV3 : Hid (Below w1.heap.size w1 v3 ∧ Own v3 w1.heap.size v8 (leb p 8 ++ [0])) := Lib.hid ⟨HV1.out.1.trans hb8, ho8⟩
  clear ho8
  have hS2 : (fun v => v.cell? ⟨X, 1, none⟩ = some (.slice (some A) n c)) v3 := (HX.out.grew HV3.out.1).cell 1
  clear hS1
  refine wpH_run (i := 3) (v := v8) (w' := v3) (by kernel_rfl) rfl rfl (by rfl) (by exact exec_append (.tmp 17) (.tmp 19) 31 31 rfl rfl rfl happ) hS2 ?_
  simp only [sL]
  clear happ hb8 HV1 v1
  have happ := run_app 31 HV3.out.2 v3.heap.size (some A) c l (HBY.out.grew HV3.out.1).rdv HV3.out.1.size (by have := HLN.out; have := HSZ.out; simp [leb]; omega)
  rw [HLN.out.1] at happ
  obtain ⟨v9, v6, happ, ho9, hb9⟩ := happ
  have HV6 : Hid (Below w1.heap.size w1 v6 ∧ Own v6 w1.heap.size v9 (leb p 8 ++ [0] ++ l)) := Lib.hid ⟨HV3.out.1.trans hb9, ho9⟩
  clear ho9
  have hS3 : (fun v => v.cell? ⟨X, 1, none⟩ = some (.slice (some A) n c)) v6 := (HX.out.grew HV6.out.1).cell 1
  clear hS2
  refine wpH_run (i := 6) (v := v9) (w' := v6) (by kernel_rfl) rfl rfl (by rfl) (by exact exec_append (.tmp 20) (.tmp 22) 31 31 rfl rfl rfl happ) hS3 ?_
  simp only [sL]
  clear happ hb9 HV3 v3
  refine wpH_t 7 ?_ rfl rfl (by kernel_rfl) (fun _ _ _ h => h) rfl ?_ hS3 ?_
  rotate_left
  ·(intro w_ hw_; go_simp; try with_reducible rfl)
  simp only [sL]
  clear hS3
  refine wpAnyH_done (by kernel_rfl) ?_ _
  go_wp2_with fail
  refine wp_region_H (fun v => v.cell? ⟨G, 0, none⟩ = some (.pointer (some ⟨b, 0, none⟩)) ∧ v.cell? ⟨G, 3, none⟩ = some (.int .i64 L.epoch) ∧ v.cell? ⟨G, 4, none⟩ = some (.int .i64 L.next)) (by kernel_rfl) (fun v0 hv0 => ?_)
  have hSk0 : (fun v => v.cell? ⟨G, 0, none⟩ = some (.pointer (some ⟨b, 0, none⟩)) ∧ v.cell? ⟨G, 3, none⟩ = some (.int .i64 L.epoch) ∧ v.cell? ⟨G, 4, none⟩ = some (.int .i64 L.next)) v0 := by subst hv0; exact HC3.out _ (HV6.out.1.trans ((Below.refl _ _).drew.mono HV6.out.1.size))
  have HV0 : Hid (Below w1.heap.size w1 v0 ∧ Own v0 w1.heap.size v9 (leb p 8 ++ [0] ++ l)) := Lib.hid (by subst hv0; exact ⟨HV6.out.1.trans ((Below.refl _ _).drew.mono HV6.out.1.size), HV6.out.2.below (Below.refl _ _).drew⟩)
  clear hv0 HV6
  refine wpH_t 0 ?_ rfl rfl (by kernel_rfl) (fun _ _ _ h => h) rfl ?_ hSk0 ?_
  rotate_left
  ·(intro w_ hw_; go_simp; try with_reducible rfl)
  simp only [sL]
  refine wpH_t 1 ?_ rfl rfl (by kernel_rfl) (fun _ _ _ h => h) rfl ?_ hSk0 ?_
  rotate_left
  ·(intro w_ hw_; obtain ⟨q1, q2, q3⟩ := hw_; go_simp; try with_reducible rfl)
  simp only [sL]
  refine wpH_t 2 ?_ rfl rfl (by kernel_rfl) (fun _ _ _ h => h) rfl ?_ hSk0 ?_
  rotate_left
  ·(intro w_ hw_; go_simp; try with_reducible rfl)
  simp only [sL]
  refine wpH_t 3 ?_ rfl rfl (by kernel_rfl) (fun _ _ _ h => h) rfl ?_ hSk0 ?_
  rotate_left
  ·(intro w_ hw_; go_simp; try with_reducible rfl)
  simp only [sL]
  refine wpH_t 4 ?_ rfl rfl (by kernel_rfl) (fun _ _ _ h => h) rfl ?_ hSk0 ?_
  rotate_left
  ·(intro w_ hw_; obtain ⟨q1, q2, q3⟩ := hw_; go_simp; try with_reducible rfl)
  simp only [sL]
  refine wpH_t 6 ?_ rfl rfl (by kernel_rfl) (fun _ _ _ h => h) rfl ?_ hSk0 ?_
  rotate_left
  ·(intro w_ hw_; go_simp; try with_reducible rfl)
  simp only [sL]
  refine wpH_t 7 ?_ rfl rfl (by kernel_rfl) (fun _ _ _ h => h) rfl ?_ hSk0 ?_
  rotate_left
  ·(intro w_ hw_; obtain ⟨q1, q2, q3⟩ := hw_; go_simp; try with_reducible rfl)
  simp only [sL]
  refine wpH_t 8 ?_ rfl rfl (by kernel_rfl) (fun _ _ _ h => h) rfl ?_ hSk0 ?_
  rotate_left
  ·(intro w_ hw_; go_simp; try with_reducible rfl)
  simp only [sL]
  refine wpH_t 9 ?_ rfl rfl (by kernel_rfl) (fun _ _ _ h => h) rfl ?_ hSk0 ?_
  rotate_left
  ·(intro w_ hw_; obtain ⟨q1, q2, q3⟩ := hw_; go_simp; try with_reducible rfl)
  simp only [sL]
  refine wpH_t 10 ?_ rfl rfl (by kernel_rfl) (fun _ _ _ h => h) rfl ?_ hSk0 ?_
  rotate_left
  ·(intro w_ hw_; go_simp; try with_reducible rfl)
  simp only [sL]
  refine wpH_t 11 ?_ rfl rfl (by kernel_rfl) (fun _ _ _ h => h) rfl ?_ hSk0 ?_
  rotate_left
  ·(intro w_ hw_; obtain ⟨q1, q2, q3⟩ := hw_; go_simp; try with_reducible rfl)
  simp only [sL]
  refine wpH_t 12 ?_ rfl rfl (by kernel_rfl) (fun _ _ _ h => h) rfl ?_ hSk0 ?_
  rotate_left
  ·(intro w_ hw_; go_simp; try with_reducible rfl)
  simp only [sL]
  refine wpH_t 13 ?_ rfl rfl (by kernel_rfl) (fun _ _ _ h => h) rfl ?_ hSk0 ?_
  rotate_left
  ·(intro w_ hw_; obtain ⟨q1, q2, q3⟩ := hw_; go_simp; try with_reducible rfl)
  simp only [sL]
  refine wpH_t 15 ?_ rfl rfl (by kernel_rfl) (fun _ _ _ h => h) rfl ?_ hSk0 ?_
  rotate_left
  ·(intro w_ hw_; go_simp; try with_reducible rfl)
  simp only [sL]
  refine wpH_call (i := 5) (by kernel_rfl) rfl rfl (by rfl) (Size_any (HD.out.grew HV0.out.1)) (by go_simp) (fun u1 hR => ?_)
  have hSk1 : (fun v => v.cell? ⟨G, 0, none⟩ = some (.pointer (some ⟨b, 0, none⟩)) ∧ v.cell? ⟨G, 3, none⟩ = some (.int .i64 L.epoch) ∧ v.cell? ⟨G, 4, none⟩ = some (.int .i64 L.next)) u1 := by subst hR; exact hSk0
  clear hSk0
  refine ⟨hSk1, ?_⟩
  simp only [sL]
  have HU1 : Hid (Below w1.heap.size w1 u1 ∧ Own u1 w1.heap.size v9 (leb p 8 ++ [0] ++ l)) := Lib.hid (by subst hR; exact HV0.out)
  clear hR HV0
  refine wpH_call (i := 14) (by kernel_rfl) rfl rfl (by rfl) (mark_any L.epoch L.next HME.out.1 HME.out.2 u1) (by go_simp) (fun u2 hR => ?_)
  have hSk2 : (fun v => v.cell? ⟨G, 0, none⟩ = some (.pointer (some ⟨b, 0, none⟩)) ∧ v.cell? ⟨G, 3, none⟩ = some (.int .i64 L.epoch) ∧ v.cell? ⟨G, 4, none⟩ = some (.int .i64 L.next)) u2 := by subst hR; exact hSk1
  clear hSk1
  refine ⟨hSk2, ?_⟩
  simp only [sL]
  have HU2 : Hid (Below w1.heap.size w1 u2 ∧ Own u2 w1.heap.size v9 (leb p 8 ++ [0] ++ l)) := Lib.hid (by subst hR; exact HU1.out)
  clear hR HU1
  refine wpH_callv (i := 16) (by kernel_rfl) rfl rfl (by rfl) ((build_own (m := L.epoch * 2097152 + L.next + 1) D.size HU2.out.2 HSZ.out.1 HSZ.out.2 HMK.out.1 HMK.out.2 (by have := HLN.out; simp [leb]; omega))) (by go_simp) ?_
  rintro v10 u3 ⟨p9, c9, rfl, hb9, hbe⟩
  have hSk3 : (fun v => v.cell? ⟨G, 0, none⟩ = some (.pointer (some ⟨b, 0, none⟩)) ∧ v.cell? ⟨G, 3, none⟩ = some (.int .i64 L.epoch) ∧ v.cell? ⟨G, 4, none⟩ = some (.int .i64 L.next)) u3 := HC3.out _ (HU2.out.1.trans (hbe.mono HU2.out.1.size))
  clear hSk2
  refine ⟨hSk3, ?_⟩
  simp only [sL]
  have HU3 : Hid (Below w1.heap.size w1 u3 ∧ Byt u3 (.slice (some p9) D.size c9) (secOf D.size L p false l)) := Lib.hid ⟨HU2.out.1.trans (hbe.mono HU2.out.1.size), hb9⟩
  clear hb9 hbe HU2
  refine wpH_t 17 ?_ rfl rfl (by kernel_rfl) (fun _ _ _ h => h) rfl ?_ hSk3 ?_
  rotate_left
  ·(intro w_ hw_; go_simp; try with_reducible rfl)
  simp only [sL]
  refine wpH_t 18 ?_ rfl rfl (by kernel_rfl) (fun _ _ _ h => h) rfl ?_ hSk3 ?_
  rotate_left
  ·(intro w_ hw_; go_simp; try with_reducible rfl)
  simp only [sL]
  refine wpH_t 19 ?_ rfl rfl (by kernel_rfl) (fun _ _ _ h => h) rfl ?_ hSk3 ?_
  rotate_left
  ·(intro w_ hw_; go_simp; try with_reducible rfl)
  simp only [sL]
  refine wpH_t 20 ?_ rfl rfl (by kernel_rfl) (fun _ _ _ h => h) rfl ?_ hSk3 ?_
  rotate_left
  ·(intro w_ hw_; go_simp; try with_reducible rfl)
  simp only [sL]
  refine wpH_t 21 ?_ rfl rfl (by kernel_rfl) (fun _ _ _ h => h) rfl ?_ hSk3 ?_
  rotate_left
  ·(intro w_ hw_; go_simp; try with_reducible rfl)
  simp only [sL]
  clear hSk3
  refine wpAnyH_done (by kernel_rfl) ?_ _
  go_wp2_with fail
  refine wp_region_H (fun v => v.cell? ⟨G, 1, none⟩ = some (.int .i64 L.first) ∧ v.cell? ⟨G, 4, none⟩ = some (.int .i64 L.next)) (by kernel_rfl) (fun t0 ht0 => ?_)
  have hSm0 : (fun v => v.cell? ⟨G, 1, none⟩ = some (.int .i64 L.first) ∧ v.cell? ⟨G, 4, none⟩ = some (.int .i64 L.next)) t0 := by subst ht0; exact HC4.out _ (HU3.out.1.trans ((Below.refl _ _).drew.mono HU3.out.1.size))
  have HT0 : Hid (Below w1.heap.size w1 t0 ∧ Byt t0 (.slice (some p9) D.size c9) (secOf D.size L p false l)) := Lib.hid (by subst ht0; exact ⟨HU3.out.1.trans ((Below.refl _ _).drew.mono HU3.out.1.size), HU3.out.2.grew (Below.refl _ _).drew⟩)
  clear ht0 HU3
  refine wpH_t 0 ?_ rfl rfl (by kernel_rfl) (fun _ _ _ h => h) rfl ?_ hSm0 ?_
  rotate_left
  ·(intro w_ hw_; go_simp; try with_reducible rfl)
  simp only [sL]
  refine wpH_t 1 ?_ rfl rfl (by kernel_rfl) (fun _ _ _ h => h) rfl ?_ hSm0 ?_
  rotate_left
  ·(intro w_ hw_; obtain ⟨q1, q2⟩ := hw_; go_simp; try with_reducible rfl)
  simp only [sL]
  refine wpH_t 2 ?_ rfl rfl (by kernel_rfl) (fun _ _ _ h => h) rfl ?_ hSm0 ?_
  rotate_left
  ·(intro w_ hw_; go_simp; try with_reducible rfl)
  simp only [sL]
  refine wpH_t 3 ?_ rfl rfl (by kernel_rfl) (fun _ _ _ h => h) rfl ?_ hSm0 ?_
  rotate_left
  ·(intro w_ hw_; go_simp; try with_reducible rfl)
  simp only [sL]
  refine wpH_t 4 ?_ rfl rfl (by kernel_rfl) (fun _ _ _ h => h) rfl ?_ hSm0 ?_
  rotate_left
  ·(intro w_ hw_; obtain ⟨q1, q2⟩ := hw_; go_simp; try with_reducible rfl)
  simp only [sL]
  refine wpH_t 5 ?_ rfl rfl (by kernel_rfl) (fun _ _ _ h => h) rfl ?_ hSm0 ?_
  rotate_left
  ·(intro w_ hw_; go_simp; try with_reducible rfl)
  simp only [sL]
  refine wpH_t 6 ?_ rfl rfl (by kernel_rfl) (fun _ _ _ h => h) rfl ?_ hSm0 ?_
  rotate_left
  ·(intro w_ hw_; obtain ⟨q1, q2⟩ := hw_; go_simp; try with_reducible rfl)
  simp only [sL]
  refine wpH_t 7 ?_ rfl rfl (by kernel_rfl) (fun _ _ _ h => h) rfl ?_ hSm0 ?_
  rotate_left
  ·(intro w_ hw_; go_simp; try with_reducible rfl)
  simp only [sL]
  refine wpH_t 8 ?_ rfl rfl (by kernel_rfl) (fun _ _ _ h => h) rfl ?_ hSm0 ?_
  rotate_left
  ·(intro w_ hw_; obtain ⟨q1, q2⟩ := hw_; go_simp; try with_reducible rfl)
  simp only [sL]
  refine wpH_t 9 ?_ rfl rfl (by kernel_rfl) (fun _ _ _ h => h) rfl ?_ hSm0 ?_
  rotate_left
  ·(intro w_ hw_; go_simp; try with_reducible rfl)
  simp only [sL]
  refine wpH_t 10 ?_ rfl rfl (by kernel_rfl) (fun _ _ _ h => h) rfl ?_ hSm0 ?_
  rotate_left
  ·(intro w_ hw_; go_simp; try with_reducible rfl)
  simp only [sL]
  clear hSm0
  refine wpAnyH_done (by kernel_rfl) ?_ _
  have hl := (HLG.out.grew HT0.out.1)
  have hl0 := hl.cell 0
  have hl1 := hl.cell 4
  have hl2 := hl.free 4
  have HS := Lib.hid (log_next hl (HD.out.grew HT0.out.1) HT0.out.2)
  have hwr : IntKind.i64.wrap ((L.first : Int) + L.next) = (L.first : Int) + L.next := by have := HOK.out.f; have := HOK.out.c; have := HOK.out.n; rw [IntKind.wrap_i64]; omega
  rw [hwr]
  have hb20 : (L.next : Int) ≤ 1048576 := by have := HOK.out.c; have := HOK.out.n; omega
  clear hl hwr
  have HW := Lib.hid (Write_any ((L.first : Int) + L.next) p9 c9 D.size _ b m vl D _ HS.out.1 HS.out.2.2.1 HS.out.2.2.1.len_val HLO.out)
  go_wp2_with fail
  refine HW.out.mono ?_
  rintro e w9 ⟨rfl, vl', hd9, ht9, hg9⟩
  have HF := Lib.hid (put_end (grow HB01.out HT0.out.1) HS.out hd9 ht9 hg9)
  clear hd9 ht9 hg9 HW hl0 hl1 hl2
  go_wp2
  go_ret
  exact ⟨rfl, vl', HF.out⟩
 ·go_enter Tryz.func94, Tryz.ntmps94
  go_wp2_with fail
  rw [← hw1, ← hX]
  clear hw1 hX
  refine HA.out.mono ?_
  rintro e w2 ⟨v7, rfl, ho2, hb2⟩
  rw [List.nil_append, lebZ_nat] at ho2
  have HB2 : Hid (Below w1.heap.size w1 w2 ∧ Own w2 w1.heap.size v7 (leb p 8)) := Lib.hid ⟨hb2, ho2⟩
  clear ho2 hb2 HA c0
  go_wp2_with fail
  refine wp_region_H (fun v => v.cell? ⟨X, 1, none⟩ = some (.slice (some A) n c)) (by kernel_rfl) (fun v0 hv0 => ?_)
  have hS0 : (fun v => v.cell? ⟨X, 1, none⟩ = some (.slice (some A) n c)) v0 := by subst hv0; exact ((HX.out.grew HB2.out.1).drew).cell 1
  have HV0 : Hid (Below w1.heap.size w1 v0 ∧ Own v0 w1.heap.size v7 (leb p 8)) := Lib.hid (by subst hv0; exact ⟨HB2.out.1.trans ((Below.refl _ _).drew.mono HB2.out.1.size), HB2.out.2.below (Below.refl _ _).drew⟩)
  clear hv0 HB2
  refine wpH_t 0 ?_ rfl rfl (by kernel_rfl) (fun _ _ _ h => h) rfl ?_ hS0 ?_
  rotate_left
  ·(intro w_ hw_; go_simp; try with_reducible rfl)
  simp only [sL]
  refine wpH_t 1 ?_ rfl rfl (by kernel_rfl) (fun _ _ _ h => h) rfl ?_ hS0 ?_
  rotate_left
  ·(intro w_ hw_; go_simp; try with_reducible rfl)
  simp only [sL]
  refine wpH_t 4 ?_ rfl rfl (by kernel_rfl) (fun _ _ _ h => h) rfl ?_ hS0 ?_
  rotate_left
  ·(intro w_ hw_; go_simp; try with_reducible rfl)
  simp only [sL]
  refine wpH_t 5 ?_ rfl rfl (by kernel_rfl) (fun _ _ _ h => h) rfl ?_ hS0 ?_
  rotate_left
  ·(intro w_ hw_; have q1 := hw_; go_simp; try with_reducible rfl)
  simp only [sL]
  obtain ⟨g_, hg_⟩ : ∃ g_, g_ = v0.heap.size := ⟨_, rfl⟩
  obtain ⟨v1, hv1⟩ : ∃ v1, v1 = v0.alloc (.cells #[.int .u8 1] 5) := ⟨_, rfl⟩
  have hg1 : Below v0.heap.size v0 v1 := by subst hv1; exact (Below.refl _ _).alloc (Nat.le_refl _) _
  have HV1 : Hid (Below w1.heap.size w1 v1 ∧ Own v1 w1.heap.size v7 (leb p 8) ∧ Blk v1 g_ #[.int .u8 1] 5) := Lib.hid ⟨HV0.out.1.trans (hg1.mono HV0.out.1.size), HV0.out.2.below hg1, by subst hv1; subst hg_; exact Blk.new _ _ _⟩
  have hS1 : (fun v => v.cell? ⟨X, 1, none⟩ = some (.slice (some A) n c)) v1 := (HX.out.grew HV1.out.1).cell 1
  clear hS0
  refine wpH_run (i := 2) (v := (.slice (some ⟨g_, 0, none⟩) 1 1)) (w' := v1) (by kernel_rfl) rfl rfl (by rfl) (by subst hv1; subst hg_; go_simp) hS1 ?_
  simp only [sL]
  clear HV0 hg1 hv1 hg_ v0
  obtain ⟨v8, v3, happ, ho8, hb8⟩ := run_app 31 HV1.out.2.1 v1.heap.size (some ⟨g_, 0, none⟩) 1 [1] (rd_one HV1.out.2.2 (by omega)) HV1.out.1.size (by simp [leb])
  have HV3 : Hid (Below w1.heap.size w1 v3 ∧ Own v3 w1.heap.size v8 (leb p 8 ++ [1])) := Lib.hid ⟨HV1.out.1.trans hb8, ho8⟩
  clear ho8
  have hS2 : (fun v => v.cell? ⟨X, 1, none⟩ = some (.slice (some A) n c)) v3 := (HX.out.grew HV3.out.1).cell 1
  clear hS1
  refine wpH_run (i := 3) (v := v8) (w' := v3) (by kernel_rfl) rfl rfl (by rfl) (by exact exec_append (.tmp 17) (.tmp 19) 31 31 rfl rfl rfl happ) hS2 ?_
  simp only [sL]
  clear happ hb8 HV1 v1
  have happ := run_app 31 HV3.out.2 v3.heap.size (some A) c l (HBY.out.grew HV3.out.1).rdv HV3.out.1.size (by have := HLN.out; have := HSZ.out; simp [leb]; omega)
  rw [HLN.out.1] at happ
  obtain ⟨v9, v6, happ, ho9, hb9⟩ := happ
  have HV6 : Hid (Below w1.heap.size w1 v6 ∧ Own v6 w1.heap.size v9 (leb p 8 ++ [1] ++ l)) := Lib.hid ⟨HV3.out.1.trans hb9, ho9⟩
  clear ho9
  have hS3 : (fun v => v.cell? ⟨X, 1, none⟩ = some (.slice (some A) n c)) v6 := (HX.out.grew HV6.out.1).cell 1
  clear hS2
  refine wpH_run (i := 6) (v := v9) (w' := v6) (by kernel_rfl) rfl rfl (by rfl) (by exact exec_append (.tmp 20) (.tmp 22) 31 31 rfl rfl rfl happ) hS3 ?_
  simp only [sL]
  clear happ hb9 HV3 v3
  refine wpH_t 7 ?_ rfl rfl (by kernel_rfl) (fun _ _ _ h => h) rfl ?_ hS3 ?_
  rotate_left
  ·(intro w_ hw_; go_simp; try with_reducible rfl)
  simp only [sL]
  clear hS3
  refine wpAnyH_done (by kernel_rfl) ?_ _
  go_wp2_with fail
  refine wp_region_H (fun v => v.cell? ⟨G, 0, none⟩ = some (.pointer (some ⟨b, 0, none⟩)) ∧ v.cell? ⟨G, 3, none⟩ = some (.int .i64 L.epoch) ∧ v.cell? ⟨G, 4, none⟩ = some (.int .i64 L.next)) (by kernel_rfl) (fun v0 hv0 => ?_)
  have hSk0 : (fun v => v.cell? ⟨G, 0, none⟩ = some (.pointer (some ⟨b, 0, none⟩)) ∧ v.cell? ⟨G, 3, none⟩ = some (.int .i64 L.epoch) ∧ v.cell? ⟨G, 4, none⟩ = some (.int .i64 L.next)) v0 := by subst hv0; exact HC3.out _ (HV6.out.1.trans ((Below.refl _ _).drew.mono HV6.out.1.size))
  have HV0 : Hid (Below w1.heap.size w1 v0 ∧ Own v0 w1.heap.size v9 (leb p 8 ++ [1] ++ l)) := Lib.hid (by subst hv0; exact ⟨HV6.out.1.trans ((Below.refl _ _).drew.mono HV6.out.1.size), HV6.out.2.below (Below.refl _ _).drew⟩)
  clear hv0 HV6
  refine wpH_t 0 ?_ rfl rfl (by kernel_rfl) (fun _ _ _ h => h) rfl ?_ hSk0 ?_
  rotate_left
  ·(intro w_ hw_; go_simp; try with_reducible rfl)
  simp only [sL]
  refine wpH_t 1 ?_ rfl rfl (by kernel_rfl) (fun _ _ _ h => h) rfl ?_ hSk0 ?_
  rotate_left
  ·(intro w_ hw_; obtain ⟨q1, q2, q3⟩ := hw_; go_simp; try with_reducible rfl)
  simp only [sL]
  refine wpH_t 2 ?_ rfl rfl (by kernel_rfl) (fun _ _ _ h => h) rfl ?_ hSk0 ?_
  rotate_left
  ·(intro w_ hw_; go_simp; try with_reducible rfl)
  simp only [sL]
  refine wpH_t 3 ?_ rfl rfl (by kernel_rfl) (fun _ _ _ h => h) rfl ?_ hSk0 ?_
  rotate_left
  ·(intro w_ hw_; go_simp; try with_reducible rfl)
  simp only [sL]
  refine wpH_t 4 ?_ rfl rfl (by kernel_rfl) (fun _ _ _ h => h) rfl ?_ hSk0 ?_
  rotate_left
  ·(intro w_ hw_; obtain ⟨q1, q2, q3⟩ := hw_; go_simp; try with_reducible rfl)
  simp only [sL]
  refine wpH_t 6 ?_ rfl rfl (by kernel_rfl) (fun _ _ _ h => h) rfl ?_ hSk0 ?_
  rotate_left
  ·(intro w_ hw_; go_simp; try with_reducible rfl)
  simp only [sL]
  refine wpH_t 7 ?_ rfl rfl (by kernel_rfl) (fun _ _ _ h => h) rfl ?_ hSk0 ?_
  rotate_left
  ·(intro w_ hw_; obtain ⟨q1, q2, q3⟩ := hw_; go_simp; try with_reducible rfl)
  simp only [sL]
  refine wpH_t 8 ?_ rfl rfl (by kernel_rfl) (fun _ _ _ h => h) rfl ?_ hSk0 ?_
  rotate_left
  ·(intro w_ hw_; go_simp; try with_reducible rfl)
  simp only [sL]
  refine wpH_t 9 ?_ rfl rfl (by kernel_rfl) (fun _ _ _ h => h) rfl ?_ hSk0 ?_
  rotate_left
  ·(intro w_ hw_; obtain ⟨q1, q2, q3⟩ := hw_; go_simp; try with_reducible rfl)
  simp only [sL]
  refine wpH_t 10 ?_ rfl rfl (by kernel_rfl) (fun _ _ _ h => h) rfl ?_ hSk0 ?_
  rotate_left
  ·(intro w_ hw_; go_simp; try with_reducible rfl)
  simp only [sL]
  refine wpH_t 11 ?_ rfl rfl (by kernel_rfl) (fun _ _ _ h => h) rfl ?_ hSk0 ?_
  rotate_left
  ·(intro w_ hw_; obtain ⟨q1, q2, q3⟩ := hw_; go_simp; try with_reducible rfl)
  simp only [sL]
  refine wpH_t 12 ?_ rfl rfl (by kernel_rfl) (fun _ _ _ h => h) rfl ?_ hSk0 ?_
  rotate_left
  ·(intro w_ hw_; go_simp; try with_reducible rfl)
  simp only [sL]
  refine wpH_t 13 ?_ rfl rfl (by kernel_rfl) (fun _ _ _ h => h) rfl ?_ hSk0 ?_
  rotate_left
  ·(intro w_ hw_; obtain ⟨q1, q2, q3⟩ := hw_; go_simp; try with_reducible rfl)
  simp only [sL]
  refine wpH_t 15 ?_ rfl rfl (by kernel_rfl) (fun _ _ _ h => h) rfl ?_ hSk0 ?_
  rotate_left
  ·(intro w_ hw_; go_simp; try with_reducible rfl)
  simp only [sL]
  refine wpH_call (i := 5) (by kernel_rfl) rfl rfl (by rfl) (Size_any (HD.out.grew HV0.out.1)) (by go_simp) (fun u1 hR => ?_)
  have hSk1 : (fun v => v.cell? ⟨G, 0, none⟩ = some (.pointer (some ⟨b, 0, none⟩)) ∧ v.cell? ⟨G, 3, none⟩ = some (.int .i64 L.epoch) ∧ v.cell? ⟨G, 4, none⟩ = some (.int .i64 L.next)) u1 := by subst hR; exact hSk0
  clear hSk0
  refine ⟨hSk1, ?_⟩
  simp only [sL]
  have HU1 : Hid (Below w1.heap.size w1 u1 ∧ Own u1 w1.heap.size v9 (leb p 8 ++ [1] ++ l)) := Lib.hid (by subst hR; exact HV0.out)
  clear hR HV0
  refine wpH_call (i := 14) (by kernel_rfl) rfl rfl (by rfl) (mark_any L.epoch L.next HME.out.1 HME.out.2 u1) (by go_simp) (fun u2 hR => ?_)
  have hSk2 : (fun v => v.cell? ⟨G, 0, none⟩ = some (.pointer (some ⟨b, 0, none⟩)) ∧ v.cell? ⟨G, 3, none⟩ = some (.int .i64 L.epoch) ∧ v.cell? ⟨G, 4, none⟩ = some (.int .i64 L.next)) u2 := by subst hR; exact hSk1
  clear hSk1
  refine ⟨hSk2, ?_⟩
  simp only [sL]
  have HU2 : Hid (Below w1.heap.size w1 u2 ∧ Own u2 w1.heap.size v9 (leb p 8 ++ [1] ++ l)) := Lib.hid (by subst hR; exact HU1.out)
  clear hR HU1
  refine wpH_callv (i := 16) (by kernel_rfl) rfl rfl (by rfl) ((build_own (m := L.epoch * 2097152 + L.next + 1) D.size HU2.out.2 HSZ.out.1 HSZ.out.2 HMK.out.1 HMK.out.2 (by have := HLN.out; simp [leb]; omega))) (by go_simp) ?_
  rintro v10 u3 ⟨p9, c9, rfl, hb9, hbe⟩
  have hSk3 : (fun v => v.cell? ⟨G, 0, none⟩ = some (.pointer (some ⟨b, 0, none⟩)) ∧ v.cell? ⟨G, 3, none⟩ = some (.int .i64 L.epoch) ∧ v.cell? ⟨G, 4, none⟩ = some (.int .i64 L.next)) u3 := HC3.out _ (HU2.out.1.trans (hbe.mono HU2.out.1.size))
  clear hSk2
  refine ⟨hSk3, ?_⟩
  simp only [sL]
  have HU3 : Hid (Below w1.heap.size w1 u3 ∧ Byt u3 (.slice (some p9) D.size c9) (secOf D.size L p true l)) := Lib.hid ⟨HU2.out.1.trans (hbe.mono HU2.out.1.size), hb9⟩
  clear hb9 hbe HU2
  refine wpH_t 17 ?_ rfl rfl (by kernel_rfl) (fun _ _ _ h => h) rfl ?_ hSk3 ?_
  rotate_left
  ·(intro w_ hw_; go_simp; try with_reducible rfl)
  simp only [sL]
  refine wpH_t 18 ?_ rfl rfl (by kernel_rfl) (fun _ _ _ h => h) rfl ?_ hSk3 ?_
  rotate_left
  ·(intro w_ hw_; go_simp; try with_reducible rfl)
  simp only [sL]
  refine wpH_t 19 ?_ rfl rfl (by kernel_rfl) (fun _ _ _ h => h) rfl ?_ hSk3 ?_
  rotate_left
  ·(intro w_ hw_; go_simp; try with_reducible rfl)
  simp only [sL]
  refine wpH_t 20 ?_ rfl rfl (by kernel_rfl) (fun _ _ _ h => h) rfl ?_ hSk3 ?_
  rotate_left
  ·(intro w_ hw_; go_simp; try with_reducible rfl)
  simp only [sL]
  refine wpH_t 21 ?_ rfl rfl (by kernel_rfl) (fun _ _ _ h => h) rfl ?_ hSk3 ?_
  rotate_left
  ·(intro w_ hw_; go_simp; try with_reducible rfl)
  simp only [sL]
  clear hSk3
  refine wpAnyH_done (by kernel_rfl) ?_ _
  go_wp2_with fail
  refine wp_region_H (fun v => v.cell? ⟨G, 1, none⟩ = some (.int .i64 L.first) ∧ v.cell? ⟨G, 4, none⟩ = some (.int .i64 L.next)) (by kernel_rfl) (fun t0 ht0 => ?_)
  have hSm0 : (fun v => v.cell? ⟨G, 1, none⟩ = some (.int .i64 L.first) ∧ v.cell? ⟨G, 4, none⟩ = some (.int .i64 L.next)) t0 := by subst ht0; exact HC4.out _ (HU3.out.1.trans ((Below.refl _ _).drew.mono HU3.out.1.size))
  have HT0 : Hid (Below w1.heap.size w1 t0 ∧ Byt t0 (.slice (some p9) D.size c9) (secOf D.size L p true l)) := Lib.hid (by subst ht0; exact ⟨HU3.out.1.trans ((Below.refl _ _).drew.mono HU3.out.1.size), HU3.out.2.grew (Below.refl _ _).drew⟩)
  clear ht0 HU3
  refine wpH_t 0 ?_ rfl rfl (by kernel_rfl) (fun _ _ _ h => h) rfl ?_ hSm0 ?_
  rotate_left
  ·(intro w_ hw_; go_simp; try with_reducible rfl)
  simp only [sL]
  refine wpH_t 1 ?_ rfl rfl (by kernel_rfl) (fun _ _ _ h => h) rfl ?_ hSm0 ?_
  rotate_left
  ·(intro w_ hw_; obtain ⟨q1, q2⟩ := hw_; go_simp; try with_reducible rfl)
  simp only [sL]
  refine wpH_t 2 ?_ rfl rfl (by kernel_rfl) (fun _ _ _ h => h) rfl ?_ hSm0 ?_
  rotate_left
  ·(intro w_ hw_; go_simp; try with_reducible rfl)
  simp only [sL]
  refine wpH_t 3 ?_ rfl rfl (by kernel_rfl) (fun _ _ _ h => h) rfl ?_ hSm0 ?_
  rotate_left
  ·(intro w_ hw_; go_simp; try with_reducible rfl)
  simp only [sL]
  refine wpH_t 4 ?_ rfl rfl (by kernel_rfl) (fun _ _ _ h => h) rfl ?_ hSm0 ?_
  rotate_left
  ·(intro w_ hw_; obtain ⟨q1, q2⟩ := hw_; go_simp; try with_reducible rfl)
  simp only [sL]
  refine wpH_t 5 ?_ rfl rfl (by kernel_rfl) (fun _ _ _ h => h) rfl ?_ hSm0 ?_
  rotate_left
  ·(intro w_ hw_; go_simp; try with_reducible rfl)
  simp only [sL]
  refine wpH_t 6 ?_ rfl rfl (by kernel_rfl) (fun _ _ _ h => h) rfl ?_ hSm0 ?_
  rotate_left
  ·(intro w_ hw_; obtain ⟨q1, q2⟩ := hw_; go_simp; try with_reducible rfl)
  simp only [sL]
  refine wpH_t 7 ?_ rfl rfl (by kernel_rfl) (fun _ _ _ h => h) rfl ?_ hSm0 ?_
  rotate_left
  ·(intro w_ hw_; go_simp; try with_reducible rfl)
  simp only [sL]
  refine wpH_t 8 ?_ rfl rfl (by kernel_rfl) (fun _ _ _ h => h) rfl ?_ hSm0 ?_
  rotate_left
  ·(intro w_ hw_; obtain ⟨q1, q2⟩ := hw_; go_simp; try with_reducible rfl)
  simp only [sL]
  refine wpH_t 9 ?_ rfl rfl (by kernel_rfl) (fun _ _ _ h => h) rfl ?_ hSm0 ?_
  rotate_left
  ·(intro w_ hw_; go_simp; try with_reducible rfl)
  simp only [sL]
  refine wpH_t 10 ?_ rfl rfl (by kernel_rfl) (fun _ _ _ h => h) rfl ?_ hSm0 ?_
  rotate_left
  ·(intro w_ hw_; go_simp; try with_reducible rfl)
  simp only [sL]
  clear hSm0
  refine wpAnyH_done (by kernel_rfl) ?_ _
  have hl := (HLG.out.grew HT0.out.1)
  have hl0 := hl.cell 0
  have hl1 := hl.cell 4
  have hl2 := hl.free 4
  have HS := Lib.hid (log_next hl (HD.out.grew HT0.out.1) HT0.out.2)
  have hwr : IntKind.i64.wrap ((L.first : Int) + L.next) = (L.first : Int) + L.next := by have := HOK.out.f; have := HOK.out.c; have := HOK.out.n; rw [IntKind.wrap_i64]; omega
  rw [hwr]
  have hb20 : (L.next : Int) ≤ 1048576 := by have := HOK.out.c; have := HOK.out.n; omega
  clear hl hwr
  have HW := Lib.hid (Write_any ((L.first : Int) + L.next) p9 c9 D.size _ b m vl D _ HS.out.1 HS.out.2.2.1 HS.out.2.2.1.len_val HLO.out)
  go_wp2_with fail
  refine HW.out.mono ?_
  rintro e w9 ⟨rfl, vl', hd9, ht9, hg9⟩
  have HF := Lib.hid (put_end (grow HB01.out HT0.out.1) HS.out hd9 ht9 hg9)
  clear hd9 ht9 hg9 HW hl0 hl1 hl2
  go_wp2
  go_ret
  exact ⟨rfl, vl', HF.out⟩
end Go.Proofs.YtklppnknllbfnaaGreat
