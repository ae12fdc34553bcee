/- Walks: PoolPlays. Printed by mk_rj.py. -/
import Derived.Test.YtklppnknllbfnaaGreatRi
namespace Go.Proofs.YtklppnknllbfnaaGreat
open Go.RowKit Go.Maps
set_option maxRecDepth 8000
set_option linter.unusedSimpArgs false
theorem stands_qw {ι : Type} [Bar ι] (w0 : World) (L : List Bx) (M : Mem) (S : Pl) (D : Dsk) (m : Rm) (R : Rp) : Stands fun v => Qw w0 v L M S D m R := fun _ _ k h => h.grew k
theorem int_tup {f : FuncId} {args : Array Value} {v : World} {n : Int} {P : World → Prop} (h : Calls Tryz.prog f args v fun e w' => e = .returned (.int .i64 n) ∧ P w') : Calls Tryz.prog f args v fun e w' => ∃ u, e = .returned u ∧ u = .int .i64 n ∧ P w' :=
  h.mono fun _ _ ⟨h1, h2⟩ => ⟨_, h1, rfl, h2⟩
theorem stands_rd (A : Option Addr) (l : List Nat) : Stands fun v => Rd v v.heap.size A l := fun _ _ k h => h.below k k.size
theorem Qw.setrow {ι : Type} [Bar ι] {w0 v : World} {L : List Bx} {M : Mem} {S : Pl} {D : Dsk} {m : Rm} {R : Rp} (h : Qw w0 v L M S D m R) {i : Nat} {e : Bx} (hi : L[i]? = some e) (cs : Array Value) (ht : e.t ≠ 3 ∧ e.t ≠ 5 ∧ e.t ≠ 9) : Qw w0 (v.setRow e.b (splice e.c 0 cs)) (L.set i { e with c := splice e.c 0 cs }) M S D m R := by
  have hs := setRow_turn v e.b (splice e.c 0 cs) (h.bx.at_ hi)
  exact h.setb hi hs.1 hs.2 ht.1 ht.2.1 ht.2.2
set_option maxHeartbeats 16000000 in
theorem Plays_any (mo : Nat) (A : Option Addr) (l : List ActP) (n c : Nat) (w : World) (hmo : (mo : Int) ≤ 255) (hn : l.length = n) (hac : Acts w w.heap.size A l) :
    Calls Tryz.prog 5 #[.int .u8 mo, .slice A n c] w fun e w' => e = .returned (.bool true) ∧ Below w.heap.size w w' := by
  by_cases hbig : (40 : Int) < n
  · clear hn hac hmo
    go_enter Tryz.func5, Tryz.ntmps5
    go_wp2
    go_ret
    exact ⟨rfl, Below.refl _ _⟩
  obtain ⟨s, hs⟩ : ∃ s, s = 24 + mo % 33 := ⟨_, rfl⟩
  have e1 : IntKind.i64.wrap ((mo : Int).tmod 33) = ((mo % 33 : Nat) : Int) := by rw [Int.tmod_eq_emod_of_nonneg (by omega), IntKind.wrap_i64]; omega
  have e2 : IntKind.i64.wrap (24 + ((mo % 33 : Nat) : Int)) = (s : Int) := by rw [IntKind.wrap_i64]; omega
  have hs1 : 24 ≤ s ∧ s ≤ 56 := by omega
  have HES : Hid ((24 : Int) + (mo : Int) % 33 = (s : Int)) := Lib.hid (by omega)
  have hcl : Cln (Dsk.new s 512) 0 := Cln.new (by omega) (by omega) (by decide) (by decide)
  have hcalm : Calm (Dsk.new s 512) := ⟨rfl, rfl⟩
  obtain ⟨b1, b2, b3, b4, b5, _⟩ := formed_is hcl hcalm (by decide)
  obtain ⟨D, hD⟩ : ∃ D, D = formed (Dsk.new s 512) := ⟨_, rfl⟩
  rw [← hD] at b1 b3 b4 b5
  have b4 : D.sectors = s := b4
  have b5 : D.size = 512 := b5
  have HD := Lib.hid (And.intro hD (And.intro b1 (And.intro b3 (And.intro b4 b5))))
  have HCL := Lib.hid (And.intro hcl hcalm)
  have hsb : (1 : Int) ≤ s ∧ (s : Int) ≤ 1048576 := by omega
  have hne := New_dk w s 512 (fun _ _ => trivial) (Below.refl _ _) hsb.1 hsb.2 (by decide) (by decide)
  rw [show ((512 : Nat) : Int) = 512 from rfl] at hne
  have HNE := Lib.hid hne
  have HS1 := Lib.hid hs1
  have hm0 : (0 : Int) ≤ mo := by omega
  have HN := Lib.hid hn
  have HAC := Lib.hid hac
  have hn40 : (n : Int) ≤ 40 := by omega
  clear hs hs1 hcl hcalm b1 b2 b3 b4 b5 hD hsb hne hn hac
  go_enter Tryz.func5, Tryz.ntmps5
  go_wp2_with fail
  rw [HES.out]
  refine HNE.out.mono ?_
  rintro e w1 ⟨b, md, rfl, hk, -⟩
  have HK := Lib.hid hk
  clear hk HNE e1 e2 hmo hm0
  go_wp2_with fail
  refine (Format_lp HK.out HCL.out.1 HCL.out.2 (by decide)).mono ?_
  rintro e w2 ⟨M, rfl, hk, _, hbb, _⟩
  have hk : Lp w w2 M ((Pl.laid (Dsk.new s 512) 0).begun 1) (formed (Dsk.new s 512)) := hk
  rw [← HD.out.1] at hk
  obtain ⟨S0, hS0⟩ : ∃ S0, S0 = (Pl.laid D 0).begun 1 := ⟨_, rfl⟩
  have hS0' : S0 = (Pl.laid (Dsk.new s 512) 0).begun 1 := by
    rw [hS0]
    unfold Pl.laid
    rw [HD.out.2.2.2.1]
    rfl
  rw [← hS0'] at hk
  have HLK := Lib.hid (Like.new HD.out.2.2.1 (by rw [HD.out.2.2.2.2]; decide) 1 S0 hS0)
  have HEP := Lib.hid (show S0.epoch = 1 by rw [hS0]; rfl)
  have HL0 := Lib.hid hk
  have HBB := Lib.hid hbb
  clear hk hbb hS0 hS0' HK HCL
  go_wp2_with fail
  have hnr := New_ref s 512 (by have := HS1.out; omega) (by have := HS1.out; omega) (by decide) (by decide) w2
  rw [show ((512 : Nat) : Int) = 512 from rfl] at hnr
  refine hnr.mono ?_
  rintro e w3 ⟨m, rfl, hr, hf, hb3⟩
  have HQ := Lib.hid (show Qw w w3 [] M S0 D m (Rp.new s 512) from ⟨Bxs.base (HL0.out.grew hb3).low, HL0.out.grew hb3, hr, fun g hg hm => by have := hf g hg; have := HL0.out.pool.lt g hm; omega, by simp⟩)
  obtain ⟨A1, c1, A2, c2, A3, c3, A4, c4, A5, c5, rfl⟩ := hr.shape
  clear hnr hr hf hb3 HL0
  go_wp2_with (rw [wpl_id]; first
    | (refine wplq_new HQ _ rfl (by first | exact .inl rfl | exact .inr ⟨_, _, _, _, rfl, rfl, rfl, rfl⟩) Tryz.zeroValue48 (cs := z48) rfl (fun b9 w' H2 => ?_); clear HQ; have HQ := H2; clear H2)
    | (refine wplq_sta HQ 0 rfl rfl _ _ _ rfl (by first | exact .inl rfl | exact .inr ⟨_, _, _, _, rfl, rfl, rfl, rfl⟩) (by exact rfl) (by exact rfl) Tryz.sizeOf48 (by kernel_rfl) (by kernel_rfl) (by kernel_rfl) (by kernel_rfl) (splice_whole (n := 25) (by kernel_rfl) (by kernel_rfl)) (fun w' H2 => ?_); simp only [List.set_cons_succ, List.set_cons_zero] at H2; clear HQ; have HQ := H2; clear H2))
  have H0 := Lib.hid (Pw.mk (s := s) (b := b) (E := 1 + 0) HQ.out HD.out.2.1 (by have := HLK.out; rw [HD.out.2.2.2.1, HD.out.2.2.2.2] at this; exact this) (by rw [HEP.out]; exact Nat.le_refl _) HD.out.2.2.2.1 HD.out.2.2.2.2 HBB.out)
  clear HQ HD HLK HEP HBB
  go_loopw [7, 10] (fun pv iv wr => ∃ (j : Nat) (M1 : Mem) (S1 : Pl) (D1 : Dsk) (m1 : Rm) (R1 : Rp), j ≤ n ∧ pv = .pointer (some ⟨M1.p, 0, none⟩) ∧ iv = .int .i64 j ∧ Hid (Pw w wr b9 b s (1 + j) M1 S1 D1 m1 R1)) (fun _ iv _ => n - (intOf iv).toNat)
  case atStart => exact ⟨0, M, _, _, _, _, by omega, rfl, rfl, H0⟩
  case round =>
    clear H0
    obtain ⟨j, M1, S1, D1, m1, R1, hj, rfl, rfl, HPW⟩ := hrel
    by_cases hlt : j < n
    · have hlt' : (j : Int) < n := by omega
      have hkl : j < l.length := by rw [HN.out]; exact hlt
      obtain ⟨p, rfl, hpb, hcs⟩ := (HAC.out.below HPW.out.q.bx.low) (by intro e; rw [e] at hkl; simp at hkl)
      obtain ⟨hB, c0, c1', c2', c3'⟩ := hcs j hkl
      obtain ⟨x, hx⟩ : ∃ x, x = l[j] := ⟨_, rfl⟩
      rw [← hx] at hB c0 c1' c2' c3'
      have ad : ∀ (q : Addr) (j : Nat), j ≠ 0 → q.add j = ⟨q.block, q.off + j, none⟩ := fun q j hj => by unfold Addr.add; simp [hj]
      rw [ad _ 1 (by decide)] at c1'
      rw [ad _ 2 (by decide)] at c2'
      rw [ad _ 3 (by decide)] at c3'
      have HXB := Lib.hid hB
      obtain ⟨rows, hi⟩ := HPW.out.q.lp.inv
      have HI := Lib.hid hi
      have HSM := Lib.hid (HPW.out.like.small hi (by have := HPW.out.sec; have := HS1.out; omega))
      have HQ := Lib.hid HPW.out.q
      obtain ⟨A1, c1, A2, c2, A3, c3, A4, c4, A5, c5, rfl⟩ := HPW.out.q.rp.shape
      have hkd : kindOf x.k ≤ 8 := by unfold kindOf; omega
      have e1 : IntKind.i64.wrap (x.k.tmod 9) = x.k.tmod 9 := by
        have t1 := Int.lt_tmod_of_pos x.k (show (0 : Int) < 9 by omega)
        have t2 := Int.tmod_lt_of_pos x.k (show (0 : Int) < 9 by omega)
        rw [IntKind.wrap_i64]; omega
      have e2 : IntKind.i64.wrap (x.k.tmod 9 + 9) = x.k.tmod 9 + 9 := by
        have t1 := Int.lt_tmod_of_pos x.k (show (0 : Int) < 9 by omega)
        have t2 := Int.tmod_lt_of_pos x.k (show (0 : Int) < 9 by omega)
        rw [IntKind.wrap_i64]; omega
      have e4 : (x.k.tmod 9 + 9).tmod 9 = (kindOf x.k : Int) := by
        have h := rem_mod x.k 9 (by omega)
        exact h
      obtain ⟨kd, hkE⟩ : ∃ kd, kd = kindOf x.k := ⟨_, rfl⟩
      rw [← hkE] at hkd e4
      have hkc : kd = 0 ∨ kd = 1 ∨ kd = 2 ∨ kd = 3 ∨ kd = 4 ∨ kd = 5 ∨ kd = 6 ∨ kd = 7 ∨ kd = 8 := by omega
      clear hkd hkE hx hB hpb ad hi hcs
      rcases hkc with rfl | rfl | rfl | rfl | rfl | rfl | rfl | rfl | rfl
      · have e5 : (x.k.tmod 9 + 9).tmod 9 = 0 := by rw [e4]; rfl
        clear e4
        go_wp2_with (rw [wpl_id]; first
          | (refine wplq_new HQ _ rfl (by first | exact .inl rfl | exact .inr ⟨_, _, _, _, rfl, rfl, rfl, rfl⟩) Tryz.zeroValue39 (cs := #[.int .i64 0, .int .i64 0, .int .i64 0, .int .u8 0]) rfl (fun bx w' H2 => ?_); clear HQ; have HQ := H2; clear H2)
          | (refine wplq_sta HQ 0 rfl rfl _ _ _ rfl (by first | exact .inl rfl | exact .inr ⟨_, _, _, _, rfl, rfl, rfl, rfl⟩) (by exact rfl) (by exact rfl) Tryz.sizeOf39 (by kernel_rfl) (by kernel_rfl) (by kernel_rfl) (by kernel_rfl) (splice_whole (n := 4) (by kernel_rfl) (by kernel_rfl)) (fun w' H2 => ?_); simp only [List.set_cons_succ, List.set_cons_zero] at H2; clear HQ; have HQ := H2; clear H2)
          | (refine wpl_ld (Lib.hid HQ.out.bx) 0 rfl _ _ rfl (by first | exact .inl rfl | exact .inr ⟨_, _, _, _, rfl, rfl, rfl, rfl⟩) (by exact rfl) (notAgg _ (by decide)) rfl ?_))
        clear c0 c1' c2' c3'
        refine (Take_lp HQ.out.lp).mono ?_
        rintro e w5 ⟨M2, rfl, hh, hk2, hst⟩
        rw [← hh.p]
        have HL := Lib.hid (HPW.out.like.take HI.out)
        obtain ⟨av, hav⟩ : ∃ av, av = (S1.take D1).1 := ⟨_, rfl⟩
        obtain ⟨er, her⟩ : ∃ er, er = (S1.take D1).2.1 := ⟨_, rfl⟩
        rw [← hav, ← her]
        have HE := Lib.hid (And.intro (HL.out.1.trans hav.symm) (HL.out.2.1.trans her.symm))
        have HHB := Lib.hid (hh.b.trans HPW.out.hb)
        clear hav her hh
        have HQ2 := Lib.hid (HQ.out.step hk2 hst)
        clear HQ hk2 hst
        have HQ := HQ2
        clear HQ2
        go_wp2_with (rw [wpl_id]; first
          | (refine wpl_lda (Lib.hid HQ.out.bx) 1 rfl _ _ rfl (by first | exact .inl rfl | exact .inr ⟨_, _, _, _, rfl, rfl, rfl, rfl⟩) (by exact rfl) Tryz.isAgg48 Tryz.sizeOf48 (by kernel_rfl) (whole_take (by kernel_rfl)) ?_))
        have hrf := Take_ref HQ.out.rp HSM.out.1 HSM.out.2.1 HSM.out.2.2
        rw [HE.out.1, HE.out.2] at hrf
        refine hrf.mono ?_
        rintro e w6 ⟨m2, rfl, hr2, hf2, hb2⟩
        clear hrf
        obtain ⟨B1, d1, B2, d2, B3, d3, B4, d4, B5, d5, rfl⟩ := hr2.shape
        have HQ2 := Lib.hid (HQ.out.ref hr2 hf2 hb2)
        clear HQ hr2 hf2 hb2
        have HQ := HQ2
        clear HQ2
        go_wp2_with (rw [wpl_id]; first
          | (refine wplq_new HQ _ rfl (by first | exact .inl rfl | exact .inr ⟨_, _, _, _, rfl, rfl, rfl, rfl⟩) Tryz.zeroValue48 (cs := z48) rfl (fun b16 w' H2 => ?_); clear HQ; have HQ := H2; clear H2)
          | (refine wplq_sta HQ 0 rfl rfl _ _ _ rfl (by first | exact .inl rfl | exact .inr ⟨_, _, _, _, rfl, rfl, rfl, rfl⟩) (by exact rfl) (by exact rfl) Tryz.sizeOf48 (by kernel_rfl) (by kernel_rfl) (by kernel_rfl) (by kernel_rfl) (splice_whole (n := 25) (by kernel_rfl) (by kernel_rfl)) (fun w' H2 => ?_); simp only [List.set_cons_succ, List.set_cons_zero] at H2; clear HQ; have HQ := H2; clear H2)
          | (refine wpl_lda (Lib.hid HQ.out.bx) 0 rfl _ _ rfl (by first | exact .inl rfl | exact .inr ⟨_, _, _, _, rfl, rfl, rfl, rfl⟩) (by exact rfl) Tryz.isAgg48 Tryz.sizeOf48 (by kernel_rfl) (whole_take (by kernel_rfl)) ?_)
          | (refine wplq_sta HQ 2 rfl rfl _ _ _ rfl (by first | exact .inl rfl | exact .inr ⟨_, _, _, _, rfl, rfl, rfl, rfl⟩) (by exact rfl) (by exact rfl) Tryz.sizeOf48 (by kernel_rfl) (by kernel_rfl) (by kernel_rfl) (by kernel_rfl) (splice_whole (n := 25) (by kernel_rfl) (by kernel_rfl)) (fun w' H2 => ?_); simp only [List.set_cons_succ, List.set_cons_zero] at H2; clear HQ; have HQ := H2; clear H2)
          | (refine wpl_lda (Lib.hid HQ.out.bx) 2 rfl _ _ rfl (by first | exact .inl rfl | exact .inr ⟨_, _, _, _, rfl, rfl, rfl, rfl⟩) (by exact rfl) Tryz.isAgg48 Tryz.sizeOf48 (by kernel_rfl) (whole_take (by kernel_rfl)) ?_))
        refine (alike_any HQ.out.lp HQ.out.rp HQ.out.rd).mono ?_
        rintro e w9 ⟨Bz, f, rfl, hB, hk9, hs9⟩
        obtain rfl := hB (HL.out.2.2)
        have HP9 := Lib.hid (Pw.mk (s := s) (b := b) (E := 1 + (j + 1)) ((HQ.out.step hk9 hs9).sub (List.Sublist.cons _ (List.Sublist.cons _ (List.Sublist.refl _)))) (HPW.out.calm) (Like.seen (HL.out.2.2) ⟨f, rfl⟩) (by show (S1.take D1).2.2.epoch ≤ 1 + (j + 1); have := HPW.out.ep; have e0 := take_epoch S1 D1; omega) (HPW.out.sec) (HPW.out.size) (HHB.out))
        clear hB hk9 hs9 HQ
        go_wp2
        go_roundw
        case rel => exact ⟨j + 1, M2, _, _, _, _, by omega, rfl, by go_num, HP9⟩
        case measure => simp [intOf]; omega
      · have e5 : (x.k.tmod 9 + 9).tmod 9 = 1 := by rw [e4]; rfl
        clear e4
        go_wp2_with (rw [wpl_id]; first
          | (refine wplq_new HQ _ rfl (by first | exact .inl rfl | exact .inr ⟨_, _, _, _, rfl, rfl, rfl, rfl⟩) Tryz.zeroValue39 (cs := #[.int .i64 0, .int .i64 0, .int .i64 0, .int .u8 0]) rfl (fun bx w' H2 => ?_); clear HQ; have HQ := H2; clear H2)
          | (refine wplq_sta HQ 0 rfl rfl _ _ _ rfl (by first | exact .inl rfl | exact .inr ⟨_, _, _, _, rfl, rfl, rfl, rfl⟩) (by exact rfl) (by exact rfl) Tryz.sizeOf39 (by kernel_rfl) (by kernel_rfl) (by kernel_rfl) (by kernel_rfl) (splice_whole (n := 4) (by kernel_rfl) (by kernel_rfl)) (fun w' H2 => ?_); simp only [List.set_cons_succ, List.set_cons_zero] at H2; clear HQ; have HQ := H2; clear H2)
          | (refine wpl_ld (Lib.hid HQ.out.bx) 0 rfl _ _ rfl (by first | exact .inl rfl | exact .inr ⟨_, _, _, _, rfl, rfl, rfl, rfl⟩) (by exact rfl) (notAgg _ (by decide)) rfl ?_))
        clear c0 c1' c2' c3'
        refine wp_region_H (fun v => Blk v bx #[.int .i64 x.k, .int .i64 x.pg, .int .i64 x.ln, .int .u8 (x.B : Nat)] 39) (by kernel_rfl) (fun v0 hv0 => ?_)
        have hS0 : (fun v => Blk v bx #[.int .i64 x.k, .int .i64 x.pg, .int .i64 x.ln, .int .u8 (x.B : Nat)] 39) v0 := by subst hv0; exact (HQ.out.bx.at_ (i := 0) rfl).drew
        have HQ0 := Lib.hid (show Qw w v0 [⟨bx, #[.int .i64 x.k, .int .i64 x.pg, .int .i64 x.ln, .int .u8 (x.B : Nat)], 39⟩, ⟨b9, pc ⟨.slice A1 R1.now.loads.length c1, .slice A2 R1.now.free.length c2, .slice A3 R1.was.loads.length c3, .slice A4 R1.was.free.length c4, .slice A5 R1.ch.length c5⟩ R1, 48⟩] M1 S1 D1 ⟨.slice A1 R1.now.loads.length c1, .slice A2 R1.now.free.length c2, .slice A3 R1.was.loads.length c3, .slice A4 R1.was.free.length c4, .slice A5 R1.ch.length c5⟩ R1 from by subst hv0; exact HQ.out.grew ⟨rfl, rfl, rfl, Nat.le_refl _, fun _ _ => rfl⟩)
        clear hv0 HQ
        refine wpH_take (i := 0) (v := ?_) rfl rfl (by kernel_rfl) (by kernel_rfl) (by kernel_rfl) (fun _ _ _ h => h) (Or.inl ⟨by rfl, ?_⟩) hS0 ?_
        rotate_left
        · (intro w_ hw_; go_simp; try with_reducible rfl)
        simp only [List.setIfInBounds_toArray, List.set_cons_zero, List.set_cons_succ]
        refine wpH_take (i := 1) (v := ?_) rfl rfl (by kernel_rfl) (by kernel_rfl) (by kernel_rfl) (fun _ _ _ h => h) (Or.inl ⟨by rfl, ?_⟩) hS0 ?_
        rotate_left
        · (intro w_ hw_; go_simp; try with_reducible rfl)
        simp only [List.setIfInBounds_toArray, List.set_cons_zero, List.set_cons_succ]
        refine wpH_take (i := 2) (v := ?_) rfl rfl (by kernel_rfl) (by kernel_rfl) (by kernel_rfl) (fun _ _ _ h => h) (Or.inl ⟨by rfl, ?_⟩) hS0 ?_
        rotate_left
        · (intro w_ hw_; have q := hw_.four; go_simp; try with_reducible rfl)
        simp only [List.setIfInBounds_toArray, List.set_cons_zero, List.set_cons_succ]
        refine wpH_take (i := 3) (v := ?_) rfl rfl (by kernel_rfl) (by kernel_rfl) (by kernel_rfl) (fun _ _ _ h => h) (Or.inl ⟨by rfl, ?_⟩) hS0 ?_
        rotate_left
        · (intro w_ hw_; have q := hw_.four; go_simp; try with_reducible rfl)
        simp only [List.setIfInBounds_toArray, List.set_cons_zero, List.set_cons_succ]
        refine wpH_callv (i := 4) (by kernel_rfl) rfl rfl (by rfl) (load_tup (actload_any x.k x.pg x.ln x.B v0 HXB.out)) (by go_simp) ?_
        rintro _ v1 ⟨A, c, rfl, hrd, hb1⟩
        have hS1 : (fun v => Blk v bx #[.int .i64 x.k, .int .i64 x.pg, .int .i64 x.ln, .int .u8 (x.B : Nat)] 39) v1 := hS0.grew hb1
        clear hS0
        refine ⟨hS1, ?_⟩
        simp only [List.setIfInBounds_toArray, List.set_cons_zero, List.set_cons_succ]
        have HQ1 := Lib.hid (HQ0.out.grew hb1)
        have hwr := Write_lp HQ1.out.lp x.pg (A := A) (n := lenOf x.ln) (c := c) (l := List.replicate (lenOf x.ln) x.B) (by simp) hrd
        clear hrd hb1 HQ0
        refine wpH_callv (i := 5) (by kernel_rfl) rfl rfl (by rfl) (int_tup hwr) (by go_simp) ?_
        rintro _ v2 ⟨rfl, hk2, hst⟩
        have hS2 : (fun v => Blk v bx #[.int .i64 x.k, .int .i64 x.pg, .int .i64 x.ln, .int .u8 (x.B : Nat)] 39) v2 := (HQ1.out.step hk2 hst).bx.at_ (i := 0) rfl
        clear hS1
        refine ⟨hS2, ?_⟩
        simp only [List.setIfInBounds_toArray, List.set_cons_zero, List.set_cons_succ]
        have HQ := Lib.hid (HQ1.out.step hk2 hst)
        obtain ⟨er, her⟩ : ∃ er, er = (S1.write D1 x.pg (List.replicate (lenOf x.ln) x.B)).1 := ⟨_, rfl⟩
        rw [← her]
        have HL := Lib.hid (HPW.out.like.write HI.out x.pg (List.replicate (lenOf x.ln) x.B))
        have HE := Lib.hid (HL.out.1.trans her.symm)
        clear hk2 hst hwr HQ1 her
        refine wpH_take (i := 6) (v := ?_) rfl rfl (by kernel_rfl) (by kernel_rfl) (by kernel_rfl) (fun _ _ _ h => h) (Or.inl ⟨by rfl, ?_⟩) hS2 ?_
        rotate_left
        · (intro w_ hw_; go_simp; try with_reducible rfl)
        simp only [List.setIfInBounds_toArray, List.set_cons_zero, List.set_cons_succ]
        clear hS2
        refine wpAnyH_done (by kernel_rfl) ?_ _
        go_wp2_with fail
        obtain ⟨W2, hW2⟩ : ∃ W2, W2 = (R1.write x.pg (List.replicate (lenOf x.ln) x.B)).2 := ⟨_, rfl⟩
        obtain ⟨Z2, hZ2⟩ : ∃ Z2, Z2 = (S1.write D1 x.pg (List.replicate (lenOf x.ln) x.B)).2 := ⟨_, rfl⟩
        rw [← hZ2] at HQ
        rw [← hW2, ← hZ2] at HL
        have HEP := Lib.hid (show Z2.epoch = S1.epoch by rw [hZ2]; exact write_epoch _ _ _ _)
        have HWR := Lib.hid (show ∀ w_, RpAt w_ ⟨.slice A1 R1.now.loads.length c1, .slice A2 R1.now.free.length c2, .slice A3 R1.was.loads.length c3, .slice A4 R1.was.free.length c4, .slice A5 R1.ch.length c5⟩ R1 → Calls Tryz.prog 33 #[.agg (pc ⟨.slice A1 R1.now.loads.length c1, .slice A2 R1.now.free.length c2, .slice A3 R1.was.loads.length c3, .slice A4 R1.was.free.length c4, .slice A5 R1.ch.length c5⟩ R1), .int .i64 x.pg, .string (str (List.replicate (lenOf x.ln) x.B))] w_ fun e w' => ∃ u, e = .returned u ∧ ∃ B1 d1 B2 d2 B3 d3 B4 d4 B5 d5, u = .tuple #[.agg (pc ⟨.slice B1 W2.now.loads.length d1, .slice B2 W2.now.free.length d2, .slice B3 W2.was.loads.length d3, .slice B4 W2.was.free.length d4, .slice B5 W2.ch.length d5⟩ W2), .int .i64 er] ∧ RpAt w' ⟨.slice B1 W2.now.loads.length d1, .slice B2 W2.now.free.length d2, .slice B3 W2.was.loads.length d3, .slice B4 W2.was.free.length d4, .slice B5 W2.ch.length d5⟩ W2 ∧ Fresh w_.heap.size ⟨.slice A1 R1.now.loads.length c1, .slice A2 R1.now.free.length c2, .slice A3 R1.was.loads.length c3, .slice A4 R1.was.free.length c4, .slice A5 R1.ch.length c5⟩ ⟨.slice B1 W2.now.loads.length d1, .slice B2 W2.now.free.length d2, .slice B3 W2.was.loads.length d3, .slice B4 W2.was.free.length d4, .slice B5 W2.ch.length d5⟩ ∧ Below w_.heap.size w_ w' from by
          intro w_ hq
          have hc := Write_ref x.pg (List.replicate (lenOf x.ln) x.B) hq HSM.out.1 HSM.out.2.1 (by simp; exact lenOf_le x.ln) (by intro b hb; rw [List.eq_of_mem_replicate hb]; exact HXB.out)
          rw [HE.out, ← hW2] at hc
          refine hc.mono ?_
          rintro e w' ⟨m', rfl, hr, hf, hb⟩
          obtain ⟨B1, d1, B2, d2, B3, d3, B4, d4, B5, d5, rfl⟩ := hr.shape
          exact ⟨_, rfl, B1, d1, B2, d2, B3, d3, B4, d4, B5, d5, rfl, hr, hf, hb⟩)
        clear hW2 hZ2
        obtain ⟨Sw0, Sw0d⟩ : ∃ S : World → Prop, S = fun v : World => Qw w v [⟨bx, #[.int .i64 x.k, .int .i64 x.pg, .int .i64 x.ln, .int .u8 (x.B : Nat)], 39⟩, ⟨b9, pc ⟨.slice A1 R1.now.loads.length c1, .slice A2 R1.now.free.length c2, .slice A3 R1.was.loads.length c3, .slice A4 R1.was.free.length c4, .slice A5 R1.ch.length c5⟩ R1, 48⟩] M1 Z2 D1 ⟨.slice A1 R1.now.loads.length c1, .slice A2 R1.now.free.length c2, .slice A3 R1.was.loads.length c3, .slice A4 R1.was.free.length c4, .slice A5 R1.ch.length c5⟩ R1 ∧ True := ⟨_, rfl⟩
        have Sw0t0 : Stands Sw0 := by rw [Sw0d]; exact ((stands_qw _ _ _ _ _ _ _).and (stands_const True))
        have Sw0u0 : ∀ v, Sw0 v → Qw w v [⟨bx, #[.int .i64 x.k, .int .i64 x.pg, .int .i64 x.ln, .int .u8 (x.B : Nat)], 39⟩, ⟨b9, pc ⟨.slice A1 R1.now.loads.length c1, .slice A2 R1.now.free.length c2, .slice A3 R1.was.loads.length c3, .slice A4 R1.was.free.length c4, .slice A5 R1.ch.length c5⟩ R1, 48⟩] M1 Z2 D1 ⟨.slice A1 R1.now.loads.length c1, .slice A2 R1.now.free.length c2, .slice A3 R1.was.loads.length c3, .slice A4 R1.was.free.length c4, .slice A5 R1.ch.length c5⟩ R1 ∧ True := fun v h => by rw [Sw0d] at h; exact h
        have Sw0m0 : ∀ v, (Qw w v [⟨bx, #[.int .i64 x.k, .int .i64 x.pg, .int .i64 x.ln, .int .u8 (x.B : Nat)], 39⟩, ⟨b9, pc ⟨.slice A1 R1.now.loads.length c1, .slice A2 R1.now.free.length c2, .slice A3 R1.was.loads.length c3, .slice A4 R1.was.free.length c4, .slice A5 R1.ch.length c5⟩ R1, 48⟩] M1 Z2 D1 ⟨.slice A1 R1.now.loads.length c1, .slice A2 R1.now.free.length c2, .slice A3 R1.was.loads.length c3, .slice A4 R1.was.free.length c4, .slice A5 R1.ch.length c5⟩ R1 ∧ True) → Sw0 v := fun v h => by rw [Sw0d]; exact h
        have Sw0u := Lib.hid Sw0u0
        have Sw0m := Lib.hid Sw0m0
        have Sw0t := Lib.hid Sw0t0
        clear Sw0d Sw0u0 Sw0m0 Sw0t0
        refine wp_region_X (S := Sw0) (by kernel_rfl) (Sw0m.out _ ⟨HQ.out.grew ⟨rfl, rfl, rfl, Nat.le_refl _, fun _ _ => rfl⟩, trivial⟩) ?_
        refine wpX_take (i := 0) (v := .agg (pc ⟨.slice A1 R1.now.loads.length c1, .slice A2 R1.now.free.length c2, .slice A3 R1.was.loads.length c3, .slice A4 R1.was.free.length c4, .slice A5 R1.ch.length c5⟩ R1)) Sw0t.out rfl rfl (by kernel_rfl) (by kernel_rfl) (by kernel_rfl) (by kernel_rfl) (fun _ _ _ h => h) (SteadyX.value (by rfl) (fun w_ hS => by obtain ⟨q0, q1⟩ := Sw0u.out _ hS; exact exec_load 48 (.tmp 9) rfl (vx := .pointer (some ⟨b9, 0, none⟩)) rfl (run_load_whole (Tryz.isAgg48 _) (Tryz.sizeOf48 _) (q0.bx.at_ (i := 1) rfl) rfl))) ?_
        simp only [List.setIfInBounds_toArray, List.set_cons_zero, List.set_cons_succ]
        refine wpX_take (i := 1) (v := ?_) Sw0t.out rfl rfl (by kernel_rfl) (by kernel_rfl) (by kernel_rfl) (by kernel_rfl) (fun _ _ _ h => h) (SteadyX.value (by rfl) ?_) ?_
        rotate_left
        · (intro w_ hS; go_simp; try with_reducible rfl)
        simp only [List.setIfInBounds_toArray, List.set_cons_zero, List.set_cons_succ]
        refine wpX_take (i := 2) (v := .int .i64 x.pg) Sw0t.out rfl rfl (by kernel_rfl) (by kernel_rfl) (by kernel_rfl) (by kernel_rfl) (fun _ _ _ h => h) (SteadyX.value (by rfl) (fun w_ hS => by obtain ⟨q0, q1⟩ := Sw0u.out _ hS; exact exec_load 3 (.tmp 60) rfl (vx := .pointer (some ⟨bx, 1, none⟩)) rfl (run_load_one (Tryz.isAgg3 _) (cs := #[.int .i64 x.k, .int .i64 x.pg, .int .i64 x.ln, .int .u8 (x.B : Nat)]) (q0.bx.at_ (i := 0) rfl) rfl))) ?_
        simp only [List.setIfInBounds_toArray, List.set_cons_zero, List.set_cons_succ]
        refine wpX_take (i := 3) (v := .agg #[.int .i64 x.k, .int .i64 x.pg, .int .i64 x.ln, .int .u8 (x.B : Nat)]) Sw0t.out rfl rfl (by kernel_rfl) (by kernel_rfl) (by kernel_rfl) (by kernel_rfl) (fun _ _ _ h => h) (SteadyX.value (by rfl) (fun w_ hS => by obtain ⟨q0, q1⟩ := Sw0u.out _ hS; exact exec_load 39 (.tmp 11) rfl (vx := .pointer (some ⟨bx, 0, none⟩)) rfl (run_load_whole (Tryz.isAgg39 _) (Tryz.sizeOf39 _) (q0.bx.at_ (i := 0) rfl) rfl))) ?_
        simp only [List.setIfInBounds_toArray, List.set_cons_zero, List.set_cons_succ]
        refine wpX_one (i := 4) (by kernel_rfl) (fun w_ hS => ?_)
        obtain ⟨q0, q1⟩ := Sw0u.out _ hS
        refine wpX_call rfl rfl (by rfl) (load_tup (actload_any x.k x.pg x.ln x.B w_ HXB.out)) (by go_simp) ?_
        rintro _ w1_ ⟨A, c, rfl, hrd, hb1⟩
        obtain ⟨Sw1, Sw1d⟩ : ∃ S : World → Prop, S = fun v : World => Qw w v [⟨bx, #[.int .i64 x.k, .int .i64 x.pg, .int .i64 x.ln, .int .u8 (x.B : Nat)], 39⟩, ⟨b9, pc ⟨.slice A1 R1.now.loads.length c1, .slice A2 R1.now.free.length c2, .slice A3 R1.was.loads.length c3, .slice A4 R1.was.free.length c4, .slice A5 R1.ch.length c5⟩ R1, 48⟩] M1 Z2 D1 ⟨.slice A1 R1.now.loads.length c1, .slice A2 R1.now.free.length c2, .slice A3 R1.was.loads.length c3, .slice A4 R1.was.free.length c4, .slice A5 R1.ch.length c5⟩ R1 ∧ True ∧ Rd v v.heap.size A (List.replicate (lenOf x.ln) x.B) := ⟨_, rfl⟩
        have Sw1t0 : Stands Sw1 := by rw [Sw1d]; exact ((stands_qw _ _ _ _ _ _ _).and ((stands_const True).and (stands_rd _ _)))
        have Sw1u0 : ∀ v, Sw1 v → Qw w v [⟨bx, #[.int .i64 x.k, .int .i64 x.pg, .int .i64 x.ln, .int .u8 (x.B : Nat)], 39⟩, ⟨b9, pc ⟨.slice A1 R1.now.loads.length c1, .slice A2 R1.now.free.length c2, .slice A3 R1.was.loads.length c3, .slice A4 R1.was.free.length c4, .slice A5 R1.ch.length c5⟩ R1, 48⟩] M1 Z2 D1 ⟨.slice A1 R1.now.loads.length c1, .slice A2 R1.now.free.length c2, .slice A3 R1.was.loads.length c3, .slice A4 R1.was.free.length c4, .slice A5 R1.ch.length c5⟩ R1 ∧ True ∧ Rd v v.heap.size A (List.replicate (lenOf x.ln) x.B) := fun v h => by rw [Sw1d] at h; exact h
        have Sw1m0 : ∀ v, (Qw w v [⟨bx, #[.int .i64 x.k, .int .i64 x.pg, .int .i64 x.ln, .int .u8 (x.B : Nat)], 39⟩, ⟨b9, pc ⟨.slice A1 R1.now.loads.length c1, .slice A2 R1.now.free.length c2, .slice A3 R1.was.loads.length c3, .slice A4 R1.was.free.length c4, .slice A5 R1.ch.length c5⟩ R1, 48⟩] M1 Z2 D1 ⟨.slice A1 R1.now.loads.length c1, .slice A2 R1.now.free.length c2, .slice A3 R1.was.loads.length c3, .slice A4 R1.was.free.length c4, .slice A5 R1.ch.length c5⟩ R1 ∧ True ∧ Rd v v.heap.size A (List.replicate (lenOf x.ln) x.B)) → Sw1 v := fun v h => by rw [Sw1d]; exact h
        have Sw1u := Lib.hid Sw1u0
        have Sw1m := Lib.hid Sw1m0
        have Sw1t := Lib.hid Sw1t0
        clear Sw1d Sw1u0 Sw1m0 Sw1t0
        refine ⟨Sw1, Sw1t.out, .inr (fun v h => Sw0m.out _ (by obtain ⟨q0, q1, q2⟩ := Sw1u.out _ h; exact ⟨q0, q1⟩)), Sw1m.out _ ⟨(stands_qw _ _ _ _ _ _ _) _ _ hb1 q0, (stands_const True) _ _ hb1 q1, hrd⟩, ?_⟩
        clear hS q0 q1
        clear hrd hb1
        clear w1_ w_
        simp only [List.setIfInBounds_toArray, List.set_cons_zero, List.set_cons_succ]
        refine wpX_take (i := 5) (v := .string (str (List.replicate (lenOf x.ln) x.B))) Sw1t.out rfl rfl (by kernel_rfl) (by kernel_rfl) (by kernel_rfl) (by kernel_rfl) (fun _ _ _ h => h) (SteadyX.value (by rfl) (fun w_ hS => by obtain ⟨q0, q1, q2⟩ := Sw1u.out _ hS; exact exec_convert 31 9 (.tmp 63) rfl (vx := .slice A (lenOf x.ln) c) rfl (by have h := run_str c q2; rw [List.length_replicate] at h; exact h))) ?_
        simp only [List.setIfInBounds_toArray, List.set_cons_zero, List.set_cons_succ]
        refine wpX_one (i := 6) (by kernel_rfl) (fun w_ hS => ?_)
        obtain ⟨q0, q1, q2⟩ := Sw1u.out _ hS
        refine wpX_call rfl rfl (by rfl) (HWR.out w_ q0.rp) (by go_simp) ?_
        rintro _ w1_ ⟨B1, d1, B2, d2, B3, d3, B4, d4, B5, d5, rfl, hr2, hf2, hb2⟩
        obtain ⟨Sw2, Sw2d⟩ : ∃ S : World → Prop, S = fun v : World => Qw w v [⟨bx, #[.int .i64 x.k, .int .i64 x.pg, .int .i64 x.ln, .int .u8 (x.B : Nat)], 39⟩, ⟨b9, pc ⟨.slice A1 R1.now.loads.length c1, .slice A2 R1.now.free.length c2, .slice A3 R1.was.loads.length c3, .slice A4 R1.was.free.length c4, .slice A5 R1.ch.length c5⟩ R1, 48⟩] M1 Z2 D1 ⟨.slice A1 R1.now.loads.length c1, .slice A2 R1.now.free.length c2, .slice A3 R1.was.loads.length c3, .slice A4 R1.was.free.length c4, .slice A5 R1.ch.length c5⟩ R1 ∧ True ∧ Rd v v.heap.size A (List.replicate (lenOf x.ln) x.B) ∧ Qw w v [⟨bx, #[.int .i64 x.k, .int .i64 x.pg, .int .i64 x.ln, .int .u8 (x.B : Nat)], 39⟩, ⟨b9, pc ⟨.slice A1 R1.now.loads.length c1, .slice A2 R1.now.free.length c2, .slice A3 R1.was.loads.length c3, .slice A4 R1.was.free.length c4, .slice A5 R1.ch.length c5⟩ R1, 48⟩] M1 Z2 D1 ⟨.slice B1 W2.now.loads.length d1, .slice B2 W2.now.free.length d2, .slice B3 W2.was.loads.length d3, .slice B4 W2.was.free.length d4, .slice B5 W2.ch.length d5⟩ W2 := ⟨_, rfl⟩
        have Sw2t0 : Stands Sw2 := by rw [Sw2d]; exact ((stands_qw _ _ _ _ _ _ _).and ((stands_const True).and ((stands_rd _ _).and (stands_qw _ _ _ _ _ _ _))))
        have Sw2u0 : ∀ v, Sw2 v → Qw w v [⟨bx, #[.int .i64 x.k, .int .i64 x.pg, .int .i64 x.ln, .int .u8 (x.B : Nat)], 39⟩, ⟨b9, pc ⟨.slice A1 R1.now.loads.length c1, .slice A2 R1.now.free.length c2, .slice A3 R1.was.loads.length c3, .slice A4 R1.was.free.length c4, .slice A5 R1.ch.length c5⟩ R1, 48⟩] M1 Z2 D1 ⟨.slice A1 R1.now.loads.length c1, .slice A2 R1.now.free.length c2, .slice A3 R1.was.loads.length c3, .slice A4 R1.was.free.length c4, .slice A5 R1.ch.length c5⟩ R1 ∧ True ∧ Rd v v.heap.size A (List.replicate (lenOf x.ln) x.B) ∧ Qw w v [⟨bx, #[.int .i64 x.k, .int .i64 x.pg, .int .i64 x.ln, .int .u8 (x.B : Nat)], 39⟩, ⟨b9, pc ⟨.slice A1 R1.now.loads.length c1, .slice A2 R1.now.free.length c2, .slice A3 R1.was.loads.length c3, .slice A4 R1.was.free.length c4, .slice A5 R1.ch.length c5⟩ R1, 48⟩] M1 Z2 D1 ⟨.slice B1 W2.now.loads.length d1, .slice B2 W2.now.free.length d2, .slice B3 W2.was.loads.length d3, .slice B4 W2.was.free.length d4, .slice B5 W2.ch.length d5⟩ W2 := fun v h => by rw [Sw2d] at h; exact h
        have Sw2m0 : ∀ v, (Qw w v [⟨bx, #[.int .i64 x.k, .int .i64 x.pg, .int .i64 x.ln, .int .u8 (x.B : Nat)], 39⟩, ⟨b9, pc ⟨.slice A1 R1.now.loads.length c1, .slice A2 R1.now.free.length c2, .slice A3 R1.was.loads.length c3, .slice A4 R1.was.free.length c4, .slice A5 R1.ch.length c5⟩ R1, 48⟩] M1 Z2 D1 ⟨.slice A1 R1.now.loads.length c1, .slice A2 R1.now.free.length c2, .slice A3 R1.was.loads.length c3, .slice A4 R1.was.free.length c4, .slice A5 R1.ch.length c5⟩ R1 ∧ True ∧ Rd v v.heap.size A (List.replicate (lenOf x.ln) x.B) ∧ Qw w v [⟨bx, #[.int .i64 x.k, .int .i64 x.pg, .int .i64 x.ln, .int .u8 (x.B : Nat)], 39⟩, ⟨b9, pc ⟨.slice A1 R1.now.loads.length c1, .slice A2 R1.now.free.length c2, .slice A3 R1.was.loads.length c3, .slice A4 R1.was.free.length c4, .slice A5 R1.ch.length c5⟩ R1, 48⟩] M1 Z2 D1 ⟨.slice B1 W2.now.loads.length d1, .slice B2 W2.now.free.length d2, .slice B3 W2.was.loads.length d3, .slice B4 W2.was.free.length d4, .slice B5 W2.ch.length d5⟩ W2) → Sw2 v := fun v h => by rw [Sw2d]; exact h
        have Sw2u := Lib.hid Sw2u0
        have Sw2m := Lib.hid Sw2m0
        have Sw2t := Lib.hid Sw2t0
        clear Sw2d Sw2u0 Sw2m0 Sw2t0
        refine ⟨Sw2, Sw2t.out, .inr (fun v h => Sw1m.out _ (by obtain ⟨q0, q1, q2, q3⟩ := Sw2u.out _ h; exact ⟨q0, q1, q2⟩)), Sw2m.out _ ⟨(stands_qw _ _ _ _ _ _ _) _ _ hb2 q0, (stands_const True) _ _ hb2 q1, (stands_rd _ _) _ _ hb2 q2, q0.ref hr2 hf2 hb2⟩, ?_⟩
        clear hS q0 q1 q2
        clear hr2 hf2 hb2
        clear w1_ w_
        simp only [List.setIfInBounds_toArray, List.set_cons_zero, List.set_cons_succ]
        refine wpX_take (i := 7) (v := ?_) Sw2t.out rfl rfl (by kernel_rfl) (by kernel_rfl) (by kernel_rfl) (by kernel_rfl) (fun _ _ _ h => h) (SteadyX.value (by rfl) ?_) ?_
        rotate_left
        · (intro w_ hS; go_simp; try with_reducible rfl)
        simp only [List.setIfInBounds_toArray, List.set_cons_zero, List.set_cons_succ]
        refine wpX_take (i := 8) (v := ?_) Sw2t.out rfl rfl (by kernel_rfl) (by kernel_rfl) (by kernel_rfl) (by kernel_rfl) (fun _ _ _ h => h) (SteadyX.value (by rfl) ?_) ?_
        rotate_left
        · (intro w_ hS; go_simp; try with_reducible rfl)
        simp only [List.setIfInBounds_toArray, List.set_cons_zero, List.set_cons_succ]
        refine wpX_take (i := 9) (v := ?_) Sw2t.out rfl rfl (by kernel_rfl) (by kernel_rfl) (by kernel_rfl) (by kernel_rfl) (fun _ _ _ h => h) (SteadyX.value (by rfl) ?_) ?_
        rotate_left
        · (intro w_ hS; go_simp; try with_reducible rfl)
        simp only [List.setIfInBounds_toArray, List.set_cons_zero, List.set_cons_succ]
        refine wpX_one (i := 10) (by kernel_rfl) (fun w_ hS => ?_)
        obtain ⟨q0, q1, q2, q3⟩ := Sw2u.out _ hS
        obtain ⟨Sw3, Sw3d⟩ : ∃ S : World → Prop, S = fun v : World => Qw w v [⟨bx, #[.int .i64 x.k, .int .i64 x.pg, .int .i64 x.ln, .int .u8 (x.B : Nat)], 39⟩, ⟨b9, splice (pc ⟨.slice A1 R1.now.loads.length c1, .slice A2 R1.now.free.length c2, .slice A3 R1.was.loads.length c3, .slice A4 R1.was.free.length c4, .slice A5 R1.ch.length c5⟩ R1) 0 (pc ⟨.slice B1 W2.now.loads.length d1, .slice B2 W2.now.free.length d2, .slice B3 W2.was.loads.length d3, .slice B4 W2.was.free.length d4, .slice B5 W2.ch.length d5⟩ W2), 48⟩] M1 Z2 D1 ⟨.slice B1 W2.now.loads.length d1, .slice B2 W2.now.free.length d2, .slice B3 W2.was.loads.length d3, .slice B4 W2.was.free.length d4, .slice B5 W2.ch.length d5⟩ W2 := ⟨_, rfl⟩
        have Sw3t0 : Stands Sw3 := by rw [Sw3d]; exact (stands_qw _ _ _ _ _ _ _)
        have Sw3u0 : ∀ v, Sw3 v → Qw w v [⟨bx, #[.int .i64 x.k, .int .i64 x.pg, .int .i64 x.ln, .int .u8 (x.B : Nat)], 39⟩, ⟨b9, splice (pc ⟨.slice A1 R1.now.loads.length c1, .slice A2 R1.now.free.length c2, .slice A3 R1.was.loads.length c3, .slice A4 R1.was.free.length c4, .slice A5 R1.ch.length c5⟩ R1) 0 (pc ⟨.slice B1 W2.now.loads.length d1, .slice B2 W2.now.free.length d2, .slice B3 W2.was.loads.length d3, .slice B4 W2.was.free.length d4, .slice B5 W2.ch.length d5⟩ W2), 48⟩] M1 Z2 D1 ⟨.slice B1 W2.now.loads.length d1, .slice B2 W2.now.free.length d2, .slice B3 W2.was.loads.length d3, .slice B4 W2.was.free.length d4, .slice B5 W2.ch.length d5⟩ W2 := fun v h => by rw [Sw3d] at h; exact h
        have Sw3m0 : ∀ v, (Qw w v [⟨bx, #[.int .i64 x.k, .int .i64 x.pg, .int .i64 x.ln, .int .u8 (x.B : Nat)], 39⟩, ⟨b9, splice (pc ⟨.slice A1 R1.now.loads.length c1, .slice A2 R1.now.free.length c2, .slice A3 R1.was.loads.length c3, .slice A4 R1.was.free.length c4, .slice A5 R1.ch.length c5⟩ R1) 0 (pc ⟨.slice B1 W2.now.loads.length d1, .slice B2 W2.now.free.length d2, .slice B3 W2.was.loads.length d3, .slice B4 W2.was.free.length d4, .slice B5 W2.ch.length d5⟩ W2), 48⟩] M1 Z2 D1 ⟨.slice B1 W2.now.loads.length d1, .slice B2 W2.now.free.length d2, .slice B3 W2.was.loads.length d3, .slice B4 W2.was.free.length d4, .slice B5 W2.ch.length d5⟩ W2) → Sw3 v := fun v h => by rw [Sw3d]; exact h
        have Sw3u := Lib.hid Sw3u0
        have Sw3m := Lib.hid Sw3m0
        have Sw3t := Lib.hid Sw3t0
        clear Sw3d Sw3u0 Sw3m0 Sw3t0
        have st_ : Sw3 (w_.setRow b9 (splice (pc ⟨.slice A1 R1.now.loads.length c1, .slice A2 R1.now.free.length c2, .slice A3 R1.was.loads.length c3, .slice A4 R1.was.free.length c4, .slice A5 R1.ch.length c5⟩ R1) 0 (pc ⟨.slice B1 W2.now.loads.length d1, .slice B2 W2.now.free.length d2, .slice B3 W2.was.loads.length d3, .slice B4 W2.was.free.length d4, .slice B5 W2.ch.length d5⟩ W2))) := Sw3m.out _ (q3.setrow (i := 1) (e := ⟨b9, pc ⟨.slice A1 R1.now.loads.length c1, .slice A2 R1.now.free.length c2, .slice A3 R1.was.loads.length c3, .slice A4 R1.was.free.length c4, .slice A5 R1.ch.length c5⟩ R1, 48⟩) rfl (pc ⟨.slice B1 W2.now.loads.length d1, .slice B2 W2.now.free.length d2, .slice B3 W2.was.loads.length d3, .slice B4 W2.was.free.length d4, .slice B5 W2.ch.length d5⟩ W2) ⟨(by decide : (48 : Nat) ≠ 3), (by decide : (48 : Nat) ≠ 5), (by decide : (48 : Nat) ≠ 9)⟩)
        refine wpX_store (i := 10) (w' := (w_.setRow b9 (splice (pc ⟨.slice A1 R1.now.loads.length c1, .slice A2 R1.now.free.length c2, .slice A3 R1.was.loads.length c3, .slice A4 R1.was.free.length c4, .slice A5 R1.ch.length c5⟩ R1) 0 (pc ⟨.slice B1 W2.now.loads.length d1, .slice B2 W2.now.free.length d2, .slice B3 W2.was.loads.length d3, .slice B4 W2.was.free.length d4, .slice B5 W2.ch.length d5⟩ W2)))) Sw3 rfl rfl (by rfl) (by exact exec_store 48 (.tmp 9) (.tmp 66) rfl (vx := .pointer (some ⟨b9, 0, none⟩)) rfl (vy := .agg (pc ⟨.slice B1 W2.now.loads.length d1, .slice B2 W2.now.free.length d2, .slice B3 W2.was.loads.length d3, .slice B4 W2.was.free.length d4, .slice B5 W2.ch.length d5⟩ W2)) rfl (run_store_agg (Tryz.sizeOf48 _) (q3.bx.at_ (i := 1) rfl) rfl (by simp [pc]) (fun x hx => List.all_eq_true.1 (by kernel_rfl : (pc ⟨.slice B1 W2.now.loads.length d1, .slice B2 W2.now.free.length d2, .slice B3 W2.was.loads.length d3, .slice B4 W2.was.free.length d4, .slice B5 W2.ch.length d5⟩ W2).toList.all (·.oneCell') = true) x hx))) Sw3t.out (.inl (by kernel_rfl)) st_ ?_
        clear hS st_  q0 q1 q2 q3
        clear w_
        refine wpX_take (i := 11) (v := ?_) Sw3t.out rfl rfl (by kernel_rfl) (by kernel_rfl) (by kernel_rfl) (by kernel_rfl) (fun _ _ _ h => h) (SteadyX.value (by rfl) ?_) ?_
        rotate_left
        · (intro w_ hS; go_simp; try with_reducible rfl)
        simp only [List.setIfInBounds_toArray, List.set_cons_zero, List.set_cons_succ]
        refine wpX_done (by kernel_rfl) (fun W9 hS => ?_) _
        have q0 := Sw3u.out _ hS
        clear hS Sw0u Sw0m Sw0t Sw1u Sw1m Sw1t Sw2u Sw2m Sw2t Sw3u Sw3m Sw3t
        clear Sw0 Sw1 Sw2 Sw3
        have HQ := Lib.hid q0
        clear q0
        rw [splice_whole (n := 25) (by kernel_rfl) (by kernel_rfl)] at HQ
        go_wp2_with (rw [wpl_id]; first
          | (refine wpl_lda (Lib.hid HQ.out.bx) 1 rfl _ _ rfl (by first | exact .inl rfl | exact .inr ⟨_, _, _, _, rfl, rfl, rfl, rfl⟩) (by exact rfl) Tryz.isAgg48 Tryz.sizeOf48 (by kernel_rfl) (whole_take (by kernel_rfl)) ?_))
        refine (alike_any HQ.out.lp HQ.out.rp HQ.out.rd).mono ?_
        rintro e w9 ⟨Bz, f, rfl, hB, hk9, hs9⟩
        obtain rfl := hB (HL.out.2)
        have HP9 := Lib.hid (Pw.mk (s := s) (b := b) (E := 1 + (j + 1)) ((HQ.out.step hk9 hs9).sub (List.Sublist.cons _ (List.Sublist.refl _))) (HPW.out.calm) (Like.seen (HL.out.2) ⟨f, rfl⟩) (by show Z2.epoch ≤ 1 + (j + 1); have := HPW.out.ep; have := HEP.out; omega) (HPW.out.sec) (HPW.out.size) (HPW.out.hb))
        clear hB hk9 hs9 HQ
        go_wp2
        go_roundw
        case rel => exact ⟨j + 1, M1, _, _, _, _, by omega, rfl, by go_num, HP9⟩
        case measure => simp [intOf]; omega
      · have e5 : (x.k.tmod 9 + 9).tmod 9 = 2 := by rw [e4]; rfl
        clear e4
        go_wp2_with (rw [wpl_id]; first
          | (refine wplq_new HQ _ rfl (by first | exact .inl rfl | exact .inr ⟨_, _, _, _, rfl, rfl, rfl, rfl⟩) Tryz.zeroValue39 (cs := #[.int .i64 0, .int .i64 0, .int .i64 0, .int .u8 0]) rfl (fun bx w' H2 => ?_); clear HQ; have HQ := H2; clear H2)
          | (refine wplq_sta HQ 0 rfl rfl _ _ _ rfl (by first | exact .inl rfl | exact .inr ⟨_, _, _, _, rfl, rfl, rfl, rfl⟩) (by exact rfl) (by exact rfl) Tryz.sizeOf39 (by kernel_rfl) (by kernel_rfl) (by kernel_rfl) (by kernel_rfl) (splice_whole (n := 4) (by kernel_rfl) (by kernel_rfl)) (fun w' H2 => ?_); simp only [List.set_cons_succ, List.set_cons_zero] at H2; clear HQ; have HQ := H2; clear H2)
          | (refine wpl_ld (Lib.hid HQ.out.bx) 0 rfl _ _ rfl (by first | exact .inl rfl | exact .inr ⟨_, _, _, _, rfl, rfl, rfl, rfl⟩) (by exact rfl) (notAgg _ (by decide)) rfl ?_))
        clear c0 c1' c2' c3'
        refine wp_region_H (fun v => Blk v bx #[.int .i64 x.k, .int .i64 x.pg, .int .i64 x.ln, .int .u8 (x.B : Nat)] 39) (by kernel_rfl) (fun v0 hv0 => ?_)
        have hS0 : (fun v => Blk v bx #[.int .i64 x.k, .int .i64 x.pg, .int .i64 x.ln, .int .u8 (x.B : Nat)] 39) v0 := by subst hv0; exact (HQ.out.bx.at_ (i := 0) rfl).drew
        have HQ0 := Lib.hid (show Qw w v0 [⟨bx, #[.int .i64 x.k, .int .i64 x.pg, .int .i64 x.ln, .int .u8 (x.B : Nat)], 39⟩, ⟨b9, pc ⟨.slice A1 R1.now.loads.length c1, .slice A2 R1.now.free.length c2, .slice A3 R1.was.loads.length c3, .slice A4 R1.was.free.length c4, .slice A5 R1.ch.length c5⟩ R1, 48⟩] M1 S1 D1 ⟨.slice A1 R1.now.loads.length c1, .slice A2 R1.now.free.length c2, .slice A3 R1.was.loads.length c3, .slice A4 R1.was.free.length c4, .slice A5 R1.ch.length c5⟩ R1 from by subst hv0; exact HQ.out.grew ⟨rfl, rfl, rfl, Nat.le_refl _, fun _ _ => rfl⟩)
        clear hv0 HQ
        refine wpH_take (i := 0) (v := ?_) rfl rfl (by kernel_rfl) (by kernel_rfl) (by kernel_rfl) (fun _ _ _ h => h) (Or.inl ⟨by rfl, ?_⟩) hS0 ?_
        rotate_left
        · (intro w_ hw_; go_simp; try with_reducible rfl)
        simp only [List.setIfInBounds_toArray, List.set_cons_zero, List.set_cons_succ]
        refine wpH_take (i := 1) (v := ?_) rfl rfl (by kernel_rfl) (by kernel_rfl) (by kernel_rfl) (fun _ _ _ h => h) (Or.inl ⟨by rfl, ?_⟩) hS0 ?_
        rotate_left
        · (intro w_ hw_; go_simp; try with_reducible rfl)
        simp only [List.setIfInBounds_toArray, List.set_cons_zero, List.set_cons_succ]
        refine wpH_take (i := 2) (v := ?_) rfl rfl (by kernel_rfl) (by kernel_rfl) (by kernel_rfl) (fun _ _ _ h => h) (Or.inl ⟨by rfl, ?_⟩) hS0 ?_
        rotate_left
        · (intro w_ hw_; have q := hw_.four; go_simp; try with_reducible rfl)
        simp only [List.setIfInBounds_toArray, List.set_cons_zero, List.set_cons_succ]
        refine wpH_take (i := 3) (v := ?_) rfl rfl (by kernel_rfl) (by kernel_rfl) (by kernel_rfl) (fun _ _ _ h => h) (Or.inl ⟨by rfl, ?_⟩) hS0 ?_
        rotate_left
        · (intro w_ hw_; have q := hw_.four; go_simp; try with_reducible rfl)
        simp only [List.setIfInBounds_toArray, List.set_cons_zero, List.set_cons_succ]
        refine wpH_callv (i := 4) (by kernel_rfl) rfl rfl (by rfl) (load_tup (actload_any x.k x.pg x.ln x.B v0 HXB.out)) (by go_simp) ?_
        rintro _ v1 ⟨A, c, rfl, hrd, hb1⟩
        have hS1 : (fun v => Blk v bx #[.int .i64 x.k, .int .i64 x.pg, .int .i64 x.ln, .int .u8 (x.B : Nat)] 39) v1 := hS0.grew hb1
        clear hS0
        refine ⟨hS1, ?_⟩
        simp only [List.setIfInBounds_toArray, List.set_cons_zero, List.set_cons_succ]
        have HQ1 := Lib.hid (HQ0.out.grew hb1)
        have hwr := Write_lp HQ1.out.lp x.pg (A := A) (n := lenOf x.ln) (c := c) (l := List.replicate (lenOf x.ln) x.B) (by simp) hrd
        clear hrd hb1 HQ0
        refine wpH_callv (i := 5) (by kernel_rfl) rfl rfl (by rfl) (int_tup hwr) (by go_simp) ?_
        rintro _ v2 ⟨rfl, hk2, hst⟩
        have hS2 : (fun v => Blk v bx #[.int .i64 x.k, .int .i64 x.pg, .int .i64 x.ln, .int .u8 (x.B : Nat)] 39) v2 := (HQ1.out.step hk2 hst).bx.at_ (i := 0) rfl
        clear hS1
        refine ⟨hS2, ?_⟩
        simp only [List.setIfInBounds_toArray, List.set_cons_zero, List.set_cons_succ]
        have HQ := Lib.hid (HQ1.out.step hk2 hst)
        obtain ⟨er, her⟩ : ∃ er, er = (S1.write D1 x.pg (List.replicate (lenOf x.ln) x.B)).1 := ⟨_, rfl⟩
        rw [← her]
        have HL := Lib.hid (HPW.out.like.write HI.out x.pg (List.replicate (lenOf x.ln) x.B))
        have HE := Lib.hid (HL.out.1.trans her.symm)
        clear hk2 hst hwr HQ1 her
        refine wpH_take (i := 6) (v := ?_) rfl rfl (by kernel_rfl) (by kernel_rfl) (by kernel_rfl) (fun _ _ _ h => h) (Or.inl ⟨by rfl, ?_⟩) hS2 ?_
        rotate_left
        · (intro w_ hw_; go_simp; try with_reducible rfl)
        simp only [List.setIfInBounds_toArray, List.set_cons_zero, List.set_cons_succ]
        clear hS2
        refine wpAnyH_done (by kernel_rfl) ?_ _
        go_wp2_with fail
        obtain ⟨W2, hW2⟩ : ∃ W2, W2 = (R1.write x.pg (List.replicate (lenOf x.ln) x.B)).2 := ⟨_, rfl⟩
        obtain ⟨Z2, hZ2⟩ : ∃ Z2, Z2 = (S1.write D1 x.pg (List.replicate (lenOf x.ln) x.B)).2 := ⟨_, rfl⟩
        rw [← hZ2] at HQ
        rw [← hW2, ← hZ2] at HL
        have HEP := Lib.hid (show Z2.epoch = S1.epoch by rw [hZ2]; exact write_epoch _ _ _ _)
        have HWR := Lib.hid (show ∀ w_, RpAt w_ ⟨.slice A1 R1.now.loads.length c1, .slice A2 R1.now.free.length c2, .slice A3 R1.was.loads.length c3, .slice A4 R1.was.free.length c4, .slice A5 R1.ch.length c5⟩ R1 → Calls Tryz.prog 33 #[.agg (pc ⟨.slice A1 R1.now.loads.length c1, .slice A2 R1.now.free.length c2, .slice A3 R1.was.loads.length c3, .slice A4 R1.was.free.length c4, .slice A5 R1.ch.length c5⟩ R1), .int .i64 x.pg, .string (str (List.replicate (lenOf x.ln) x.B))] w_ fun e w' => ∃ u, e = .returned u ∧ ∃ B1 d1 B2 d2 B3 d3 B4 d4 B5 d5, u = .tuple #[.agg (pc ⟨.slice B1 W2.now.loads.length d1, .slice B2 W2.now.free.length d2, .slice B3 W2.was.loads.length d3, .slice B4 W2.was.free.length d4, .slice B5 W2.ch.length d5⟩ W2), .int .i64 er] ∧ RpAt w' ⟨.slice B1 W2.now.loads.length d1, .slice B2 W2.now.free.length d2, .slice B3 W2.was.loads.length d3, .slice B4 W2.was.free.length d4, .slice B5 W2.ch.length d5⟩ W2 ∧ Fresh w_.heap.size ⟨.slice A1 R1.now.loads.length c1, .slice A2 R1.now.free.length c2, .slice A3 R1.was.loads.length c3, .slice A4 R1.was.free.length c4, .slice A5 R1.ch.length c5⟩ ⟨.slice B1 W2.now.loads.length d1, .slice B2 W2.now.free.length d2, .slice B3 W2.was.loads.length d3, .slice B4 W2.was.free.length d4, .slice B5 W2.ch.length d5⟩ ∧ Below w_.heap.size w_ w' from by
          intro w_ hq
          have hc := Write_ref x.pg (List.replicate (lenOf x.ln) x.B) hq HSM.out.1 HSM.out.2.1 (by simp; exact lenOf_le x.ln) (by intro b hb; rw [List.eq_of_mem_replicate hb]; exact HXB.out)
          rw [HE.out, ← hW2] at hc
          refine hc.mono ?_
          rintro e w' ⟨m', rfl, hr, hf, hb⟩
          obtain ⟨B1, d1, B2, d2, B3, d3, B4, d4, B5, d5, rfl⟩ := hr.shape
          exact ⟨_, rfl, B1, d1, B2, d2, B3, d3, B4, d4, B5, d5, rfl, hr, hf, hb⟩)
        clear hW2 hZ2
        obtain ⟨Sw0, Sw0d⟩ : ∃ S : World → Prop, S = fun v : World => Qw w v [⟨bx, #[.int .i64 x.k, .int .i64 x.pg, .int .i64 x.ln, .int .u8 (x.B : Nat)], 39⟩, ⟨b9, pc ⟨.slice A1 R1.now.loads.length c1, .slice A2 R1.now.free.length c2, .slice A3 R1.was.loads.length c3, .slice A4 R1.was.free.length c4, .slice A5 R1.ch.length c5⟩ R1, 48⟩] M1 Z2 D1 ⟨.slice A1 R1.now.loads.length c1, .slice A2 R1.now.free.length c2, .slice A3 R1.was.loads.length c3, .slice A4 R1.was.free.length c4, .slice A5 R1.ch.length c5⟩ R1 ∧ True := ⟨_, rfl⟩
        have Sw0t0 : Stands Sw0 := by rw [Sw0d]; exact ((stands_qw _ _ _ _ _ _ _).and (stands_const True))
        have Sw0u0 : ∀ v, Sw0 v → Qw w v [⟨bx, #[.int .i64 x.k, .int .i64 x.pg, .int .i64 x.ln, .int .u8 (x.B : Nat)], 39⟩, ⟨b9, pc ⟨.slice A1 R1.now.loads.length c1, .slice A2 R1.now.free.length c2, .slice A3 R1.was.loads.length c3, .slice A4 R1.was.free.length c4, .slice A5 R1.ch.length c5⟩ R1, 48⟩] M1 Z2 D1 ⟨.slice A1 R1.now.loads.length c1, .slice A2 R1.now.free.length c2, .slice A3 R1.was.loads.length c3, .slice A4 R1.was.free.length c4, .slice A5 R1.ch.length c5⟩ R1 ∧ True := fun v h => by rw [Sw0d] at h; exact h
        have Sw0m0 : ∀ v, (Qw w v [⟨bx, #[.int .i64 x.k, .int .i64 x.pg, .int .i64 x.ln, .int .u8 (x.B : Nat)], 39⟩, ⟨b9, pc ⟨.slice A1 R1.now.loads.length c1, .slice A2 R1.now.free.length c2, .slice A3 R1.was.loads.length c3, .slice A4 R1.was.free.length c4, .slice A5 R1.ch.length c5⟩ R1, 48⟩] M1 Z2 D1 ⟨.slice A1 R1.now.loads.length c1, .slice A2 R1.now.free.length c2, .slice A3 R1.was.loads.length c3, .slice A4 R1.was.free.length c4, .slice A5 R1.ch.length c5⟩ R1 ∧ True) → Sw0 v := fun v h => by rw [Sw0d]; exact h
        have Sw0u := Lib.hid Sw0u0
        have Sw0m := Lib.hid Sw0m0
        have Sw0t := Lib.hid Sw0t0
        clear Sw0d Sw0u0 Sw0m0 Sw0t0
        refine wp_region_X (S := Sw0) (by kernel_rfl) (Sw0m.out _ ⟨HQ.out.grew ⟨rfl, rfl, rfl, Nat.le_refl _, fun _ _ => rfl⟩, trivial⟩) ?_
        refine wpX_take (i := 0) (v := .agg (pc ⟨.slice A1 R1.now.loads.length c1, .slice A2 R1.now.free.length c2, .slice A3 R1.was.loads.length c3, .slice A4 R1.was.free.length c4, .slice A5 R1.ch.length c5⟩ R1)) Sw0t.out rfl rfl (by kernel_rfl) (by kernel_rfl) (by kernel_rfl) (by kernel_rfl) (fun _ _ _ h => h) (SteadyX.value (by rfl) (fun w_ hS => by obtain ⟨q0, q1⟩ := Sw0u.out _ hS; exact exec_load 48 (.tmp 9) rfl (vx := .pointer (some ⟨b9, 0, none⟩)) rfl (run_load_whole (Tryz.isAgg48 _) (Tryz.sizeOf48 _) (q0.bx.at_ (i := 1) rfl) rfl))) ?_
        simp only [List.setIfInBounds_toArray, List.set_cons_zero, List.set_cons_succ]
        refine wpX_take (i := 1) (v := ?_) Sw0t.out rfl rfl (by kernel_rfl) (by kernel_rfl) (by kernel_rfl) (by kernel_rfl) (fun _ _ _ h => h) (SteadyX.value (by rfl) ?_) ?_
        rotate_left
        · (intro w_ hS; go_simp; try with_reducible rfl)
        simp only [List.setIfInBounds_toArray, List.set_cons_zero, List.set_cons_succ]
        refine wpX_take (i := 2) (v := .int .i64 x.pg) Sw0t.out rfl rfl (by kernel_rfl) (by kernel_rfl) (by kernel_rfl) (by kernel_rfl) (fun _ _ _ h => h) (SteadyX.value (by rfl) (fun w_ hS => by obtain ⟨q0, q1⟩ := Sw0u.out _ hS; exact exec_load 3 (.tmp 60) rfl (vx := .pointer (some ⟨bx, 1, none⟩)) rfl (run_load_one (Tryz.isAgg3 _) (cs := #[.int .i64 x.k, .int .i64 x.pg, .int .i64 x.ln, .int .u8 (x.B : Nat)]) (q0.bx.at_ (i := 0) rfl) rfl))) ?_
        simp only [List.setIfInBounds_toArray, List.set_cons_zero, List.set_cons_succ]
        refine wpX_take (i := 3) (v := .agg #[.int .i64 x.k, .int .i64 x.pg, .int .i64 x.ln, .int .u8 (x.B : Nat)]) Sw0t.out rfl rfl (by kernel_rfl) (by kernel_rfl) (by kernel_rfl) (by kernel_rfl) (fun _ _ _ h => h) (SteadyX.value (by rfl) (fun w_ hS => by obtain ⟨q0, q1⟩ := Sw0u.out _ hS; exact exec_load 39 (.tmp 11) rfl (vx := .pointer (some ⟨bx, 0, none⟩)) rfl (run_load_whole (Tryz.isAgg39 _) (Tryz.sizeOf39 _) (q0.bx.at_ (i := 0) rfl) rfl))) ?_
        simp only [List.setIfInBounds_toArray, List.set_cons_zero, List.set_cons_succ]
        refine wpX_one (i := 4) (by kernel_rfl) (fun w_ hS => ?_)
        obtain ⟨q0, q1⟩ := Sw0u.out _ hS
        refine wpX_call rfl rfl (by rfl) (load_tup (actload_any x.k x.pg x.ln x.B w_ HXB.out)) (by go_simp) ?_
        rintro _ w1_ ⟨A, c, rfl, hrd, hb1⟩
        obtain ⟨Sw1, Sw1d⟩ : ∃ S : World → Prop, S = fun v : World => Qw w v [⟨bx, #[.int .i64 x.k, .int .i64 x.pg, .int .i64 x.ln, .int .u8 (x.B : Nat)], 39⟩, ⟨b9, pc ⟨.slice A1 R1.now.loads.length c1, .slice A2 R1.now.free.length c2, .slice A3 R1.was.loads.length c3, .slice A4 R1.was.free.length c4, .slice A5 R1.ch.length c5⟩ R1, 48⟩] M1 Z2 D1 ⟨.slice A1 R1.now.loads.length c1, .slice A2 R1.now.free.length c2, .slice A3 R1.was.loads.length c3, .slice A4 R1.was.free.length c4, .slice A5 R1.ch.length c5⟩ R1 ∧ True ∧ Rd v v.heap.size A (List.replicate (lenOf x.ln) x.B) := ⟨_, rfl⟩
        have Sw1t0 : Stands Sw1 := by rw [Sw1d]; exact ((stands_qw _ _ _ _ _ _ _).and ((stands_const True).and (stands_rd _ _)))
        have Sw1u0 : ∀ v, Sw1 v → Qw w v [⟨bx, #[.int .i64 x.k, .int .i64 x.pg, .int .i64 x.ln, .int .u8 (x.B : Nat)], 39⟩, ⟨b9, pc ⟨.slice A1 R1.now.loads.length c1, .slice A2 R1.now.free.length c2, .slice A3 R1.was.loads.length c3, .slice A4 R1.was.free.length c4, .slice A5 R1.ch.length c5⟩ R1, 48⟩] M1 Z2 D1 ⟨.slice A1 R1.now.loads.length c1, .slice A2 R1.now.free.length c2, .slice A3 R1.was.loads.length c3, .slice A4 R1.was.free.length c4, .slice A5 R1.ch.length c5⟩ R1 ∧ True ∧ Rd v v.heap.size A (List.replicate (lenOf x.ln) x.B) := fun v h => by rw [Sw1d] at h; exact h
        have Sw1m0 : ∀ v, (Qw w v [⟨bx, #[.int .i64 x.k, .int .i64 x.pg, .int .i64 x.ln, .int .u8 (x.B : Nat)], 39⟩, ⟨b9, pc ⟨.slice A1 R1.now.loads.length c1, .slice A2 R1.now.free.length c2, .slice A3 R1.was.loads.length c3, .slice A4 R1.was.free.length c4, .slice A5 R1.ch.length c5⟩ R1, 48⟩] M1 Z2 D1 ⟨.slice A1 R1.now.loads.length c1, .slice A2 R1.now.free.length c2, .slice A3 R1.was.loads.length c3, .slice A4 R1.was.free.length c4, .slice A5 R1.ch.length c5⟩ R1 ∧ True ∧ Rd v v.heap.size A (List.replicate (lenOf x.ln) x.B)) → Sw1 v := fun v h => by rw [Sw1d]; exact h
        have Sw1u := Lib.hid Sw1u0
        have Sw1m := Lib.hid Sw1m0
        have Sw1t := Lib.hid Sw1t0
        clear Sw1d Sw1u0 Sw1m0 Sw1t0
        refine ⟨Sw1, Sw1t.out, .inr (fun v h => Sw0m.out _ (by obtain ⟨q0, q1, q2⟩ := Sw1u.out _ h; exact ⟨q0, q1⟩)), Sw1m.out _ ⟨(stands_qw _ _ _ _ _ _ _) _ _ hb1 q0, (stands_const True) _ _ hb1 q1, hrd⟩, ?_⟩
        clear hS q0 q1
        clear hrd hb1
        clear w1_ w_
        simp only [List.setIfInBounds_toArray, List.set_cons_zero, List.set_cons_succ]
        refine wpX_take (i := 5) (v := .string (str (List.replicate (lenOf x.ln) x.B))) Sw1t.out rfl rfl (by kernel_rfl) (by kernel_rfl) (by kernel_rfl) (by kernel_rfl) (fun _ _ _ h => h) (SteadyX.value (by rfl) (fun w_ hS => by obtain ⟨q0, q1, q2⟩ := Sw1u.out _ hS; exact exec_convert 31 9 (.tmp 63) rfl (vx := .slice A (lenOf x.ln) c) rfl (by have h := run_str c q2; rw [List.length_replicate] at h; exact h))) ?_
        simp only [List.setIfInBounds_toArray, List.set_cons_zero, List.set_cons_succ]
        refine wpX_one (i := 6) (by kernel_rfl) (fun w_ hS => ?_)
        obtain ⟨q0, q1, q2⟩ := Sw1u.out _ hS
        refine wpX_call rfl rfl (by rfl) (HWR.out w_ q0.rp) (by go_simp) ?_
        rintro _ w1_ ⟨B1, d1, B2, d2, B3, d3, B4, d4, B5, d5, rfl, hr2, hf2, hb2⟩
        obtain ⟨Sw2, Sw2d⟩ : ∃ S : World → Prop, S = fun v : World => Qw w v [⟨bx, #[.int .i64 x.k, .int .i64 x.pg, .int .i64 x.ln, .int .u8 (x.B : Nat)], 39⟩, ⟨b9, pc ⟨.slice A1 R1.now.loads.length c1, .slice A2 R1.now.free.length c2, .slice A3 R1.was.loads.length c3, .slice A4 R1.was.free.length c4, .slice A5 R1.ch.length c5⟩ R1, 48⟩] M1 Z2 D1 ⟨.slice A1 R1.now.loads.length c1, .slice A2 R1.now.free.length c2, .slice A3 R1.was.loads.length c3, .slice A4 R1.was.free.length c4, .slice A5 R1.ch.length c5⟩ R1 ∧ True ∧ Rd v v.heap.size A (List.replicate (lenOf x.ln) x.B) ∧ Qw w v [⟨bx, #[.int .i64 x.k, .int .i64 x.pg, .int .i64 x.ln, .int .u8 (x.B : Nat)], 39⟩, ⟨b9, pc ⟨.slice A1 R1.now.loads.length c1, .slice A2 R1.now.free.length c2, .slice A3 R1.was.loads.length c3, .slice A4 R1.was.free.length c4, .slice A5 R1.ch.length c5⟩ R1, 48⟩] M1 Z2 D1 ⟨.slice B1 W2.now.loads.length d1, .slice B2 W2.now.free.length d2, .slice B3 W2.was.loads.length d3, .slice B4 W2.was.free.length d4, .slice B5 W2.ch.length d5⟩ W2 := ⟨_, rfl⟩
        have Sw2t0 : Stands Sw2 := by rw [Sw2d]; exact ((stands_qw _ _ _ _ _ _ _).and ((stands_const True).and ((stands_rd _ _).and (stands_qw _ _ _ _ _ _ _))))
        have Sw2u0 : ∀ v, Sw2 v → Qw w v [⟨bx, #[.int .i64 x.k, .int .i64 x.pg, .int .i64 x.ln, .int .u8 (x.B : Nat)], 39⟩, ⟨b9, pc ⟨.slice A1 R1.now.loads.length c1, .slice A2 R1.now.free.length c2, .slice A3 R1.was.loads.length c3, .slice A4 R1.was.free.length c4, .slice A5 R1.ch.length c5⟩ R1, 48⟩] M1 Z2 D1 ⟨.slice A1 R1.now.loads.length c1, .slice A2 R1.now.free.length c2, .slice A3 R1.was.loads.length c3, .slice A4 R1.was.free.length c4, .slice A5 R1.ch.length c5⟩ R1 ∧ True ∧ Rd v v.heap.size A (List.replicate (lenOf x.ln) x.B) ∧ Qw w v [⟨bx, #[.int .i64 x.k, .int .i64 x.pg, .int .i64 x.ln, .int .u8 (x.B : Nat)], 39⟩, ⟨b9, pc ⟨.slice A1 R1.now.loads.length c1, .slice A2 R1.now.free.length c2, .slice A3 R1.was.loads.length c3, .slice A4 R1.was.free.length c4, .slice A5 R1.ch.length c5⟩ R1, 48⟩] M1 Z2 D1 ⟨.slice B1 W2.now.loads.length d1, .slice B2 W2.now.free.length d2, .slice B3 W2.was.loads.length d3, .slice B4 W2.was.free.length d4, .slice B5 W2.ch.length d5⟩ W2 := fun v h => by rw [Sw2d] at h; exact h
        have Sw2m0 : ∀ v, (Qw w v [⟨bx, #[.int .i64 x.k, .int .i64 x.pg, .int .i64 x.ln, .int .u8 (x.B : Nat)], 39⟩, ⟨b9, pc ⟨.slice A1 R1.now.loads.length c1, .slice A2 R1.now.free.length c2, .slice A3 R1.was.loads.length c3, .slice A4 R1.was.free.length c4, .slice A5 R1.ch.length c5⟩ R1, 48⟩] M1 Z2 D1 ⟨.slice A1 R1.now.loads.length c1, .slice A2 R1.now.free.length c2, .slice A3 R1.was.loads.length c3, .slice A4 R1.was.free.length c4, .slice A5 R1.ch.length c5⟩ R1 ∧ True ∧ Rd v v.heap.size A (List.replicate (lenOf x.ln) x.B) ∧ Qw w v [⟨bx, #[.int .i64 x.k, .int .i64 x.pg, .int .i64 x.ln, .int .u8 (x.B : Nat)], 39⟩, ⟨b9, pc ⟨.slice A1 R1.now.loads.length c1, .slice A2 R1.now.free.length c2, .slice A3 R1.was.loads.length c3, .slice A4 R1.was.free.length c4, .slice A5 R1.ch.length c5⟩ R1, 48⟩] M1 Z2 D1 ⟨.slice B1 W2.now.loads.length d1, .slice B2 W2.now.free.length d2, .slice B3 W2.was.loads.length d3, .slice B4 W2.was.free.length d4, .slice B5 W2.ch.length d5⟩ W2) → Sw2 v := fun v h => by rw [Sw2d]; exact h
        have Sw2u := Lib.hid Sw2u0
        have Sw2m := Lib.hid Sw2m0
        have Sw2t := Lib.hid Sw2t0
        clear Sw2d Sw2u0 Sw2m0 Sw2t0
        refine ⟨Sw2, Sw2t.out, .inr (fun v h => Sw1m.out _ (by obtain ⟨q0, q1, q2, q3⟩ := Sw2u.out _ h; exact ⟨q0, q1, q2⟩)), Sw2m.out _ ⟨(stands_qw _ _ _ _ _ _ _) _ _ hb2 q0, (stands_const True) _ _ hb2 q1, (stands_rd _ _) _ _ hb2 q2, q0.ref hr2 hf2 hb2⟩, ?_⟩
        clear hS q0 q1 q2
        clear hr2 hf2 hb2
        clear w1_ w_
        simp only [List.setIfInBounds_toArray, List.set_cons_zero, List.set_cons_succ]
        refine wpX_take (i := 7) (v := ?_) Sw2t.out rfl rfl (by kernel_rfl) (by kernel_rfl) (by kernel_rfl) (by kernel_rfl) (fun _ _ _ h => h) (SteadyX.value (by rfl) ?_) ?_
        rotate_left
        · (intro w_ hS; go_simp; try with_reducible rfl)
        simp only [List.setIfInBounds_toArray, List.set_cons_zero, List.set_cons_succ]
        refine wpX_take (i := 8) (v := ?_) Sw2t.out rfl rfl (by kernel_rfl) (by kernel_rfl) (by kernel_rfl) (by kernel_rfl) (fun _ _ _ h => h) (SteadyX.value (by rfl) ?_) ?_
        rotate_left
        · (intro w_ hS; go_simp; try with_reducible rfl)
        simp only [List.setIfInBounds_toArray, List.set_cons_zero, List.set_cons_succ]
        refine wpX_take (i := 9) (v := ?_) Sw2t.out rfl rfl (by kernel_rfl) (by kernel_rfl) (by kernel_rfl) (by kernel_rfl) (fun _ _ _ h => h) (SteadyX.value (by rfl) ?_) ?_
        rotate_left
        · (intro w_ hS; go_simp; try with_reducible rfl)
        simp only [List.setIfInBounds_toArray, List.set_cons_zero, List.set_cons_succ]
        refine wpX_one (i := 10) (by kernel_rfl) (fun w_ hS => ?_)
        obtain ⟨q0, q1, q2, q3⟩ := Sw2u.out _ hS
        obtain ⟨Sw3, Sw3d⟩ : ∃ S : World → Prop, S = fun v : World => Qw w v [⟨bx, #[.int .i64 x.k, .int .i64 x.pg, .int .i64 x.ln, .int .u8 (x.B : Nat)], 39⟩, ⟨b9, splice (pc ⟨.slice A1 R1.now.loads.length c1, .slice A2 R1.now.free.length c2, .slice A3 R1.was.loads.length c3, .slice A4 R1.was.free.length c4, .slice A5 R1.ch.length c5⟩ R1) 0 (pc ⟨.slice B1 W2.now.loads.length d1, .slice B2 W2.now.free.length d2, .slice B3 W2.was.loads.length d3, .slice B4 W2.was.free.length d4, .slice B5 W2.ch.length d5⟩ W2), 48⟩] M1 Z2 D1 ⟨.slice B1 W2.now.loads.length d1, .slice B2 W2.now.free.length d2, .slice B3 W2.was.loads.length d3, .slice B4 W2.was.free.length d4, .slice B5 W2.ch.length d5⟩ W2 := ⟨_, rfl⟩
        have Sw3t0 : Stands Sw3 := by rw [Sw3d]; exact (stands_qw _ _ _ _ _ _ _)
        have Sw3u0 : ∀ v, Sw3 v → Qw w v [⟨bx, #[.int .i64 x.k, .int .i64 x.pg, .int .i64 x.ln, .int .u8 (x.B : Nat)], 39⟩, ⟨b9, splice (pc ⟨.slice A1 R1.now.loads.length c1, .slice A2 R1.now.free.length c2, .slice A3 R1.was.loads.length c3, .slice A4 R1.was.free.length c4, .slice A5 R1.ch.length c5⟩ R1) 0 (pc ⟨.slice B1 W2.now.loads.length d1, .slice B2 W2.now.free.length d2, .slice B3 W2.was.loads.length d3, .slice B4 W2.was.free.length d4, .slice B5 W2.ch.length d5⟩ W2), 48⟩] M1 Z2 D1 ⟨.slice B1 W2.now.loads.length d1, .slice B2 W2.now.free.length d2, .slice B3 W2.was.loads.length d3, .slice B4 W2.was.free.length d4, .slice B5 W2.ch.length d5⟩ W2 := fun v h => by rw [Sw3d] at h; exact h
        have Sw3m0 : ∀ v, (Qw w v [⟨bx, #[.int .i64 x.k, .int .i64 x.pg, .int .i64 x.ln, .int .u8 (x.B : Nat)], 39⟩, ⟨b9, splice (pc ⟨.slice A1 R1.now.loads.length c1, .slice A2 R1.now.free.length c2, .slice A3 R1.was.loads.length c3, .slice A4 R1.was.free.length c4, .slice A5 R1.ch.length c5⟩ R1) 0 (pc ⟨.slice B1 W2.now.loads.length d1, .slice B2 W2.now.free.length d2, .slice B3 W2.was.loads.length d3, .slice B4 W2.was.free.length d4, .slice B5 W2.ch.length d5⟩ W2), 48⟩] M1 Z2 D1 ⟨.slice B1 W2.now.loads.length d1, .slice B2 W2.now.free.length d2, .slice B3 W2.was.loads.length d3, .slice B4 W2.was.free.length d4, .slice B5 W2.ch.length d5⟩ W2) → Sw3 v := fun v h => by rw [Sw3d]; exact h
        have Sw3u := Lib.hid Sw3u0
        have Sw3m := Lib.hid Sw3m0
        have Sw3t := Lib.hid Sw3t0
        clear Sw3d Sw3u0 Sw3m0 Sw3t0
        have st_ : Sw3 (w_.setRow b9 (splice (pc ⟨.slice A1 R1.now.loads.length c1, .slice A2 R1.now.free.length c2, .slice A3 R1.was.loads.length c3, .slice A4 R1.was.free.length c4, .slice A5 R1.ch.length c5⟩ R1) 0 (pc ⟨.slice B1 W2.now.loads.length d1, .slice B2 W2.now.free.length d2, .slice B3 W2.was.loads.length d3, .slice B4 W2.was.free.length d4, .slice B5 W2.ch.length d5⟩ W2))) := Sw3m.out _ (q3.setrow (i := 1) (e := ⟨b9, pc ⟨.slice A1 R1.now.loads.length c1, .slice A2 R1.now.free.length c2, .slice A3 R1.was.loads.length c3, .slice A4 R1.was.free.length c4, .slice A5 R1.ch.length c5⟩ R1, 48⟩) rfl (pc ⟨.slice B1 W2.now.loads.length d1, .slice B2 W2.now.free.length d2, .slice B3 W2.was.loads.length d3, .slice B4 W2.was.free.length d4, .slice B5 W2.ch.length d5⟩ W2) ⟨(by decide : (48 : Nat) ≠ 3), (by decide : (48 : Nat) ≠ 5), (by decide : (48 : Nat) ≠ 9)⟩)
        refine wpX_store (i := 10) (w' := (w_.setRow b9 (splice (pc ⟨.slice A1 R1.now.loads.length c1, .slice A2 R1.now.free.length c2, .slice A3 R1.was.loads.length c3, .slice A4 R1.was.free.length c4, .slice A5 R1.ch.length c5⟩ R1) 0 (pc ⟨.slice B1 W2.now.loads.length d1, .slice B2 W2.now.free.length d2, .slice B3 W2.was.loads.length d3, .slice B4 W2.was.free.length d4, .slice B5 W2.ch.length d5⟩ W2)))) Sw3 rfl rfl (by rfl) (by exact exec_store 48 (.tmp 9) (.tmp 66) rfl (vx := .pointer (some ⟨b9, 0, none⟩)) rfl (vy := .agg (pc ⟨.slice B1 W2.now.loads.length d1, .slice B2 W2.now.free.length d2, .slice B3 W2.was.loads.length d3, .slice B4 W2.was.free.length d4, .slice B5 W2.ch.length d5⟩ W2)) rfl (run_store_agg (Tryz.sizeOf48 _) (q3.bx.at_ (i := 1) rfl) rfl (by simp [pc]) (fun x hx => List.all_eq_true.1 (by kernel_rfl : (pc ⟨.slice B1 W2.now.loads.length d1, .slice B2 W2.now.free.length d2, .slice B3 W2.was.loads.length d3, .slice B4 W2.was.free.length d4, .slice B5 W2.ch.length d5⟩ W2).toList.all (·.oneCell') = true) x hx))) Sw3t.out (.inl (by kernel_rfl)) st_ ?_
        clear hS st_  q0 q1 q2 q3
        clear w_
        refine wpX_take (i := 11) (v := ?_) Sw3t.out rfl rfl (by kernel_rfl) (by kernel_rfl) (by kernel_rfl) (by kernel_rfl) (fun _ _ _ h => h) (SteadyX.value (by rfl) ?_) ?_
        rotate_left
        · (intro w_ hS; go_simp; try with_reducible rfl)
        simp only [List.setIfInBounds_toArray, List.set_cons_zero, List.set_cons_succ]
        refine wpX_done (by kernel_rfl) (fun W9 hS => ?_) _
        have q0 := Sw3u.out _ hS
        clear hS Sw0u Sw0m Sw0t Sw1u Sw1m Sw1t Sw2u Sw2m Sw2t Sw3u Sw3m Sw3t
        clear Sw0 Sw1 Sw2 Sw3
        have HQ := Lib.hid q0
        clear q0
        rw [splice_whole (n := 25) (by kernel_rfl) (by kernel_rfl)] at HQ
        go_wp2_with (rw [wpl_id]; first
          | (refine wpl_lda (Lib.hid HQ.out.bx) 1 rfl _ _ rfl (by first | exact .inl rfl | exact .inr ⟨_, _, _, _, rfl, rfl, rfl, rfl⟩) (by exact rfl) Tryz.isAgg48 Tryz.sizeOf48 (by kernel_rfl) (whole_take (by kernel_rfl)) ?_))
        refine (alike_any HQ.out.lp HQ.out.rp HQ.out.rd).mono ?_
        rintro e w9 ⟨Bz, f, rfl, hB, hk9, hs9⟩
        obtain rfl := hB (HL.out.2)
        have HP9 := Lib.hid (Pw.mk (s := s) (b := b) (E := 1 + (j + 1)) ((HQ.out.step hk9 hs9).sub (List.Sublist.cons _ (List.Sublist.refl _))) (HPW.out.calm) (Like.seen (HL.out.2) ⟨f, rfl⟩) (by show Z2.epoch ≤ 1 + (j + 1); have := HPW.out.ep; have := HEP.out; omega) (HPW.out.sec) (HPW.out.size) (HPW.out.hb))
        clear hB hk9 hs9 HQ
        go_wp2
        go_roundw
        case rel => exact ⟨j + 1, M1, _, _, _, _, by omega, rfl, by go_num, HP9⟩
        case measure => simp [intOf]; omega
      · have e5 : (x.k.tmod 9 + 9).tmod 9 = 3 := by rw [e4]; rfl
        clear e4
        go_wp2_with (rw [wpl_id]; first
          | (refine wplq_new HQ _ rfl (by first | exact .inl rfl | exact .inr ⟨_, _, _, _, rfl, rfl, rfl, rfl⟩) Tryz.zeroValue39 (cs := #[.int .i64 0, .int .i64 0, .int .i64 0, .int .u8 0]) rfl (fun bx w' H2 => ?_); clear HQ; have HQ := H2; clear H2)
          | (refine wplq_sta HQ 0 rfl rfl _ _ _ rfl (by first | exact .inl rfl | exact .inr ⟨_, _, _, _, rfl, rfl, rfl, rfl⟩) (by exact rfl) (by exact rfl) Tryz.sizeOf39 (by kernel_rfl) (by kernel_rfl) (by kernel_rfl) (by kernel_rfl) (splice_whole (n := 4) (by kernel_rfl) (by kernel_rfl)) (fun w' H2 => ?_); simp only [List.set_cons_succ, List.set_cons_zero] at H2; clear HQ; have HQ := H2; clear H2)
          | (refine wpl_ld (Lib.hid HQ.out.bx) 0 rfl _ _ rfl (by first | exact .inl rfl | exact .inr ⟨_, _, _, _, rfl, rfl, rfl, rfl⟩) (by exact rfl) (notAgg _ (by decide)) rfl ?_))
        clear c0 c1' c2' c3'
        refine (Give_lp HQ.out.lp x.pg).mono ?_
        rintro e w5 ⟨M2, rfl, hh, hk2, hst⟩
        rw [← hh.p]
        have HL := Lib.hid (HPW.out.like.give HI.out x.pg)
        obtain ⟨er, her⟩ : ∃ er, er = (S1.give D1 x.pg).1 := ⟨_, rfl⟩
        rw [← her]
        have HE := Lib.hid (HL.out.1.trans her.symm)
        have HHB := Lib.hid (hh.b.trans HPW.out.hb)
        clear her hh
        have HQ2 := Lib.hid (HQ.out.step hk2 hst)
        clear HQ hk2 hst
        have HQ := HQ2
        clear HQ2
        go_wp2_with (rw [wpl_id]; first
          | (refine wpl_lda (Lib.hid HQ.out.bx) 1 rfl _ _ rfl (by first | exact .inl rfl | exact .inr ⟨_, _, _, _, rfl, rfl, rfl, rfl⟩) (by exact rfl) Tryz.isAgg48 Tryz.sizeOf48 (by kernel_rfl) (whole_take (by kernel_rfl)) ?_)
          | (refine wpl_ld (Lib.hid HQ.out.bx) 0 rfl _ _ rfl (by first | exact .inl rfl | exact .inr ⟨_, _, _, _, rfl, rfl, rfl, rfl⟩) (by exact rfl) (notAgg _ (by decide)) rfl ?_))
        have hrf := Give_ref x.pg HQ.out.rp HSM.out.1
        rw [HE.out] at hrf
        refine hrf.mono ?_
        rintro e w6 ⟨m2, rfl, hr2, hf2, hb2⟩
        clear hrf
        obtain ⟨B1, d1, B2, d2, B3, d3, B4, d4, B5, d5, rfl⟩ := hr2.shape
        have HQ2 := Lib.hid (HQ.out.ref hr2 hf2 hb2)
        clear HQ hr2 hf2 hb2
        have HQ := HQ2
        clear HQ2
        go_wp2_with (rw [wpl_id]; first
          | (refine wplq_sta HQ 1 rfl rfl _ _ _ rfl (by first | exact .inl rfl | exact .inr ⟨_, _, _, _, rfl, rfl, rfl, rfl⟩) (by exact rfl) (by exact rfl) Tryz.sizeOf48 (by kernel_rfl) (by kernel_rfl) (by kernel_rfl) (by kernel_rfl) (splice_whole (n := 25) (by kernel_rfl) (by kernel_rfl)) (fun w' H2 => ?_); simp only [List.set_cons_succ, List.set_cons_zero] at H2; clear HQ; have HQ := H2; clear H2)
          | (refine wpl_lda (Lib.hid HQ.out.bx) 1 rfl _ _ rfl (by first | exact .inl rfl | exact .inr ⟨_, _, _, _, rfl, rfl, rfl, rfl⟩) (by exact rfl) Tryz.isAgg48 Tryz.sizeOf48 (by kernel_rfl) (whole_take (by kernel_rfl)) ?_))
        refine (alike_any HQ.out.lp HQ.out.rp HQ.out.rd).mono ?_
        rintro e w9 ⟨Bz, f, rfl, hB, hk9, hs9⟩
        obtain rfl := hB (HL.out.2)
        have HP9 := Lib.hid (Pw.mk (s := s) (b := b) (E := 1 + (j + 1)) ((HQ.out.step hk9 hs9).sub (List.Sublist.cons _ (List.Sublist.refl _))) (HPW.out.calm) (Like.seen (HL.out.2) ⟨f, rfl⟩) (by show (S1.give D1 x.pg).2.epoch ≤ 1 + (j + 1); have := HPW.out.ep; have e0 := give_epoch S1 D1 x.pg; omega) (HPW.out.sec) (HPW.out.size) (HHB.out))
        clear hB hk9 hs9 HQ
        go_wp2
        go_roundw
        case rel => exact ⟨j + 1, M2, _, _, _, _, by omega, rfl, by go_num, HP9⟩
        case measure => simp [intOf]; omega
      · have e5 : (x.k.tmod 9 + 9).tmod 9 = 4 := by rw [e4]; rfl
        clear e4
        go_wp2_with (rw [wpl_id]; first
          | (refine wplq_new HQ _ rfl (by first | exact .inl rfl | exact .inr ⟨_, _, _, _, rfl, rfl, rfl, rfl⟩) Tryz.zeroValue39 (cs := #[.int .i64 0, .int .i64 0, .int .i64 0, .int .u8 0]) rfl (fun bx w' H2 => ?_); clear HQ; have HQ := H2; clear H2)
          | (refine wplq_sta HQ 0 rfl rfl _ _ _ rfl (by first | exact .inl rfl | exact .inr ⟨_, _, _, _, rfl, rfl, rfl, rfl⟩) (by exact rfl) (by exact rfl) Tryz.sizeOf39 (by kernel_rfl) (by kernel_rfl) (by kernel_rfl) (by kernel_rfl) (splice_whole (n := 4) (by kernel_rfl) (by kernel_rfl)) (fun w' H2 => ?_); simp only [List.set_cons_succ, List.set_cons_zero] at H2; clear HQ; have HQ := H2; clear H2)
          | (refine wpl_ld (Lib.hid HQ.out.bx) 0 rfl _ _ rfl (by first | exact .inl rfl | exact .inr ⟨_, _, _, _, rfl, rfl, rfl, rfl⟩) (by exact rfl) (notAgg _ (by decide)) rfl ?_))
        clear c0 c1' c2' c3'
        refine (SetRoot_lp HQ.out.lp x.pg x.ln).mono ?_
        rintro e w5 ⟨rfl, hk2, hst⟩
        skip
        have HL := Lib.hid (HPW.out.like.setRoot HI.out x.pg x.ln)
        obtain ⟨er, her⟩ : ∃ er, er = (S1.setRoot x.pg x.ln).1 := ⟨_, rfl⟩
        rw [← her]
        have HE := Lib.hid (HL.out.1.trans her.symm)
        have HHB := Lib.hid (HPW.out.hb)
        clear her 
        have HQ2 := Lib.hid (HQ.out.step hk2 hst)
        clear HQ hk2 hst
        have HQ := HQ2
        clear HQ2
        go_wp2_with (rw [wpl_id]; first
          | (refine wpl_lda (Lib.hid HQ.out.bx) 1 rfl _ _ rfl (by first | exact .inl rfl | exact .inr ⟨_, _, _, _, rfl, rfl, rfl, rfl⟩) (by exact rfl) Tryz.isAgg48 Tryz.sizeOf48 (by kernel_rfl) (whole_take (by kernel_rfl)) ?_)
          | (refine wpl_ld (Lib.hid HQ.out.bx) 0 rfl _ _ rfl (by first | exact .inl rfl | exact .inr ⟨_, _, _, _, rfl, rfl, rfl, rfl⟩) (by exact rfl) (notAgg _ (by decide)) rfl ?_))
        have hrf := SetRoot_ref x.pg x.ln HQ.out.rp 
        rw [HE.out] at hrf
        refine hrf.mono ?_
        rintro e w6 ⟨m2, rfl, hr2, hf2, hb2⟩
        clear hrf
        obtain ⟨B1, d1, B2, d2, B3, d3, B4, d4, B5, d5, rfl⟩ := hr2.shape
        have HQ2 := Lib.hid (HQ.out.ref hr2 hf2 hb2)
        clear HQ hr2 hf2 hb2
        have HQ := HQ2
        clear HQ2
        go_wp2_with (rw [wpl_id]; first
          | (refine wplq_sta HQ 1 rfl rfl _ _ _ rfl (by first | exact .inl rfl | exact .inr ⟨_, _, _, _, rfl, rfl, rfl, rfl⟩) (by exact rfl) (by exact rfl) Tryz.sizeOf48 (by kernel_rfl) (by kernel_rfl) (by kernel_rfl) (by kernel_rfl) (splice_whole (n := 25) (by kernel_rfl) (by kernel_rfl)) (fun w' H2 => ?_); simp only [List.set_cons_succ, List.set_cons_zero] at H2; clear HQ; have HQ := H2; clear H2)
          | (refine wpl_lda (Lib.hid HQ.out.bx) 1 rfl _ _ rfl (by first | exact .inl rfl | exact .inr ⟨_, _, _, _, rfl, rfl, rfl, rfl⟩) (by exact rfl) Tryz.isAgg48 Tryz.sizeOf48 (by kernel_rfl) (whole_take (by kernel_rfl)) ?_))
        refine (alike_any HQ.out.lp HQ.out.rp HQ.out.rd).mono ?_
        rintro e w9 ⟨Bz, f, rfl, hB, hk9, hs9⟩
        obtain rfl := hB (HL.out.2)
        have HP9 := Lib.hid (Pw.mk (s := s) (b := b) (E := 1 + (j + 1)) ((HQ.out.step hk9 hs9).sub (List.Sublist.cons _ (List.Sublist.refl _))) (HPW.out.calm) (Like.seen (HL.out.2) ⟨f, rfl⟩) (by show (S1.setRoot x.pg x.ln).2.epoch ≤ 1 + (j + 1); have := HPW.out.ep; have e0 := setRoot_epoch S1 x.pg x.ln; omega) (HPW.out.sec) (HPW.out.size) (HHB.out))
        clear hB hk9 hs9 HQ
        go_wp2
        go_roundw
        case rel => exact ⟨j + 1, M1, _, _, _, _, by omega, rfl, by go_num, HP9⟩
        case measure => simp [intOf]; omega
      · have e5 : (x.k.tmod 9 + 9).tmod 9 = 5 := by rw [e4]; rfl
        clear e4
        go_wp2_with (rw [wpl_id]; first
          | (refine wplq_new HQ _ rfl (by first | exact .inl rfl | exact .inr ⟨_, _, _, _, rfl, rfl, rfl, rfl⟩) Tryz.zeroValue39 (cs := #[.int .i64 0, .int .i64 0, .int .i64 0, .int .u8 0]) rfl (fun bx w' H2 => ?_); clear HQ; have HQ := H2; clear H2)
          | (refine wplq_sta HQ 0 rfl rfl _ _ _ rfl (by first | exact .inl rfl | exact .inr ⟨_, _, _, _, rfl, rfl, rfl, rfl⟩) (by exact rfl) (by exact rfl) Tryz.sizeOf39 (by kernel_rfl) (by kernel_rfl) (by kernel_rfl) (by kernel_rfl) (splice_whole (n := 4) (by kernel_rfl) (by kernel_rfl)) (fun w' H2 => ?_); simp only [List.set_cons_succ, List.set_cons_zero] at H2; clear HQ; have HQ := H2; clear H2)
          | (refine wpl_ld (Lib.hid HQ.out.bx) 0 rfl _ _ rfl (by first | exact .inl rfl | exact .inr ⟨_, _, _, _, rfl, rfl, rfl, rfl⟩) (by exact rfl) (notAgg _ (by decide)) rfl ?_))
        clear c0 c1' c2' c3'
        refine (Commit_lp HQ.out.lp HPW.out.calm (by have := HPW.out.ep; omega)).mono ?_
        rintro e w5 (⟨hfu, M2, rfl, hh, hk2, hst⟩ | ⟨hfu, M2, S2, D2, rfl, hh, hk2, hcm, hdn, hst⟩)
        · rw [← hh.p]
          have HL := Lib.hid (HPW.out.like.full HI.out hfu)
          have HHB := Lib.hid (hh.b.trans HPW.out.hb)
          clear hh hfu
          have HQ2 := Lib.hid (HQ.out.step hk2 hst)
          clear HQ hk2 hst
          have HQ := HQ2
          clear HQ2
          go_wp2_with (rw [wpl_id]; first
            | (refine wpl_lda (Lib.hid HQ.out.bx) 1 rfl _ _ rfl (by first | exact .inl rfl | exact .inr ⟨_, _, _, _, rfl, rfl, rfl, rfl⟩) (by exact rfl) Tryz.isAgg48 Tryz.sizeOf48 (by kernel_rfl) (whole_take (by kernel_rfl)) ?_))
          have hrf := Commit_ref HQ.out.rp
          rw [HL.out.1] at hrf
          refine hrf.mono ?_
          rintro e w6 ⟨m2, rfl, hr2, hf2, hb2⟩
          clear hrf
          obtain ⟨B1, d1, B2, d2, B3, d3, B4, d4, B5, d5, rfl⟩ := hr2.shape
          have HQ2 := Lib.hid (HQ.out.ref hr2 hf2 hb2)
          clear HQ hr2 hf2 hb2
          have HQ := HQ2
          clear HQ2
          go_wp2_with (rw [wpl_id]; first
            | (refine wplq_sta HQ 1 rfl rfl _ _ _ rfl (by first | exact .inl rfl | exact .inr ⟨_, _, _, _, rfl, rfl, rfl, rfl⟩) (by exact rfl) (by exact rfl) Tryz.sizeOf48 (by kernel_rfl) (by kernel_rfl) (by kernel_rfl) (by kernel_rfl) (splice_whole (n := 25) (by kernel_rfl) (by kernel_rfl)) (fun w' H2 => ?_); simp only [List.set_cons_succ, List.set_cons_zero] at H2; clear HQ; have HQ := H2; clear H2)
            | (refine wpl_lda (Lib.hid HQ.out.bx) 1 rfl _ _ rfl (by first | exact .inl rfl | exact .inr ⟨_, _, _, _, rfl, rfl, rfl, rfl⟩) (by exact rfl) Tryz.isAgg48 Tryz.sizeOf48 (by kernel_rfl) (whole_take (by kernel_rfl)) ?_))
          refine (alike_any HQ.out.lp HQ.out.rp HQ.out.rd).mono ?_
          rintro e w9 ⟨Bz, f, rfl, hB, hk9, hs9⟩
          obtain rfl := hB (HL.out.2)
          have HP9 := Lib.hid (Pw.mk (s := s) (b := b) (E := 1 + (j + 1)) ((HQ.out.step hk9 hs9).sub (List.Sublist.cons _ (List.Sublist.refl _))) (HPW.out.calm) (Like.seen (HL.out.2) ⟨f, rfl⟩) (by show S1.epoch ≤ 1 + (j + 1); have := HPW.out.ep; omega) (HPW.out.sec) (HPW.out.size) (HHB.out))
          clear hB hk9 hs9 HQ
          go_wp2
          go_roundw
          case rel => exact ⟨j + 1, M2, _, _, _, _, by omega, rfl, by go_num, HP9⟩
          case measure => simp [intOf]; omega
        · rw [← hh.p]
          have HL := Lib.hid (HPW.out.like.committed HI.out hdn hfu)
          have HHB := Lib.hid (hh.b.trans HPW.out.hb)
          have HCM := Lib.hid hcm
          have HDN := Lib.hid hdn
          clear hcm hdn
          clear hh hfu
          have HQ2 := Lib.hid (HQ.out.step hk2 hst)
          clear HQ hk2 hst
          have HQ := HQ2
          clear HQ2
          go_wp2_with (rw [wpl_id]; first
            | (refine wpl_lda (Lib.hid HQ.out.bx) 1 rfl _ _ rfl (by first | exact .inl rfl | exact .inr ⟨_, _, _, _, rfl, rfl, rfl, rfl⟩) (by exact rfl) Tryz.isAgg48 Tryz.sizeOf48 (by kernel_rfl) (whole_take (by kernel_rfl)) ?_))
          have hrf := Commit_ref HQ.out.rp
          rw [HL.out.1] at hrf
          refine hrf.mono ?_
          rintro e w6 ⟨m2, rfl, hr2, hf2, hb2⟩
          clear hrf
          obtain ⟨B1, d1, B2, d2, B3, d3, B4, d4, B5, d5, rfl⟩ := hr2.shape
          have HQ2 := Lib.hid (HQ.out.ref hr2 hf2 hb2)
          clear HQ hr2 hf2 hb2
          have HQ := HQ2
          clear HQ2
          go_wp2_with (rw [wpl_id]; first
            | (refine wplq_sta HQ 1 rfl rfl _ _ _ rfl (by first | exact .inl rfl | exact .inr ⟨_, _, _, _, rfl, rfl, rfl, rfl⟩) (by exact rfl) (by exact rfl) Tryz.sizeOf48 (by kernel_rfl) (by kernel_rfl) (by kernel_rfl) (by kernel_rfl) (splice_whole (n := 25) (by kernel_rfl) (by kernel_rfl)) (fun w' H2 => ?_); simp only [List.set_cons_succ, List.set_cons_zero] at H2; clear HQ; have HQ := H2; clear H2)
            | (refine wpl_lda (Lib.hid HQ.out.bx) 1 rfl _ _ rfl (by first | exact .inl rfl | exact .inr ⟨_, _, _, _, rfl, rfl, rfl, rfl⟩) (by exact rfl) Tryz.isAgg48 Tryz.sizeOf48 (by kernel_rfl) (whole_take (by kernel_rfl)) ?_))
          refine (alike_any HQ.out.lp HQ.out.rp HQ.out.rd).mono ?_
          rintro e w9 ⟨Bz, f, rfl, hB, hk9, hs9⟩
          obtain rfl := hB (HL.out.2)
          have HP9 := Lib.hid (Pw.mk (s := s) (b := b) (E := 1 + (j + 1)) ((HQ.out.step hk9 hs9).sub (List.Sublist.cons _ (List.Sublist.refl _))) (HCM.out) (Like.seen (HL.out.2) ⟨f, rfl⟩) (by show S2.epoch ≤ 1 + (j + 1); have := HPW.out.ep; have := HDN.out.ep; omega) (HDN.out.sec.trans HPW.out.sec) (HDN.out.size.trans HPW.out.size) (HHB.out))
          clear hB hk9 hs9 HQ
          go_wp2
          go_roundw
          case rel => exact ⟨j + 1, M2, _, _, _, _, by omega, rfl, by go_num, HP9⟩
          case measure => simp [intOf]; omega
      · have e5 : (x.k.tmod 9 + 9).tmod 9 = 6 := by rw [e4]; rfl
        clear e4
        go_wp2_with (rw [wpl_id]; first
          | (refine wplq_new HQ _ rfl (by first | exact .inl rfl | exact .inr ⟨_, _, _, _, rfl, rfl, rfl, rfl⟩) Tryz.zeroValue39 (cs := #[.int .i64 0, .int .i64 0, .int .i64 0, .int .u8 0]) rfl (fun bx w' H2 => ?_); clear HQ; have HQ := H2; clear H2)
          | (refine wplq_sta HQ 0 rfl rfl _ _ _ rfl (by first | exact .inl rfl | exact .inr ⟨_, _, _, _, rfl, rfl, rfl, rfl⟩) (by exact rfl) (by exact rfl) Tryz.sizeOf39 (by kernel_rfl) (by kernel_rfl) (by kernel_rfl) (by kernel_rfl) (splice_whole (n := 4) (by kernel_rfl) (by kernel_rfl)) (fun w' H2 => ?_); simp only [List.set_cons_succ, List.set_cons_zero] at H2; clear HQ; have HQ := H2; clear H2)
          | (refine wpl_ld (Lib.hid HQ.out.bx) 0 rfl _ _ rfl (by first | exact .inl rfl | exact .inr ⟨_, _, _, _, rfl, rfl, rfl, rfl⟩) (by exact rfl) (notAgg _ (by decide)) rfl ?_))
        clear c0 c1' c2' c3'
        refine (Back_lp HQ.out.lp).mono ?_
        rintro e w5 ⟨M2, rfl, hh, hk2, hst⟩
        rw [← hh.p]
        have HHB := Lib.hid (hh.b.trans HPW.out.hb)
        clear hh
        have HQ2 := Lib.hid (HQ.out.step hk2 hst)
        clear HQ hk2 hst
        have HQ := HQ2
        clear HQ2
        go_wp2_with (rw [wpl_id]; first
          | (refine wpl_lda (Lib.hid HQ.out.bx) 1 rfl _ _ rfl (by first | exact .inl rfl | exact .inr ⟨_, _, _, _, rfl, rfl, rfl, rfl⟩) (by exact rfl) Tryz.isAgg48 Tryz.sizeOf48 (by kernel_rfl) (whole_take (by kernel_rfl)) ?_))
        refine (Back_ref HQ.out.rp).mono ?_
        rintro e w6 ⟨m2, rfl, hr2, hf2, hb2⟩
        obtain ⟨B1, d1, B2, d2, B3, d3, B4, d4, B5, d5, rfl⟩ := hr2.shape
        have HQ2 := Lib.hid (HQ.out.ref hr2 hf2 hb2)
        clear HQ hr2 hf2 hb2
        have HQ := HQ2
        clear HQ2
        go_wp2_with (rw [wpl_id]; first
          | (refine wplq_sta HQ 1 rfl rfl _ _ _ rfl (by first | exact .inl rfl | exact .inr ⟨_, _, _, _, rfl, rfl, rfl, rfl⟩) (by exact rfl) (by exact rfl) Tryz.sizeOf48 (by kernel_rfl) (by kernel_rfl) (by kernel_rfl) (by kernel_rfl) (splice_whole (n := 25) (by kernel_rfl) (by kernel_rfl)) (fun w' H2 => ?_); simp only [List.set_cons_succ, List.set_cons_zero] at H2; clear HQ; have HQ := H2; clear H2)
          | (refine wpl_lda (Lib.hid HQ.out.bx) 1 rfl _ _ rfl (by first | exact .inl rfl | exact .inr ⟨_, _, _, _, rfl, rfl, rfl, rfl⟩) (by exact rfl) Tryz.isAgg48 Tryz.sizeOf48 (by kernel_rfl) (whole_take (by kernel_rfl)) ?_))
        refine (alike_any HQ.out.lp HQ.out.rp HQ.out.rd).mono ?_
        rintro e w9 ⟨Bz, f, rfl, hB, hk9, hs9⟩
        obtain rfl := hB (HPW.out.like.back)
        have HP9 := Lib.hid (Pw.mk (s := s) (b := b) (E := 1 + (j + 1)) ((HQ.out.step hk9 hs9).sub (List.Sublist.cons _ (List.Sublist.refl _))) (HPW.out.calm) (Like.seen (HPW.out.like.back) ⟨f, rfl⟩) (by show S1.epoch ≤ 1 + (j + 1); have := HPW.out.ep; omega) (HPW.out.sec) (HPW.out.size) (HHB.out))
        clear hB hk9 hs9 HQ
        go_wp2
        go_roundw
        case rel => exact ⟨j + 1, M2, _, _, _, _, by omega, rfl, by go_num, HP9⟩
        case measure => simp [intOf]; omega
      · have e5 : (x.k.tmod 9 + 9).tmod 9 = 7 := by rw [e4]; rfl
        clear e4
        go_wp2_with (rw [wpl_id]; first
          | (refine wplq_new HQ _ rfl (by first | exact .inl rfl | exact .inr ⟨_, _, _, _, rfl, rfl, rfl, rfl⟩) Tryz.zeroValue39 (cs := #[.int .i64 0, .int .i64 0, .int .i64 0, .int .u8 0]) rfl (fun bx w' H2 => ?_); clear HQ; have HQ := H2; clear H2)
          | (refine wplq_sta HQ 0 rfl rfl _ _ _ rfl (by first | exact .inl rfl | exact .inr ⟨_, _, _, _, rfl, rfl, rfl, rfl⟩) (by exact rfl) (by exact rfl) Tryz.sizeOf39 (by kernel_rfl) (by kernel_rfl) (by kernel_rfl) (by kernel_rfl) (splice_whole (n := 4) (by kernel_rfl) (by kernel_rfl)) (fun w' H2 => ?_); simp only [List.set_cons_succ, List.set_cons_zero] at H2; clear HQ; have HQ := H2; clear H2)
          | (refine wpl_ld (Lib.hid HQ.out.bx) 0 rfl _ _ rfl (by first | exact .inl rfl | exact .inr ⟨_, _, _, _, rfl, rfl, rfl, rfl⟩) (by exact rfl) (notAgg _ (by decide)) rfl ?_))
        clear c0 c1' c2' c3'
        have HPD := Lib.hid (HPW.out.like.pending HI.out)
        refine (Checkpoint_lp HQ.out.lp HPW.out.calm (by have := HPW.out.ep; omega)).mono ?_
        rintro e w5 (⟨hfu, M2, rfl, hh, hk2, hst⟩ | ⟨hfu, M2, S2, D2, rfl, hh, hk2, hcm, hdn, hst⟩)
        · rw [← hh.p]
          have HHB := Lib.hid (hh.b.trans HPW.out.hb)
          clear hh
          have HQ2 := Lib.hid (HQ.out.step hk2 hst)
          clear HQ hk2 hst
          have HQ := HQ2
          clear HQ2
          have hpd := HPD.out.1 hfu
          clear hfu
          by_cases hmv : R1.moved = true
          · have HMV := Lib.hid (show (pc ⟨.slice A1 R1.now.loads.length c1, .slice A2 R1.now.free.length c2, .slice A3 R1.was.loads.length c3, .slice A4 R1.was.free.length c4, .slice A5 R1.ch.length c5⟩ R1).toList[20]? = some (.bool true) by rw [← hmv]; rfl)
            clear hmv hpd
            go_wp2_with (rw [wpl_id]; first
              | (refine wpl_ld (Lib.hid HQ.out.bx) 1 rfl _ _ rfl (by first | exact .inl rfl | exact .inr ⟨_, _, _, _, rfl, rfl, rfl, rfl⟩) (by exact rfl) (notAgg _ (by decide)) HMV.out ?_)
              | (refine wpl_lda (Lib.hid HQ.out.bx) 1 rfl _ _ rfl (by first | exact .inl rfl | exact .inr ⟨_, _, _, _, rfl, rfl, rfl, rfl⟩) (by exact rfl) Tryz.isAgg48 Tryz.sizeOf48 (by kernel_rfl) (whole_take (by kernel_rfl)) ?_))
            refine (alike_any HQ.out.lp HQ.out.rp HQ.out.rd).mono ?_
            rintro e w9 ⟨Bz, f, rfl, hB, hk9, hs9⟩
            obtain rfl := hB (HPW.out.like)
            have HP9 := Lib.hid (Pw.mk (s := s) (b := b) (E := 1 + (j + 1)) ((HQ.out.step hk9 hs9).sub (List.Sublist.cons _ (List.Sublist.refl _))) (HPW.out.calm) (Like.seen (HPW.out.like) ⟨f, rfl⟩) (by show S1.epoch ≤ 1 + (j + 1); have := HPW.out.ep; omega) (HPW.out.sec) (HPW.out.size) (HHB.out))
            clear hB hk9 hs9 HQ
            go_wp2
            go_roundw
            case rel => exact ⟨j + 1, M2, _, _, _, _, by omega, rfl, by go_num, HP9⟩
            case measure => simp [intOf]; omega
          · have hmf : R1.moved = false := by simpa using hmv
            have HMV := Lib.hid (show (pc ⟨.slice A1 R1.now.loads.length c1, .slice A2 R1.now.free.length c2, .slice A3 R1.was.loads.length c3, .slice A4 R1.was.free.length c4, .slice A5 R1.ch.length c5⟩ R1).toList[20]? = some (.bool false) by rw [← hmf]; rfl)
            have hch : (0 : Int) < R1.ch.length := by rcases hpd with h | h; · exact absurd h hmv
                                                      · omega
            clear hmv hpd hmf
            go_wp2_with (rw [wpl_id]; first
              | (refine wpl_ld (Lib.hid HQ.out.bx) 1 rfl _ _ rfl (by first | exact .inl rfl | exact .inr ⟨_, _, _, _, rfl, rfl, rfl, rfl⟩) (by exact rfl) (notAgg _ (by decide)) HMV.out ?_)
              | (refine wpl_ld (Lib.hid HQ.out.bx) 1 rfl _ _ rfl (by first | exact .inl rfl | exact .inr ⟨_, _, _, _, rfl, rfl, rfl, rfl⟩) (by exact rfl) (notAgg _ (by decide)) rfl ?_)
              | (refine wpl_lda (Lib.hid HQ.out.bx) 1 rfl _ _ rfl (by first | exact .inl rfl | exact .inr ⟨_, _, _, _, rfl, rfl, rfl, rfl⟩) (by exact rfl) Tryz.isAgg48 Tryz.sizeOf48 (by kernel_rfl) (whole_take (by kernel_rfl)) ?_))
            refine (alike_any HQ.out.lp HQ.out.rp HQ.out.rd).mono ?_
            rintro e w9 ⟨Bz, f, rfl, hB, hk9, hs9⟩
            obtain rfl := hB (HPW.out.like)
            have HP9 := Lib.hid (Pw.mk (s := s) (b := b) (E := 1 + (j + 1)) ((HQ.out.step hk9 hs9).sub (List.Sublist.cons _ (List.Sublist.refl _))) (HPW.out.calm) (Like.seen (HPW.out.like) ⟨f, rfl⟩) (by show S1.epoch ≤ 1 + (j + 1); have := HPW.out.ep; omega) (HPW.out.sec) (HPW.out.size) (HHB.out))
            clear hB hk9 hs9 HQ
            go_wp2
            go_roundw
            case rel => exact ⟨j + 1, M2, _, _, _, _, by omega, rfl, by go_num, HP9⟩
            case measure => simp [intOf]; omega
        · rw [← hh.p]
          have HHB := Lib.hid (hh.b.trans HPW.out.hb)
          clear hh
          have HQ2 := Lib.hid (HQ.out.step hk2 hst)
          clear HQ hk2 hst
          have HQ := HQ2
          clear HQ2
          have hpd : ¬ (R1.moved = true ∨ 0 < R1.ch.length) := fun h => hfu (HPD.out.2 h)
          have hmf : R1.moved = false := by simpa using (not_or.1 hpd).1
          have hch : ¬ (0 : Int) < R1.ch.length := by have := (not_or.1 hpd).2; omega
          have HMV := Lib.hid (show (pc ⟨.slice A1 R1.now.loads.length c1, .slice A2 R1.now.free.length c2, .slice A3 R1.was.loads.length c3, .slice A4 R1.was.free.length c4, .slice A5 R1.ch.length c5⟩ R1).toList[20]? = some (.bool false) by rw [← hmf]; rfl)
          have HCM := Lib.hid hcm
          have HDN := Lib.hid hdn
          clear hmf hpd hfu hcm hdn
          go_wp2_with (rw [wpl_id]; first
            | (refine wpl_ld (Lib.hid HQ.out.bx) 1 rfl _ _ rfl (by first | exact .inl rfl | exact .inr ⟨_, _, _, _, rfl, rfl, rfl, rfl⟩) (by exact rfl) (notAgg _ (by decide)) HMV.out ?_)
            | (refine wpl_ld (Lib.hid HQ.out.bx) 1 rfl _ _ rfl (by first | exact .inl rfl | exact .inr ⟨_, _, _, _, rfl, rfl, rfl, rfl⟩) (by exact rfl) (notAgg _ (by decide)) rfl ?_)
            | (refine wpl_lda (Lib.hid HQ.out.bx) 1 rfl _ _ rfl (by first | exact .inl rfl | exact .inr ⟨_, _, _, _, rfl, rfl, rfl, rfl⟩) (by exact rfl) Tryz.isAgg48 Tryz.sizeOf48 (by kernel_rfl) (whole_take (by kernel_rfl)) ?_))
          refine (alike_any HQ.out.lp HQ.out.rp HQ.out.rd).mono ?_
          rintro e w9 ⟨Bz, f, rfl, hB, hk9, hs9⟩
          obtain rfl := hB (HPW.out.like.pointed HI.out HDN.out)
          have HP9 := Lib.hid (Pw.mk (s := s) (b := b) (E := 1 + (j + 1)) ((HQ.out.step hk9 hs9).sub (List.Sublist.cons _ (List.Sublist.refl _))) (HCM.out) (Like.seen (HPW.out.like.pointed HI.out HDN.out) ⟨f, rfl⟩) (by show S2.epoch ≤ 1 + (j + 1); have := HPW.out.ep; have := HDN.out.ep; omega) (HDN.out.sec.trans HPW.out.sec) (HDN.out.size.trans HPW.out.size) (HHB.out))
          clear hB hk9 hs9 HQ
          go_wp2
          go_roundw
          case rel => exact ⟨j + 1, M2, _, _, _, _, by omega, rfl, by go_num, HP9⟩
          case measure => simp [intOf]; omega
      · have e5 : (x.k.tmod 9 + 9).tmod 9 = 8 := by rw [e4]; rfl
        clear e4
        go_wp2_with (rw [wpl_id]; first
          | (refine wplq_new HQ _ rfl (by first | exact .inl rfl | exact .inr ⟨_, _, _, _, rfl, rfl, rfl, rfl⟩) Tryz.zeroValue39 (cs := #[.int .i64 0, .int .i64 0, .int .i64 0, .int .u8 0]) rfl (fun bx w' H2 => ?_); clear HQ; have HQ := H2; clear H2)
          | (refine wplq_sta HQ 0 rfl rfl _ _ _ rfl (by first | exact .inl rfl | exact .inr ⟨_, _, _, _, rfl, rfl, rfl, rfl⟩) (by exact rfl) (by exact rfl) Tryz.sizeOf39 (by kernel_rfl) (by kernel_rfl) (by kernel_rfl) (by kernel_rfl) (splice_whole (n := 4) (by kernel_rfl) (by kernel_rfl)) (fun w' H2 => ?_); simp only [List.set_cons_succ, List.set_cons_zero] at H2; clear HQ; have HQ := H2; clear H2)
          | (refine wpl_ld (Lib.hid HQ.out.bx) 0 rfl _ _ rfl (by first | exact .inl rfl | exact .inr ⟨_, _, _, _, rfl, rfl, rfl, rfl⟩) (by exact rfl) (notAgg _ (by decide)) rfl ?_))
        clear c0 c1' c2' c3'
        have hop := Open_lp HQ.out.lp HPW.out.calm (by have := HPW.out.ep; omega)
        rw [HPW.out.hb] at hop
        refine hop.mono ?_
        rintro e w5 ⟨M2, S2, D2, rfl, hb1, _, hk2, hcm, ho, hst, _⟩
        have HO := Lib.hid ho
        have HCM := Lib.hid hcm
        have HHB := Lib.hid (hb1.trans rfl)
        clear hop hb1 hcm ho
        have HQ2 := Lib.hid (HQ.out.step hk2 hst)
        clear HQ hk2 hst
        have HQ := HQ2
        clear HQ2
        go_wp2_with (rw [wpl_id]; first
          | (refine wpl_lda (Lib.hid HQ.out.bx) 1 rfl _ _ rfl (by first | exact .inl rfl | exact .inr ⟨_, _, _, _, rfl, rfl, rfl, rfl⟩) (by exact rfl) Tryz.isAgg48 Tryz.sizeOf48 (by kernel_rfl) (whole_take (by kernel_rfl)) ?_))
        refine (Back_ref HQ.out.rp).mono ?_
        rintro e w6 ⟨m2, rfl, hr2, hf2, hb2⟩
        obtain ⟨B1, d1, B2, d2, B3, d3, B4, d4, B5, d5, rfl⟩ := hr2.shape
        have HQ2 := Lib.hid (HQ.out.ref hr2 hf2 hb2)
        clear HQ hr2 hf2 hb2
        have HQ := HQ2
        clear HQ2
        go_wp2_with (rw [wpl_id]; first
          | (refine wplq_sta HQ 1 rfl rfl _ _ _ rfl (by first | exact .inl rfl | exact .inr ⟨_, _, _, _, rfl, rfl, rfl, rfl⟩) (by exact rfl) (by exact rfl) Tryz.sizeOf48 (by kernel_rfl) (by kernel_rfl) (by kernel_rfl) (by kernel_rfl) (splice_whole (n := 25) (by kernel_rfl) (by kernel_rfl)) (fun w' H2 => ?_); simp only [List.set_cons_succ, List.set_cons_zero] at H2; clear HQ; have HQ := H2; clear H2)
          | (refine wpl_lda (Lib.hid HQ.out.bx) 1 rfl _ _ rfl (by first | exact .inl rfl | exact .inr ⟨_, _, _, _, rfl, rfl, rfl, rfl⟩) (by exact rfl) Tryz.isAgg48 Tryz.sizeOf48 (by kernel_rfl) (whole_take (by kernel_rfl)) ?_))
        refine (alike_any HQ.out.lp HQ.out.rp HQ.out.rd).mono ?_
        rintro e w9 ⟨Bz, f, rfl, hB, hk9, hs9⟩
        obtain rfl := hB (HPW.out.like.opened HI.out HO.out)
        have HP9 := Lib.hid (Pw.mk (s := s) (b := b) (E := 1 + (j + 1)) ((HQ.out.step hk9 hs9).sub (List.Sublist.cons _ (List.Sublist.refl _))) (HCM.out) (Like.seen (HPW.out.like.opened HI.out HO.out) ⟨f, rfl⟩) (by show S2.epoch ≤ 1 + (j + 1); have := HPW.out.ep; have := HO.out.ep; omega) (HO.out.sec.trans HPW.out.sec) (HO.out.size.trans HPW.out.size) (HHB.out))
        clear hB hk9 hs9 HQ
        go_wp2
        go_roundw
        case rel => exact ⟨j + 1, M2, _, _, _, _, by omega, rfl, by go_num, HP9⟩
        case measure => simp [intOf]; omega
    · have hkn : ¬ (j : Int) < n := by omega
      have HLP := Lib.hid HPW.out.q.lp
      obtain ⟨rows, hi⟩ := HPW.out.q.lp.inv
      have hdd := Dead_any HLP.out.pool
      rw [hi.dead] at hdd
      have HDD := Lib.hid hdd
      clear hdd hi hj hlt HPW
      go_wp2_with fail
      refine HDD.out.mono ?_
      rintro e w5 ⟨rfl, h5⟩
      rw [h5]
      clear h5
      go_wp2_with fail
      refine (awake_any _).mono ?_
      rintro e w9 ⟨rfl, hb9⟩
      have HB9 := Lib.hid (grow HLP.out.low hb9)
      clear hb9
      go_wp2
      go_ret
      exact ⟨rfl, HB9.out⟩
end Go.Proofs.YtklppnknllbfnaaGreat
