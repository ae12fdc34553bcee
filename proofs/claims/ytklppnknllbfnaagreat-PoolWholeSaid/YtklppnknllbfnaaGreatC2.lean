/- Walks: awake. -/
import Derived.Test.YtklppnknllbfnaaGreatC1
namespace Go.Proofs.YtklppnknllbfnaaGreat
open Go.RowKit Go.Maps
set_option maxRecDepth 8000
theorem keys_put (f : Pgs) {k N : Nat} (l : List Nat) (hk : k < N) : ((f.put k l).keys N).length = (f.keys N).length + if (f k).isSome then 0 else 1 := by
 have e : ∀ g : Pgs, (g.keys N).length = (List.range N).countP fun i => (g i).isSome := fun g => by
  unfold Pgs.keys
  rw [List.countP_eq_length_filter]
 rw [e, e]
 cases h : (f k).isSome with
 | true =>
  rw [if_pos rfl]
  refine List.countP_congr fun i _ => ?_
  unfold Pgs.put
  by_cases hi : i = k
  ·subst hi; rw [if_pos rfl, h]; simp
  ·rw [if_neg hi]
 | false =>
  rw [if_neg (by simp)]
  refine countP_one (p := fun i => (f i).isSome) (q := fun i => ((f.put k l) i).isSome) (j := k) h (by unfold Pgs.put; rw [if_pos rfl]; rfl) (fun i hi => ?_) N hk
  unfold Pgs.put
  rw [if_neg hi]
theorem keys_put_le (f : Pgs) {k N : Nat} (l : List Nat) (hk : k < N) : ((f.put k l).keys N).length ≤ (f.keys N).length + 1 := by
 rw [keys_put f l hk]
 split <;> omega
theorem keys_none (N : Nat) : (Pgs.none_.keys N).length = 0 := by
 unfold Pgs.keys Pgs.none_
 simp
theorem nPend_le (S : Pl) (D : Dsk) (h : 0 < D.sectors) : S.nPend D ≤ (S.pend.keys D.sectors).length + 1 := by
 unfold Pl.nPend Pl.meta0
 split
 ·exact keys_put_le _ _ h
 ·omega
def aw0 : Pl := (Pl.laid (Dsk.new 40 512) 0).begun 1
theorem aw_pages (D : Dsk) (h : D.sectors = 40) : aw0.pages D = 29 := by unfold Pl.pages; rw [h]; rfl
set_option maxHeartbeats 4000000 in
theorem awake_any (w : World) : Calls Tryz.prog 16 #[] w fun e w' => e = .returned (.bool true) ∧ Below w.heap.size w w' := by
 have hcl : Cln (Dsk.new 40 512) 0 := Cln.new (by decide) (by decide) (by decide) (by decide)
 have hcalm : Calm (Dsk.new 40 512) := ⟨rfl, rfl⟩
 obtain ⟨b1, b2, b3, b4, b5, _⟩ := formed_is hcl hcalm (by decide)
 have HCL := Lib.hid (And.intro hcl hcalm)
 obtain ⟨D1, hD1⟩ : ∃ D1, D1 = formed (Dsk.new 40 512) := ⟨_, rfl⟩
 have hsec : D1.sectors = 40 := by rw [hD1]; exact b4
 have hsize : D1.size = 512 := by rw [hD1]; exact b5
 have hcD : Calm D1 := by rw [hD1]; exact b1
 have okD : D1.Ok := by rw [hD1]; exact b3
 have hp := aw_pages D1 hsec
 obtain ⟨S0, hS0⟩ : ∃ S0, S0 = aw0 := ⟨_, rfl⟩
 have f0 : S0.now = ⟨1, [], R8.zero⟩ ∧ S0.pend = Pgs.none_ ∧ S0.slots = 9 ∧ S0.epoch = 1 ∧ S0.pages D1 = 29 := by rw [hS0]; exact ⟨rfl, rfl, rfl, rfl, hp⟩
 have t1 : S0.take D1 = (1, 0, S0.tookNew D1) := by unfold Pl.take; rw [f0.1, if_neg (by simp [Sta.top]), f0.2.2.2.2, if_neg (by decide)]; rfl
 obtain ⟨S1, hS1⟩ : ∃ S1, S1 = S0.tookNew D1 := ⟨_, rfl⟩
 have f1 : S1.now = ⟨2, [], R8.zero⟩ ∧ (S1.pend.keys 40).length ≤ 1 ∧ S1.slots = 9 ∧ S1.epoch = 1 ∧ S1.pages D1 = 29 := by
  rw [hS1]
  refine ⟨by unfold Pl.tookNew; rw [f0.1], ?_, f0.2.2.1, f0.2.2.2.1, f0.2.2.2.2⟩
  have := keys_put_le S0.pend (k := S0.now.next) (N := 40) (widen D1.rm []) (by rw [f0.1]; decide)
  have h0 := keys_none 40
  rw [f0.2.1] at this
  show ((S0.pend.put _ _).keys 40).length ≤ 1
  rw [f0.2.1]
  omega
 have t2 : S1.take D1 = (2, 0, S1.tookNew D1) := by unfold Pl.take; rw [f1.1, if_neg (by simp [Sta.top]), f1.2.2.2.2, if_neg (by decide)]; rfl
 obtain ⟨S2, hS2⟩ : ∃ S2, S2 = S1.tookNew D1 := ⟨_, rfl⟩
 have f2 : S2.now = ⟨3, [], R8.zero⟩ ∧ (S2.pend.keys 40).length ≤ 2 ∧ S2.slots = 9 ∧ S2.epoch = 1 ∧ S2.pages D1 = 29 := by
  rw [hS2]
  refine ⟨by unfold Pl.tookNew; rw [f1.1], ?_, f1.2.2.1, f1.2.2.2.1, f1.2.2.2.2⟩
  have := keys_put_le S1.pend (k := S1.now.next) (N := 40) (widen D1.rm []) (by rw [f1.1]; decide)
  show ((S1.pend.put _ _).keys 40).length ≤ 2
  omega
 have dead2 : S2.dead = false := by rw [hS2, hS1, hS0]; rfl
 have t3 : S2.give D1 1 = (0, S2.gave D1 1) := by
  unfold Pl.give
  rw [dead2, if_neg (by simp), if_neg]
  ·rfl
  ·unfold Sta.taken; rw [f2.1]; simp
 obtain ⟨S3, hS3⟩ : ∃ S3, S3 = S2.gave D1 1 := ⟨_, rfl⟩
 have f3 : S3.now = ⟨3, [1], R8.zero⟩ ∧ (S3.pend.keys 40).length ≤ 3 ∧ S3.slots = 9 ∧ S3.epoch = 1 ∧ S3.pages D1 = 29 := by
  rw [hS3]
  refine ⟨by unfold Pl.gave; rw [f2.1]; rfl, ?_, f2.2.2.1, f2.2.2.2.1, f2.2.2.2.2⟩
  have := keys_put_le S2.pend (k := 1) (N := 40) (widen D1.rm (lebZ (S2.now.top : Nat) 4)) (by decide)
  show ((S2.pend.put _ _).keys 40).length ≤ 3
  omega
 have t4 : S3.take D1 = (1, 0, S3.tookFree D1) := by unfold Pl.take; rw [f3.1, if_pos (by simp [Sta.top])]; rfl
 obtain ⟨S4, hS4⟩ : ∃ S4, S4 = S3.tookFree D1 := ⟨_, rfl⟩
 have f4 : S4.now = ⟨3, [], R8.zero⟩ ∧ S4.nPend D1 ≤ S4.slots ∧ S4.epoch = 1 := by
  rw [hS4]
  refine ⟨by unfold Pl.tookFree; rw [f3.1]; rfl, ?_, f3.2.2.2.1⟩
  have h1 := keys_put_le S3.pend (k := S3.now.top) (N := 40) (widen D1.rm []) (by rw [f3.1]; decide)
  have h2 := nPend_le (S3.tookFree D1) D1 (by omega)
  rw [hsec] at h2
  have h3 : (S3.tookFree D1).slots = 9 := f3.2.2.1
  have h4 : (S3.tookFree D1).pend = S3.pend.put S3.now.top (widen D1.rm []) := rfl
  rw [h4] at h2
  omega
 rw [← hS1] at t1
 rw [← hS2] at t2
 rw [← hS3] at t3
 rw [← hS4] at t4
 have HT1 := Lib.hid t1
 have HT2 := Lib.hid t2
 have HT3 := Lib.hid t3
 have HT4 := Lib.hid t4
 have HF4 := Lib.hid f4
 have HSZ := Lib.hid hsize
 have HCD := Lib.hid hcD
 have HD1 := Lib.hid hD1
 have HS0 := Lib.hid hS0
 clear hcl hcalm b1 b2 b3 b4 b5 hD1 hsec hsize hcD okD hp hS0 hS1 hS2 hS3 hS4 f0 f1 f2 f3 f4 t1 t2 t3 t4 dead2
 go_enter Tryz.func16, Tryz.ntmps16
 go_wp2_with fail
 refine (New_dk w 40 512 (fun _ _ => trivial) (Below.refl _ _) (by decide) (by decide) (by decide) (by decide)).mono ?_
 rintro e w1 ⟨b, m, rfl, hk, -⟩
 have HK := Lib.hid hk
 clear hk
 go_wp2_with fail
 refine (Format_lp HK.out HCL.out.1 HCL.out.2 (by decide)).mono ?_
 rintro e w2 ⟨M, rfl, hk, _, hb, _⟩
 have hk : Lp w w2 M aw0 (formed (Dsk.new 40 512)) := hk
 rw [← HD1.out, ← HS0.out] at hk
 have HL0 := Lib.hid hk
 have HB := Lib.hid hb
 obtain ⟨P, hP⟩ : ∃ P, P = M.p := ⟨_, rfl⟩
 have HP0 := Lib.hid hP
 rw [← hP]
 have ht := Take_lp hk
 rw [HT1.out, ← hP] at ht
 have HTK := Lib.hid ht
 clear hk hb hP ht HK HCL HD1 HS0
 go_wp2_with fail
 refine HTK.out.mono ?_
 rintro e w3 ⟨M1, rfl, hh1, hk, _⟩
 have hp1 := hh1.p.trans HP0.out.symm
 have HB1 := Lib.hid (hh1.b.trans HB.out)
 clear hh1
 have ht := Take_lp hk
 rw [HT2.out, hp1] at ht
 have HP1 := Lib.hid hp1
 have HTK2 := Lib.hid ht
 clear hk ht hp1 HTK HL0
 go_wp2_with fail
 refine HTK2.out.mono ?_
 rintro e w4 ⟨M2, rfl, hh2, hk, _⟩
 have hp2 := hh2.p.trans HP1.out
 have HB2 := Lib.hid (hh2.b.trans HB1.out)
 clear hh2
 have ht := Give_lp hk 1
 rw [HT3.out, hp2] at ht
 have HTK := Lib.hid ht
 have HP2 := Lib.hid hp2
 clear hk ht hp2 HTK2
 go_wp2_with fail
 refine HTK.out.mono ?_
 rintro e w5 ⟨M3, rfl, hh3, hk, _⟩
 have hp3 := hh3.p.trans HP2.out
 have HB3 := Lib.hid (hh3.b.trans HB2.out)
 clear hh3
 have ht := Take_lp hk
 rw [HT4.out, hp3] at ht
 have HTK2 := Lib.hid ht
 have HP3 := Lib.hid hp3
 clear hk ht hp3 HTK
 go_wp2_with fail
 refine HTK2.out.mono ?_
 rintro e w6 ⟨M4, rfl, hh4, hk, _⟩
 have hp4 := hh4.p.trans HP3.out
 have HB4 := Lib.hid (hh4.b.trans HB3.out)
 clear hh4
 have ht := Commit_lp hk HCD.out (by rw [HF4.out.2.2]; decide)
 rw [hp4] at ht
 have HTK := Lib.hid ht
 have HP4 := Lib.hid hp4
 clear hk ht hp4 HTK2
 go_wp2_with fail
 refine HTK.out.mono ?_
 rintro e w7 (⟨hx, _⟩ | ⟨_, M5, S5, D5, rfl, hh5, hk, hc5, hd5, _⟩)
 ·exact absurd HF4.out.2.1 (by omega)
 have HB5 := Lib.hid (hh5.b.trans HB4.out)
 have hh5p := hh5.p.trans HP4.out
 have ht := Open_lp hk hc5 (by have := hd5.ep; rw [HF4.out.2.2] at this; omega)
 rw [HB5.out] at ht
 have HTK2 := Lib.hid ht
 have HD5 := Lib.hid hd5
 have HC5 := Lib.hid hk
 clear hk ht hc5 hd5 hh5 HTK
 go_wp2_with fail
 refine HTK2.out.mono ?_
 rintro e w8 ⟨M6, S6, D6, rfl, _, _, hk, _, ho6, _, vo, hpo⟩
 have htk := Taken_lp hk
 have e6 : S6.now = ⟨3, [], R8.zero⟩ := by rw [ho6.now, HD5.out.was, HF4.out.1]
 rw [e6] at htk
 have HT6 := Lib.hid htk
 have e7 : D6.size = 512 := by rw [ho6.size, HD5.out.size]; exact HSZ.out
 have hro := fun w' (k : Below w8.heap.size w8 w') => Room_any' (hpo.grew k)
 dsimp only at hro
 rw [hh5p, e7] at hro
 have HRO := Lib.hid hro
 have HK8 := Lib.hid hk.low
 clear hk htk e6 e7 ho6 hpo hro HTK2
 go_wp2_with fail
 refine HT6.out.mono ?_
 rintro e w9 ⟨rfl, hb9⟩
 go_wp2_with fail
 refine (HRO.out w9 hb9).mono ?_
 rintro e w10 ⟨rfl, rfl⟩
 have HB9 := Lib.hid (grow HK8.out hb9)
 rw [show lroom ((512 : Nat) : Int) = 467 from rfl]
 clear hb9
 go_wp2
 go_ret
 exact ⟨rfl, HB9.out⟩
end Go.Proofs.YtklppnknllbfnaaGreat
