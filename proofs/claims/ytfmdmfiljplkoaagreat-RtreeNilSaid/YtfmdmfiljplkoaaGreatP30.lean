/- Calm disks; walks: Format. Printed by mk_p30.py. -/
import Derived.Test.YtfmdmfiljplkoaaGreatP29
namespace Go.Proofs.YtfmdmfiljplkoaaGreat
open Go.RowKit Go.Maps
set_option maxRecDepth 8000
variable {ι : Type} [Bar ι]
/-- A disk that is up and not armed. -/
def Calm (D : Dsk) : Prop := D.down = false ∧ D.armed = 0
section
variable {D : Dsk} {S : Pl}
theorem Calm.act (h : Calm D) : D.act = D := by
  unfold Dsk.act
  rw [if_neg (by have := h.2; omega)]
theorem Calm.put (h : Calm D) {a : Int} {l : List Nat} (h0 : 0 ≤ a) (h1 : a < (D.sectors : Int)) (hl : l.length = D.size) : D.putErr a l = 0 ∧ D.put a l = { D with loose := D.loose ++ [(a, l)] } ∧ Calm (D.put a l) := by
  have h2 := put_up h.1 h.2 a l h0 h1 hl
  exact ⟨h2.2, h2.1, by rw [h2.1]; exact h⟩
theorem Calm.flush (h : Calm D) : D.flushErr = 0 ∧ D.flush = { D with fast := settle D.fast D.loose, loose := [] } ∧ Calm D.flush := by
  have e : D.flush = { D with fast := settle D.fast D.loose, loose := [] } := by
    unfold Dsk.flush
    rw [h.act, h.1]
    simp [h.1]
  refine ⟨?_, e, by rw [e]; exact h⟩
  unfold Dsk.flushErr
  rw [h.act, h.1]
  simp
theorem goWipe_calm {f : Nat} : ∀ (ts : List Nat) (D : Dsk), Calm D → (∀ i ∈ ts, f + i < D.sectors) → goWipe f D ts = (0, (wiped D f ts).flush) ∧ Calm (wiped D f ts)
  | [], D, h, _ => by
    unfold goWipe wiped
    rw [h.flush.1]
    exact ⟨rfl, h⟩
  | i :: r, D, h, hi => by
    have hp := h.put (a := (f : Int) + i) (l := List.replicate D.size 0) (by omega) (by have := hi i (by simp); omega) (by simp)
    have hs := Dsk.put_sectors (d := D) ((f : Int) + i) (List.replicate D.size 0)
    have ih := goWipe_calm r (D.put ((f : Int) + i) (List.replicate D.size 0)) hp.2.2 (fun j hj => by rw [hs.1]; exact hi j (by simp [hj]))
    unfold goWipe
    rw [hp.1, if_neg (by simp)]
    exact ih
theorem headL_len (h : D.Ok) (ep : Nat) : (headL D ep).length = D.size := sector_length (by have := h.z1; simp; omega)
theorem beg_calm (h : Calm D) (ok : D.Ok) (hs : 2 ≤ D.sectors) (ep : Nat) : beg S D ep = (0, S.begun ep, (D.put ((ep % 2 : Nat) : Int) (headL D ep)).flush) ∧ Calm (D.put ((ep % 2 : Nat) : Int) (headL D ep)) := by
  have hp := h.put (a := ((ep % 2 : Nat) : Int)) (l := headL D ep) (by omega) (by omega) (headL_len ok ep)
  unfold beg
  rw [hp.1, hp.2.2.flush.1]
  exact ⟨rfl, hp.2.2⟩
end
theorem wiped_sectors (f : Nat) : ∀ (ts : List Nat) (D : Dsk), (wiped D f ts).sectors = D.sectors ∧ (wiped D f ts).size = D.size
  | [], _ => ⟨rfl, rfl⟩
  | i :: r, D => by
    have hs := Dsk.put_sectors (d := D) ((f : Int) + i) (List.replicate D.size 0)
    have ih := wiped_sectors f r (D.put ((f : Int) + i) (List.replicate D.size 0))
    exact ⟨ih.1.trans hs.1, ih.2.trans hs.2⟩
/-- The torn slots are wiped. -/
def cleaned (D : Dsk) (first count : Nat) : Dsk := (wiped D first (tornL D first count)).flush
/-- The disk behind Format, with which epoch. -/
def formEp (D : Dsk) : Nat := (max (headsZ D 2) (latV D 2 ((D.sectors - 2) / 4))).toNat + 1
def formed0 (D : Dsk) : Dsk := ((cleaned D 2 ((D.sectors - 2) / 4)).put ((2 + (D.sectors - 2) / 4 : Nat) : Int) (sectL (cleaned D 2 ((D.sectors - 2) / 4)) 0 (⟨1, [], R8.zero⟩ : Sta).metaL)).flush
def formed (D : Dsk) : Dsk := ((formed0 D).put ((formEp D % 2 : Nat) : Int) (headL (formed0 D) (formEp D))).flush
section
variable {w w' : World} {M M2 : Mem} {S : Pl} {D D' : Dsk} {b m : Nat} {vl : Value}
/-- What makes a pool turns of the disk alone. -/
def FWent (w w' : World) (b m : Nat) (vl : Value) (M : Mem) : Prop := Turn (own b m vl) w w' ∧ (∀ j ∈ M.own, j ∈ own b m vl ∨ w.heap.size ≤ j) ∧ M.b = b ∧ M.m = m
theorem FWent.trans {w1 : World} (h : FWent w w1 b m vl M) (k : PWent w1 w' M M2) (hb : M2.b = M.b) (hm : M2.m = M.m) : FWent w w' b m vl M2 := by
  refine ⟨h.1.trans k.1 (fun j hj hl => ?_), fun j hj => ?_, hb.trans h.2.2.1, hm.trans h.2.2.2⟩
  · rcases h.2.1 j hj with h1 | h1
    · exact h1
    · omega
  · rcases k.2.1 j hj with h1 | h1
    · exact h.2.1 j h1
    · have := h.1.size; exact .inr (by omega)
theorem FWent.tail {w1 : World} (h : FWent w w1 b m vl M) (k : Below w1.heap.size w1 w') : FWent w w' b m vl M := ⟨h.1.tail k, h.2⟩
/-- A tuple of two. -/
theorem laid_ok (ok : D.Ok) (hs : 24 ≤ D.sectors) (hz : 512 ≤ D.size) (ep : Nat) : (Pl.laid D ep).Ok D := by
  have h1 : Sta.Ok ⟨1, [], R8.zero⟩ ((Pl.laid D ep).pages D) := ⟨Nat.le_refl _, by unfold Pl.pages Pl.laid; dsimp only; omega, List.nodup_nil, by simp, fun k => by unfold R8.get R8.zero; split <;> simp⟩
  exact ⟨hz, hs, ok.s2, rfl, rfl, h1, h1, Pgs.Ok.none_, Pgs.Ok.none_, Pgs.Ok.none_⟩
theorem headZ_in (s : List Nat) (a : Int) : 0 ≤ headZ s a := by
  unfold headZ
  split
  · rename_i h; have := h.2.2; omega
  · omega
theorem headsZ_in (D : Dsk) : ∀ k, 0 ≤ headsZ D k
  | 0 => by simp [headsZ]
  | k + 1 => by
    have h1 := headsZ_in D k
    simp only [headsZ]
    omega
set_option maxHeartbeats 8000000 in
theorem Format_any (h : DiskAt w b m vl D) (hs : 24 ≤ D.sectors) (hz : 512 ≤ D.size) (hc : Calm D) (hL : D.loose.length ≤ 90000) (hh : headsZ D 2 ≤ 1000000000000) (hl : latV D 2 ((D.sectors - 2) / 4) ≤ 1000000000000) :
    Calls Tryz.prog 22 #[.pointer (some ⟨b, 0, none⟩)] w fun e w' => ∃ M, e = .returned (.tuple #[.pointer (some ⟨M.p, 0, none⟩), .int .i64 0]) ∧ PoolAt w' M ((Pl.laid D 0).begun (formEp D)) (formed D) ∧ FWent w w' b m vl M := by
  have HLA := lay_ok h 0 hs hz
  rw [show ((0 : Nat) : Int) = 0 from rfl] at HLA
  have HLA := Lib.hid HLA
  have hs2 := h.ok.s2
  obtain ⟨sl, hsl⟩ : ∃ sl, sl = (D.sectors - 2) / 4 := ⟨_, rfl⟩
  have hk : okAt D 2 sl = true := by unfold okAt; simp; omega
  have HZ := Lib.hid (And.intro (And.intro hs hz) (And.intro hs2 (And.intro h.ok.z1 h.ok.z2)))
  have HOKL := Lib.hid (laid_ok h.ok hs hz 0)
  have HSE : Hid (SeenF (Pl.laid D 0) D Pgs.none_) := Lib.hid SeenF.none_
  have HEP : Hid (formEp D = (max (headsZ D 2) (latV D 2 sl)).toNat + 1) := Lib.hid (by unfold formEp; rw [hsl])
  have HF0 : Hid (formed0 D = ((cleaned D 2 sl).put ((2 + sl : Nat) : Int) (sectL (cleaned D 2 sl) 0 (⟨1, [], R8.zero⟩ : Sta).metaL)).flush) := Lib.hid (by unfold formed0; rw [hsl])
  have HCL0 : Hid ((Pl.laid D 0).slots = sl ∧ (Pl.laid D 0).first = 2 + sl ∧ (Pl.laid D 0).now = ⟨1, [], R8.zero⟩) := Lib.hid ⟨hsl.symm, by rw [hsl]; rfl, rfl⟩
  rw [← hsl] at hl
  have hn0 := headsZ_in D 2
  have hm0 := latV_in D 2 sl
  have e1 : IntKind.i64.wrap (max (headsZ D 2) (latV D 2 sl) + 1) = ((formEp D : Nat) : Int) := by rw [HEP.out, IntKind.wrap_i64]; omega
  have HB : Hid (formEp D ≤ 1099511627776 ∧ 1 ≤ formEp D) := Lib.hid (by rw [HEP.out]; omega)
  have HHE := Lib.hid (fun w' (k : Below w.heap.size w w') => heads_any (h.grew k) (by omega) hc.1 (by omega))
  have HLT := fun w' (k : Below w.heap.size w w') => Latest_any (h.grew k) 2 sl hk (by omega) hc.1
  simp only [show ((2 : Nat) : Int) = 2 from rfl] at HLT
  have HLT := Lib.hid HLT
  have HC := Lib.hid hc
  have HKO := Lib.hid hk
  have HLO := Lib.hid hL
  have HOK := Lib.hid h.ok
  have HSL := Lib.hid hsl
  clear h hs hz hc hL hh hl hs2 hk hn0 hm0 hsl
  obtain ⟨nn, hnn⟩ : ∃ nn, nn = headsZ D 2 := ⟨_, rfl⟩
  obtain ⟨mm, hmm⟩ : ∃ mm, mm = latV D 2 sl := ⟨_, rfl⟩
  obtain ⟨ep, hep⟩ : ∃ ep, ep = formEp D := ⟨_, rfl⟩
  rw [← hnn, ← hmm, ← hep] at e1
  rw [← hnn] at HHE
  rw [← hmm] at HLT
  rw [← hep] at HB ⊢
  have HEPE := Lib.hid hep
  clear hnn hmm hep HEP
  go_enter Tryz.func22, Tryz.ntmps22
  go_wp2_with fail
  refine HLA.out.mono ?_
  rintro r w1 ⟨M, rfl, hp, hb, hm, hvl, hown, hlow⟩
  have HP := Lib.hid hp
  have HM := Lib.hid (And.intro hb (And.intro hm hvl))
  have HW : Hid (FWent w w1 b m vl M) := Lib.hid ⟨Turn.of_below hlow _, hown, hb, hm⟩
  have HHE1 := Lib.hid (HHE.out w1 hlow)
  have HLOW := Lib.hid hlow
  clear hp hb hm hvl hown hlow HLA HHE
  go_wp2_with fail
  refine HHE1.out.mono ?_
  rintro r w2 ⟨rfl, hb2⟩
  have HP2 := Lib.hid (HP.out.grew hb2)
  have HW2 := Lib.hid (HW.out.tail hb2)
  have HLT2 := Lib.hid (HLT.out w2 (HLOW.out.trans (hb2.mono HLOW.out.size)))
  have HB2 := Lib.hid (HLOW.out.trans (hb2.mono HLOW.out.size))
  clear hb2 HP HW HLT HHE1 HLOW
  have hcs := HP2.out.c_slots
  rw [HCL0.out.1] at hcs
  go_wp2_with fail
  refine HLT2.out.mono ?_
  rintro r w3 ⟨rfl, hb3⟩
  have HP3 := Lib.hid (HP2.out.grew hb3)
  have HW3 := Lib.hid (HW2.out.tail hb3)
  clear hb3 HP2 HW2 HLT2 hcs HB2
  have hcs := HP3.out.c_slots
  rw [HCL0.out.1] at hcs
  have hdk := HP3.out.disk
  have hwp := goWipe_calm (f := 2) (tornL D 2 sl) D HC.out (fun i hi => by have := tornL_lt D 2 sl i hi; have := HZ.out; have := HSL.out; omega)
  have hcg := CleanG_any hdk 2 sl HKO.out (by have := HLO.out; omega) HC.out.1 _ rfl
  rw [hwp.1, HM.out.1] at hcg
  simp only [show ((2 : Nat) : Int) = 2 from rfl] at hcg
  have HCG := Lib.hid hcg
  have HCA := Lib.hid hwp.2.flush.2.2
  clear hdk hwp hcg
  go_wp2_with fail
  refine HCG.out.mono ?_
  rintro r w4 ⟨rfl, vl4, hd4, ht4, hg4⟩
  have hk4 := HP3.out.disked (vl' := vl4) (D' := cleaned D 2 sl) (w' := w4) (by rw [HM.out.1]; exact hd4) (by
    unfold cleaned
    rw [Dsk.flush_sectors.1]
    have := wiped_sectors 2 (tornL D 2 sl) D
    exact this.1) (by rw [HM.out.1]; exact ht4) hg4
  obtain ⟨M4, hM4⟩ : ∃ M4 : Mem, M4 = { M with vl := vl4 } := ⟨_, rfl⟩
  rw [← hM4] at hk4
  have hmp4 : M4.p = M.p := by rw [hM4]
  have HMB4 : Hid (M4.b = b ∧ M4.m = m) := Lib.hid (by rw [hM4]; exact ⟨HM.out.1, HM.out.2.1⟩)
  have HP4 := Lib.hid hk4.1
  have HW4 := Lib.hid (HW3.out.trans hk4.2 (by rw [hM4]) (by rw [hM4]))
  have HD4 : Hid (Calm (cleaned D 2 sl) ∧ (cleaned D 2 sl).sectors = D.sectors ∧ (cleaned D 2 sl).size = D.size ∧ (cleaned D 2 sl).loose = []) := Lib.hid (by
    have h1 := wiped_sectors 2 (tornL D 2 sl) D
    have h2 := (goWipe_calm (f := 2) (tornL D 2 sl) D HC.out (fun i hi => by have := tornL_lt D 2 sl i hi; have := HZ.out; have := HSL.out; omega)).2
    refine ⟨h2.flush.2.2, ?_, ?_, ?_⟩
    · unfold cleaned; rw [Dsk.flush_sectors.1]; exact h1.1
    · unfold cleaned; rw [Dsk.flush_sectors.2]; exact h1.2
    · unfold cleaned; rw [h2.flush.2.1])
  obtain ⟨D4, hD4⟩ : ∃ D4, D4 = cleaned D 2 sl := ⟨_, rfl⟩
  rw [← hD4] at HP4 HF0 HD4
  clear hd4 ht4 hg4 hk4 hM4 HP3 HW3 HCG HCA hD4 hcs
  have hme := meta_any HP4.out (by rw [HCL0.out.2.2]; simp)
  rw [hmp4] at hme
  have HME := Lib.hid hme
  clear hme
  go_wp2_with fail
  refine HME.out.mono ?_
  rintro r w5 ⟨v5, rfl, ho5, hb5⟩
  obtain ⟨A5, c5, rfl, hr5⟩ := ho5.form
  have HP5 := Lib.hid (HP4.out.grew hb5)
  have HW5 := Lib.hid (HW4.out.tail hb5)
  have hrm : 460 ≤ D4.rm := by
    rw [rm_same HD4.out.2.2.1]
    exact HOKL.out.rm1 HOK.out
  have hly := lay_any HP5.out (by rw [HCL0.out.2.1]; have := HZ.out; have := HSL.out; omega) (by rw [HD4.out.2.2.2]; simp) 0 (by omega) (c := c5) rfl hr5 (by rw [metaL_length]; omega)
  have hsf : ((Pl.laid D 0).first : Int) + ((0 : Nat) : Int) = ((2 + sl : Nat) : Int) := by rw [HCL0.out.2.1]; omega
  have hpc := HD4.out.1.put (a := ((2 + sl : Nat) : Int)) (l := sectL D4 0 (Pl.laid D 0).now.metaL) (by omega) (by rw [HD4.out.2.1]; have := HZ.out; have := HSL.out; omega) (sectL_length HP4.out.disk.ok (by rw [metaL_length]; omega))
  rw [hsf, hpc.1, hmp4, show ((0 : Nat) : Int) = 0 from rfl] at hly
  have HLY := Lib.hid hly
  have HPC := Lib.hid hpc
  clear ho5 hb5 hr5 hrm hly hsf hpc HP4 HW4 HME
  go_wp2_with fail
  refine HLY.out.mono ?_
  rintro r w6 ⟨rfl, vl6, hp6, hw6⟩
  obtain ⟨M6, hM6⟩ : ∃ M6 : Mem, M6 = { M4 with p := M.p, vl := vl6 } := ⟨_, rfl⟩
  rw [← hM6] at hp6 hw6
  have hmp6 : M6.p = M.p := by rw [hM6]
  have HMB6 : Hid (M6.b = b ∧ M6.m = m) := Lib.hid (by rw [hM6]; exact HMB4.out)
  have HP6 := Lib.hid hp6
  have HW6 := Lib.hid (HW5.out.trans hw6 (by rw [hM6]) (by rw [hM6]))
  have hfl := Flush_any M6.b M6.m M6.vl _ w6 hp6.disk (by rw [HPC.out.2.1]; simp [HD4.out.2.2.2])
  rw [HPC.out.2.2.flush.1, HMB6.out.1] at hfl
  have HFL := Lib.hid hfl
  clear hM6 hp6 hw6 hfl HP5 HW5 HLY
  go_wp2_with fail
  refine HFL.out.mono ?_
  rintro r w7 ⟨rfl, vl7, hd7, ht7, hg7⟩
  have hk7 := HP6.out.disked (vl' := vl7) (w' := w7) (by rw [HMB6.out.1]; exact hd7) Dsk.flush_sectors.1 (by rw [HMB6.out.1]; exact ht7) (fun g e => .inl (hg7 g e))
  obtain ⟨M7, hM7⟩ : ∃ M7 : Mem, M7 = { M6 with vl := vl7 } := ⟨_, rfl⟩
  rw [← hM7] at hk7
  have hmp7 : M7.p = M.p := by rw [hM7]; exact hmp6
  have HMB7 : Hid (M7.b = b ∧ M7.m = m) := Lib.hid (by rw [hM7]; exact HMB6.out)
  have HW7 := Lib.hid (HW6.out.trans hk7.2 (by rw [hM7]) (by rw [hM7]))
  have hs7 := Dsk.flush_sectors (d := D4.put ((2 + sl : Nat) : Int) (sectL D4 0 (Pl.laid D 0).now.metaL))
  have hc7 := HPC.out.2.2.flush
  have hp7 := hk7.1
  have hs6 := Dsk.put_sectors (d := D4) ((2 + sl : Nat) : Int) (sectL D4 0 (Pl.laid D 0).now.metaL)
  have hF0 := HF0.out
  rw [show (⟨1, [], R8.zero⟩ : Sta) = (Pl.laid D 0).now from rfl] at hF0
  rw [← hF0] at hp7 hs7 hc7
  have hl7 : (formed0 D).loose = [] := by rw [hc7.2.1]
  have HD7 : Hid (Calm (formed0 D) ∧ (formed0 D).sectors = D.sectors) := Lib.hid ⟨hc7.2.2, hs7.1.trans (hs6.1.trans HD4.out.2.1)⟩
  have HFE : Hid (formed D = ((formed0 D).put ((ep % 2 : Nat) : Int) (headL (formed0 D) ep)).flush) := Lib.hid (by unfold formed; rw [HEPE.out])
  obtain ⟨D7, hD7⟩ : ∃ D7, D7 = formed0 D := ⟨_, rfl⟩
  rw [← hD7] at hp7 hl7 HD7 HFE
  have HP7 := Lib.hid hp7
  have hbg := beg_calm (S := Pl.laid D 0) HD7.out.1 hp7.disk.ok (by rw [HD7.out.2]; have := HZ.out; omega) ep
  rw [← HFE.out] at hbg
  have hbn := begin_any hp7 (by rw [okAt_same HD7.out.2, HCL0.out.1]; exact HKO.out) (by rw [HCL0.out.1]; have := HZ.out; have := HSL.out; omega) (by rw [hl7]; simp) ep HB.out.2 HB.out.1 _ rfl
  rw [hbg.1, hmp7] at hbn
  have HBN := Lib.hid hbn
  clear hd7 ht7 hg7 hk7 hM7 hs7 hc7 hp7 hs6 hF0 hl7 hD7 hbg hbn HP6 HW6 HFL HPC HF0 HD4
  go_wp2_with fail
  refine HBN.out.mono ?_
  rintro r w8 ⟨rfl, M8, hp8, hw8⟩
  have HP8 := Lib.hid hp8
  have hmp8 : M8.p = M.p := hw8.p_eq.trans hmp7
  have HW8 := Lib.hid (HW7.out.trans hw8 hw8.b_eq hw8.m_eq)
  clear hp8 hw8 HBN HP7 HW7
  go_wp2
  go_ret2
  exact ⟨M8, by rw [hmp8]; rfl, HP8.out, HW8.out⟩
end
end Go.Proofs.YtfmdmfiljplkoaaGreat
