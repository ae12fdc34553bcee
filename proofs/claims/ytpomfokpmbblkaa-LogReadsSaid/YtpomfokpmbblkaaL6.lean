/- Walks: Append. -/
import Derived.Test.YtpomfokpmbblkaaL5
namespace Go.Proofs.Ytpomfokpmbblkaa
open Go.RowKit Go.Maps
set_option maxRecDepth 8000
variable {ι : Type} [Bar ι]

/-- What a group's changes do, one by one. -/
def goApp (D : Dsk) (L : Lg) : List (Int × List Nat) → Int × Dsk × Lg
  | [] => (D.flushErr, D.flush, { L with dead := decide (D.flushErr ≠ 0) })
  | c :: r =>
    if D.putErr ((L.first : Int) + L.next) (secOf D.size L c.1.toNat r.isEmpty c.2) ≠ 0 then
      (D.putErr ((L.first : Int) + L.next) (secOf D.size L c.1.toNat r.isEmpty c.2), D.put ((L.first : Int) + L.next) (secOf D.size L c.1.toNat r.isEmpty c.2), { L with next := L.next + 1, dead := true })
    else goApp (D.put ((L.first : Int) + L.next) (secOf D.size L c.1.toNat r.isEmpty c.2)) { L with next := L.next + 1 } r
/-- Append: its answer, the disk and the log behind it. -/
def app (D : Dsk) (L : Lg) (g : List (Int × List Nat)) : Int × Dsk × Lg := if rightE D L g = 0 then goApp D L g else (rightE D L g, D, L)

theorem Went.refl {w : World} {G b m : Nat} {vl : Value} : Went w w G b m vl vl := ⟨Turn.refl _ _, fun _ h => .inl h⟩
theorem Went.trans {w w1 w2 : World} {G b m : Nat} {vl vl1 vl2 : Value} (h : Went w w1 G b m vl vl1) (k : Went w1 w2 G b m vl1 vl2) : Went w w2 G b m vl vl2 := by
  refine ⟨h.1.trans k.1 (fun j hj hlt => ?_), fun g hg => ?_⟩
  · rcases List.mem_cons.1 hj with rfl | hj
    · simp
    · refine List.mem_cons.2 (.inr ?_)
      rcases mem_own.1 hj with e | e | e
      · exact mem_own.2 (.inl e)
      · exact mem_own.2 (.inr (.inl e))
      · rcases h.2 j e with e | e
        · exact mem_own.2 (.inr (.inr e))
        · omega
  · rcases k.2 g hg with e | e
    · exact h.2 g e
    · exact .inr (Nat.le_trans h.1.size e)
theorem Went.tail {w w1 w2 : World} {G b m : Nat} {vl vl1 : Value} (h : Went w w1 G b m vl vl1) (k : Below w1.heap.size w1 w2) : Went w w2 G b m vl vl1 := ⟨h.1.tail k, h.2⟩
theorem Went.of_below {w w1 : World} {G b m : Nat} {vl : Value} (k : Below w.heap.size w w1) : Went w w1 G b m vl vl := ⟨Turn.of_below k _, fun _ h => .inl h⟩
theorem went_nobytes {w : World} {G b m : Nat} {vl : Value} {D : Dsk} {L : Lg} (hl : LogIn w G b L) (hd : DiskAt w b m vl D) : NoBytes w (G :: own b m vl) := by
  intro k hk
  rcases List.mem_cons.1 hk with rfl | hk
  · exact log_nobytes hl _ (by simp)
  · exact hd.nobytes k hk
theorem Byt.went {w w' : World} {G b m : Nat} {vl vl' u : Value} {D : Dsk} {L : Lg} {l : List Nat} (h : Byt w u l) (k : Went w w' G b m vl vl') (hl : LogIn w G b L) (hd : DiskAt w b m vl D) : Byt w' u l := h.turn k.1 (went_nobytes hl hd)
theorem Chg.went {w w' : World} {G b m : Nat} {vl vl' u : Value} {D : Dsk} {L : Lg} {l : List (Int × List Nat)} (h : Chg w u l) (k : Went w w' G b m vl vl') (hl : LogIn w G b L) (hd : DiskAt w b m vl D) : Chg w' u l := by
  refine h.turn k.1 (went_nobytes hl hd) (fun g hg hm => ?_)
  obtain ⟨cs, e⟩ := h.kind hg
  rcases List.mem_cons.1 hm with rfl | hm
  · unfold LogIn Blk at hl; rw [hl] at e; cases e
  · rcases mem_own.1 hm with e' | e' | hg'
    · have := hd.blk; unfold Blk at this; rw [← e', e] at this; cases this
    · obtain ⟨es, clock, hx⟩ := hd.fast.kind; rw [← e', e] at hx; cases hx
    · obtain ⟨cs2, e2⟩ := hd.loose.kind hg'; rw [e] at e2; cases e2
theorem log_dead {t : World} {G b m : Nat} {vl : Value} {D : Dsk} {L : Lg} (z : Bool) (hl : LogIn t G b L) (hd : DiskAt t b m vl D) :
    DiskAt (t.setCell ⟨G, 5, none⟩ (.bool z)) b m vl D ∧ LogIn (t.setCell ⟨G, 5, none⟩ (.bool z)) G b { L with dead := z } ∧ Went t (t.setCell ⟨G, 5, none⟩ (.bool z)) G b m vl vl := by
  have ht : Turn [G] t (t.setCell ⟨G, 5, none⟩ (.bool z)) := (Turn.refl [G] t).set (.inl (by simp)) _
  refine ⟨hd.turn ht (log_nobytes hl) (fun j hj => by simpa using log_apart hl hd j hj), ?_, ht.mono (by intro k hk _; simp at hk; simp [hk]), fun g h => .inl h⟩
  have := Blk.set hl 5 (.bool z)
  simpa [LogIn] using this

/-- What stands between two puts. -/
structure ApSt (w wr : World) (G b m : Nat) (vl : Value) (D : Dsk) (L : Lg) (gv : Value) (g : List (Int × List Nat)) (k : Nat) (R : Int × Dsk × Lg) (Dk : Dsk) (Lk : Lg) (vlk : Value) : Prop where
  disk : DiskAt wr b m vlk Dk
  log : LogIn wr G b Lk
  row : Chg wr gv g
  went : Went w wr G b m vl vlk
  ok : Lk.Ok
  next : Lk.next = L.next + k
  cnt : Lk.count = L.count
  size : Dk.size = D.size
  lose : Dk.loose.length ≤ D.loose.length + k
  res : goApp Dk Lk (g.drop k) = R

set_option maxHeartbeats 8000000 in
theorem Append_any {G b m : Nat} {vl : Value} {D : Dsk} {L : Lg} {w : World} (h : DiskAt w b m vl D) (hl : LogIn w G b L) (hok : L.Ok) (g : List (Int × List Nat)) (n c : Nat) (hn : g.length = n) (A : Option Addr) (hc : Chg w (.slice A n c) g)
    (hnb : (n : Int) ≤ 1000000) (hL : D.loose.length ≤ 900000000) (R : Int × Dsk × Lg) (hR : R = app D L g) :
    Calls Try.prog 17 #[.pointer (some ⟨G, 0, none⟩), .slice A n c] w fun e w' => e = .returned (.int .i64 R.1) ∧ ∃ vl', DiskAt w' b m vl' R.2.1 ∧ LogIn w' G b R.2.2 ∧ Went w w' G b m vl vl' := by
  have HR := Lib.hid (right_any h hl hok g n c hn (by omega) A hc)
  have HD := Lib.hid h
  have HLG := Lib.hid hl
  have HCH := Lib.hid hc
  obtain ⟨E, hE⟩ : ∃ E, E = rightE D L g := ⟨_, rfl⟩
  rw [← hE] at HR
  unfold app at hR
  rw [← hE] at hR
  by_cases h0 : E = 0
  · rw [if_pos h0] at hR
    subst h0
    have hbad : g.any badPage = false ∧ g.any (badLen D.size) = false ∧ ((g.length : Int) ≤ (L.count : Int) - L.next) := by
      unfold rightE at hE
      split at hE
      · omega
      · split at hE
        · omega
        · rename_i h2
          split at hE
          · omega
          · rename_i h3
            split at hE
            · omega
            · rename_i h4
              simp only [Bool.or_eq_true, not_or] at h2
              exact ⟨by simpa using h2.2, by simpa using h3, by omega⟩
    have HBAD := Lib.hid hbad
    have H0 : Hid (ApSt w w G b m vl D L (.slice A n c) g 0 R D L vl) := Lib.hid ⟨h, hl, hc, Went.refl, hok, rfl, rfl, rfl, Nat.le_refl _, hR.symm⟩
    have HOK := Lib.hid hok
    have HN := Lib.hid hn
    have HLO := Lib.hid hL
    have HZ := Lib.hid (And.intro h.ok.z1 h.ok.z2)
    clear h hl hok hn hc hL hR hE hbad
    go_enter Try.func17, Try.ntmps17
    go_wp2_with fail
    refine HR.out.mono ?_
    rintro e w1 ⟨rfl, hb1⟩
    have H1 : Hid (ApSt w w1 G b m vl D L (.slice A n c) g 0 R D L vl) := Lib.hid ⟨HD.out.grew hb1, HLG.out.grew hb1, HCH.out.grew hb1, Went.of_below hb1, HOK.out, rfl, rfl, rfl, Nat.le_refl _, H0.out.res⟩
    clear hb1 HR H0
    go_wp2
    go_loopw [20] (fun iv wr => ∃ (k : Nat) (Dk : Dsk) (Lk : Lg) (vlk : Value), k ≤ n ∧ iv = .int .i64 k ∧ Hid (ApSt w wr G b m vl D L (.slice A n c) g k R Dk Lk vlk)) (fun iv _ => n - (intOf iv).toNat)
    case atStart => exact ⟨0, D, L, vl, by omega, rfl, H1⟩
    case round =>
      clear H1
      obtain ⟨k, Dk, Lk, vlk, hk, rfl, HS⟩ := hrel
      by_cases hlt : k < n
      · have hkl : k < g.length := by rw [HN.out]; exact hlt
        have hlt' : (k : Int) < n := by omega
        obtain ⟨Q, c', p, z, d, e, _, c0, c1, hby, hzz⟩ := HS.out.row.at_ k hkl
        injection e with e1 e2 e3
        subst e1
        have hpg : 0 ≤ g[k].1 ∧ g[k].1 ≤ 2147483647 := by
          have := List.any_eq_false.1 HBAD.out.1 g[k] (List.getElem_mem hkl)
          unfold badPage at this
          simp at this
          omega
        have hln : g[k].2.length + 45 = Dk.size := by
          have := List.any_eq_false.1 HBAD.out.2.1 g[k] (List.getElem_mem hkl)
          unfold badLen lroom room okSize at this
          have hz := HZ.out
          rw [if_pos (by simp; omega)] at this
          simp at this
          rw [HS.out.size]
          omega
        have hres := HS.out.res
        have hdr : g.drop k = g[k] :: g.drop (k + 1) := List.drop_eq_getElem_cons hkl
        rw [hdr] at hres
        have hie : (g.drop (k + 1)).isEmpty = ((k : Int) == (n : Int) - 1) := by
          have := HN.out
          rw [Bool.eq_iff_iff]
          simp only [List.isEmpty_iff, List.drop_eq_nil_iff, beq_iff_eq]
          omega
        unfold goApp at hres
        rw [hie] at hres
        obtain ⟨pg, hpgE⟩ : ∃ pg : Nat, pg = g[k].1.toNat := ⟨_, rfl⟩
        have hpi : g[k].1 = (pg : Int) := by omega
        rw [hpi] at c0
        rw [← hpgE] at hres
        have hpb : (pg : Int) ≤ 2147483647 := by omega
        obtain ⟨l, hlE⟩ : ∃ l, l = g[k].2 := ⟨_, rfl⟩
        rw [← hlE] at hres hby hln hzz
        have hnx : Lk.next < Lk.count := by have := HBAD.out.2.2; have := HN.out; have := HS.out.next; have := HS.out.cnt; omega
        have hlo : Dk.loose.length ≤ 1000000000 := by have := HS.out.lose; have := HLO.out; omega
        have HP := Lib.hid (fun w1 (hd : DiskAt w1 b m vlk Dk) (hl : LogIn w1 G b Lk) (hu : Byt w1 (.slice (some p) z d) l) last => put_any hd hl HS.out.ok hnx pg hpb p z d l hu hln last hlo)
        have HBY := Lib.hid hby
        have HRES := Lib.hid hres
        clear hpg hres hdr hie hpgE hpi hlE hnx hlo hby hln e2 e3 hzz hpb
        have hB : ∀ w1, w1 = wr.alloc (.cells #[.int .i64 pg, .slice (some p) z d] 44) → Below wr.heap.size wr w1 := by rintro w1 rfl; exact grow_alloc (Below.refl _ _) _
        have HB := Lib.hid hB
        clear hB
        obtain ⟨last, hlast⟩ : ∃ last, last = ((k : Int) == (n : Int) - 1) := ⟨_, rfl⟩
        rw [← hlast] at HRES
        go_wp2_with fail
        rw [← hlast]
        have hB := HB.out _ rfl
        refine (HP.out _ (HS.out.disk.grew hB) (HS.out.log.grew hB) (HBY.out.grew hB) last).mono ?_
        rintro e w2 ⟨rfl, vl2, hd2, hl2, hw2⟩
        have hwent : Went w w2 G b m vl vl2 := (HS.out.went.tail hB).trans hw2
        have hrow2 : Chg w2 (.slice (some ⟨Q, 0, none⟩) n c) g := (HS.out.row.grew hB).went hw2 (HS.out.log.grew hB) (HS.out.disk.grew hB)
        have H2 := Lib.hid (And.intro hd2 (And.intro hl2 (And.intro hwent hrow2)))
        clear hB hd2 hl2 hw2 hwent hrow2 HB HP HBY c0 c1
        obtain ⟨pe, hpe⟩ : ∃ pe, pe = Dk.putErr ((Lk.first : Int) + Lk.next) (secOf Dk.size Lk pg last l) := ⟨_, rfl⟩
        rw [← hpe] at HRES ⊢
        clear hpe
        by_cases hpz : pe = 0
        · subst hpz
          have H3 : Hid (ApSt w w2 G b m vl D L (.slice (some ⟨Q, 0, none⟩) n c) g (k + 1) R (Dk.put ((Lk.first : Int) + Lk.next) (secOf Dk.size Lk pg last l)) { Lk with next := Lk.next + 1 } vl2) := Lib.hid (by
            refine ⟨H2.out.1, H2.out.2.1, H2.out.2.2.2, H2.out.2.2.1, ⟨HS.out.ok.f, HS.out.ok.c, HS.out.ok.e, ?_⟩, ?_, HS.out.cnt, ?_, ?_, ?_⟩
            · have := HBAD.out.2.2; have := HN.out; have := HS.out.next; have := HS.out.cnt; show Lk.next + 1 ≤ Lk.count; omega
            · show Lk.next + 1 = L.next + (k + 1); have := HS.out.next; omega
            · rw [(Dsk.put_sectors _ _).2]; exact HS.out.size
            · have := Dsk.put_loose (d := Dk) ((Lk.first : Int) + Lk.next) (secOf Dk.size Lk pg last l); have := HS.out.lose; omega
            · have := HRES.out; rw [if_neg (by simp)] at this; exact this)
          clear H2 HRES HS
          go_wp2
          go_roundw
          case rel => exact ⟨k + 1, _, _, vl2, by omega, by go_num, H3⟩
          case measure => simp [intOf]; omega
        · have hne : (pe == 0) = false := by simpa using hpz
          have hr := HRES.out
          rw [if_pos hpz] at hr
          have hk3 := log_dead true H2.out.2.1 H2.out.1
          have hf := Blk.free H2.out.2.1 5
          have hcl := Blk.cell H2.out.2.1 5
          have HF : Hid (R.1 = pe ∧ DiskAt (w2.setCell ⟨G, 5, none⟩ (.bool true)) b m vl2 R.2.1 ∧ LogIn (w2.setCell ⟨G, 5, none⟩ (.bool true)) G b R.2.2 ∧ Went w (w2.setCell ⟨G, 5, none⟩ (.bool true)) G b m vl vl2) :=
            Lib.hid ⟨by rw [← hr], by rw [← hr]; exact hk3.1, by rw [← hr]; exact hk3.2.1, H2.out.2.2.1.trans hk3.2.2⟩
          clear hr hk3 H2 HRES HS
          go_wp2
          go_ret
          exact ⟨by rw [HF.out.1]; rfl, vl2, HF.out.2⟩
      · have hkn : k = n := by omega
        subst hkn
        have hres := HS.out.res
        rw [List.drop_eq_nil_of_le (by have := HN.out; omega)] at hres
        have HRES := Lib.hid hres
        have hlo : Dk.loose.length ≤ 1000000000 := by have := HS.out.lose; have := HLO.out; omega
        have HFL := Lib.hid (Flush_any b m vlk Dk wr HS.out.disk hlo)
        have c0 := Blk.cell HS.out.log 0
        clear hres hlo
        go_wp2_with fail
        refine HFL.out.mono ?_
        rintro e w2 ⟨rfl, vl2, hd2, ht2, hg2⟩
        have hl2 : LogIn w2 G b Lk := (ht2.block G (Blk.lt HS.out.log) (fun hk => log_apart HS.out.log HS.out.disk G hk rfl)).trans HS.out.log
        have hw2 : Went wr w2 G b m vlk vl2 := ⟨ht2.mono (by intro j hj _; simp [hj]), fun g h => .inl (hg2 g h)⟩
        obtain ⟨fe, hfe⟩ : ∃ fe, fe = Dk.flushErr := ⟨_, rfl⟩
        have hr := HRES.out
        unfold goApp at hr
        rw [← hfe] at hr ⊢
        have hde : decide (fe ≠ 0) = (fe != 0) := by by_cases h : fe = 0 <;> simp [h]
        rw [hde] at hr
        have hk3 := log_dead (fe != 0) hl2 hd2
        have hf := Blk.free hl2 5
        have hcl := Blk.cell hl2 5
        have HF : Hid (R.1 = fe ∧ DiskAt (w2.setCell ⟨G, 5, none⟩ (.bool (fe != 0))) b m vl2 R.2.1 ∧ LogIn (w2.setCell ⟨G, 5, none⟩ (.bool (fe != 0))) G b R.2.2 ∧ Went w (w2.setCell ⟨G, 5, none⟩ (.bool (fe != 0))) G b m vl vl2) :=
          Lib.hid ⟨by rw [← hr], by rw [← hr]; exact hk3.1, by rw [← hr]; exact hk3.2.1, (HS.out.went.trans hw2).trans hk3.2.2⟩
        clear hr hk3 HRES HS hd2 ht2 hg2 hl2 hw2 hde hfe c0 HFL
        go_wp2
        go_ret
        exact ⟨by rw [HF.out.1]; rfl, vl2, HF.out.2⟩
  · rw [if_neg h0] at hR
    subst hR
    have hne : (E == 0) = false := by simpa using h0
    clear h hl hok hn hc hL hE h0
    go_enter Try.func17, Try.ntmps17
    go_wp2_with fail
    refine HR.out.mono ?_
    rintro e w1 ⟨rfl, hb1⟩
    have HF := Lib.hid (And.intro (HD.out.grew hb1) (And.intro (HLG.out.grew hb1) (Went.of_below (G := G) (b := b) (m := m) (vl := vl) hb1)))
    clear hb1 HR HD HLG HCH
    go_wp2
    go_ret
    exact ⟨rfl, vl, HF.out⟩
end Go.Proofs.Ytpomfokpmbblkaa
