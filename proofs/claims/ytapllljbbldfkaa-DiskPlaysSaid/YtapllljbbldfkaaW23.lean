/- Walk: a round of DiskPlays. -/
import Derived.Test.YtapllljbbldfkaaW22
import Derived.Test.YtapllljbbldfkaaFree
import Derived.Deep.CutBlock
namespace Go.Proofs.Ytapllljbbldfkaa
open Go.RowKit Go.Maps

theorem stands_rf (X : Nat) (D : Dsk) (FA LA : Option Addr) (fc lc : Nat) : Stands fun v => Rf v X D FA LA fc lc := fun _ _ h k => k.grew h

theorem Rf.arm {v : World} {X : Nat} {D : Dsk} {FA LA : Option Addr} {fc lc : Nat} (h : Rf v X D FA LA fc lc) (a : Int) {e : Int} (he : max a 0 = e) : Rf (v.setCell ⟨X, 4, none⟩ (.int .i64 e)) X (D.arm a) FA LA fc lc := by
  have ht : Turn [X] v (v.setCell ⟨X, 4, none⟩ (.int .i64 e)) := (Turn.refl [X] v).set (a := ⟨X, 4, none⟩) (.inl (by simp)) _
  have hr := h.rows.turn ht (fun j hj cs t e => by
    simp at hj; subst hj
    have hh := h.box
    unfold Blk at hh
    rw [hh] at e; cases e; decide)
  have hb := h.box.set 4 (.int .i64 e)
  subst he
  have hb2 : Blk (v.setCell ⟨X, 4, none⟩ (.int .i64 (max a 0))) X #[.int .i64 D.sectors, .int .i64 D.size, .slice FA D.sectors fc, .slice LA D.loose.length lc, .int .i64 (max a 0), .bool D.down] 45 := by simpa using hb
  exact ⟨hb2, ⟨hr.f, hr.l⟩⟩
theorem down_b {v : World} {b m : Nat} {vl : Value} {D : Dsk} (h : DiskAt v b m vl D) : Calls Try.prog 11 #[.pointer (some ⟨b, 0, none⟩)] v fun e w' => e = .returned (.bool D.down) ∧ Below v.heap.size v w' :=
  (Down_any h).mono (fun _ _ h => ⟨h.1, by rw [h.2]; exact Below.refl _ _⟩)
theorem loose_b {v : World} {b m : Nat} {vl : Value} {D : Dsk} (h : DiskAt v b m vl D) : Calls Try.prog 26 #[.pointer (some ⟨b, 0, none⟩)] v fun e w' => e = .returned (.int .i64 D.loose.length) ∧ Below v.heap.size v w' :=
  (Loose_any h).mono (fun _ _ h => ⟨h.1, by rw [h.2]; exact Below.refl _ _⟩)
theorem sectors_b {v : World} {b m s : Nat} {vl : Value} {D : Dsk} (h : DiskAt v b m vl D) (hs : D.sectors = s) : Calls Try.prog 16 #[.pointer (some ⟨b, 0, none⟩)] v fun e w' => e = .returned (.int .i64 s) ∧ Below v.heap.size v w' := by
  subst hs
  exact (Sectors_any h).mono (fun _ _ h => ⟨h.1, by rw [h.2]; exact Below.refl _ _⟩)
theorem size_b {v : World} {b m s : Nat} {vl : Value} {D : Dsk} (h : DiskAt v b m vl D) (hs : D.size = s) : Calls Try.prog 17 #[.pointer (some ⟨b, 0, none⟩)] v fun e w' => e = .returned (.int .i64 s) ∧ Below v.heap.size v w' := by
  subst hs
  exact (Size_any h).mono (fun _ _ h => ⟨h.1, by rw [h.2]; exact Below.refl _ _⟩)

set_option maxRecDepth 20000 in
set_option maxHeartbeats 64000000 in
theorem Plays_right (s z : Nat) (A : Option Addr) (l : List ActV) (n c : Nat) (w : World) (hs1 : (1 : Int) ≤ s) (hs2 : (s : Int) ≤ 8) (hz1 : (64 : Int) ≤ z) (hz2 : (z : Int) ≤ 4096) (hn : l.length = n) (hr : Acts w w.heap.size A l) (hlt : lightB l = true) :
    Calls Try.prog 4 #[.int .i64 s, .int .i64 z, .slice A n c] w fun e w' => e = .returned (.bool true) ∧ Below w.heap.size w w' := by
  have H1 := Lib.hid hn
  have R1 := Lib.hid hr
  have HLI := Lib.hid hlt
  have HN1 := Lib.hid (show n ≤ 40 by have h := of_decide_eq_true hlt; omega)
  have HFB0 := Lib.hid (show ∀ x ∈ l, x.fates.length ≤ 60 from (of_decide_eq_true hlt).2)
  have HRI := Lib.hid (show rightB s z = true from decide_eq_true (by omega))
  have HZB := Lib.hid (show s ≤ 8 ∧ z ≤ 4096 by omega)
  clear hn hr hlt
  have hs8 : ¬ (8 : Int) < s := by omega
  go_enter Try.func4, Try.ntmps4
  go_wp2_with fail
  refine (light_any A l n c _ w H1.out R1.out).mono ?_
  rintro e w1 ⟨rfl, hw1⟩
  rw [HLI.out, hw1]
  clear hw1
  go_wp2_with fail
  refine (New_dk w s z (fun _ _ => trivial) (Below.refl _ _) hs1 (by omega) hz1 hz2).mono ?_
  rintro e w2 ⟨b, m, rfl, hk2, -⟩
  have HK2 := Lib.hid hk2
  clear hk2
  go_wp2_with fail
  refine (Right_any _ _ _).mono ?_
  rintro e w3 ⟨rfl, hw3⟩
  rw [HRI.out, hw3]
  clear hw3
  go_wp2_with fail
  refine (New_ref s z (by have := HZB.out; omega) HZB.out.2 w2).mono ?_
  rintro e w3 ⟨fv, rfl, hrows, hb⟩
  obtain ⟨FA0, fc0, LA0, lc0, rfl, hlv⟩ := hrows.forms
  obtain ⟨X, hX⟩ : ∃ X, X = w3.heap.size := ⟨_, rfl⟩
  obtain ⟨w4, hw4⟩ : ∃ w4, w4 = w3.alloc (.cells #[.int .i64 s, .int .i64 z, .slice FA0 s fc0, .slice none 0 0, .int .i64 0, .bool false] 45) := ⟨_, rfl⟩
  have hb4 : Below w3.heap.size w3 w4 := by rw [hw4]; exact (Below.refl _ _).alloc (Nat.le_refl _) _
  have HN := Lib.hid (show ∃ (vl : Value) (FA LA : Option Addr) (fc lc : Nat), Dk w w4 b m vl (runs (Dsk.new s z) (l.take 0)) ∧ Rf w4 X (runs (Dsk.new s z) (l.take 0)) FA LA fc lc from
    ⟨_, FA0, none, fc0, 0, (HK2.out.grew hb).grew hb4, ⟨by rw [hw4]; exact Blk.new' _ _ _ hX, hrows.grew hb4⟩⟩)
  have HXL := Lib.hid (show w.heap.size ≤ X by rw [hX]; exact Nat.le_trans HK2.out.low.size hb.size)
  have HW4 := Lib.hid hw4
  have HX0 := Lib.hid hX
  rw [RV_eq]
  clear hrows hb hb4 hlv hX hw4 HK2
  simp only [show (Dsk.new s z).sectors = s from rfl, show (Dsk.new s z).size = z from rfl, show (Dsk.new s z).armed = 0 from rfl, show (Dsk.new s z).down = false from rfl]
  go_wp2_with fail
  rw [← HW4.out, ← HX0.out]
  go_loopw [9] (fun i wr => ∃ k : Nat, k ≤ n ∧ i = .int .i64 k ∧ Hid (∃ (vl : Value) (FA LA : Option Addr) (fc lc : Nat), Dk w wr b m vl (runs (Dsk.new s z) (l.take k)) ∧ Rf wr X (runs (Dsk.new s z) (l.take k)) FA LA fc lc)) (fun i _ => n - (intOf i).toNat)
  case atStart => exact ⟨0, by omega, rfl, HN⟩
  case round =>
    clear HN HW4 HX0
    obtain ⟨k, hk, rfl, HKK⟩ := hrel
    by_cases hlt : k < n
    · obtain ⟨vl, FA, LA, fc, lc, hdk, hrf⟩ := HKK.out
      obtain ⟨D, hD⟩ : ∃ D, D = runs (Dsk.new s z) (l.take k) := ⟨_, rfl⟩
      rw [← hD] at hdk hrf
      have HDD := Lib.hid hD
      have HS := Lib.hid (show D.sectors = s ∧ D.size = z by rw [hD]; exact runs_sectors _ _)
      have HDL := Lib.hid (show D.loose.length ≤ 40 by rw [hD]; have := new_runs_loose s z l k; have := HN1.out; omega)
      have HOK := Lib.hid hdk.disk.ok
      have hkl : k < l.length := by rw [H1.out]; exact hlt
      obtain ⟨p, e, hpl, hat, hB, FAx, fcx, h0, h1, h2, h3, h4, hfc, hfi, hfa⟩ := (R1.out.below hdk.low).get hkl
      cases e
      obtain ⟨x, hx⟩ : ∃ x, x = l[k] := ⟨_, rfl⟩
      have hfb := HFB0.out _ (List.getElem_mem hkl)
      rw [← hx] at hat hB h0 h1 h2 h3 h4 hfc hfi hfa hfb
      have HX := Lib.hid hx
      have hw0 := R1.out.get hkl
      obtain ⟨kind, xat, len, B, fates⟩ := x
      simp only at h0 h1 h2 h3 h4 hat hB hfc hfi hfa hfb
      obtain ⟨fn, hfn⟩ : ∃ fn, fn = fates.length := ⟨_, rfl⟩
      rw [← hfn] at h4 hfc hfb
      have HFN := Lib.hid hfn.symm
      have HFB := Lib.hid hfb
      have HFA := Lib.hid hfa
      have HIW := Lib.hid (show IRd w FAx fates from by
        obtain ⟨p', e', _, _, _, FA', fc', _, _, _, _, h4', _, hfi', _⟩ := hw0
        injection e' with e'
        subst e'
        have hlo := hdk.low.cell (p := ⟨(p.add (k * 5)).block, (p.add (k * 5)).off + 4, none⟩) (by show (p.add (k * 5)).block < _; rw [add_block]; exact hpl)
        rw [h4, h4', ← hx] at hlo
        injection hlo with hlo
        injection hlo with e1 e2 e3
        rw [← hx] at hfi'
        rw [e1]
        exact hfi')
      have HAT := Lib.hid hat
      have HBB := Lib.hid hB
      obtain ⟨Q, hQ⟩ : ∃ Q, Q = wr.heap.size := ⟨_, rfl⟩
      obtain ⟨w1, hw1⟩ : ∃ w1, w1 = wr.alloc (.cells #[.int .i64 kind, .int .i64 xat, .int .i64 len, .int .u8 B, .slice FAx fn fcx] 31) := ⟨_, rfl⟩
      have hb1 : Below wr.heap.size wr w1 := by rw [hw1]; exact (Below.refl _ _).alloc (Nat.le_refl _) _
      have HK1 := Lib.hid (hdk.grew hb1)
      have HR1 := Lib.hid (hrf.grew hb1)
      have HI1 := Lib.hid (hfi.grew hb1)
      have HQ := Lib.hid (show Blk w1 Q #[.int .i64 kind, .int .i64 xat, .int .i64 len, .int .u8 B, .slice FAx fn fcx] 31 by rw [hw1]; exact Blk.new' _ _ _ hQ)
      have HW1 := Lib.hid hw1
      have HQ0 := Lib.hid hQ
      obtain ⟨K, hKe⟩ : ∃ K, K = kind % 7 := ⟨_, rfl⟩
      have hkk : (kind.tmod 7 + 7).tmod 7 = K := by
        have h := rem_mod kind 7 (by omega)
        have hnn := Int.emod_nonneg kind (show (7 : Int) ≠ 0 by omega)
        rw [Int.toNat_of_nonneg (by simpa using hnn)] at h
        rw [hKe]; simpa using h
      have t1 := Int.tmod_lt_of_pos kind (show (0 : Int) < 7 by omega)
      have t2 := Int.lt_tmod_of_pos kind (show (0 : Int) < 7 by omega)
      have HKI := Lib.hid hKe
      clear hdk hrf hD hx hw0 hfn hfb hfa hat hB hQ hw1 hb1 hfi hKe hpl hfc HKK
      go_upto_block 2 with fail
      rw [← HW1.out, ← HQ0.out]
      clear h0 h1 h2 h3 h4 t1 t2
      go_cut [10, 11, 12, 13, 14, 15, 16, 17, 18, 19, 20, 21] from 63 to 183 (fun s10 s11 s12 s13 s14 s15 s16 s17 s18 s19 s20 s21 wx => Hid (∃ (vl : Value) (FA LA : Option Addr) (fc lc : Nat), Dk w wx b m vl (runs (Dsk.new s z) (l.take (k + 1))) ∧ Rf wx X (runs (Dsk.new s z) (l.take (k + 1))) FA LA fc lc))
      case first =>
        clear HW1 HQ0
        by_cases hK3 : K = 3
        · subst hK3
          have HKE := Lib.hid (show kind % 7 = 3 from HKI.out.symm)
          go_wp2_with fail
          refine (Flush_dk HK1.out (by have := HDL.out; omega)).mono ?_
          rintro e w2 ⟨rfl, vl2, hk2, hs2⟩
          have HR2 := Lib.hid (HR1.out.step HK1.out.disk hs2.turn)
          have HK2 := Lib.hid hk2
          clear hk2 hs2 HK1 HR1
          have hbx := HR2.out.box.six
          obtain ⟨b0, b1, b2, b3, b4, b5, -⟩ := hbx
          obtain ⟨fe, hfe⟩ : ∃ fe, fe = D.flushErr := ⟨_, rfl⟩
          rw [← hfe]
          have HFE := Lib.hid hfe
          clear hfe
          go_wp2_with fail
          clear b0 b1 b2 b3 b4 b5
          have hcon := Flush_ref D HOK.out FA LA fc lc w2 HR2.out.rows (by have := HDL.out; omega)
          rw [RV_eq, ← HFE.out] at hcon
          have HCON := Lib.hid hcon
          clear hcon
          refine (HCON.out).mono ?_
          rintro e w3 ⟨fv, lv, rfl, hrows, hb⟩
          obtain ⟨D2, hD2⟩ : ∃ D2, D2 = D.flush := ⟨_, rfl⟩
          rw [← hD2] at hrows ⊢
          obtain ⟨FA2, fc2, LA2, lc2, rfl, hlv⟩ := hrows.forms
          subst hlv
          rw [RV_eq]
          obtain ⟨w6, hw6⟩ : ∃ w6, w6 = w3.alloc (.cells #[.int .i64 D2.sectors, .int .i64 D2.size, .slice FA2 D2.sectors fc2, .slice LA2 D2.loose.length lc2, .int .i64 D2.armed, .bool D2.down] 45) := ⟨_, rfl⟩
          have hb6 : Below w2.heap.size w2 w6 := by rw [hw6]; exact hb.trans (((Below.refl _ _).alloc (Nat.le_refl _) _).mono hb.size)
          have hrows6 : Rows w6 D2 (.slice FA2 D2.sectors fc2) (.slice LA2 D2.loose.length lc2) := by rw [hw6]; exact hrows.grew ((Below.refl _ _).alloc (Nat.le_refl _) _)
          have hR6 := HR2.out.grew hb6
          obtain ⟨b0, b1, b2, b3, b4, b5, u0, u1, u2, u3, u4, u5⟩ := hR6.box.six
          have hT6 : Blk w6 w3.heap.size #[.int .i64 D2.sectors, .int .i64 D2.size, .slice FA2 D2.sectors fc2, .slice LA2 D2.loose.length lc2, .int .i64 D2.armed, .bool D2.down] 45 := by rw [hw6]; exact Blk.new' _ _ _ rfl
          obtain ⟨y0, y1, y2, y3, y4, y5, -⟩ := hT6.six
          obtain ⟨w5, hw5⟩ : ∃ w5, w5 = lay6 w6 X (.int .i64 D2.sectors) (.int .i64 D2.size) (.slice FA2 D2.sectors fc2) (.slice LA2 D2.loose.length lc2) (.int .i64 D2.armed) (.bool D2.down) := ⟨_, rfl⟩
          have HR5 := Lib.hid (show Rf w5 X D2 FA2 LA2 fc2 lc2 by rw [hw5]; exact Rf.lay hR6.box hrows6)
          have HK5 := Lib.hid (show Dk w w5 b m vl2 D2 by rw [hD2]; exact (HK2.out.grew hb6).box hR6.box HXL.out (show Turn [X] w6 w5 by rw [hw5]; exact lay6_turn _ _ _ _ _ _ _ _))
          have q5 : ((((((w6.setCell ⟨X, 0, none⟩ (.int .i64 D2.sectors)).setCell ⟨X, 1, none⟩ (.int .i64 D2.size)).setCell ⟨X, 2, none⟩ (.slice FA2 D2.sectors fc2)).setCell ⟨X, 3, none⟩ (.slice LA2 D2.loose.length lc2)).setCell ⟨X, 4, none⟩ (.int .i64 D2.armed)).setCell ⟨X, 5, none⟩ (.bool D2.down)) = w5 := hw5.symm
          have hXw : X < w3.heap.size := (HR2.out.grew hb).box.lt
          have q6 : w3.alloc (.cells #[.int .i64 D2.sectors, .int .i64 D2.size, .slice FA2 D2.sectors fc2, .slice LA2 D2.loose.length lc2, .int .i64 D2.armed, .bool D2.down] 45) = w6 := hw6.symm
          have HD2 := Lib.hid hD2
          clear hD2 hrows hb hb6 hrows6 hR6 hw5 hw6 HK2 HR2
          clear HCON
          go_wp2_with fail
          clear b0 b1 b2 b3 b4 b5 u0 u1 u2 u3 u4 u5 q5 q6 hXw y0 y1 y2 y3 y4 y5 hT6
          have HD5 := Lib.hid (show D2 = runs (Dsk.new s z) (l.take (k + 1)) by rw [HD2.out, runs_succ _ _ _ hkl, ← HX.out, ← HDD.out]; unfold Dsk.acted Dsk.did; dsimp only; rw [if_pos HKE.out])
          have HS5 := Lib.hid (show D2.sectors = s ∧ D2.size = z by rw [HD5.out]; exact runs_sectors _ _)
          have HLO5 := Lib.hid HK5.out.lo
          have HN := Lib.hid (show ∃ (vl : Value) (FA LA : Option Addr) (fc lc : Nat), Dk w w5 b m vl (runs (Dsk.new s z) (l.take (k + 1))) ∧ Rf w5 X (runs (Dsk.new s z) (l.take (k + 1))) FA LA fc lc from by
            rw [← HD5.out]; exact ⟨_, _, _, _, _, HK5.out, HR5.out⟩)
          clear HS5 HD5 HLO5 HK5 HR5
          go_meet
          exact HN

        by_cases hK4 : K = 4
        · subst hK4
          have HKE := Lib.hid (show kind % 7 = 4 from HKI.out.symm)
          by_cases hrd : D.ready xat = 0
          · have HRD := Lib.hid hrd
            clear hrd
            have hqa := HQ.out.cell 1
            go_wp2_with fail
            clear hqa
            refine (Read_dk HK1.out xat (by have := HDL.out; omega) HRD.out).mono ?_
            rintro e w2 ⟨g2, c2, rfl, ho2, hk2, hb2⟩
            have HR2 := Lib.hid (HR1.out.grew hb2)
            have HK2 := Lib.hid hk2
            have HBY := Lib.hid (Byt.of_own' ho2)
            have HQ2 := Lib.hid (HQ.out.grew hb2)
            have hq2 := HQ2.out.cell 1
            clear hk2 hb2 ho2 HK1 HR1 HQ
            obtain ⟨b0, b1, b2, b3, b4, b5, -⟩ := HR2.out.box.six
            go_wp2_with fail
            clear b0 b1 b2 b3 b4 b5 hq2
            have hcon := Read_ref D FA LA fc lc xat w2 HR2.out.rows (by have := HDL.out; omega)
            rw [RV_eq, HRD.out, if_pos rfl] at hcon
            have HCON := Lib.hid hcon
            clear hcon
            refine HCON.out.mono ?_
            rintro e w5 ⟨rfl, hb⟩
            have hst := (HBY.out.grew hb).strv
            have HR5 := Lib.hid (HR2.out.grew hb)
            have HK5 := Lib.hid (HK2.out.grew hb)
            generalize str (D.tells xat) = S at *
            clear hb HCON HK2 HR2 HBY HQ2
            go_wp2_with fail
            clear hst
            have HD5 := Lib.hid (show D = runs (Dsk.new s z) (l.take (k + 1)) by rw [runs_succ _ _ _ hkl, ← HX.out, ← HDD.out]; unfold Dsk.acted Dsk.did; dsimp only; rw [if_neg (by rw [HKE.out]; decide), if_pos HKE.out])
            have HS5 := Lib.hid HS.out
            have HLO5 := Lib.hid HK5.out.lo
            have HN := Lib.hid (show ∃ (vl : Value) (FA LA : Option Addr) (fc lc : Nat), Dk w w5 b m vl (runs (Dsk.new s z) (l.take (k + 1))) ∧ Rf w5 X (runs (Dsk.new s z) (l.take (k + 1))) FA LA fc lc from by
              rw [← HD5.out]; exact ⟨_, _, _, _, _, HK5.out, HR5.out⟩)
            clear HS5 HD5 HLO5 HK5 HR5
            go_meet
            exact HN
          · have HRD := Lib.hid hrd
            clear hrd
            have hqa := HQ.out.cell 1
            go_wp2_with fail
            clear hqa
            refine (Read_dkno HK1.out xat HRD.out).mono ?_
            rintro e w2 ⟨rfl, hk2, hb2⟩
            have HR2 := Lib.hid (HR1.out.grew hb2)
            have HK2 := Lib.hid hk2
            have HQ2 := Lib.hid (HQ.out.grew hb2)
            have hq2 := HQ2.out.cell 1
            rw [show nilv = .slice none 0 0 from rfl]
            obtain ⟨rr, hrr⟩ : ∃ rr, rr = D.ready xat := ⟨_, rfl⟩
            rw [← hrr]
            clear hk2 hb2 HK1 HR1 HQ
            obtain ⟨b0, b1, b2, b3, b4, b5, -⟩ := HR2.out.box.six
            have hcon := Read_ref D FA LA fc lc xat w2 HR2.out.rows (by have := HDL.out; omega)
            rw [RV_eq, ← hrr, if_neg (by rw [hrr]; exact HRD.out)] at hcon
            have HCON := Lib.hid hcon
            clear hcon hrr
            go_wp2_with fail
            clear b0 b1 b2 b3 b4 b5 hq2
            refine HCON.out.mono ?_
            rintro e w5 ⟨rfl, hb⟩
            have hst : (convert 35 9 (.slice none 0 0)).run Try.prog w5 = .ok (.string (ByteArray.mk #[])) w5 := run_str (L := 0) (A := none) (l := []) 0 ⟨by simp, fun h => absurd rfl h⟩
            have HR5 := Lib.hid (HR2.out.grew hb)
            have HK5 := Lib.hid (HK2.out.grew hb)
            clear hb HCON HK2 HR2 HQ2
            go_wp2_with fail
            clear hst
            have HD5 := Lib.hid (show D = runs (Dsk.new s z) (l.take (k + 1)) by rw [runs_succ _ _ _ hkl, ← HX.out, ← HDD.out]; unfold Dsk.acted Dsk.did; dsimp only; rw [if_neg (by rw [HKE.out]; decide), if_pos HKE.out])
            have HS5 := Lib.hid HS.out
            have HLO5 := Lib.hid HK5.out.lo
            have HN := Lib.hid (show ∃ (vl : Value) (FA LA : Option Addr) (fc lc : Nat), Dk w w5 b m vl (runs (Dsk.new s z) (l.take (k + 1))) ∧ Rf w5 X (runs (Dsk.new s z) (l.take (k + 1))) FA LA fc lc from by
              rw [← HD5.out]; exact ⟨_, _, _, _, _, HK5.out, HR5.out⟩)
            clear HS5 HD5 HLO5 HK5 HR5
            go_meet
            exact HN

        by_cases hK5 : K = 5
        · subst hK5
          have HKE := Lib.hid (show kind % 7 = 5 from HKI.out.symm)
          by_cases hp0 : 0 ≤ xat
          · have hmx : max xat 0 = xat := by omega
            have HMX := Lib.hid hmx
            clear hmx
            have hqa := HQ.out.cell 1
            go_wp2_with fail
            clear hqa
            refine (Arm_dk HK1.out xat HAT.out.2).mono ?_
            rintro e w2 ⟨rfl, hk2, hs2⟩
            have hR2 := HR1.out.step HK1.out.disk hs2.turn
            have hq2 : w2.cell? ⟨Q, 1, none⟩ = some (.int .i64 xat) := by
              have := (hs2.turn.block Q HQ.out.lt (fun hj => by rcases own_kinds HK1.out.disk Q hj _ _ HQ.out with e | e <;> cases e)).trans HQ.out
              exact (show Blk w2 Q #[.int .i64 kind, .int .i64 xat, .int .i64 len, .int .u8 B, .slice FAx fn fcx] 31 from this).cell 1
            obtain ⟨b0, b1, b2, b3, b4, b5, u0, u1, u2, u3, u4, u5⟩ := hR2.box.six
            obtain ⟨w5, hw5⟩ : ∃ w5, w5 = w2.setCell ⟨X, 4, none⟩ (.int .i64 (xat)) := ⟨_, rfl⟩
            have ht5 : Turn [X] w2 w5 := by rw [hw5]; exact (Turn.refl [X] w2).set (a := ⟨X, 4, none⟩) (.inl (by simp)) _
            obtain ⟨D2, hD2⟩ : ∃ D2, D2 = D.arm xat := ⟨_, rfl⟩
            have HK5 := Lib.hid (show Dk w w5 b m vl D2 by rw [hD2]; exact hk2.box hR2.box HXL.out ht5)
            have HR5 := Lib.hid (show Rf w5 X D2 FA LA fc lc by rw [hD2, hw5]; exact hR2.arm xat HMX.out)
            have HD2 := Lib.hid hD2
            have q5 : w2.setCell ⟨X, 4, none⟩ (.int .i64 (xat)) = w5 := hw5.symm
            clear hk2 hs2 HK1 HR1 HQ hR2 hw5 ht5 hD2
            go_wp2_with fail
            clear b0 b1 b2 b3 b4 b5 u0 u1 u2 u3 u4 u5 q5 hq2 HMX
            have HD5 := Lib.hid (show D2 = runs (Dsk.new s z) (l.take (k + 1)) by rw [HD2.out, runs_succ _ _ _ hkl, ← HX.out, ← HDD.out]; unfold Dsk.acted Dsk.did; dsimp only; rw [if_neg (by rw [HKE.out]; decide), if_neg (by rw [HKE.out]; decide), if_pos HKE.out])
            have HS5 := Lib.hid (show D2.sectors = s ∧ D2.size = z by rw [HD5.out]; exact runs_sectors _ _)
            have HLO5 := Lib.hid HK5.out.lo
            have HN := Lib.hid (show ∃ (vl : Value) (FA LA : Option Addr) (fc lc : Nat), Dk w w5 b m vl (runs (Dsk.new s z) (l.take (k + 1))) ∧ Rf w5 X (runs (Dsk.new s z) (l.take (k + 1))) FA LA fc lc from by
              rw [← HD5.out]; exact ⟨_, _, _, _, _, HK5.out, HR5.out⟩)
            clear HS5 HD5 HLO5 HK5 HR5
            go_meet
            exact HN
          · have hmx : max xat 0 = 0 := by omega
            have HMX := Lib.hid hmx
            clear hmx
            have hqa := HQ.out.cell 1
            go_wp2_with fail
            clear hqa
            refine (Arm_dk HK1.out xat HAT.out.2).mono ?_
            rintro e w2 ⟨rfl, hk2, hs2⟩
            have hR2 := HR1.out.step HK1.out.disk hs2.turn
            have hq2 : w2.cell? ⟨Q, 1, none⟩ = some (.int .i64 xat) := by
              have := (hs2.turn.block Q HQ.out.lt (fun hj => by rcases own_kinds HK1.out.disk Q hj _ _ HQ.out with e | e <;> cases e)).trans HQ.out
              exact (show Blk w2 Q #[.int .i64 kind, .int .i64 xat, .int .i64 len, .int .u8 B, .slice FAx fn fcx] 31 from this).cell 1
            obtain ⟨b0, b1, b2, b3, b4, b5, u0, u1, u2, u3, u4, u5⟩ := hR2.box.six
            obtain ⟨w5, hw5⟩ : ∃ w5, w5 = w2.setCell ⟨X, 4, none⟩ (.int .i64 (0)) := ⟨_, rfl⟩
            have ht5 : Turn [X] w2 w5 := by rw [hw5]; exact (Turn.refl [X] w2).set (a := ⟨X, 4, none⟩) (.inl (by simp)) _
            obtain ⟨D2, hD2⟩ : ∃ D2, D2 = D.arm xat := ⟨_, rfl⟩
            have HK5 := Lib.hid (show Dk w w5 b m vl D2 by rw [hD2]; exact hk2.box hR2.box HXL.out ht5)
            have HR5 := Lib.hid (show Rf w5 X D2 FA LA fc lc by rw [hD2, hw5]; exact hR2.arm xat HMX.out)
            have HD2 := Lib.hid hD2
            have q5 : w2.setCell ⟨X, 4, none⟩ (.int .i64 (0)) = w5 := hw5.symm
            clear hk2 hs2 HK1 HR1 HQ hR2 hw5 ht5 hD2
            go_wp2_with fail
            clear b0 b1 b2 b3 b4 b5 u0 u1 u2 u3 u4 u5 q5 hq2 HMX
            have HD5 := Lib.hid (show D2 = runs (Dsk.new s z) (l.take (k + 1)) by rw [HD2.out, runs_succ _ _ _ hkl, ← HX.out, ← HDD.out]; unfold Dsk.acted Dsk.did; dsimp only; rw [if_neg (by rw [HKE.out]; decide), if_neg (by rw [HKE.out]; decide), if_pos HKE.out])
            have HS5 := Lib.hid (show D2.sectors = s ∧ D2.size = z by rw [HD5.out]; exact runs_sectors _ _)
            have HLO5 := Lib.hid HK5.out.lo
            have HN := Lib.hid (show ∃ (vl : Value) (FA LA : Option Addr) (fc lc : Nat), Dk w w5 b m vl (runs (Dsk.new s z) (l.take (k + 1))) ∧ Rf w5 X (runs (Dsk.new s z) (l.take (k + 1))) FA LA fc lc from by
              rw [← HD5.out]; exact ⟨_, _, _, _, _, HK5.out, HR5.out⟩)
            clear HS5 HD5 HLO5 HK5 HR5
            go_meet
            exact HN

        by_cases hK6 : K = 6
        · subst hK6
          have HKE := Lib.hid (show kind % 7 = 6 from HKI.out.symm)
          obtain ⟨g7, c7, w7, happ7, hc7, hi7, hlo7, hlt7, hb7⟩ := copyI (c := fcx) (HI1.out) HFN.out (by have := HFB.out; omega)
          have HA7 := Lib.hid happ7
          have HK7 := Lib.hid (HK1.out.grew hb7)
          have HR7 := Lib.hid (HR1.out.grew hb7)
          have HI7 := Lib.hid (HI1.out.grew hb7)
          have HQ7 := Lib.hid (HQ.out.grew hb7)
          have hcr := Crash_dk HK7.out fates (some ⟨g7, 0, none⟩) c7 fn HFN.out (by have := HDL.out; omega) hc7 hi7 (fun _ p hp => by cases hp; exact ⟨hlt7, fun hm => by have h1 := HK1.out.disk.lt _ hm; exact absurd hlo7 (by show ¬ w1.heap.size ≤ g7; have : g7 < w1.heap.size := h1; omega)⟩)
          have HCR := Lib.hid hcr
          have hq4 := HQ.out.cell 4
          have hqw : Q < w1.heap.size := HQ.out.lt
          clear happ7 hc7 hi7 hlo7 hlt7 hb7 hcr HK1 HR1 HI1 HQ
          go_wp2_with (at_builtin; refine Lib.wpList_append_run _ rfl (.tmp 150) (.tmp 152) 23 23 rfl _ _ rfl rfl _ w7 HA7.out ?_)
          clear hq4 hqw HA7
          refine HCR.out.mono ?_
          rintro e w2 ⟨rfl, vl2, hk2, hs2⟩
          have HR2 := Lib.hid (HR7.out.step HK7.out.disk hs2.turn)
          have HK2 := Lib.hid hk2
          have HI2 := Lib.hid (HIW.out.below hk2.low HFA.out)
          have hq2 : w2.cell? ⟨Q, 4, none⟩ = some (.slice FAx fn fcx) := by
            have := (hs2.turn.block Q HQ7.out.lt (fun hj => by rcases own_kinds HK7.out.disk Q hj _ _ HQ7.out with e | e <;> cases e)).trans HQ7.out
            exact (show Blk w2 Q #[.int .i64 kind, .int .i64 xat, .int .i64 len, .int .u8 B, .slice FAx fn fcx] 31 from this).cell 4
          clear hk2 hs2 HK7 HR7 HI7 HQ7 HCR
          obtain ⟨b0, b1, b2, b3, b4, b5, -⟩ := HR2.out.box.six
          go_wp2_with fail
          clear b0 b1 b2 b3 b4 b5 hq2
          have hcon := Crash_ref D HOK.out FA LA FAx fc lc fn fcx fates w2 HR2.out.rows (by have := HDL.out; omega) HFN.out HI2.out (fun hn p hp => Nat.lt_of_lt_of_le (HFA.out hn p hp) HK2.out.low.size)
          rw [RV_eq] at hcon
          have HCON := Lib.hid (show Calls Try.prog 22 #[.agg #[.int .i64 D.sectors, .int .i64 D.size, .slice FA D.sectors fc, .slice LA D.loose.length lc, .int .i64 D.armed, .bool D.down], .slice FAx fn fcx] w2 fun e w' => ∃ fv lv, e = .returned (RV (D.crash fates) fv lv) ∧ Rows w' (D.crash fates) fv lv ∧ Below w2.heap.size w2 w' from hcon.mono (fun e w' h => by obtain ⟨fv, h1, h2⟩ := h; exact ⟨fv, _, h1, h2⟩))
          clear hcon
          refine (HCON.out).mono ?_
          rintro e w3 ⟨fv, lv, rfl, hrows, hb⟩
          obtain ⟨D2, hD2⟩ : ∃ D2, D2 = D.crash fates := ⟨_, rfl⟩
          rw [← hD2] at hrows ⊢
          obtain ⟨FA2, fc2, LA2, lc2, rfl, hlv⟩ := hrows.forms
          subst hlv
          rw [RV_eq]
          obtain ⟨w6, hw6⟩ : ∃ w6, w6 = w3 := ⟨_, rfl⟩
          have hb6 : Below w2.heap.size w2 w6 := by rw [hw6]; exact hb
          have hrows6 : Rows w6 D2 (.slice FA2 D2.sectors fc2) (.slice LA2 D2.loose.length lc2) := by rw [hw6]; exact hrows
          have hR6 := HR2.out.grew hb6
          obtain ⟨b0, b1, b2, b3, b4, b5, u0, u1, u2, u3, u4, u5⟩ := hR6.box.six
          obtain ⟨w5, hw5⟩ : ∃ w5, w5 = lay6 w6 X (.int .i64 D2.sectors) (.int .i64 D2.size) (.slice FA2 D2.sectors fc2) (.slice LA2 D2.loose.length lc2) (.int .i64 D2.armed) (.bool D2.down) := ⟨_, rfl⟩
          have HR5 := Lib.hid (show Rf w5 X D2 FA2 LA2 fc2 lc2 by rw [hw5]; exact Rf.lay hR6.box hrows6)
          have HK5 := Lib.hid (show Dk w w5 b m vl2 D2 by rw [hD2]; exact (HK2.out.grew hb6).box hR6.box HXL.out (show Turn [X] w6 w5 by rw [hw5]; exact lay6_turn _ _ _ _ _ _ _ _))
          have q5 : ((((((w6.setCell ⟨X, 0, none⟩ (.int .i64 D2.sectors)).setCell ⟨X, 1, none⟩ (.int .i64 D2.size)).setCell ⟨X, 2, none⟩ (.slice FA2 D2.sectors fc2)).setCell ⟨X, 3, none⟩ (.slice LA2 D2.loose.length lc2)).setCell ⟨X, 4, none⟩ (.int .i64 D2.armed)).setCell ⟨X, 5, none⟩ (.bool D2.down)) = w5 := hw5.symm
          subst hw6
          have HD2 := Lib.hid hD2
          clear hD2 hrows hb hb6 hrows6 hR6 hw5  HK2 HR2
          clear HCON HI2
          go_wp2_with fail
          clear b0 b1 b2 b3 b4 b5 u0 u1 u2 u3 u4 u5 q5
          have HD5 := Lib.hid (show D2 = runs (Dsk.new s z) (l.take (k + 1)) by rw [HD2.out, runs_succ _ _ _ hkl, ← HX.out, ← HDD.out]; unfold Dsk.acted Dsk.did; dsimp only; rw [if_neg (by rw [HKE.out]; decide), if_neg (by rw [HKE.out]; decide), if_neg (by rw [HKE.out]; decide), if_pos HKE.out])
          have HS5 := Lib.hid (show D2.sectors = s ∧ D2.size = z by rw [HD5.out]; exact runs_sectors _ _)
          have HLO5 := Lib.hid HK5.out.lo
          have HN := Lib.hid (show ∃ (vl : Value) (FA LA : Option Addr) (fc lc : Nat), Dk w w5 b m vl (runs (Dsk.new s z) (l.take (k + 1))) ∧ Rf w5 X (runs (Dsk.new s z) (l.take (k + 1))) FA LA fc lc from by
            rw [← HD5.out]; exact ⟨_, _, _, _, _, HK5.out, HR5.out⟩)
          clear HS5 HD5 HLO5 HK5 HR5
          go_meet
          exact HN

        have e3 : (K == 3) = false := by simpa using hK3
        have e4 : (K == 4) = false := by simpa using hK4
        have e5 : (K == 5) = false := by simpa using hK5
        have e6 : (K == 6) = false := by simpa using hK6
        have HKE := Lib.hid (show kind % 7 ≠ 3 ∧ kind % 7 ≠ 4 ∧ kind % 7 ≠ 5 ∧ kind % 7 ≠ 6 by rw [← HKI.out]; exact ⟨hK3, hK4, hK5, hK6⟩)
        clear hK3 hK4 hK5 hK6
        have g0 := HQ.out.cell 0
        have g1 := HQ.out.cell 1
        have g2 := HQ.out.cell 2
        have g3 := HQ.out.cell 3
        have g4 := HQ.out.cell 4
        go_wp2_with fail
        clear g0 g1 g2 g3 g4
        have hby := bytes_any kind xat len B D.size FAx fn fcx w1 HBB.out (by have := HZB.out; have := HS.out.2; omega)
        rw [HS.out.2] at hby
        have HBYT := Lib.hid hby
        clear hby
        refine HBYT.out.mono ?_
        rintro e w2 ⟨v2, rfl, g2, rfl, ho2, hb2, hg2⟩
        have HR2 := Lib.hid (HR1.out.grew hb2)
        have HK2 := Lib.hid (HK1.out.grew hb2)
        have HBY := Lib.hid (Byt.of_own' ho2)
        have HQ2 := Lib.hid (HQ.out.grew hb2)
        have hq2 := HQ2.out.cell 1
        clear hb2 ho2 HK1 HR1 HQ HBYT hg2
        go_wp2_with fail
        clear hq2
        obtain ⟨bl, hbl⟩ : ∃ bl, bl = actBytes len B z := ⟨_, rfl⟩
        rw [← hbl] at HBY
        have HBL := Lib.hid hbl
        refine (Write_dk HK2.out xat HBY.out (by have := HDL.out; omega)).mono ?_
        rintro e w3 ⟨rfl, vl3, hk3, hs3⟩
        have HR3 := Lib.hid (HR2.out.step HK2.out.disk hs3.turn)
        have HK3 := Lib.hid hk3
        have hby3 := hs3.byt HBY.out
        have hq3 : w3.cell? ⟨Q, 1, none⟩ = some (.int .i64 xat) := by
          have := (hs3.turn.block Q HQ2.out.lt (fun hj => by rcases own_kinds HK2.out.disk Q hj _ _ HQ2.out with e | e <;> cases e)).trans HQ2.out
          exact (show Blk w3 Q #[.int .i64 kind, .int .i64 xat, .int .i64 len, .int .u8 B, .slice FAx fn fcx] 31 from this).cell 1
        have hst := hby3.strv
        obtain ⟨pe, hpe⟩ : ∃ pe, pe = D.putErr xat bl := ⟨_, rfl⟩
        rw [← hpe]
        have hcon := Put_ref D HOK.out FA LA fc lc xat bl w3 HR3.out.rows (by have := HDL.out; omega)
        rw [RV_eq, ← hpe] at hcon
        have HCON := Lib.hid (show Calls Try.prog 25 #[.agg #[.int .i64 D.sectors, .int .i64 D.size, .slice FA D.sectors fc, .slice LA D.loose.length lc, .int .i64 D.armed, .bool D.down], .int .i64 xat, .string (str bl)] w3 fun e w' => ∃ fv lv, e = .returned (.tuple #[RV (D.put xat bl) fv lv, .int .i64 pe]) ∧ Rows w' (D.put xat bl) fv lv ∧ Below w3.heap.size w3 w' from hcon.mono (fun e w' h => by obtain ⟨lv, h1, h2, h3⟩ := h; exact ⟨.slice FA D.sectors fc, lv, h1, h2, h3⟩))
        clear hcon hpe hk3 hs3 hby3 HK2 HR2 HQ2 HBY hbl
        obtain ⟨b0, b1, b2, b3, b4, b5, -⟩ := HR3.out.box.six
        go_wp2_with fail
        clear b0 b1 b2 b3 b4 b5 hq3 hst
        refine (HCON.out).mono ?_
        rintro e w4 ⟨fv, lv, rfl, hrows, hb⟩
        obtain ⟨D2, hD2⟩ : ∃ D2, D2 = D.put xat bl := ⟨_, rfl⟩
        rw [← hD2] at hrows ⊢
        obtain ⟨FA2, fc2, LA2, lc2, rfl, hlv⟩ := hrows.forms
        subst hlv
        rw [RV_eq]
        obtain ⟨w6, hw6⟩ : ∃ w6, w6 = w4.alloc (.cells #[.int .i64 D2.sectors, .int .i64 D2.size, .slice FA2 D2.sectors fc2, .slice LA2 D2.loose.length lc2, .int .i64 D2.armed, .bool D2.down] 45) := ⟨_, rfl⟩
        have hb6 : Below w3.heap.size w3 w6 := by rw [hw6]; exact hb.trans (((Below.refl _ _).alloc (Nat.le_refl _) _).mono hb.size)
        have hrows6 : Rows w6 D2 (.slice FA2 D2.sectors fc2) (.slice LA2 D2.loose.length lc2) := by rw [hw6]; exact hrows.grew ((Below.refl _ _).alloc (Nat.le_refl _) _)
        have hR6 := HR3.out.grew hb6
        obtain ⟨b0, b1, b2, b3, b4, b5, u0, u1, u2, u3, u4, u5⟩ := hR6.box.six
        have hT6 : Blk w6 w4.heap.size #[.int .i64 D2.sectors, .int .i64 D2.size, .slice FA2 D2.sectors fc2, .slice LA2 D2.loose.length lc2, .int .i64 D2.armed, .bool D2.down] 45 := by rw [hw6]; exact Blk.new' _ _ _ rfl
        obtain ⟨y0, y1, y2, y3, y4, y5, -⟩ := hT6.six
        obtain ⟨w5, hw5⟩ : ∃ w5, w5 = lay6 w6 X (.int .i64 D2.sectors) (.int .i64 D2.size) (.slice FA2 D2.sectors fc2) (.slice LA2 D2.loose.length lc2) (.int .i64 D2.armed) (.bool D2.down) := ⟨_, rfl⟩
        have HR5 := Lib.hid (show Rf w5 X D2 FA2 LA2 fc2 lc2 by rw [hw5]; exact Rf.lay hR6.box hrows6)
        have HK5 := Lib.hid (show Dk w w5 b m vl3 D2 by rw [hD2]; exact (HK3.out.grew hb6).box hR6.box HXL.out (show Turn [X] w6 w5 by rw [hw5]; exact lay6_turn _ _ _ _ _ _ _ _))
        have q5 : ((((((w6.setCell ⟨X, 0, none⟩ (.int .i64 D2.sectors)).setCell ⟨X, 1, none⟩ (.int .i64 D2.size)).setCell ⟨X, 2, none⟩ (.slice FA2 D2.sectors fc2)).setCell ⟨X, 3, none⟩ (.slice LA2 D2.loose.length lc2)).setCell ⟨X, 4, none⟩ (.int .i64 D2.armed)).setCell ⟨X, 5, none⟩ (.bool D2.down)) = w5 := hw5.symm
        have hXw : X < w4.heap.size := (HR3.out.grew hb).box.lt
        have q6 : w4.alloc (.cells #[.int .i64 D2.sectors, .int .i64 D2.size, .slice FA2 D2.sectors fc2, .slice LA2 D2.loose.length lc2, .int .i64 D2.armed, .bool D2.down] 45) = w6 := hw6.symm
        have HD2 := Lib.hid hD2
        clear hD2 hrows hb hb6 hrows6 hR6 hw5 hw6 HK3 HR3
        clear HCON
        go_wp2_with fail
        clear b0 b1 b2 b3 b4 b5 u0 u1 u2 u3 u4 u5 q5 q6 hXw y0 y1 y2 y3 y4 y5 hT6
        have HD5 := Lib.hid (show D2 = runs (Dsk.new s z) (l.take (k + 1)) by rw [HD2.out, runs_succ _ _ _ hkl, ← HX.out, ← HDD.out]; unfold Dsk.acted Dsk.did; dsimp only; rw [if_neg HKE.out.1, if_neg HKE.out.2.1, if_neg HKE.out.2.2.1, if_neg HKE.out.2.2.2, HS.out.2, HBL.out])
        have HS5 := Lib.hid (show D2.sectors = s ∧ D2.size = z by rw [HD5.out]; exact runs_sectors _ _)
        have HLO5 := Lib.hid HK5.out.lo
        have HN := Lib.hid (show ∃ (vl : Value) (FA LA : Option Addr) (fc lc : Nat), Dk w w5 b m vl (runs (Dsk.new s z) (l.take (k + 1))) ∧ Rf w5 X (runs (Dsk.new s z) (l.take (k + 1))) FA LA fc lc from by
          rw [← HD5.out]; exact ⟨_, _, _, _, _, HK5.out, HR5.out⟩)
        clear HS5 HD5 HLO5 HK5 HR5
        go_meet
        exact HN


      case rest =>
        clear HK1 HR1 HI1 HQ HX HFN HFB HFA HIW HAT HBB HDD HS HDL HOK
        obtain ⟨vl2, FA2, LA2, fc2, lc2, hk5, hr5⟩ := hcut.out
        obtain ⟨D2, hD2⟩ : ∃ D2, D2 = (runs (Dsk.new s z) (l.take (k + 1))) := ⟨_, rfl⟩
        rw [← hD2] at hk5 hr5
        have HD5 := Lib.hid hD2
        have HS5 := Lib.hid (show D2.sectors = s ∧ D2.size = z by rw [hD2]; exact runs_sectors _ _)
        have HLO5 := Lib.hid hk5.lo
        have HK5 := Lib.hid hk5
        have HR5 := Lib.hid hr5
        clear hD2 hk5 hr5 hcut
        go_wp2_with fail
        obtain ⟨St0, St0d⟩ : ∃ S : World → Prop, S = fun v : World => DiskAt v b m vl2 D2 ∧ Rf v X D2 FA2 LA2 fc2 lc2 ∧ Below w.heap.size w v := ⟨_, rfl⟩
        have St0t0 : Stands St0 := by rw [St0d]; exact ((stands_disk _ _ _ _).and ((stands_rf _ _ _ _ _ _).and (stands_below _)))
        have St0u0 : ∀ v, St0 v → DiskAt v b m vl2 D2 ∧ Rf v X D2 FA2 LA2 fc2 lc2 ∧ Below w.heap.size w v := fun v h => by rw [St0d] at h; exact h
        have St0m0 : ∀ v, (DiskAt v b m vl2 D2 ∧ Rf v X D2 FA2 LA2 fc2 lc2 ∧ Below w.heap.size w v) → St0 v := fun v h => by rw [St0d]; exact h
        have St0u := Lib.hid St0u0
        have St0m := Lib.hid St0m0
        have St0t := Lib.hid St0t0
        clear St0d St0u0 St0m0 St0t0
        refine wp_region_X (S := St0) (by kernel_rfl) (St0m.out _ ⟨HK5.out.drew.disk, HR5.out.drew, HK5.out.drew.low⟩) ?_
        clear HK5 HR5
        refine wpX_take (i := 0) (v := ?_) St0t.out rfl rfl (by kernel_rfl) (by kernel_rfl) (by kernel_rfl) (by kernel_rfl) (fun _ _ _ h => h) (SteadyX.value (by rfl) ?_) ?_
        rotate_left
        · (intro w_ hS; go_simp; try with_reducible rfl)
        simp only [List.setIfInBounds_toArray, List.set_cons_zero, List.set_cons_succ]
        refine wpX_take (i := 1) St0t.out rfl rfl (by kernel_rfl) (by kernel_rfl) (by kernel_rfl) (by kernel_rfl) (fun _ _ _ h => h) (SteadyX.call (by rfl) (fun w_ hS => by obtain ⟨q0, q1, q2⟩ := St0u.out _ hS; exact down_b q0) (fun w_ hS => by (go_simp))) ?_
        simp only [List.setIfInBounds_toArray, List.set_cons_zero, List.set_cons_succ]
        refine wpX_take (i := 2) (v := ?_) St0t.out rfl rfl (by kernel_rfl) (by kernel_rfl) (by kernel_rfl) (by kernel_rfl) (fun _ _ _ h => h) (SteadyX.value (by rfl) ?_) ?_
        rotate_left
        · (intro w_ hS; go_simp; try with_reducible rfl)
        simp only [List.setIfInBounds_toArray, List.set_cons_zero, List.set_cons_succ]
        refine wpX_take (i := 3) (v := ?_) St0t.out rfl rfl (by kernel_rfl) (by kernel_rfl) (by kernel_rfl) (by kernel_rfl) (fun _ _ _ h => h) (SteadyX.value (by rfl) ?_) ?_
        rotate_left
        · (intro w_ hS; obtain ⟨q0, q1, q2⟩ := St0u.out _ hS; (have q9 := q1.box.six); go_simp; try with_reducible rfl)
        simp only [List.setIfInBounds_toArray, List.set_cons_zero, List.set_cons_succ]
        refine wpX_take (i := 4) (v := ?_) St0t.out rfl rfl (by kernel_rfl) (by kernel_rfl) (by kernel_rfl) (by kernel_rfl) (fun _ _ _ h => h) (SteadyX.value (by rfl) ?_) ?_
        rotate_left
        · (intro w_ hS; go_simp; try with_reducible rfl)
        simp only [List.setIfInBounds_toArray, List.set_cons_zero, List.set_cons_succ]
        refine wpX_take (i := 5) (v := ?_) St0t.out rfl rfl (by kernel_rfl) (by kernel_rfl) (by kernel_rfl) (by kernel_rfl) (fun _ _ _ h => h) (SteadyX.value (by rfl) ?_) ?_
        rotate_left
        · (intro w_ hS; go_simp; try with_reducible rfl)
        simp only [List.setIfInBounds_toArray, List.set_cons_zero, List.set_cons_succ]
        refine wpX_take (i := 6) (v := ?_) St0t.out rfl rfl (by kernel_rfl) (by kernel_rfl) (by kernel_rfl) (by kernel_rfl) (fun _ _ _ h => h) (SteadyX.value (by rfl) ?_) ?_
        rotate_left
        · (intro w_ hS; go_simp; try with_reducible rfl)
        simp only [List.setIfInBounds_toArray, List.set_cons_zero, List.set_cons_succ]
        refine wpX_take (i := 7) St0t.out rfl rfl (by kernel_rfl) (by kernel_rfl) (by kernel_rfl) (by kernel_rfl) (fun _ _ _ h => h) (SteadyX.call (by rfl) (fun w_ hS => by obtain ⟨q0, q1, q2⟩ := St0u.out _ hS; exact loose_b q0) (fun w_ hS => by (go_simp))) ?_
        simp only [List.setIfInBounds_toArray, List.set_cons_zero, List.set_cons_succ]
        refine wpX_take (i := 8) (v := ?_) St0t.out rfl rfl (by kernel_rfl) (by kernel_rfl) (by kernel_rfl) (by kernel_rfl) (fun _ _ _ h => h) (SteadyX.value (by rfl) ?_) ?_
        rotate_left
        · (intro w_ hS; go_simp; try with_reducible rfl)
        simp only [List.setIfInBounds_toArray, List.set_cons_zero, List.set_cons_succ]
        refine wpX_take (i := 9) (v := ?_) St0t.out rfl rfl (by kernel_rfl) (by kernel_rfl) (by kernel_rfl) (by kernel_rfl) (fun _ _ _ h => h) (SteadyX.value (by rfl) ?_) ?_
        rotate_left
        · (intro w_ hS; obtain ⟨q0, q1, q2⟩ := St0u.out _ hS; (have q9 := q1.box.six); go_simp; try with_reducible rfl)
        simp only [List.setIfInBounds_toArray, List.set_cons_zero, List.set_cons_succ]
        refine wpX_take (i := 10) (v := ?_) St0t.out rfl rfl (by kernel_rfl) (by kernel_rfl) (by kernel_rfl) (by kernel_rfl) (fun _ _ _ h => h) (SteadyX.value (by rfl) ?_) ?_
        rotate_left
        · (intro w_ hS; obtain ⟨q0, q1, q2⟩ := St0u.out _ hS; (have q9 := q1.box.six); go_simp; try with_reducible rfl)
        simp only [List.setIfInBounds_toArray, List.set_cons_zero, List.set_cons_succ]
        refine wpX_take (i := 11) (v := ?_) St0t.out rfl rfl (by kernel_rfl) (by kernel_rfl) (by kernel_rfl) (by kernel_rfl) (fun _ _ _ h => h) (SteadyX.value (by rfl) ?_) ?_
        rotate_left
        · (intro w_ hS; go_simp; try with_reducible rfl)
        simp only [List.setIfInBounds_toArray, List.set_cons_zero, List.set_cons_succ]
        refine wpX_take (i := 12) (v := ?_) St0t.out rfl rfl (by kernel_rfl) (by kernel_rfl) (by kernel_rfl) (by kernel_rfl) (fun _ _ _ h => h) (SteadyX.value (by rfl) ?_) ?_
        rotate_left
        · (intro w_ hS; go_simp; try with_reducible rfl)
        simp only [List.setIfInBounds_toArray, List.set_cons_zero, List.set_cons_succ]
        refine wpX_take (i := 13) (v := ?_) St0t.out rfl rfl (by kernel_rfl) (by kernel_rfl) (by kernel_rfl) (by kernel_rfl) (fun _ _ _ h => h) (SteadyX.value (by rfl) ?_) ?_
        rotate_left
        · (intro w_ hS; go_simp; try with_reducible rfl)
        simp only [List.setIfInBounds_toArray, List.set_cons_zero, List.set_cons_succ]
        refine wpX_take (i := 14) (v := ?_) St0t.out rfl rfl (by kernel_rfl) (by kernel_rfl) (by kernel_rfl) (by kernel_rfl) (fun _ _ _ h => h) (SteadyX.value (by rfl) ?_) ?_
        rotate_left
        · (intro w_ hS; go_simp; try with_reducible rfl)
        simp only [List.setIfInBounds_toArray, List.set_cons_zero, List.set_cons_succ]
        refine wpX_take (i := 15) St0t.out rfl rfl (by kernel_rfl) (by kernel_rfl) (by kernel_rfl) (by kernel_rfl) (fun _ _ _ h => h) (SteadyX.call (by rfl) (fun w_ hS => by obtain ⟨q0, q1, q2⟩ := St0u.out _ hS; exact sectors_b q0 HS5.out.1) (fun w_ hS => by (go_simp))) ?_
        simp only [List.setIfInBounds_toArray, List.set_cons_zero, List.set_cons_succ]
        refine wpX_take (i := 16) (v := ?_) St0t.out rfl rfl (by kernel_rfl) (by kernel_rfl) (by kernel_rfl) (by kernel_rfl) (fun _ _ _ h => h) (SteadyX.value (by rfl) ?_) ?_
        rotate_left
        · (intro w_ hS; go_simp; try with_reducible rfl)
        simp only [List.setIfInBounds_toArray, List.set_cons_zero, List.set_cons_succ]
        refine wpX_take (i := 17) (v := ?_) St0t.out rfl rfl (by kernel_rfl) (by kernel_rfl) (by kernel_rfl) (by kernel_rfl) (fun _ _ _ h => h) (SteadyX.value (by rfl) ?_) ?_
        rotate_left
        · (intro w_ hS; go_simp; try with_reducible rfl)
        simp only [List.setIfInBounds_toArray, List.set_cons_zero, List.set_cons_succ]
        refine wpX_take (i := 18) (v := ?_) St0t.out rfl rfl (by kernel_rfl) (by kernel_rfl) (by kernel_rfl) (by kernel_rfl) (fun _ _ _ h => h) (SteadyX.value (by rfl) ?_) ?_
        rotate_left
        · (intro w_ hS; go_simp; try with_reducible rfl)
        simp only [List.setIfInBounds_toArray, List.set_cons_zero, List.set_cons_succ]
        refine wpX_take (i := 19) (v := ?_) St0t.out rfl rfl (by kernel_rfl) (by kernel_rfl) (by kernel_rfl) (by kernel_rfl) (fun _ _ _ h => h) (SteadyX.value (by rfl) ?_) ?_
        rotate_left
        · (intro w_ hS; go_simp; try with_reducible rfl)
        simp only [List.setIfInBounds_toArray, List.set_cons_zero, List.set_cons_succ]
        refine wpX_take (i := 20) (v := ?_) St0t.out rfl rfl (by kernel_rfl) (by kernel_rfl) (by kernel_rfl) (by kernel_rfl) (fun _ _ _ h => h) (SteadyX.value (by rfl) ?_) ?_
        rotate_left
        · (intro w_ hS; go_simp; try with_reducible rfl)
        simp only [List.setIfInBounds_toArray, List.set_cons_zero, List.set_cons_succ]
        refine wpX_take (i := 21) St0t.out rfl rfl (by kernel_rfl) (by kernel_rfl) (by kernel_rfl) (by kernel_rfl) (fun _ _ _ h => h) (SteadyX.call (by rfl) (fun w_ hS => by obtain ⟨q0, q1, q2⟩ := St0u.out _ hS; exact size_b q0 HS5.out.2) (fun w_ hS => by (go_simp))) ?_
        simp only [List.setIfInBounds_toArray, List.set_cons_zero, List.set_cons_succ]
        refine wpX_take (i := 22) (v := ?_) St0t.out rfl rfl (by kernel_rfl) (by kernel_rfl) (by kernel_rfl) (by kernel_rfl) (fun _ _ _ h => h) (SteadyX.value (by rfl) ?_) ?_
        rotate_left
        · (intro w_ hS; go_simp; try with_reducible rfl)
        simp only [List.setIfInBounds_toArray, List.set_cons_zero, List.set_cons_succ]
        refine wpX_take (i := 23) (v := ?_) St0t.out rfl rfl (by kernel_rfl) (by kernel_rfl) (by kernel_rfl) (by kernel_rfl) (fun _ _ _ h => h) (SteadyX.value (by rfl) ?_) ?_
        rotate_left
        · (intro w_ hS; go_simp; try with_reducible rfl)
        simp only [List.setIfInBounds_toArray, List.set_cons_zero, List.set_cons_succ]
        refine wpX_take (i := 24) (v := ?_) St0t.out rfl rfl (by kernel_rfl) (by kernel_rfl) (by kernel_rfl) (by kernel_rfl) (fun _ _ _ h => h) (SteadyX.value (by rfl) ?_) ?_
        rotate_left
        · (intro w_ hS; go_simp; try with_reducible rfl)
        simp only [List.setIfInBounds_toArray, List.set_cons_zero, List.set_cons_succ]
        refine wpX_done (by kernel_rfl) (fun W hS => ?_) _
        obtain ⟨q0, q1, q2⟩ := St0u.out _ hS
        clear hS St0u St0m St0t
        clear St0
        have HN := Lib.hid (show ∃ (vl : Value) (FA LA : Option Addr) (fc lc : Nat), Dk w W b m vl (runs (Dsk.new s z) (l.take (k + 1))) ∧ Rf W X (runs (Dsk.new s z) (l.take (k + 1))) FA LA fc lc from by
          rw [← HD5.out]; exact ⟨_, _, _, _, _, ⟨q0, q2, HLO5.out⟩, q1⟩)
        clear q0 q1 q2 HS5 HD5 HLO5
        have hkb : (k : Int) ≤ 40 := by have := HN1.out; omega
        go_wp2
        go_roundw
        case rel => exact ⟨k + 1, by omega, val_int (by simp), HN⟩
        case measure => simp only [intOf]; omega
    · have hke : k = n := by omega
      subst hke
      obtain ⟨vl, FA, LA, fc, lc, hdk, hrf⟩ := HKK.out
      obtain ⟨D, hD⟩ : ∃ D, D = runs (Dsk.new s z) (l.take k) := ⟨_, rfl⟩
      rw [← hD] at hdk hrf
      have HS := Lib.hid (show D.sectors = s ∧ D.size = z by rw [hD]; exact runs_sectors _ _)
      have HDL := Lib.hid (show D.loose.length ≤ 40 by rw [hD]; have := new_runs_loose s z l k; have := HN1.out; omega)
      have HOK := Lib.hid hdk.disk.ok
      have hg1 := (Below.refl wr.heap.size wr).alloc (Nat.le_refl _) (.cells #[.int .i64 1, .int .i64 1, .int .i64 1, .int .i64 1, .int .i64 1] 3)
      have hcr := Crash_dk (hdk.grew hg1) [1, 1, 1, 1, 1] (some ⟨wr.heap.size, 0, none⟩) 5 5 rfl (by have := HDL.out; omega) (Nat.le_refl _) (IRd.lit5 wr) (fun _ p hp => by cases hp; exact ⟨by simp, fun hm => Nat.lt_irrefl _ (hdk.disk.lt _ hm)⟩)
      have HCR := Lib.hid hcr
      have HK1 := Lib.hid (hdk.grew hg1)
      have HR1 := Lib.hid (hrf.grew hg1)
      clear hdk hrf hD HKK hg1 hcr hk
      go_wp2_with fail
      refine HCR.out.mono ?_
      rintro e w2 ⟨rfl, vl2, hk2, hs2⟩
      have HR2 := Lib.hid (HR1.out.step HK1.out.disk hs2.turn)
      have HK2 := Lib.hid hk2
      clear hk2 hs2 HK1 HR1 HCR
      have hg2 := (Below.refl w2.heap.size w2).alloc (Nat.le_refl _) (.cells #[.int .i64 1, .int .i64 1, .int .i64 1, .int .i64 1, .int .i64 1] 3)
      have hcon := Crash_ref D HOK.out FA LA (some ⟨w2.heap.size, 0, none⟩) fc lc 5 5 [1, 1, 1, 1, 1] _ (HR2.out.grew hg2).rows (by have := HDL.out; omega) rfl (IRd.lit5 w2) (fun _ p hp => by cases hp; simp)
      rw [RV_eq] at hcon
      have HCON := Lib.hid hcon
      obtain ⟨b0, b1, b2, b3, b4, b5, -⟩ := HR2.out.box.six
      clear hcon
      go_wp2_with fail
      clear b0 b1 b2 b3 b4 b5
      refine HCON.out.mono ?_
      rintro e w3 ⟨fv, rfl, hrows, hb⟩
      obtain ⟨D2, hD2⟩ : ∃ D2, D2 = D.crash [1, 1, 1, 1, 1] := ⟨_, rfl⟩
      have HDN := Lib.hid (show D2.down = false ∧ D2.sectors = s ∧ D2.size = z ∧ D2.loose.length ≤ 40 by rw [hD2]; exact ⟨rfl, HS.out.1, HS.out.2, Nat.zero_le _⟩)
      have hl0 : Value.slice none 0 0 = .slice none D2.loose.length 0 := by rw [hD2]; rfl
      rw [← hD2, hl0] at hrows
      rw [← hD2]
      have HK2' := Lib.hid (show Dk w w2 b m vl2 D2 by rw [hD2]; exact HK2.out)
      clear HK2
      obtain ⟨FA2, fc2, LA2, lc2, rfl, -⟩ := hrows.forms
      rw [RV_eq, hl0]
      have hb3 : Below w2.heap.size w2 w3 := hg2.trans (hb.mono hg2.size)
      have hR6 := HR2.out.grew hb3
      obtain ⟨b0, b1, b2, b3, b4, b5, u0, u1, u2, u3, u4, u5⟩ := hR6.box.six
      obtain ⟨w5, hw5⟩ : ∃ w5, w5 = lay6 w3 X (.int .i64 D2.sectors) (.int .i64 D2.size) (.slice FA2 D2.sectors fc2) (.slice none D2.loose.length 0) (.int .i64 D2.armed) (.bool D2.down) := ⟨_, rfl⟩
      have HR5 := Lib.hid (show Rf w5 X D2 FA2 none fc2 0 by rw [hw5]; exact Rf.lay hR6.box hrows)
      have HK5 := Lib.hid ((HK2'.out.grew hb3).box hR6.box HXL.out (show Turn [X] w3 w5 by rw [hw5]; exact lay6_turn _ _ _ _ _ _ _ _))
      have q5 : ((((((w3.setCell ⟨X, 0, none⟩ (.int .i64 D2.sectors)).setCell ⟨X, 1, none⟩ (.int .i64 D2.size)).setCell ⟨X, 2, none⟩ (.slice FA2 D2.sectors fc2)).setCell ⟨X, 3, none⟩ (.slice none D2.loose.length 0)).setCell ⟨X, 4, none⟩ (.int .i64 D2.armed)).setCell ⟨X, 5, none⟩ (.bool D2.down)) = w5 := hw5.symm
      clear hD2 hrows hl0 hb hb3 hR6 hw5 HK2' HR2 hg2 HCON
      have HH := Lib.hid (And.intro HK5.out HR5.out)
      clear HK5 HR5
      go_wp2_with fail
      clear q5 b0 b1 b2 b3 b4 b5 u0 u1 u2 u3 u4 u5
      go_loopw [22] (fun i wr => ∃ k : Nat, k ≤ s ∧ i = .int .i64 k ∧ Hid (Dk w wr b m vl2 D2 ∧ Rf wr X D2 FA2 none fc2 0)) (fun i _ => s - (intOf i).toNat)
      case atStart => exact ⟨0, by omega, rfl, HH⟩
      case round =>
        clear HH
        obtain ⟨j, hj, rfl, HJ⟩ := hrel
        by_cases hlt2 : j < s
        · have HR0 := Lib.hid (ready_ok HDN.out.1 (show (0 : Int) ≤ (j : Int) by omega) (show (j : Int) < (D2.sectors : Int) by rw [HDN.out.2.1]; omega))
          have hjb : (j : Int) < s := by omega
          go_wp2_with fail
          refine (Read_dk HJ.out.1 j (by have := HDN.out.2.2.2; omega) HR0.out).mono ?_
          rintro e w6 ⟨g6, c6, rfl, ho6, hk6, hb6⟩
          have HR6 := Lib.hid (HJ.out.2.grew hb6)
          have HK6 := Lib.hid hk6
          have HBY := Lib.hid (Byt.of_own' ho6)
          obtain ⟨b0, b1, b2, b3, b4, b5, -⟩ := HR6.out.box.six
          clear hk6 hb6 ho6 HJ
          have hcon := Read_ref D2 FA2 none fc2 0 j w6 HR6.out.rows (by have := HDN.out.2.2.2; omega)
          rw [RV_eq, HR0.out, if_pos rfl] at hcon
          have HCON := Lib.hid hcon
          clear hcon
          go_wp2_with fail
          clear b0 b1 b2 b3 b4 b5
          refine HCON.out.mono ?_
          rintro e w7 ⟨rfl, hb⟩
          have hst := (HBY.out.grew hb).strv
          have HH := Lib.hid (And.intro (HK6.out.grew hb) (HR6.out.grew hb))
          generalize str (D2.tells (j : Int)) = S at *
          clear hb HCON HK6 HR6 HBY
          go_wp2
          go_round
          case rel => exact ⟨j + 1, by omega, val_int (by simp), HH⟩
          case measure => simp only [intOf]; omega
        · have hjs : ¬ (j : Int) < s := by omega
          go_wp2_with fail
          refine (awake_any _).mono ?_
          rintro e w8 ⟨rfl, hb⟩
          have HLast := Lib.hid (grow HJ.out.1.low hb)
          clear hb HJ
          go_wp2
          go_ret
          exact ⟨rfl, HLast.out⟩
end Go.Proofs.Ytapllljbbldfkaa
