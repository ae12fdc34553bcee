/- Walks: PoolAnew. -/
import Derived.Test.YtklppnknllbfnaaGreatC6
namespace Go.Proofs.YtklppnknllbfnaaGreat
open Go.RowKit Go.Maps
set_option maxRecDepth 8000
theorem zero_root (k : Int) : (⟨1, [], R8.zero⟩ : Sta).root k = 0 := by
  unfold Sta.root
  split
  · unfold R8.get R8.zero
    split <;> rfl
  · rfl
set_option maxHeartbeats 8000000 in
theorem Anew_any (A : Option Addr) (l : List ActP) (n c : Nat) (w : World) (hn : l.length = n) (hac : Acts w w.heap.size A l) :
    Calls Tryz.prog 4 #[.slice A n c] w fun e w' => e = .returned (.bool true) ∧ Below w.heap.size w w' := by
  by_cases hbig : (40 : Int) < n
  · clear hn hac
    go_enter Tryz.func4, Tryz.ntmps4
    go_wp2
    go_ret
    exact ⟨rfl, Below.refl _ _⟩
  have hcl : Cln (Dsk.new 40 512) 0 := Cln.new (by decide) (by decide) (by decide) (by decide)
  have hcalm : Calm (Dsk.new 40 512) := ⟨rfl, rfl⟩
  obtain ⟨b1, b2, b3, b4, b5, b6⟩ := formed_is hcl hcalm (by decide)
  have HCL := Lib.hid (And.intro hcl hcalm)
  have HF0 : Hid (Calm (formed (Dsk.new 40 512)) ∧ (formed (Dsk.new 40 512)).sectors = 40 ∧ (formed (Dsk.new 40 512)).size = 512) := Lib.hid ⟨b1, b4, b5⟩
  have HN := Lib.hid hn
  have HAC := Lib.hid hac
  clear hcl hcalm b1 b2 b3 b4 b5 b6 hn hac
  have hn40 : (n : Int) ≤ 40 := by omega
  go_enter Tryz.func4, Tryz.ntmps4
  go_wp2_with fail
  refine (New_dk w 40 512 (fun _ _ => trivial) (Below.refl _ _) (by decide) (by decide) (by decide) (by decide)).mono ?_
  rintro e w1 ⟨b, m, rfl, hk, -⟩
  have HK := Lib.hid hk
  clear hk
  go_wp2_with fail
  refine (Format_lp HK.out HCL.out.1 HCL.out.2 (by decide)).mono ?_
  rintro e w2 ⟨M, rfl, hk, _, hb, _⟩
  obtain ⟨P, hP⟩ : ∃ P, P = M.p := ⟨_, rfl⟩
  rw [← hP]
  have H0 : Hid (Lp w w2 M ((Pl.laid (Dsk.new 40 512) 0).begun (0 + 1)) (formed (Dsk.new 40 512)) ∧ M.p = P ∧ M.b = b ∧ Calm (formed (Dsk.new 40 512)) ∧ ((Pl.laid (Dsk.new 40 512) 0).begun (0 + 1)).epoch ≤ 1 + 0 ∧ (formed (Dsk.new 40 512)).sectors = 40 ∧ (formed (Dsk.new 40 512)).size = 512) := Lib.hid ⟨hk, hP.symm, hb, HF0.out.1, Nat.le_refl _, HF0.out.2.1, HF0.out.2.2⟩
  clear hk hb hP HK HCL HF0
  go_wp2_with fail
  go_loopw [6] (fun iv wr => ∃ (k : Nat) (M1 : Mem) (S1 : Pl) (D1 : Dsk), k ≤ n ∧ iv = .int .i64 k ∧ Hid (Lp w wr M1 S1 D1 ∧ M1.p = P ∧ M1.b = b ∧ Calm D1 ∧ S1.epoch ≤ 1 + k ∧ D1.sectors = 40 ∧ D1.size = 512)) (fun iv _ => n - (intOf iv).toNat)
  case atStart => exact ⟨0, M, _, _, by omega, rfl, H0⟩
  case round =>
    clear H0
    obtain ⟨k, M1, S1, D1, hk, rfl, HS⟩ := hrel
    by_cases hlt : k < n
    · have hlt' : (k : Int) < n := by omega
      have hkl : k < l.length := by rw [HN.out]; exact hlt
      obtain ⟨p, rfl, hpb, hcs⟩ := (HAC.out.below HS.out.1.low) (by intro e; rw [e] at hkl; simp at hkl)
      obtain ⟨hB, c0, c1, c2, c3⟩ := hcs k hkl
      obtain ⟨x, hx⟩ : ∃ x, x = l[k] := ⟨_, rfl⟩
      rw [← hx] at hB c0 c1 c2 c3
      have ad : ∀ (q : Addr) (j : Nat), j ≠ 0 → q.add j = ⟨q.block, q.off + j, none⟩ := fun q j hj => by unfold Addr.add; simp [hj]
      rw [ad _ 1 (by decide)] at c1
      rw [ad _ 2 (by decide)] at c2
      rw [ad _ 3 (by decide)] at c3
      clear ad
      have hdd := did_lp HS.out.1 HS.out.2.2.2.1 (by have := HS.out.2.2.2.2.1; omega) x.k x.pg x.ln x.B hB
      rw [HS.out.2.1] at hdd
      have HDD := Lib.hid hdd
      clear hdd hx hB hcs hpb
      go_wp2_with fail
      refine HDD.out.mono ?_
      rintro e w4 ⟨er, rfl, M2, S2, D2, hh, hk2, hc2, he2, hs2, hz2⟩
      have H2 : Hid (Lp w w4 M2 S2 D2 ∧ M2.p = P ∧ M2.b = b ∧ Calm D2 ∧ S2.epoch ≤ 1 + (k + 1) ∧ D2.sectors = 40 ∧ D2.size = 512) := Lib.hid ⟨hk2, hh.p.trans HS.out.2.1, hh.b.trans HS.out.2.2.1, hc2, by have := HS.out.2.2.2.2.1; omega, hs2.trans HS.out.2.2.2.2.2.1, hz2.trans HS.out.2.2.2.2.2.2⟩
      clear hh hk2 hc2 he2 hs2 hz2 HS HDD c0 c1 c2 c3
      go_wp2
      go_roundw
      case rel => exact ⟨k + 1, M2, S2, D2, by omega, by go_num, H2⟩
      case measure => simp [intOf]; omega
    · have hkn : k = n := by omega
      subst hkn
      have hnt : ¬ (k : Int) < k := by omega
      obtain ⟨rows, hi⟩ := HS.out.1.inv
      have hfm := Format_lp HS.out.1.dk hi.cl HS.out.2.2.2.1 (by have := HS.out.2.2.2.2.1; omega)
      have hfi := formed_is hi.cl HS.out.2.2.2.1 (by have := HS.out.2.2.2.2.1; omega)
      rw [HS.out.2.2.1] at hfm
      have HFM := Lib.hid hfm
      have HFI : Hid (Calm (formed D1)) := Lib.hid hfi.1
      have HEP := Lib.hid HS.out.2.2.2.2.1
      clear hfm hfi hi HS
      go_wp2_with fail
      refine HFM.out.mono ?_
      rintro e w4 ⟨M2, rfl, hk2, _, hb2, _⟩
      have hop := Open_lp hk2 HFI.out (by show S1.epoch + 1 ≤ _; have := HEP.out; omega)
      rw [hb2] at hop
      have HOP := Lib.hid hop
      clear hop hb2 HFM
      go_wp2_with fail
      refine HOP.out.mono ?_
      rintro e w5 ⟨M3, S3, D3, rfl, _, _, hk3, _, ho3, _, vo, hpo⟩
      have e3 : S3.now = ⟨1, [], R8.zero⟩ := ho3.now
      have ht3 := fun w' (kb : Below w5.heap.size w5 w') => Taken_lp (hk3.grew kb)
      rw [e3] at ht3
      have HT3 := Lib.hid ht3
      have hr3 := fun w' (kb : Below w5.heap.size w5 w') => Root_lp (hk3.grew kb) 7
      rw [e3, zero_root] at hr3
      have HR3 := Lib.hid hr3
      have htq := fun w' (kb : Below w5.heap.size w5 w') => Taken_any (hpo.grew kb) (by show (1 : Nat) ≤ 1; omega) (by show ((1 : Nat) : Int) ≤ _; omega) (by show ([] : List Nat).length + 1 ≤ 1; simp)
      have HTQ : Hid (∀ w', Below w5.heap.size w5 w' → Calls Tryz.prog 15 #[.pointer (some ⟨M2.p, 0, none⟩)] w' fun e w'' => e = .returned (.int .i64 0) ∧ ∃ q, w'' = w'.drewN q) := Lib.hid htq
      have hrq := fun w' (kb : Below w5.heap.size w5 w') => Root_any (hpo.grew kb) 0
      have HRQ : Hid (∀ w', Below w5.heap.size w5 w' → Calls Tryz.prog 19 #[.pointer (some ⟨M2.p, 0, none⟩), .int .i64 0] w' fun e w'' => e = .returned (.int .i64 0) ∧ w'' = w') := Lib.hid (fun w' kb => by
        have := hrq w' kb
        rw [show (((Pl.laid D1 0).begun (S1.epoch + 1)).now.root 0) = 0 from zero_root 0] at this
        exact this)
      have HLW := Lib.hid hk3.low
      clear e3 ht3 hr3 htq hrq hk3 hk2 ho3 hpo HOP
      go_wp2_with fail
      refine (HTQ.out w5 (Below.refl _ _)).mono ?_
      rintro e _ ⟨rfl, q, rfl⟩
      go_wp2_with fail
      refine (HT3.out _ (below_drewN w5 q)).mono ?_
      rintro e w7 ⟨rfl, hb7⟩
      have HB7 : Hid (Below w5.heap.size w5 w7) := Lib.hid ((below_drewN w5 q).trans (hb7.mono (below_drewN w5 q).size))
      clear hb7
      go_wp2_with fail
      refine (HRQ.out w7 HB7.out).mono ?_
      rintro e w8 ⟨rfl, h8⟩
      rw [h8]
      clear h8
      go_wp2_with fail
      refine (HR3.out w7 HB7.out).mono ?_
      rintro e w8 ⟨rfl, h8⟩
      rw [h8]
      clear h8
      go_wp2_with fail
      refine (awake_any _).mono ?_
      rintro e w9 ⟨rfl, hb9⟩
      have HB9 := Lib.hid (grow (grow HLW.out HB7.out) hb9)
      clear hb9
      go_wp2
      go_ret
      exact ⟨rfl, HB9.out⟩
end Go.Proofs.YtklppnknllbfnaaGreat
