/- Walks: PoolTakes. Printed by mk_c4.py. -/
import Derived.Test.YtklppnknllbfnaaGreatC2
namespace Go.Proofs.YtklppnknllbfnaaGreat
open Go.RowKit Go.Maps
set_option maxRecDepth 8000
theorem exec_makeSlice {P : Program} {ev : Operand → Value} {o : Oper} (t : TypeId) (n c : Operand) (ho : o.op = .makeSlice t n c) {vn vc r : Value} {w w' : World} (hn : ev n = vn) (hc : ev c = vc) (hr : (Instr.makeSlice t vn vc).run P w = .ok r w') : (execOp ev o).run P w = .ok (.value r) w' := by
  unfold execOp
  simp only [ho, Sem.run_bind, Sem.run_pure, Result.andThen_ok, hn, hc, hr]
theorem Taken_tup {f : FuncId} {args : Array Value} {v : World} {x : Value} (h : Calls Tryz.prog f args v fun e v' => e = .returned x ∧ Below v.heap.size v v') : Calls Tryz.prog f args v fun e v' => ∃ u, e = .returned u ∧ u = x ∧ Below v.heap.size v v' :=
  h.mono fun _ _ ⟨h1, h2⟩ => ⟨x, h1, rfl, h2⟩
set_option maxHeartbeats 8000000 in
theorem Takes_any (mo : Nat) (w : World) (hmo : (mo : Int) ≤ 255) : Calls Tryz.prog 3 #[.int .u8 mo] w fun e w' => e = .returned (.bool true) ∧ Below w.heap.size w w' := by
  obtain ⟨s, hs⟩ : ∃ s, s = 24 + mo % 33 := ⟨_, rfl⟩
  have e1 : IntKind.i64.wrap ((mo : Int).tmod 33) = ((mo % 33 : Nat) : Int) := by rw [Int.tmod_eq_emod_of_nonneg (by omega), IntKind.wrap_i64]; omega
  have e2 : IntKind.i64.wrap (24 + ((mo % 33 : Nat) : Int)) = (s : Int) := by rw [IntKind.wrap_i64]; omega
  have hs1 : 24 ≤ s ∧ s ≤ 56 := by omega
  have HES : Hid ((24 : Int) + (mo : Int) % 33 = (s : Int)) := Lib.hid (by omega)
  have hcl : Cln (Dsk.new s 512) 0 := Cln.new (by omega) (by omega) (by decide) (by decide)
  have hcalm : Calm (Dsk.new s 512) := ⟨rfl, rfl⟩
  obtain ⟨b1, b2, b3, b4, b5, _⟩ := formed_is hcl hcalm (by decide)
  obtain ⟨D, hD⟩ : ∃ D, D = formed (Dsk.new s 512) := ⟨_, rfl⟩
  rw [← hD] at b1 b2 b3 b4 b5
  have b4 : D.sectors = s := b4
  have b5 : D.size = 512 := b5
  have HRM : Hid (D.rm = 467) := Lib.hid (by have := rm_size b3 (by omega); omega)
  have hpg : ((Pl.laid (Dsk.new s 512) 0).begun 1).pages D = s - (2 + (s - 2) / 4) := by unfold Pl.pages; rw [b4]; rfl
  obtain ⟨S0, hS0⟩ : ∃ S0, S0 = (Pl.laid (Dsk.new s 512) 0).begun 1 := ⟨_, rfl⟩
  have hnw : S0.now = ⟨1, [], R8.zero⟩ := by rw [hS0]; rfl
  rw [← hS0] at hpg
  obtain ⟨n, hn⟩ : ∃ n, n = s - (2 + (s - 2) / 4) := ⟨_, rfl⟩
  rw [← hn] at hpg
  have hn1 : (2 : Int) ≤ n := by omega
  have hn2 : (n : Int) ≤ 60 := by omega
  have HCL := Lib.hid (And.intro hcl hcalm)
  have HD := Lib.hid (And.intro hD hS0)
  have HN0 := Lib.hid (And.intro hnw hpg)
  have hsb : (1 : Int) ≤ s ∧ (s : Int) ≤ 1048576 := by omega
  have hne := New_dk w s 512 (fun _ _ => trivial) (Below.refl _ _) hsb.1 hsb.2 (by decide) (by decide)
  rw [show ((512 : Nat) : Int) = 512 from rfl] at hne
  have HNE := Lib.hid hne
  clear hne
  have hm0 : (0 : Int) ≤ mo := by omega
  clear hs hs1 hcl hcalm b1 b2 b3 b4 b5 hD hpg hS0 hnw hn hsb
  go_enter Tryz.func3, Tryz.ntmps3
  go_wp2_with fail
  rw [HES.out]
  refine HNE.out.mono ?_
  rintro e w1 ⟨b, m, rfl, hk, -⟩
  have HK := Lib.hid hk
  clear hk HNE e1 e2 hmo hm0
  go_wp2_with fail
  refine (Format_lp HK.out HCL.out.1 HCL.out.2 (by decide)).mono ?_
  rintro e w2 ⟨M, rfl, hk, _, _, _⟩
  have hk : Lp w w2 M ((Pl.laid (Dsk.new s 512) 0).begun 1) (formed (Dsk.new s 512)) := hk
  rw [← HD.out.1, ← HD.out.2] at hk
  obtain ⟨P, hP⟩ : ∃ P, P = M.p := ⟨_, rfl⟩
  have hpa := Pages_lp hk
  rw [HN0.out.2, ← hP] at hpa
  rw [← hP]
  have HPA := Lib.hid hpa
  have HL0 := Lib.hid hk
  have HP0 := Lib.hid hP.symm
  clear hk hP hpa HK HCL HD
  go_wp2_with fail
  refine HPA.out.mono ?_
  rintro e w3 ⟨rfl, hb3⟩
  have H0 : Hid (Lp w w3 M S0 D ∧ M.p = P ∧ S0.now = ⟨1, [], R8.zero⟩ ∧ S0.pages D = n) := Lib.hid ⟨HL0.out.grew hb3, HP0.out, HN0.out.1, HN0.out.2⟩
  clear hb3 HPA HL0 HP0 HN0
  go_wp2_with fail
  go_loopw [7] (fun iv wr => ∃ (i : Nat) (M1 : Mem) (S1 : Pl), 1 ≤ i ∧ i ≤ n ∧ iv = .int .i64 i ∧ Hid (Lp w wr M1 S1 D ∧ M1.p = P ∧ S1.now = ⟨i, [], R8.zero⟩ ∧ S1.pages D = n)) (fun iv _ => n - (intOf iv).toNat)
  case atStart => exact ⟨1, M, S0, by omega, by omega, rfl, H0⟩
  case round =>
    clear H0
    obtain ⟨i, M0, S0, hi1, hi, rfl, HS⟩ := hrel
    by_cases hlt : i < n
    · have hlt' : (i : Int) < n := by omega
      have htk : S0.take D = (((i : Nat) : Int), 0, S0.tookNew D) := by unfold Pl.take; rw [HS.out.2.2.1, if_neg (by simp [Sta.top]), HS.out.2.2.2, if_neg (by dsimp only; omega)]
      have ht := Take_lp HS.out.1
      rw [htk, HS.out.2.1] at ht
      have HTK := Lib.hid ht
      clear ht htk
      go_wp2_with fail
      refine HTK.out.mono ?_
      rintro e w4 ⟨M1, rfl, hh, hk, _⟩
      have hp1 := hh.p.trans HS.out.2.1
      have hnw : (S0.tookNew D).now = ⟨i + 1, [], R8.zero⟩ := by unfold Pl.tookNew; rw [HS.out.2.2.1]
      have htaken : (S0.tookNew D).now.taken (i : Nat) = true := by unfold Sta.taken; rw [hnw]; simp; omega
      have hval : (S0.tookNew D).val D i = widen D.rm [] := by
        unfold Pl.val Pl.tookNew Pgs.put
        dsimp only
        rw [HS.out.2.2.1, if_pos rfl]
        rfl
      have hrd := Read_lp hk i htaken
      rw [hval, hp1] at hrd
      have HRD := Lib.hid hrd
      have HNW0 := Lib.hid hnw
      have HPG0 : Hid ((S0.tookNew D).pages D = n) := Lib.hid HS.out.2.2.2
      have hp1' := hp1
      clear hh hp1 hnw htaken hval hrd hk HTK
      go_wp2_with fail
      refine HRD.out.mono ?_
      rintro e w5 ⟨u, S1, rfl, hby, hsb, hk, _⟩
      have HNW : Hid (S1.now = ⟨i + 1, [], R8.zero⟩) := Lib.hid (by obtain ⟨f, rfl⟩ := hsb; exact HNW0.out)
      have HPG : Hid (S1.pages D = n) := Lib.hid (by obtain ⟨f, rfl⟩ := hsb; exact HPG0.out)
      obtain ⟨p9, c9, rfl, hc9, _⟩ := hby.rd
      obtain ⟨ll, hll⟩ : ∃ ll, ll = widen D.rm [] := ⟨_, rfl⟩
      have HLL : Hid (ll = List.replicate D.rm 0) := Lib.hid (by rw [hll]; simp [widen])
      rw [← hll] at hby hc9 ⊢
      obtain ⟨n9, hn9⟩ : ∃ n9, n9 = ll.length := ⟨_, rfl⟩
      rw [← hn9] at hby ⊢
      have HBY := Lib.hid hby
      have HL := Lib.hid hk
      have hh1 : M1.p = P := hp1'
      have HP1 := Lib.hid hh1
      clear hby hsb hk hll hn9 hc9 HRD HNW0 HPG0 hp1' hh1
      go_wp2_with fail
      refine wp_region_H (fun v => Byt v (.slice (some p9) n9 c9) ll ∧ Lp w v M1 S1 D) (by kernel_rfl) (fun v0 hv0 => ?_)
      have hS0 : (fun v => Byt v (.slice (some p9) n9 c9) ll ∧ Lp w v M1 S1 D) v0 := by subst hv0; exact ⟨HBY.out.drew, HL.out.drew⟩
      clear hv0
      refine wpH_take (i := 0) (v := ?_) rfl rfl (by kernel_rfl) (by kernel_rfl) (by kernel_rfl) (fun _ _ _ h => h) (Or.inl ⟨by rfl, ?_⟩) hS0 ?_
      rotate_left
      · (intro w_ hw_; go_simp; try with_reducible rfl)
      simp only [List.setIfInBounds_toArray, List.set_cons_zero, List.set_cons_succ]
      refine wpH_take (i := 1) (v := ?_) rfl rfl (by kernel_rfl) (by kernel_rfl) (by kernel_rfl) (fun _ _ _ h => h) (Or.inl ⟨by rfl, ?_⟩) hS0 ?_
      rotate_left
      · (intro w_ hw_; go_simp; try with_reducible rfl)
      simp only [List.setIfInBounds_toArray, List.set_cons_zero, List.set_cons_succ]
      refine wpH_take (i := 2) (v := ?_) rfl rfl (by kernel_rfl) (by kernel_rfl) (by kernel_rfl) (fun _ _ _ h => h) (Or.inl ⟨by rfl, ?_⟩) hS0 ?_
      rotate_left
      · (intro w_ hw_; go_simp; try with_reducible rfl)
      simp only [List.setIfInBounds_toArray, List.set_cons_zero, List.set_cons_succ]
      refine wpH_take (i := 3) (v := ?_) rfl rfl (by kernel_rfl) (by kernel_rfl) (by kernel_rfl) (fun _ _ _ h => h) (Or.inl ⟨by rfl, ?_⟩) hS0 ?_
      rotate_left
      · (intro w_ hw_; go_simp; try with_reducible rfl)
      simp only [List.setIfInBounds_toArray, List.set_cons_zero, List.set_cons_succ]
      refine wpH_take (i := 4) (v := ?_) rfl rfl (by kernel_rfl) (by kernel_rfl) (by kernel_rfl) (fun _ _ _ h => h) (Or.inl ⟨by rfl, ?_⟩) hS0 ?_
      rotate_left
      · (intro w_ hw_; go_simp; try with_reducible rfl)
      simp only [List.setIfInBounds_toArray, List.set_cons_zero, List.set_cons_succ]
      refine wpH_take (i := 5) (v := ?_) rfl rfl (by kernel_rfl) (by kernel_rfl) (by kernel_rfl) (fun _ _ _ h => h) (Or.inl ⟨by rfl, ?_⟩) hS0 ?_
      rotate_left
      · (intro w_ hw_; go_simp; try with_reducible rfl)
      simp only [List.setIfInBounds_toArray, List.set_cons_zero, List.set_cons_succ]
      refine wpH_take (i := 6) (v := ?_) rfl rfl (by kernel_rfl) (by kernel_rfl) (by kernel_rfl) (fun _ _ _ h => h) (Or.inl ⟨by rfl, ?_⟩) hS0 ?_
      rotate_left
      · (intro w_ hw_; go_simp; try with_reducible rfl)
      simp only [List.setIfInBounds_toArray, List.set_cons_zero, List.set_cons_succ]
      refine wpH_take (i := 7) (v := ?_) rfl rfl (by kernel_rfl) (by kernel_rfl) (by kernel_rfl) (fun _ _ _ h => h) (Or.inl ⟨by rfl, ?_⟩) hS0 ?_
      rotate_left
      · (intro w_ hw_; go_simp; try with_reducible rfl)
      simp only [List.setIfInBounds_toArray, List.set_cons_zero, List.set_cons_succ]
      refine wpH_take (i := 8) (v := ?_) rfl rfl (by kernel_rfl) (by kernel_rfl) (by kernel_rfl) (fun _ _ _ h => h) (Or.inl ⟨by rfl, ?_⟩) hS0 ?_
      rotate_left
      · (intro w_ hw_; go_simp; try with_reducible rfl)
      simp only [List.setIfInBounds_toArray, List.set_cons_zero, List.set_cons_succ]
      refine wpH_take (i := 9) (v := ?_) rfl rfl (by kernel_rfl) (by kernel_rfl) (by kernel_rfl) (fun _ _ _ h => h) (Or.inl ⟨by rfl, ?_⟩) hS0 ?_
      rotate_left
      · (intro w_ hw_; go_simp; try with_reducible rfl)
      simp only [List.setIfInBounds_toArray, List.set_cons_zero, List.set_cons_succ]
      refine wpH_take (i := 10) (v := ?_) rfl rfl (by kernel_rfl) (by kernel_rfl) (by kernel_rfl) (fun _ _ _ h => h) (Or.inl ⟨by rfl, ?_⟩) hS0 ?_
      rotate_left
      · (intro w_ hw_; go_simp; try with_reducible rfl)
      simp only [List.setIfInBounds_toArray, List.set_cons_zero, List.set_cons_succ]
      refine wpH_take (i := 11) (v := ?_) rfl rfl (by kernel_rfl) (by kernel_rfl) (by kernel_rfl) (fun _ _ _ h => h) (Or.inl ⟨by rfl, ?_⟩) hS0 ?_
      rotate_left
      · (intro w_ hw_; go_simp; try with_reducible rfl)
      simp only [List.setIfInBounds_toArray, List.set_cons_zero, List.set_cons_succ]
      refine wpH_take (i := 12) (v := ?_) rfl rfl (by kernel_rfl) (by kernel_rfl) (by kernel_rfl) (fun _ _ _ h => h) (Or.inl ⟨by rfl, ?_⟩) hS0 ?_
      rotate_left
      · (intro w_ hw_; go_simp; try with_reducible rfl)
      simp only [List.setIfInBounds_toArray, List.set_cons_zero, List.set_cons_succ]
      refine wpH_take (i := 13) (v := (.string (str ll))) rfl rfl (by kernel_rfl) (by kernel_rfl) (by kernel_rfl) (fun _ _ _ h => h) (Or.inl ⟨by rfl, ?_⟩) hS0 ?_
      · (intro w_ hw_; exact exec_convert 31 9 (.tmp 56) rfl rfl hw_.1.strv)
      simp only [List.setIfInBounds_toArray, List.set_cons_zero, List.set_cons_succ]
      refine wpH_take (i := 14) (v := ?_) rfl rfl (by kernel_rfl) (by kernel_rfl) (by kernel_rfl) (fun _ _ _ h => h) (Or.inl ⟨by rfl, ?_⟩) hS0 ?_
      rotate_left
      · (intro w_ hw_; go_simp; try with_reducible rfl)
      simp only [List.setIfInBounds_toArray, List.set_cons_zero, List.set_cons_succ]
      have hro := Room_lp hS0.2
      rw [HP1.out] at hro
      refine wpH_call (i := 15) (by kernel_rfl) rfl rfl (by rfl) (hro) (by go_simp) (fun v1 hR => ?_)
      have hS1 : (fun v => Byt v (.slice (some p9) n9 c9) ll ∧ Lp w v M1 S1 D) v1 := by subst hR; exact hS0
      clear hS0
      refine ⟨hS1, ?_⟩
      simp only [List.setIfInBounds_toArray, List.set_cons_zero, List.set_cons_succ]
      subst hR
      have hmk := run_mk v1 D.rm (by have := HRM.out; omega) (by have := HRM.out; omega)
      obtain ⟨v2, hrun, hby2, hb2⟩ := hmk
      have hl2 := (hS1.2.grew hb2)
      have hy2 := hS1.1.grew hb2
      obtain ⟨g2, hg2⟩ : ∃ g2, g2 = v1.heap.size := ⟨_, rfl⟩
      rw [← hg2] at hrun hby2
      clear hro hg2
      have hS2 : (fun v => Byt v (.slice (some p9) n9 c9) ll ∧ Lp w v M1 S1 D) v2 := ⟨hy2, hl2⟩
      clear hS1
      refine wpH_run (i := 16) (v := (.slice (some ⟨g2, 0, none⟩) D.rm D.rm)) (w' := v2) (by kernel_rfl) rfl rfl (by rfl) (by exact exec_makeSlice 31 (.tmp 59) (.tmp 59) rfl rfl rfl hrun) hS2 ?_
      simp only [List.setIfInBounds_toArray, List.set_cons_zero, List.set_cons_succ]
      have hst := hby2.strv
      rw [← HLL.out] at hst
      have hS3 : (fun v => Byt v (.slice (some p9) n9 c9) ll ∧ Lp w v M1 S1 D) v2 := hS2
      clear hS2
      refine wpH_run (i := 17) (v := (.string (str ll))) (w' := v2) (by kernel_rfl) rfl rfl (by rfl) (by exact exec_convert 31 9 (.tmp 60) rfl rfl hst) hS3 ?_
      simp only [List.setIfInBounds_toArray, List.set_cons_zero, List.set_cons_succ]
      refine wpH_take (i := 18) (v := (.bool false)) rfl rfl (by kernel_rfl) (by kernel_rfl) (by kernel_rfl) (fun _ _ _ h => h) (Or.inl ⟨by rfl, ?_⟩) hS3 ?_
      · (intro w_ hw_; go_simp)
      simp only [List.setIfInBounds_toArray, List.set_cons_zero, List.set_cons_succ]
      refine wpH_take (i := 19) (v := ?_) rfl rfl (by kernel_rfl) (by kernel_rfl) (by kernel_rfl) (fun _ _ _ h => h) (Or.inl ⟨by rfl, ?_⟩) hS3 ?_
      rotate_left
      · (intro w_ hw_; go_simp; try with_reducible rfl)
      simp only [List.setIfInBounds_toArray, List.set_cons_zero, List.set_cons_succ]
      refine wpH_take (i := 20) (v := ?_) rfl rfl (by kernel_rfl) (by kernel_rfl) (by kernel_rfl) (fun _ _ _ h => h) (Or.inl ⟨by rfl, ?_⟩) hS3 ?_
      rotate_left
      · (intro w_ hw_; go_simp; try with_reducible rfl)
      simp only [List.setIfInBounds_toArray, List.set_cons_zero, List.set_cons_succ]
      refine wpH_take (i := 21) (v := ?_) rfl rfl (by kernel_rfl) (by kernel_rfl) (by kernel_rfl) (fun _ _ _ h => h) (Or.inl ⟨by rfl, ?_⟩) hS3 ?_
      rotate_left
      · (intro w_ hw_; go_simp; try with_reducible rfl)
      simp only [List.setIfInBounds_toArray, List.set_cons_zero, List.set_cons_succ]
      refine wpH_take (i := 23) (v := ?_) rfl rfl (by kernel_rfl) (by kernel_rfl) (by kernel_rfl) (fun _ _ _ h => h) (Or.inl ⟨by rfl, ?_⟩) hS3 ?_
      rotate_left
      · (intro w_ hw_; go_simp; try with_reducible rfl)
      simp only [List.setIfInBounds_toArray, List.set_cons_zero, List.set_cons_succ]
      have htk := Taken_lp hl2
      rw [HP1.out, HNW.out] at htk
      have et : ((i + 1 : Nat) : Int) - 1 - (([] : List Nat).length : Nat) = (i : Int) := by simp
      dsimp only at htk et
      rw [et] at htk
      refine wpH_callv (i := 22) (by kernel_rfl) rfl rfl (by rfl) (Taken_tup htk) (by go_simp) ?_
      rintro x9 v3 ⟨rfl, hb3⟩
      have hS4 : (fun v => Byt v (.slice (some p9) n9 c9) ll ∧ Lp w v M1 S1 D) v3 := ⟨hy2.grew hb3, hl2.grew hb3⟩
      clear hS3
      refine ⟨hS4, ?_⟩
      simp only [List.setIfInBounds_toArray, List.set_cons_zero, List.set_cons_succ]
      have HL3 := Lib.hid (hl2.grew hb3)
      clear hrun hby2 hb2 hst htk et hb3 hy2 hl2
      refine wpH_take (i := 24) (v := (.bool false)) rfl rfl (by kernel_rfl) (by kernel_rfl) (by kernel_rfl) (fun _ _ _ h => h) (Or.inl ⟨by rfl, ?_⟩) hS4 ?_
      · (intro w_ hw_; go_simp; try omega)
      simp only [List.setIfInBounds_toArray, List.set_cons_zero, List.set_cons_succ]
      refine wpH_take (i := 25) (v := ?_) rfl rfl (by kernel_rfl) (by kernel_rfl) (by kernel_rfl) (fun _ _ _ h => h) (Or.inl ⟨by rfl, ?_⟩) hS4 ?_
      rotate_left
      · (intro w_ hw_; go_simp; try with_reducible rfl)
      simp only [List.setIfInBounds_toArray, List.set_cons_zero, List.set_cons_succ]
      clear hS4
      refine wpAnyH_done (by kernel_rfl) ?_ _
      have HN1 : Hid (Lp w v3 M1 S1 D ∧ M1.p = P ∧ S1.now = ⟨i + 1, [], R8.zero⟩ ∧ S1.pages D = n) := Lib.hid ⟨HL3.out, HP1.out, HNW.out, HPG.out⟩
      clear HL3 HP1 HNW HPG HS HBY HL HLL
      go_wp2
      go_roundw
      case rel => exact ⟨i + 1, M1, S1, by omega, by omega, by go_num, HN1⟩
      case measure => simp [intOf]; omega
    · obtain rfl : n = i := by omega
      have htk : S0.take D = (0, 6, S0) := by unfold Pl.take; rw [HS.out.2.2.1, if_neg (by simp [Sta.top]), HS.out.2.2.2, if_pos (by dsimp only; omega)]
      have ht := Take_lp HS.out.1
      rw [htk, HS.out.2.1] at ht
      have HTK := Lib.hid ht
      clear ht htk
      go_wp2_with fail
      refine HTK.out.mono ?_
      rintro e w4 ⟨M1, rfl, _, hk, _⟩
      have HLW := Lib.hid hk.low
      clear hk HTK HS
      go_wp2_with fail
      refine (awake_any _).mono ?_
      rintro e w9 ⟨rfl, hb9⟩
      have HB := Lib.hid (grow HLW.out hb9)
      clear hb9
      go_wp2
      go_ret
      exact ⟨rfl, HB.out⟩
end Go.Proofs.YtklppnknllbfnaaGreat
