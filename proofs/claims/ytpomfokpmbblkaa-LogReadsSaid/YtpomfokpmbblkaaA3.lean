/- Walks: awake. Printed by mk_a3.py. -/
import Derived.Test.YtpomfokpmbblkaaA2
namespace Go.Proofs.Ytpomfokpmbblkaa
open Go.RowKit Go.Maps
set_option maxRecDepth 8000

def awkG : List (Int × List Nat) := [(5, List.replicate 19 1), (6, List.replicate 19 2)]
def awkL : Lg := ⟨2, 4, 1, 0, false⟩
theorem awk_start : LogHas (Dsk.new 8 64) awkL [] :=
  LogHas.start rfl (by decide) ⟨by decide, by decide, by decide, by decide⟩ rfl (by decide) (fun i _ => by
    show slotEp (List.replicate 64 0) i ≠ 1
    rw [slotEp_zeros (by decide)]; decide)
theorem awk_right : rightE (Dsk.new 8 64) awkL awkG = 0 := by decide
theorem awk_app : (app (Dsk.new 8 64) awkL awkG).1 = 0 ∧ LogHas (app (Dsk.new 8 64) awkL awkG).2.1 (app (Dsk.new 8 64) awkL awkG).2.2 [awkG] ∧ (app (Dsk.new 8 64) awkL awkG).2.1.loose = [] ∧ (app (Dsk.new 8 64) awkL awkG).2.1.size = 64 ∧ (app (Dsk.new 8 64) awkL awkG).2.1.sectors = 8 ∧
    (app (Dsk.new 8 64) awkL awkG).2.2 = ⟨2, 4, 1, 2, false⟩ := by
  rcases awk_start.apps (g := awkG) (by decide) (by decide) (by decide) awk_right with ⟨q1, q2, q3, _, _, q4, q5, q6, _⟩ | ⟨_, q, _⟩
  · exact ⟨q1, q2, q3, q4, q5, q6⟩
  · exact absurd q (by decide)

set_option maxRecDepth 10000 in
set_option maxHeartbeats 8000000 in
theorem awake_any (w : World) : Calls Try.prog 14 #[] w fun e w' => e = .returned (.bool true) ∧ Below w.heap.size w w' := by
  obtain ⟨lb, hlb⟩ : ∃ lb, lb = List.replicate 19 2 := ⟨_, rfl⟩
  have HLB := Lib.hid hlb
  clear hlb
  obtain ⟨D1, hD1⟩ : ∃ D1, D1 = (app (Dsk.new 8 64) awkL awkG).2.1 := ⟨_, rfl⟩
  obtain ⟨L1, hL1⟩ : ∃ L1, L1 = (app (Dsk.new 8 64) awkL awkG).2.2 := ⟨_, rfl⟩
  have happ := awk_app
  rw [← hD1, ← hL1] at happ
  have HD1 := Lib.hid (And.intro hD1 hL1)
  have HP := Lib.hid happ
  have HL : Hid (L1.count = 4 ∧ L1.next = 2) := Lib.hid (by rw [HP.out.2.2.2.2.2]; exact ⟨rfl, rfl⟩)
  clear hD1 hL1 happ
  go_enter Try.func14, Try.ntmps14
  go_wp2_with fail
  refine (New_dk w 8 64 (fun _ _ => trivial) (Below.refl _ _) (by decide) (by decide) (by decide) (by decide)).mono ?_
  rintro e w1 ⟨b, m, rfl, hk, -⟩
  have HK := Lib.hid hk
  clear hk
  go_wp2_with fail
  refine (LRoom_any 64 w1).mono ?_
  rintro e w2 ⟨rfl, hw2⟩
  subst hw2
  rw [show lroom 64 = 19 from rfl]
  go_wp2_with fail
  refine (Start_st HK.out 2 4 1 rfl rfl).mono ?_
  rintro e w3 ⟨G, rfl, hk, -, -⟩
  have HK := Lib.hid hk
  clear hk
  go_wp2_with fail
  refine (full_any 1 19 w3 (by decide) (by decide)).mono ?_
  rintro e w4 ⟨ga, rfl, ho, hb, -⟩
  have HA := Lib.hid (And.intro (HK.out.grew hb) (Byt.of_own' ho))
  clear ho hb HK
  go_wp2_with fail
  refine (full_any 2 19 w4 (by decide) (by decide)).mono ?_
  rintro e w5 ⟨gb, rfl, ho, hb, -⟩
  have HA2 := Lib.hid (And.intro (HA.out.1.grew hb) (And.intro (HA.out.2.grew hb) (Byt.of_own' ho)))
  clear ho hb HA
  have hg := grow_alloc (Below.refl _ w5) (.cells #[.int .i64 5, .slice (some ⟨ga, 0, none⟩) 19 19, .int .i64 6, .slice (some ⟨gb, 0, none⟩) 19 19] 44)
  have hc := Chg.two (Blk.new w5 #[.int .i64 5, .slice (some ⟨ga, 0, none⟩) 19 19, .int .i64 6, .slice (some ⟨gb, 0, none⟩) 19 19] 44) (HA2.out.2.1.grew hg) (HA2.out.2.2.grew hg)
  have HC0 := Lib.hid (And.intro (HA2.out.1.grew hg) hc)
  clear hg hc HA2
  go_wp2_with fail
  refine (Append_st (g := awkG) HC0.out.1 rfl HC0.out.2 (by decide) (by decide)).mono ?_
  rintro e w6 ⟨rfl, vl4, hk, -⟩
  have e1 : (app (Dsk.new 8 64) ⟨2, 4, 1, 0, false⟩ awkG).1 = 0 := awk_app.1
  rw [e1]
  clear e1
  have hk : LSt w w6 b m vl4 (app (Dsk.new 8 64) awkL awkG).2.1 G (app (Dsk.new 8 64) awkL awkG).2.2 := hk
  rw [← HD1.out.1, ← HD1.out.2] at hk
  have HK := Lib.hid hk
  have hr := LRead_any hk.dk.disk 2 4 1 (by unfold okAt; rw [HP.out.2.2.2.2.1]; rfl) rfl (by rw [HP.out.2.2.1]; decide) HP.out.2.1.up [awkG] (by
    have := HP.out.2.1.groups
    rw [HP.out.2.2.2.2.2] at this
    exact this)
  clear hk HC0 HD1
  go_wp2_with fail
  refine hr.mono ?_
  rintro e w7 ⟨ov, rfl, ⟨B, hG⟩, hb⟩
  clear hr
  obtain ⟨gg, cg, u, rfl, hgu, hu⟩ := hG.one
  obtain ⟨gr, cr, p, z, cp, rfl, hcr, hr1, hr2, hby, hz⟩ := hu.at_ 1 (by decide)
  have hz' : z = 19 := hz
  subst hz'
  have HC : Hid (w7.cell? ⟨gg, 0, none⟩ = some (.slice (some ⟨gr, 0, none⟩) 2 cr) ∧ w7.cell? ⟨gr, 2, none⟩ = some (.int .i64 6) ∧ w7.cell? ⟨gr, 3, none⟩ = some (.slice (some p) 19 cp)) := Lib.hid ⟨hgu, hr1, hr2⟩
  have HBt : Hid (Byt w7 (.slice (some p) 19 cp) lb) := Lib.hid (by rw [HLB.out]; exact hby)
  have HK := Lib.hid (HK.out.grew hb)
  clear hG hgu hu hcr hr1 hr2 hby hz hb HP
  go_wp2_with fail
  refine wp_region_H (fun v => (v.cell? ⟨gg, 0, none⟩ = some (.slice (some ⟨gr, 0, none⟩) 2 cr) ∧ v.cell? ⟨gr, 2, none⟩ = some (.int .i64 6) ∧ v.cell? ⟨gr, 3, none⟩ = some (.slice (some p) 19 cp)) ∧ Byt v (.slice (some p) 19 cp) lb ∧ LSt w v b m vl4 D1 G L1) (by kernel_rfl) (fun u0 hu0 => ?_)
  have hS0 : (fun v => (v.cell? ⟨gg, 0, none⟩ = some (.slice (some ⟨gr, 0, none⟩) 2 cr) ∧ v.cell? ⟨gr, 2, none⟩ = some (.int .i64 6) ∧ v.cell? ⟨gr, 3, none⟩ = some (.slice (some p) 19 cp)) ∧ Byt v (.slice (some p) 19 cp) lb ∧ LSt w v b m vl4 D1 G L1) u0 := by subst hu0; exact ⟨HC.out, HBt.out.drew, HK.out.drew⟩
  clear hu0
  refine wpH_take (i := 0) (v := ?_) rfl rfl (by kernel_rfl) (by kernel_rfl) (by kernel_rfl) (fun _ _ _ h => h) (Or.inl ⟨by rfl, ?_⟩) hS0 ?_
  rotate_left
  · (intro w_ hw_; go_simp; try with_reducible rfl)
  simp only [List.setIfInBounds_toArray, List.set_cons_zero, List.set_cons_succ]
  refine wpH_take (i := 1) (v := ?_) rfl rfl (by kernel_rfl) (by kernel_rfl) (by kernel_rfl) (fun _ _ _ h => h) (Or.inl ⟨by rfl, ?_⟩) hS0 ?_
  rotate_left
  · (intro w_ hw_; go_simp; try with_reducible rfl)
  simp only [List.setIfInBounds_toArray, List.set_cons_zero, List.set_cons_succ]
  refine wpH_take (i := 2) (v := ?_) rfl rfl (by kernel_rfl) (by kernel_rfl) (by kernel_rfl) (fun _ _ _ h => h) (Or.inl ⟨by rfl, ?_⟩) hS0 ?_
  rotate_left
  · (intro w_ hw_; go_simp; try with_reducible rfl)
  simp only [List.setIfInBounds_toArray, List.set_cons_zero, List.set_cons_succ]
  refine wpH_take (i := 3) (v := ?_) rfl rfl (by kernel_rfl) (by kernel_rfl) (by kernel_rfl) (fun _ _ _ h => h) (Or.inl ⟨by rfl, ?_⟩) hS0 ?_
  rotate_left
  · (intro w_ hw_; go_simp; try with_reducible rfl)
  simp only [List.setIfInBounds_toArray, List.set_cons_zero, List.set_cons_succ]
  refine wpH_take (i := 4) (v := ?_) rfl rfl (by kernel_rfl) (by kernel_rfl) (by kernel_rfl) (fun _ _ _ h => h) (Or.inl ⟨by rfl, ?_⟩) hS0 ?_
  rotate_left
  · (intro w_ hw_; go_simp; try with_reducible rfl)
  simp only [List.setIfInBounds_toArray, List.set_cons_zero, List.set_cons_succ]
  refine wpH_take (i := 5) (v := ?_) rfl rfl (by kernel_rfl) (by kernel_rfl) (by kernel_rfl) (fun _ _ _ h => h) (Or.inl ⟨by rfl, ?_⟩) hS0 ?_
  rotate_left
  · (intro w_ hw_; go_simp; try with_reducible rfl)
  simp only [List.setIfInBounds_toArray, List.set_cons_zero, List.set_cons_succ]
  refine wpH_take (i := 6) (v := ?_) rfl rfl (by kernel_rfl) (by kernel_rfl) (by kernel_rfl) (fun _ _ _ h => h) (Or.inl ⟨by rfl, ?_⟩) hS0 ?_
  rotate_left
  · (intro w_ hw_; go_simp; try with_reducible rfl)
  simp only [List.setIfInBounds_toArray, List.set_cons_zero, List.set_cons_succ]
  refine wpH_take (i := 7) (v := ?_) rfl rfl (by kernel_rfl) (by kernel_rfl) (by kernel_rfl) (fun _ _ _ h => h) (Or.inl ⟨by rfl, ?_⟩) hS0 ?_
  rotate_left
  · (intro w_ hw_; go_simp; try with_reducible rfl)
  simp only [List.setIfInBounds_toArray, List.set_cons_zero, List.set_cons_succ]
  refine wpH_take (i := 8) (v := ?_) rfl rfl (by kernel_rfl) (by kernel_rfl) (by kernel_rfl) (fun _ _ _ h => h) (Or.inl ⟨by rfl, ?_⟩) hS0 ?_
  rotate_left
  · (intro w_ hw_; go_simp; try with_reducible rfl)
  simp only [List.setIfInBounds_toArray, List.set_cons_zero, List.set_cons_succ]
  refine wpH_take (i := 9) (v := ?_) rfl rfl (by kernel_rfl) (by kernel_rfl) (by kernel_rfl) (fun _ _ _ h => h) (Or.inl ⟨by rfl, ?_⟩) hS0 ?_
  rotate_left
  · (intro w_ hw_; go_simp; try with_reducible rfl)
  simp only [List.setIfInBounds_toArray, List.set_cons_zero, List.set_cons_succ]
  refine wpH_take (i := 10) (v := ?_) rfl rfl (by kernel_rfl) (by kernel_rfl) (by kernel_rfl) (fun _ _ _ h => h) (Or.inl ⟨by rfl, ?_⟩) hS0 ?_
  rotate_left
  · (intro w_ hw_; go_simp; try with_reducible rfl)
  simp only [List.setIfInBounds_toArray, List.set_cons_zero, List.set_cons_succ]
  refine wpH_take (i := 11) (v := ?_) rfl rfl (by kernel_rfl) (by kernel_rfl) (by kernel_rfl) (fun _ _ _ h => h) (Or.inl ⟨by rfl, ?_⟩) hS0 ?_
  rotate_left
  · (intro w_ hw_; go_simp; try with_reducible rfl)
  simp only [List.setIfInBounds_toArray, List.set_cons_zero, List.set_cons_succ]
  refine wpH_take (i := 12) (v := ?_) rfl rfl (by kernel_rfl) (by kernel_rfl) (by kernel_rfl) (fun _ _ _ h => h) (Or.inl ⟨by rfl, ?_⟩) hS0 ?_
  rotate_left
  · (intro w_ hw_; go_simp; try with_reducible rfl)
  simp only [List.setIfInBounds_toArray, List.set_cons_zero, List.set_cons_succ]
  refine wpH_take (i := 13) (v := ?_) rfl rfl (by kernel_rfl) (by kernel_rfl) (by kernel_rfl) (fun _ _ _ h => h) (Or.inl ⟨by rfl, ?_⟩) hS0 ?_
  rotate_left
  · (intro w_ hw_; go_simp; try with_reducible rfl)
  simp only [List.setIfInBounds_toArray, List.set_cons_zero, List.set_cons_succ]
  refine wpH_take (i := 14) (v := ?_) rfl rfl (by kernel_rfl) (by kernel_rfl) (by kernel_rfl) (fun _ _ _ h => h) (Or.inl ⟨by rfl, ?_⟩) hS0 ?_
  rotate_left
  · (intro w_ hw_; go_simp; try with_reducible rfl)
  simp only [List.setIfInBounds_toArray, List.set_cons_zero, List.set_cons_succ]
  refine wpH_take (i := 15) (v := ?_) rfl rfl (by kernel_rfl) (by kernel_rfl) (by kernel_rfl) (fun _ _ _ h => h) (Or.inl ⟨by rfl, ?_⟩) hS0 ?_
  rotate_left
  · (intro w_ hw_; go_simp; try with_reducible rfl)
  simp only [List.setIfInBounds_toArray, List.set_cons_zero, List.set_cons_succ]
  refine wpH_take (i := 16) (v := ?_) rfl rfl (by kernel_rfl) (by kernel_rfl) (by kernel_rfl) (fun _ _ _ h => h) (Or.inl ⟨by rfl, ?_⟩) hS0 ?_
  rotate_left
  · (intro w_ hw_; (have q1 := hw_.1.1; have q2 := hw_.1.2.1; have q3 := hw_.1.2.2; clear hw_); go_simp; try with_reducible rfl)
  simp only [List.setIfInBounds_toArray, List.set_cons_zero, List.set_cons_succ]
  refine wpH_take (i := 17) (v := ?_) rfl rfl (by kernel_rfl) (by kernel_rfl) (by kernel_rfl) (fun _ _ _ h => h) (Or.inl ⟨by rfl, ?_⟩) hS0 ?_
  rotate_left
  · (intro w_ hw_; go_simp; try with_reducible rfl)
  simp only [List.setIfInBounds_toArray, List.set_cons_zero, List.set_cons_succ]
  refine wpH_take (i := 18) (v := ?_) rfl rfl (by kernel_rfl) (by kernel_rfl) (by kernel_rfl) (fun _ _ _ h => h) (Or.inl ⟨by rfl, ?_⟩) hS0 ?_
  rotate_left
  · (intro w_ hw_; go_simp; try with_reducible rfl)
  simp only [List.setIfInBounds_toArray, List.set_cons_zero, List.set_cons_succ]
  refine wpH_take (i := 19) (v := ?_) rfl rfl (by kernel_rfl) (by kernel_rfl) (by kernel_rfl) (fun _ _ _ h => h) (Or.inl ⟨by rfl, ?_⟩) hS0 ?_
  rotate_left
  · (intro w_ hw_; go_simp; try with_reducible rfl)
  simp only [List.setIfInBounds_toArray, List.set_cons_zero, List.set_cons_succ]
  refine wpH_take (i := 20) (v := ?_) rfl rfl (by kernel_rfl) (by kernel_rfl) (by kernel_rfl) (fun _ _ _ h => h) (Or.inl ⟨by rfl, ?_⟩) hS0 ?_
  rotate_left
  · (intro w_ hw_; go_simp; try with_reducible rfl)
  simp only [List.setIfInBounds_toArray, List.set_cons_zero, List.set_cons_succ]
  refine wpH_take (i := 21) (v := ?_) rfl rfl (by kernel_rfl) (by kernel_rfl) (by kernel_rfl) (fun _ _ _ h => h) (Or.inl ⟨by rfl, ?_⟩) hS0 ?_
  rotate_left
  · (intro w_ hw_; go_simp; try with_reducible rfl)
  simp only [List.setIfInBounds_toArray, List.set_cons_zero, List.set_cons_succ]
  refine wpH_take (i := 22) (v := ?_) rfl rfl (by kernel_rfl) (by kernel_rfl) (by kernel_rfl) (fun _ _ _ h => h) (Or.inl ⟨by rfl, ?_⟩) hS0 ?_
  rotate_left
  · (intro w_ hw_; (have q1 := hw_.1.1; have q2 := hw_.1.2.1; have q3 := hw_.1.2.2; clear hw_); go_simp; try with_reducible rfl)
  simp only [List.setIfInBounds_toArray, List.set_cons_zero, List.set_cons_succ]
  refine wpH_take (i := 23) (v := ?_) rfl rfl (by kernel_rfl) (by kernel_rfl) (by kernel_rfl) (fun _ _ _ h => h) (Or.inl ⟨by rfl, ?_⟩) hS0 ?_
  rotate_left
  · (intro w_ hw_; (have q1 := hw_.1.1; have q2 := hw_.1.2.1; have q3 := hw_.1.2.2; clear hw_); go_simp; try with_reducible rfl)
  simp only [List.setIfInBounds_toArray, List.set_cons_zero, List.set_cons_succ]
  refine wpH_take (i := 24) (v := ?_) rfl rfl (by kernel_rfl) (by kernel_rfl) (by kernel_rfl) (fun _ _ _ h => h) (Or.inl ⟨by rfl, ?_⟩) hS0 ?_
  rotate_left
  · (intro w_ hw_; go_simp; try with_reducible rfl)
  simp only [List.setIfInBounds_toArray, List.set_cons_zero, List.set_cons_succ]
  refine wpH_take (i := 25) (v := ?_) rfl rfl (by kernel_rfl) (by kernel_rfl) (by kernel_rfl) (fun _ _ _ h => h) (Or.inl ⟨by rfl, ?_⟩) hS0 ?_
  rotate_left
  · (intro w_ hw_; go_simp; try with_reducible rfl)
  simp only [List.setIfInBounds_toArray, List.set_cons_zero, List.set_cons_succ]
  refine wpH_take (i := 26) (v := ?_) rfl rfl (by kernel_rfl) (by kernel_rfl) (by kernel_rfl) (fun _ _ _ h => h) (Or.inl ⟨by rfl, ?_⟩) hS0 ?_
  rotate_left
  · (intro w_ hw_; go_simp; try with_reducible rfl)
  simp only [List.setIfInBounds_toArray, List.set_cons_zero, List.set_cons_succ]
  refine wpH_take (i := 27) (v := ?_) rfl rfl (by kernel_rfl) (by kernel_rfl) (by kernel_rfl) (fun _ _ _ h => h) (Or.inl ⟨by rfl, ?_⟩) hS0 ?_
  rotate_left
  · (intro w_ hw_; go_simp; try with_reducible rfl)
  simp only [List.setIfInBounds_toArray, List.set_cons_zero, List.set_cons_succ]
  refine wpH_take (i := 28) (v := ?_) rfl rfl (by kernel_rfl) (by kernel_rfl) (by kernel_rfl) (fun _ _ _ h => h) (Or.inl ⟨by rfl, ?_⟩) hS0 ?_
  rotate_left
  · (intro w_ hw_; go_simp; try with_reducible rfl)
  simp only [List.setIfInBounds_toArray, List.set_cons_zero, List.set_cons_succ]
  refine wpH_take (i := 29) (v := ?_) rfl rfl (by kernel_rfl) (by kernel_rfl) (by kernel_rfl) (fun _ _ _ h => h) (Or.inl ⟨by rfl, ?_⟩) hS0 ?_
  rotate_left
  · (intro w_ hw_; (have q1 := hw_.1.1; have q2 := hw_.1.2.1; have q3 := hw_.1.2.2; clear hw_); go_simp; try with_reducible rfl)
  simp only [List.setIfInBounds_toArray, List.set_cons_zero, List.set_cons_succ]
  refine wpH_take (i := 30) (v := ?_) rfl rfl (by kernel_rfl) (by kernel_rfl) (by kernel_rfl) (fun _ _ _ h => h) (Or.inl ⟨by rfl, ?_⟩) hS0 ?_
  rotate_left
  · (intro w_ hw_; go_simp; try with_reducible rfl)
  simp only [List.setIfInBounds_toArray, List.set_cons_zero, List.set_cons_succ]
  refine wpH_take (i := 31) (v := ?_) rfl rfl (by kernel_rfl) (by kernel_rfl) (by kernel_rfl) (fun _ _ _ h => h) (Or.inl ⟨by rfl, ?_⟩) hS0 ?_
  rotate_left
  · (intro w_ hw_; go_simp; try with_reducible rfl)
  simp only [List.setIfInBounds_toArray, List.set_cons_zero, List.set_cons_succ]
  refine wpH_take (i := 32) (v := ?_) rfl rfl (by kernel_rfl) (by kernel_rfl) (by kernel_rfl) (fun _ _ _ h => h) (Or.inl ⟨by rfl, ?_⟩) hS0 ?_
  rotate_left
  · (intro w_ hw_; (have q1 := hw_.1.1; have q2 := hw_.1.2.1; have q3 := hw_.1.2.2; clear hw_); go_simp; try with_reducible rfl)
  simp only [List.setIfInBounds_toArray, List.set_cons_zero, List.set_cons_succ]
  refine wpH_take (i := 33) (v := ?_) rfl rfl (by kernel_rfl) (by kernel_rfl) (by kernel_rfl) (fun _ _ _ h => h) (Or.inl ⟨by rfl, ?_⟩) hS0 ?_
  rotate_left
  · (intro w_ hw_; go_simp; try with_reducible rfl)
  simp only [List.setIfInBounds_toArray, List.set_cons_zero, List.set_cons_succ]
  refine wpH_take (i := 34) (v := ?_) rfl rfl (by kernel_rfl) (by kernel_rfl) (by kernel_rfl) (fun _ _ _ h => h) (Or.inl ⟨by rfl, ?_⟩) hS0 ?_
  rotate_left
  · (intro w_ hw_; go_simp; try with_reducible rfl)
  simp only [List.setIfInBounds_toArray, List.set_cons_zero, List.set_cons_succ]
  refine wpH_take (i := 35) (v := ?_) rfl rfl (by kernel_rfl) (by kernel_rfl) (by kernel_rfl) (fun _ _ _ h => h) (Or.inl ⟨by rfl, ?_⟩) hS0 ?_
  rotate_left
  · (intro w_ hw_; go_simp; try with_reducible rfl)
  simp only [List.setIfInBounds_toArray, List.set_cons_zero, List.set_cons_succ]
  refine wpH_take (i := 36) (v := ?_) rfl rfl (by kernel_rfl) (by kernel_rfl) (by kernel_rfl) (fun _ _ _ h => h) (Or.inl ⟨by rfl, ?_⟩) hS0 ?_
  rotate_left
  · (intro w_ hw_; go_simp; try with_reducible rfl)
  simp only [List.setIfInBounds_toArray, List.set_cons_zero, List.set_cons_succ]
  refine wpH_take (i := 37) (v := ?_) rfl rfl (by kernel_rfl) (by kernel_rfl) (by kernel_rfl) (fun _ _ _ h => h) (Or.inl ⟨by rfl, ?_⟩) hS0 ?_
  rotate_left
  · (intro w_ hw_; go_simp; try with_reducible rfl)
  simp only [List.setIfInBounds_toArray, List.set_cons_zero, List.set_cons_succ]
  refine wpH_take (i := 38) (v := ?_) rfl rfl (by kernel_rfl) (by kernel_rfl) (by kernel_rfl) (fun _ _ _ h => h) (Or.inl ⟨by rfl, ?_⟩) hS0 ?_
  rotate_left
  · (intro w_ hw_; (have q1 := hw_.1.1; have q2 := hw_.1.2.1; have q3 := hw_.1.2.2; clear hw_); go_simp; try with_reducible rfl)
  simp only [List.setIfInBounds_toArray, List.set_cons_zero, List.set_cons_succ]
  refine wpH_take (i := 39) (v := ?_) rfl rfl (by kernel_rfl) (by kernel_rfl) (by kernel_rfl) (fun _ _ _ h => h) (Or.inl ⟨by rfl, ?_⟩) hS0 ?_
  rotate_left
  · (intro w_ hw_; go_simp; try with_reducible rfl)
  simp only [List.setIfInBounds_toArray, List.set_cons_zero, List.set_cons_succ]
  refine wpH_take (i := 40) (v := ?_) rfl rfl (by kernel_rfl) (by kernel_rfl) (by kernel_rfl) (fun _ _ _ h => h) (Or.inl ⟨by rfl, ?_⟩) hS0 ?_
  rotate_left
  · (intro w_ hw_; go_simp; try with_reducible rfl)
  simp only [List.setIfInBounds_toArray, List.set_cons_zero, List.set_cons_succ]
  refine wpH_take (i := 41) (v := ?_) rfl rfl (by kernel_rfl) (by kernel_rfl) (by kernel_rfl) (fun _ _ _ h => h) (Or.inl ⟨by rfl, ?_⟩) hS0 ?_
  rotate_left
  · (intro w_ hw_; (have q1 := hw_.1.1; have q2 := hw_.1.2.1; have q3 := hw_.1.2.2; clear hw_); go_simp; try with_reducible rfl)
  simp only [List.setIfInBounds_toArray, List.set_cons_zero, List.set_cons_succ]
  refine wpH_take (i := 42) (v := (.string (str lb))) rfl rfl (by kernel_rfl) (by kernel_rfl) (by kernel_rfl) (fun _ _ _ h => h) (Or.inl ⟨by rfl, ?_⟩) hS0 ?_
  · (intro w_ hw_; exact exec_convert 42 9 (.tmp 70) rfl rfl (hw_.2.1.strv))
  simp only [List.setIfInBounds_toArray, List.set_cons_zero, List.set_cons_succ]
  refine wpH_take (i := 43) (v := ?_) rfl rfl (by kernel_rfl) (by kernel_rfl) (by kernel_rfl) (fun _ _ _ h => h) (Or.inl ⟨by rfl, ?_⟩) hS0 ?_
  rotate_left
  · (intro w_ hw_; go_simp; try with_reducible rfl)
  simp only [List.setIfInBounds_toArray, List.set_cons_zero, List.set_cons_succ]
  have hf := full_anyv 2 19 u0 (by decide) (by decide)
  refine wpH_callv (i := 44) (by kernel_rfl) rfl rfl (by rfl) (hf) (by go_simp) ?_
  rintro _ u1 ⟨g9, rfl, ho9, hb9⟩
  have hS1 : (fun v => (v.cell? ⟨gg, 0, none⟩ = some (.slice (some ⟨gr, 0, none⟩) 2 cr) ∧ v.cell? ⟨gr, 2, none⟩ = some (.int .i64 6) ∧ v.cell? ⟨gr, 3, none⟩ = some (.slice (some p) 19 cp)) ∧ Byt v (.slice (some p) 19 cp) lb ∧ LSt w v b m vl4 D1 G L1) u1 := ⟨⟨cell_grew hS0.1.1 hb9, cell_grew hS0.1.2.1 hb9, cell_grew hS0.1.2.2 hb9⟩, hS0.2.1.grew hb9, hS0.2.2.grew hb9⟩
  clear hS0
  refine ⟨hS1, ?_⟩
  simp only [List.setIfInBounds_toArray, List.set_cons_zero, List.set_cons_succ]
  have hst := (Byt.of_own ho9 (by decide)).strw
  have hlb := HLB.out
  rw [← hlb] at hst
  clear hf hb9
  have hS2 : (fun v => (v.cell? ⟨gg, 0, none⟩ = some (.slice (some ⟨gr, 0, none⟩) 2 cr) ∧ v.cell? ⟨gr, 2, none⟩ = some (.int .i64 6) ∧ v.cell? ⟨gr, 3, none⟩ = some (.slice (some p) 19 cp)) ∧ Byt v (.slice (some p) 19 cp) lb ∧ LSt w v b m vl4 D1 G L1) u1 := hS1
  clear hS1
  refine wpH_run (i := 45) (v := (.string (str lb))) (w' := u1) (by kernel_rfl) rfl rfl (by rfl) (by exact exec_convert 42 9 (.tmp 73) rfl rfl hst) hS2 ?_
  simp only [List.setIfInBounds_toArray, List.set_cons_zero, List.set_cons_succ]
  clear hlb hst ho9
  refine wpH_take (i := 46) (v := ?_) rfl rfl (by kernel_rfl) (by kernel_rfl) (by kernel_rfl) (fun _ _ _ h => h) (Or.inl ⟨by rfl, ?_⟩) hS2 ?_
  rotate_left
  · (intro w_ hw_; go_simp; try with_reducible rfl)
  simp only [List.setIfInBounds_toArray, List.set_cons_zero, List.set_cons_succ]
  refine wpH_take (i := 47) (v := ?_) rfl rfl (by kernel_rfl) (by kernel_rfl) (by kernel_rfl) (fun _ _ _ h => h) (Or.inl ⟨by rfl, ?_⟩) hS2 ?_
  rotate_left
  · (intro w_ hw_; go_simp; try with_reducible rfl)
  simp only [List.setIfInBounds_toArray, List.set_cons_zero, List.set_cons_succ]
  refine wpH_take (i := 48) (v := ?_) rfl rfl (by kernel_rfl) (by kernel_rfl) (by kernel_rfl) (fun _ _ _ h => h) (Or.inl ⟨by rfl, ?_⟩) hS2 ?_
  rotate_left
  · (intro w_ hw_; go_simp; try with_reducible rfl)
  simp only [List.setIfInBounds_toArray, List.set_cons_zero, List.set_cons_succ]
  refine wpH_take (i := 49) (v := ?_) rfl rfl (by kernel_rfl) (by kernel_rfl) (by kernel_rfl) (fun _ _ _ h => h) (Or.inl ⟨by rfl, ?_⟩) hS2 ?_
  rotate_left
  · (intro w_ hw_; go_simp; try with_reducible rfl)
  simp only [List.setIfInBounds_toArray, List.set_cons_zero, List.set_cons_succ]
  have hl := Left_any hS2.2.2.log hS2.2.2.ok
  have hlv : Calls Try.prog 20 #[.pointer (some ⟨G, 0, none⟩)] u1 fun e w' => ∃ v, e = .returned v ∧ v = .int .i64 2 ∧ Below u1.heap.size u1 w' := hl.mono (by rintro e w' ⟨rfl, hb⟩; exact ⟨_, rfl, by rw [HL.out.1, HL.out.2]; rfl, hb⟩)
  clear hl
  refine wpH_callv (i := 50) (by kernel_rfl) rfl rfl (by rfl) (hlv) (by go_simp) ?_
  rintro _ u2 ⟨rfl, hb9⟩
  have hS3 : (fun v => (v.cell? ⟨gg, 0, none⟩ = some (.slice (some ⟨gr, 0, none⟩) 2 cr) ∧ v.cell? ⟨gr, 2, none⟩ = some (.int .i64 6) ∧ v.cell? ⟨gr, 3, none⟩ = some (.slice (some p) 19 cp)) ∧ Byt v (.slice (some p) 19 cp) lb ∧ LSt w v b m vl4 D1 G L1) u2 := ⟨⟨cell_grew hS2.1.1 hb9, cell_grew hS2.1.2.1 hb9, cell_grew hS2.1.2.2 hb9⟩, hS2.2.1.grew hb9, hS2.2.2.grew hb9⟩
  clear hS2
  refine ⟨hS3, ?_⟩
  simp only [List.setIfInBounds_toArray, List.set_cons_zero, List.set_cons_succ]
  clear hlv hb9
  refine wpH_take (i := 51) (v := ?_) rfl rfl (by kernel_rfl) (by kernel_rfl) (by kernel_rfl) (fun _ _ _ h => h) (Or.inl ⟨by rfl, ?_⟩) hS3 ?_
  rotate_left
  · (intro w_ hw_; go_simp; try with_reducible rfl)
  simp only [List.setIfInBounds_toArray, List.set_cons_zero, List.set_cons_succ]
  refine wpH_take (i := 52) (v := ?_) rfl rfl (by kernel_rfl) (by kernel_rfl) (by kernel_rfl) (fun _ _ _ h => h) (Or.inl ⟨by rfl, ?_⟩) hS3 ?_
  rotate_left
  · (intro w_ hw_; go_simp; try with_reducible rfl)
  simp only [List.setIfInBounds_toArray, List.set_cons_zero, List.set_cons_succ]
  refine wpH_take (i := 53) (v := ?_) rfl rfl (by kernel_rfl) (by kernel_rfl) (by kernel_rfl) (fun _ _ _ h => h) (Or.inl ⟨by rfl, ?_⟩) hS3 ?_
  rotate_left
  · (intro w_ hw_; go_simp; try with_reducible rfl)
  simp only [List.setIfInBounds_toArray, List.set_cons_zero]
  have B4 := hS3.2.2.dk.low
  clear hS3
  refine wpAnyH_done (by kernel_rfl) ?_ _

  go_wp2
  go_ret
  exact ⟨rfl, B4⟩
end Go.Proofs.Ytpomfokpmbblkaa
