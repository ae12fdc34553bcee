/- Walks: did. -/
import Derived.Test.YtklppnknllbfnaaGreatC5
namespace Go.Proofs.YtklppnknllbfnaaGreat
open Go.RowKit Go.Maps
set_option maxRecDepth 8000
set_option maxHeartbeats 8000000 in
theorem did_any (k pg ln : Int) (B : Nat) (v : World) (P : Value) (T : List Nat) (hT : ∀ j ∈ T, j < v.heap.size) (hB : B < 256) (Q : Int → World → Prop)
    (H0 : kindOf k = 0 → ∀ v1, Below v.heap.size v v1 → Calls Tryz.prog 12 #[P] v1 fun e w' => ∃ a er, e = .returned (.tuple #[.int .i64 a, .int .i64 er]) ∧ Q er w')
    (H3 : kindOf k = 3 → ∀ v1, Below v.heap.size v v1 → Calls Tryz.prog 22 #[P, .int .i64 pg] v1 fun e w' => ∃ er, e = .returned (.int .i64 er) ∧ Q er w')
    (H4 : kindOf k = 4 → ∀ v1, Below v.heap.size v v1 → Calls Tryz.prog 24 #[P, .int .i64 pg, .int .i64 ln] v1 fun e w' => ∃ er, e = .returned (.int .i64 er) ∧ Q er w')
    (H5 : kindOf k = 5 → ∀ v1, Below v.heap.size v v1 → Calls Tryz.prog 26 #[P] v1 fun e w' => ∃ er, e = .returned (.int .i64 er) ∧ Q er w')
    (H6 : kindOf k = 6 → ∀ v1, Below v.heap.size v v1 → Calls Tryz.prog 28 #[P] v1 fun e w' => ∃ er, e = .returned (.int .i64 er) ∧ Q er w')
    (H7 : kindOf k = 7 ∨ kindOf k = 8 → ∀ v1, Below v.heap.size v v1 → Calls Tryz.prog 30 #[P] v1 fun e w' => ∃ er, e = .returned (.int .i64 er) ∧ Q er w')
    (HW : kindOf k = 1 ∨ kindOf k = 2 → ∀ v1 A c, Below v.heap.size v v1 → Rd v1 v1.heap.size A (List.replicate (lenOf ln) B) → Calls Tryz.prog 31 #[P, .int .i64 pg, .slice A (lenOf ln) c] v1 fun e w' => ∃ u, e = .returned u ∧ ∃ er, u = .int .i64 er ∧ Q er w' ∧ Turn T v1 w') :
    Calls Tryz.prog 17 #[P, .agg #[.int .i64 k, .int .i64 pg, .int .i64 ln, .int .u8 (B : Nat)]] v fun e w' => ∃ er, e = .returned (.int .i64 er) ∧ Q er w' := by
  have hkd : kindOf k ≤ 8 := by unfold kindOf; omega
  have e1 : IntKind.i64.wrap (k.tmod 9) = k.tmod 9 := by
    have t1 := Int.lt_tmod_of_pos k (show (0 : Int) < 9 by omega)
    have t2 := Int.tmod_lt_of_pos k (show (0 : Int) < 9 by omega)
    rw [IntKind.wrap_i64]; omega
  have e2 : IntKind.i64.wrap (k.tmod 9 + 9) = k.tmod 9 + 9 := by
    have t1 := Int.lt_tmod_of_pos k (show (0 : Int) < 9 by omega)
    have t2 := Int.tmod_lt_of_pos k (show (0 : Int) < 9 by omega)
    rw [IntKind.wrap_i64]; omega
  have e3 : IntKind.i64.wrap ((k.tmod 9 + 9).tmod 9) = (kindOf k : Int) := by
    have h := rem_mod k 9 (by omega)
    have h' : (k.tmod 9 + 9).tmod 9 = ((k % 9).toNat : Int) := h
    rw [h', IntKind.wrap_i64]; unfold kindOf at *; omega
  have HB1 := Lib.hid (fun w1 (e : w1 = v.alloc (.cells #[.int .i64 k, .int .i64 pg, .int .i64 ln, .int .u8 (B : Nat)] 39)) => (show Below v.heap.size v w1 ∧ Blk w1 v.heap.size #[.int .i64 k, .int .i64 pg, .int .i64 ln, .int .u8 (B : Nat)] 39 by rw [e]; exact ⟨(Below.refl _ v).alloc (Nat.le_refl _) _, Blk.new _ _ _⟩))
  obtain ⟨w1, hw1⟩ : ∃ w1, w1 = v.alloc (.cells #[.int .i64 k, .int .i64 pg, .int .i64 ln, .int .u8 (B : Nat)] 39) := ⟨_, rfl⟩
  obtain ⟨hb, hz⟩ := HB1.out w1 hw1
  have HB := Lib.hid hb
  have c0 := hz.cell 0
  have c1 := hz.cell 1
  have c2 := hz.cell 2
  simp only [List.getElem?_toArray, List.getElem?_cons_succ, List.getElem?_cons_zero] at c0 c1 c2
  have HT := Lib.hid hT
  obtain ⟨Z, hZ⟩ : ∃ Z, Z = v.heap.size := ⟨_, rfl⟩
  rw [← hZ] at hz c0 c1 c2
  have HZ := Lib.hid hz
  have HZE := Lib.hid hZ
  have hwe : v.alloc (.cells #[.int .i64 k, .int .i64 pg, .int .i64 ln, .int .u8 (B : Nat)] 39) = w1 := hw1.symm
  have hze : v.heap.size = Z := hZ.symm
  have HH0 := Lib.hid (fun h => H0 h w1 hb)
  have HH3 := Lib.hid (fun h => H3 h w1 hb)
  have HH4 := Lib.hid (fun h => H4 h w1 hb)
  have HH5 := Lib.hid (fun h => H5 h w1 hb)
  have HH6 := Lib.hid (fun h => H6 h w1 hb)
  have HH7 := Lib.hid (fun h => H7 h w1 hb)
  have HHW := Lib.hid HW
  have HBB := Lib.hid hB
  have e4 : (k.tmod 9 + 9).tmod 9 = (kindOf k : Int) := by
    have h := rem_mod k 9 (by omega)
    exact h
  clear H0 H3 H4 H5 H6 H7 HW hT hB hb hz hZ hw1 HB1 e3
  obtain ⟨kd, hkE⟩ : ∃ kd, kd = kindOf k := ⟨_, rfl⟩
  rw [← hkE] at hkd HH0 HH3 HH4 HH5 HH6 HH7 HHW e4
  clear hkE
  have hcs : kd = 0 ∨ kd = 1 ∨ kd = 2 ∨ kd = 3 ∨ kd = 4 ∨ kd = 5 ∨ kd = 6 ∨ kd = 7 ∨ kd = 8 := by omega
  clear hkd
  rcases hcs with rfl | rfl | rfl | rfl | rfl | rfl | rfl | rfl | rfl
  · have e5 : (k.tmod 9 + 9).tmod 9 = 0 := by rw [e4]; rfl
    clear e4
    go_enter Tryz.func17, Tryz.ntmps17
    go_wp2_with fail
    refine (HH0.out (by simp)).mono ?_
    rintro e w2 ⟨a, er, rfl, hq⟩
    have HQ := Lib.hid hq
    clear hq
    go_wp2
    go_ret
    exact ⟨_, rfl, HQ.out⟩
  · have e5 : (k.tmod 9 + 9).tmod 9 = 1 := by rw [e4]; rfl
    clear e4
    have HW := Lib.hid (HHW.out (by simp))
    clear HHW HH0 HH3 HH4 HH5 HH6 HH7
    go_enter Tryz.func17, Tryz.ntmps17
    go_wp2_with fail
    refine wp_region_H (fun v => Blk v Z #[.int .i64 k, .int .i64 pg, .int .i64 ln, .int .u8 (B : Nat)] 39) (by kernel_rfl) (fun v0 hv0 => ?_)
    have hS0 : (fun v => Blk v Z #[.int .i64 k, .int .i64 pg, .int .i64 ln, .int .u8 (B : Nat)] 39) v0 := by subst hv0; exact HZ.out.drew
    have HB0 : Hid (Below v.heap.size v v0) := Lib.hid (by subst hv0; exact HB.out.trans ((Below.refl _ _).drew.mono HB.out.size))
    clear hv0
    refine wpH_take (i := 0) (v := ?_) rfl rfl (by kernel_rfl) (by kernel_rfl) (by kernel_rfl) (fun _ _ _ h => h) (Or.inl ⟨by rfl, ?_⟩) hS0 ?_
    rotate_left
    · (intro w_ hw_; go_simp; try with_reducible rfl)
    simp only [List.setIfInBounds_toArray, List.set_cons_zero, List.set_cons_succ]
    refine wpH_take (i := 1) (v := ?_) rfl rfl (by kernel_rfl) (by kernel_rfl) (by kernel_rfl) (fun _ _ _ h => h) (Or.inl ⟨by rfl, ?_⟩) hS0 ?_
    rotate_left
    · (intro w_ hw_; go_simp; try with_reducible rfl)
    simp only [List.setIfInBounds_toArray, List.set_cons_zero, List.set_cons_succ]
    refine wpH_take (i := 2) (v := ?_) rfl rfl (by kernel_rfl) (by kernel_rfl) (by kernel_rfl) (fun _ _ _ h => h) (Or.inl ⟨by rfl, ?_⟩) hS0 ?_
    rotate_left
    · (intro w_ hw_; have q := hw_.four; go_simp; try with_reducible rfl)
    simp only [List.setIfInBounds_toArray, List.set_cons_zero, List.set_cons_succ]
    refine wpH_take (i := 3) (v := ?_) rfl rfl (by kernel_rfl) (by kernel_rfl) (by kernel_rfl) (fun _ _ _ h => h) (Or.inl ⟨by rfl, ?_⟩) hS0 ?_
    rotate_left
    · (intro w_ hw_; have q := hw_.four; go_simp; try with_reducible rfl)
    simp only [List.setIfInBounds_toArray, List.set_cons_zero, List.set_cons_succ]
    refine wpH_callv (i := 4) (by kernel_rfl) rfl rfl (by rfl) (load_tup (actload_any k pg ln B v0 HBB.out)) (by go_simp) ?_
    rintro _ v1 ⟨A, c, rfl, hrd, hb1⟩
    have hS1 : (fun v => Blk v Z #[.int .i64 k, .int .i64 pg, .int .i64 ln, .int .u8 (B : Nat)] 39) v1 := hS0.grew hb1
    clear hS0
    refine ⟨hS1, ?_⟩
    simp only [List.setIfInBounds_toArray, List.set_cons_zero, List.set_cons_succ]
    have hb2 := HB0.out.trans (hb1.mono HB0.out.size)
    have hwr := HW.out v1 A c hb2 hrd
    have HZ1 := Lib.hid (id hS1)
    clear hrd hb1
    refine wpH_callv (i := 5) (by kernel_rfl) rfl rfl (by rfl) (hwr) (by go_simp) ?_
    rintro _ v2 ⟨er, rfl, hq, ht⟩
    have hS2 : (fun v => Blk v Z #[.int .i64 k, .int .i64 pg, .int .i64 ln, .int .u8 (B : Nat)] 39) v2 := Blk.turn HZ1.out ht (fun hm => by have := HT.out _ hm; omega)
    clear hS1
    refine ⟨hS2, ?_⟩
    simp only [List.setIfInBounds_toArray, List.set_cons_zero, List.set_cons_succ]
    have HQ := Lib.hid hq
    clear hq ht hb2 hwr HZ1
    refine wpH_take (i := 6) (v := ?_) rfl rfl (by kernel_rfl) (by kernel_rfl) (by kernel_rfl) (fun _ _ _ h => h) (Or.inl ⟨by rfl, ?_⟩) hS2 ?_
    rotate_left
    · (intro w_ hw_; go_simp; try with_reducible rfl)
    simp only [List.setIfInBounds_toArray, List.set_cons_zero, List.set_cons_succ]
    clear hS2
    refine wpAnyH_done (by kernel_rfl) ?_ _
    go_wp2
    go_ret
    exact ⟨er, rfl, HQ.out⟩
  · have e5 : (k.tmod 9 + 9).tmod 9 = 2 := by rw [e4]; rfl
    clear e4
    have HW := Lib.hid (HHW.out (by simp))
    clear HHW HH0 HH3 HH4 HH5 HH6 HH7
    go_enter Tryz.func17, Tryz.ntmps17
    go_wp2_with fail
    refine wp_region_H (fun v => Blk v Z #[.int .i64 k, .int .i64 pg, .int .i64 ln, .int .u8 (B : Nat)] 39) (by kernel_rfl) (fun v0 hv0 => ?_)
    have hS0 : (fun v => Blk v Z #[.int .i64 k, .int .i64 pg, .int .i64 ln, .int .u8 (B : Nat)] 39) v0 := by subst hv0; exact HZ.out.drew
    have HB0 : Hid (Below v.heap.size v v0) := Lib.hid (by subst hv0; exact HB.out.trans ((Below.refl _ _).drew.mono HB.out.size))
    clear hv0
    refine wpH_take (i := 0) (v := ?_) rfl rfl (by kernel_rfl) (by kernel_rfl) (by kernel_rfl) (fun _ _ _ h => h) (Or.inl ⟨by rfl, ?_⟩) hS0 ?_
    rotate_left
    · (intro w_ hw_; go_simp; try with_reducible rfl)
    simp only [List.setIfInBounds_toArray, List.set_cons_zero, List.set_cons_succ]
    refine wpH_take (i := 1) (v := ?_) rfl rfl (by kernel_rfl) (by kernel_rfl) (by kernel_rfl) (fun _ _ _ h => h) (Or.inl ⟨by rfl, ?_⟩) hS0 ?_
    rotate_left
    · (intro w_ hw_; go_simp; try with_reducible rfl)
    simp only [List.setIfInBounds_toArray, List.set_cons_zero, List.set_cons_succ]
    refine wpH_take (i := 2) (v := ?_) rfl rfl (by kernel_rfl) (by kernel_rfl) (by kernel_rfl) (fun _ _ _ h => h) (Or.inl ⟨by rfl, ?_⟩) hS0 ?_
    rotate_left
    · (intro w_ hw_; have q := hw_.four; go_simp; try with_reducible rfl)
    simp only [List.setIfInBounds_toArray, List.set_cons_zero, List.set_cons_succ]
    refine wpH_take (i := 3) (v := ?_) rfl rfl (by kernel_rfl) (by kernel_rfl) (by kernel_rfl) (fun _ _ _ h => h) (Or.inl ⟨by rfl, ?_⟩) hS0 ?_
    rotate_left
    · (intro w_ hw_; have q := hw_.four; go_simp; try with_reducible rfl)
    simp only [List.setIfInBounds_toArray, List.set_cons_zero, List.set_cons_succ]
    refine wpH_callv (i := 4) (by kernel_rfl) rfl rfl (by rfl) (load_tup (actload_any k pg ln B v0 HBB.out)) (by go_simp) ?_
    rintro _ v1 ⟨A, c, rfl, hrd, hb1⟩
    have hS1 : (fun v => Blk v Z #[.int .i64 k, .int .i64 pg, .int .i64 ln, .int .u8 (B : Nat)] 39) v1 := hS0.grew hb1
    clear hS0
    refine ⟨hS1, ?_⟩
    simp only [List.setIfInBounds_toArray, List.set_cons_zero, List.set_cons_succ]
    have hb2 := HB0.out.trans (hb1.mono HB0.out.size)
    have hwr := HW.out v1 A c hb2 hrd
    have HZ1 := Lib.hid (id hS1)
    clear hrd hb1
    refine wpH_callv (i := 5) (by kernel_rfl) rfl rfl (by rfl) (hwr) (by go_simp) ?_
    rintro _ v2 ⟨er, rfl, hq, ht⟩
    have hS2 : (fun v => Blk v Z #[.int .i64 k, .int .i64 pg, .int .i64 ln, .int .u8 (B : Nat)] 39) v2 := Blk.turn HZ1.out ht (fun hm => by have := HT.out _ hm; omega)
    clear hS1
    refine ⟨hS2, ?_⟩
    simp only [List.setIfInBounds_toArray, List.set_cons_zero, List.set_cons_succ]
    have HQ := Lib.hid hq
    clear hq ht hb2 hwr HZ1
    refine wpH_take (i := 6) (v := ?_) rfl rfl (by kernel_rfl) (by kernel_rfl) (by kernel_rfl) (fun _ _ _ h => h) (Or.inl ⟨by rfl, ?_⟩) hS2 ?_
    rotate_left
    · (intro w_ hw_; go_simp; try with_reducible rfl)
    simp only [List.setIfInBounds_toArray, List.set_cons_zero, List.set_cons_succ]
    clear hS2
    refine wpAnyH_done (by kernel_rfl) ?_ _
    go_wp2
    go_ret
    exact ⟨er, rfl, HQ.out⟩
  · have e5 : (k.tmod 9 + 9).tmod 9 = 3 := by rw [e4]; rfl
    clear e4
    go_enter Tryz.func17, Tryz.ntmps17
    go_wp2_with fail
    refine (HH3.out (by simp)).mono ?_
    rintro e w2 ⟨er, rfl, hq⟩
    have HQ := Lib.hid hq
    clear hq
    go_wp2
    go_ret
    exact ⟨_, rfl, HQ.out⟩
  · have e5 : (k.tmod 9 + 9).tmod 9 = 4 := by rw [e4]; rfl
    clear e4
    go_enter Tryz.func17, Tryz.ntmps17
    go_wp2_with fail
    refine (HH4.out (by simp)).mono ?_
    rintro e w2 ⟨er, rfl, hq⟩
    have HQ := Lib.hid hq
    clear hq
    go_wp2
    go_ret
    exact ⟨_, rfl, HQ.out⟩
  · have e5 : (k.tmod 9 + 9).tmod 9 = 5 := by rw [e4]; rfl
    clear e4
    go_enter Tryz.func17, Tryz.ntmps17
    go_wp2_with fail
    refine (HH5.out (by simp)).mono ?_
    rintro e w2 ⟨er, rfl, hq⟩
    have HQ := Lib.hid hq
    clear hq
    go_wp2
    go_ret
    exact ⟨_, rfl, HQ.out⟩
  · have e5 : (k.tmod 9 + 9).tmod 9 = 6 := by rw [e4]; rfl
    clear e4
    go_enter Tryz.func17, Tryz.ntmps17
    go_wp2_with fail
    refine (HH6.out (by simp)).mono ?_
    rintro e w2 ⟨er, rfl, hq⟩
    have HQ := Lib.hid hq
    clear hq
    go_wp2
    go_ret
    exact ⟨_, rfl, HQ.out⟩
  · have e5 : (k.tmod 9 + 9).tmod 9 = 7 := by rw [e4]; rfl
    clear e4
    go_enter Tryz.func17, Tryz.ntmps17
    go_wp2_with fail
    refine (HH7.out (by simp)).mono ?_
    rintro e w2 ⟨er, rfl, hq⟩
    have HQ := Lib.hid hq
    clear hq
    go_wp2
    go_ret
    exact ⟨_, rfl, HQ.out⟩
  · have e5 : (k.tmod 9 + 9).tmod 9 = 8 := by rw [e4]; rfl
    clear e4
    go_enter Tryz.func17, Tryz.ntmps17
    go_wp2_with fail
    refine (HH7.out (by simp)).mono ?_
    rintro e w2 ⟨er, rfl, hq⟩
    have HQ := Lib.hid hq
    clear hq
    go_wp2
    go_ret
    exact ⟨_, rfl, HQ.out⟩
end Go.Proofs.YtklppnknllbfnaaGreat
