/- Walks: Write. -/
import Derived.Test.YtapllljbbldfkaaW2
import Derived.Test.YtapllljbbldfkaaFree
namespace Go.Proofs.Ytapllljbbldfkaa
open Go.RowKit Go.Maps
variable {ι : Type} [Bar ι]

theorem stands_disk (b m : Nat) (vl : Value) (D : Dsk) : Stands fun w => DiskAt w b m vl D := fun _ _ h k => k.grew h
theorem stands_turn (T : List Nat) (w : World) : Stands fun v => Turn T w v := fun _ _ h k => k.tail h
theorem stands_byt (v : Value) (l : List Nat) : Stands fun w => Byt w v l := fun _ _ h k => k.grew h
theorem stands_bytp (v : Value) (l : List Nat) : Stands fun w => BytP w v l := fun _ _ h k => k.grew h
theorem stands_loose (v : Value) (L : List (Int × List Nat)) : Stands fun w => Loose w v L := fun _ _ h k => k.turn (Turn.of_below h []) (by intro _ h; simp at h) (by simp)
theorem stands_fast (m s z : Nat) (f : Int → List Nat) : Stands fun w => Fast w m s z f := fun _ _ h k => k.turn (Turn.of_below h []) (by intro _ h; simp at h) (by simp)

theorem DiskAt.push {w : World} {b m : Nat} {vl v : Value} {D : Dsk} {L : List (Int × List Nat)} (h : DiskAt w b m vl D) (hl : Loose w v L) (hok : ({ D with loose := L } : Dsk).Ok) :
    DiskAt (w.setCell ⟨b, 3, none⟩ v) b m v { D with loose := L } := by
  have ht : Turn [b] w (w.setCell ⟨b, 3, none⟩ v) := (Turn.refl [b] w).set (.inl (by simp)) _
  refine ⟨hok, ?_, h.fast.turn ht h.nobytes1 (by simp; exact Ne.symm h.kinds.1), hl.turn ht h.nobytes1 (fun g hg => ?_), fun j hj => h.bar j (by simpa using hj)⟩
  · have := h.blk.set 3 v
    simpa using this
  · obtain ⟨cs, e⟩ := hl.kind hg
    simp
    intro e'
    subst e'
    have := h.blk
    unfold Blk at this
    rw [this] at e
    cases e

theorem clone_byt {w : World} {p : Addr} {n c : Nat} {l : List Nat} (h : Byt w (.slice (some p) n c) l) (h1 : 1 ≤ n) (h2 : n ≤ 4096) (hP : ∀ k, w.heap.size ≤ k → Bar.P k) :
    Calls Try.prog 32 #[.slice (some p) n c] w fun e w' => ∃ v, e = .returned v ∧ ∃ p' c', v = .slice (some p') n c' ∧ BytP w' v l ∧ Below w.heap.size w w' := by
  obtain ⟨p', c', e, hc, hr⟩ := h.rd
  injection e with e1 e2 e3
  injection e1 with e1
  subst e1
  refine (Clone_any p l n c w e2.symm hr (by omega)).mono ?_
  rintro e w' ⟨v, rfl, ho, hb⟩
  have hv := BytP.of_own ho (by intro e; rw [e] at e2; simp at e2; omega) hP
  obtain ⟨p2, c2, e', _, _⟩ := hv.1.rd
  exact ⟨v, rfl, p2, c2, by rw [e', e2], hv, hb⟩

set_option maxHeartbeats 4000000 in
theorem Write_main (a : Int) (p : Addr) (c : Nat) (l : List Nat) (b m : Nat) (vl : Value) (D : Dsk) (w : World) (h : DiskAt w b m vl D) (hb : Byt w (.slice (some p) D.size c) l) (hr : D.ready a = 0) (hn : l.length = D.size) (hL : D.loose.length ≤ 1000000000) :
    Calls Try.prog 24 #[.pointer (some ⟨b, 0, none⟩), .int .i64 a, .slice (some p) D.size c] w fun e w' => e = .returned (.int .i64 (if D.act.down then 4 else 0)) ∧ ∃ vl', DiskAt w' b m vl' (D.put a l) ∧ Turn (own b m vl) w w' ∧ ∀ g, vl'.ownBlock = some g → vl.ownBlock = some g ∨ w.heap.size ≤ g := by
  have hok := h.ok.put a l hb.1
  obtain ⟨DD, hDD⟩ : ∃ DD, DD = D.put a l := ⟨_, rfl⟩
  obtain ⟨z, hz⟩ : ∃ z, z = D.act.down := ⟨_, rfl⟩
  rw [← hDD, ← hz]
  have HE := Lib.hid (hDD.trans (Dsk.put_eq hr hn))
  have HZZ := Lib.hid hz
  rw [Dsk.put_eq hr hn] at hok
  clear hDD hz
  have HOK := Lib.hid hok
  have HZ := Lib.hid (And.intro (show 1 ≤ D.size from Nat.le_trans (by omega) h.ok.z1) h.ok.z2)
  have HL := Lib.hid hL
  have H := Lib.hid h
  have HB0 := Lib.hid hb
  have hrd := ready_any a h
  rw [hr] at hrd
  have HRD := Lib.hid hrd
  have hsz := h.six.2.1
  clear hok hL h hb hr hrd
  go_enter Try.func24, Try.ntmps24
  go_wp2_with fail
  refine HRD.out.mono ?_
  rintro e w1 ⟨rfl, rfl⟩
  go_wp2_with fail
  refine (act_any H.out).mono ?_
  rintro e w2 ⟨rfl, hd2, ht2⟩
  rw [← HZZ.out]
  have HD := Lib.hid hd2
  have HT := Lib.hid (show Turn (own b m vl) w1 w2 from ht2.mono (fun k hk _ => mem_own.2 (.inl (by simpa using hk))))
  have HB := Lib.hid (HB0.out.turn ht2 H.out.nobytes1)
  clear hd2 ht2 hsz HB0 H HRD
  go_wp2_with fail
  obtain ⟨Sa0, Sa0d⟩ : ∃ S : World → Prop, S = fun v : World => DiskAt v b m vl D.act ∧ Turn (own b m vl) w1 v ∧ Byt v (.slice (some p) D.size c) l ∧ w1.heap.size ≤ v.heap.size := ⟨_, rfl⟩
  have Sa0t0 : Stands Sa0 := by rw [Sa0d]; exact ((stands_disk _ _ _ _).and ((stands_turn _ _).and ((stands_byt _ _).and (stands_size _))))
  have Sa0u0 : ∀ v, Sa0 v → DiskAt v b m vl D.act ∧ Turn (own b m vl) w1 v ∧ Byt v (.slice (some p) D.size c) l ∧ w1.heap.size ≤ v.heap.size := fun v h => by rw [Sa0d] at h; exact h
  have Sa0m0 : ∀ v, (DiskAt v b m vl D.act ∧ Turn (own b m vl) w1 v ∧ Byt v (.slice (some p) D.size c) l ∧ w1.heap.size ≤ v.heap.size) → Sa0 v := fun v h => by rw [Sa0d]; exact h
  have Sa0u := Lib.hid Sa0u0
  have Sa0m := Lib.hid Sa0m0
  have Sa0t := Lib.hid Sa0t0
  clear Sa0d Sa0u0 Sa0m0 Sa0t0
  refine wp_region_X (S := Sa0) (by kernel_rfl) (Sa0m.out _ ⟨HD.out.drew, HT.out.drew, HB.out.grew ⟨rfl, rfl, rfl, Nat.le_refl _, fun _ _ => rfl⟩, (by simpa using HT.out.size)⟩) ?_
  clear HD HT HB
  refine wpX_take (i := 0) (v := ?_) Sa0t.out rfl rfl (by kernel_rfl) (by kernel_rfl) (by kernel_rfl) (by kernel_rfl) (fun _ _ _ h => h) (SteadyX.value (by rfl) ?_) ?_
  rotate_left
  · (intro w_ hS; go_simp; try with_reducible rfl)
  simp only [List.setIfInBounds_toArray, List.set_cons_zero, List.set_cons_succ]
  refine wpX_take (i := 1) (v := ?_) Sa0t.out rfl rfl (by kernel_rfl) (by kernel_rfl) (by kernel_rfl) (by kernel_rfl) (fun _ _ _ h => h) (SteadyX.value (by rfl) ?_) ?_
  rotate_left
  · (intro w_ hS; go_simp; try with_reducible rfl)
  simp only [List.setIfInBounds_toArray, List.set_cons_zero, List.set_cons_succ]
  refine wpX_take (i := 2) (v := ?_) Sa0t.out rfl rfl (by kernel_rfl) (by kernel_rfl) (by kernel_rfl) (by kernel_rfl) (fun _ _ _ h => h) (SteadyX.value (by rfl) ?_) ?_
  rotate_left
  · (intro w_ hS; obtain ⟨q0, q1, q2, q3⟩ := Sa0u.out _ hS; (have q9 := q0.six); go_simp; try with_reducible rfl)
  simp only [List.setIfInBounds_toArray, List.set_cons_zero, List.set_cons_succ]
  refine wpX_take (i := 3) (v := ?_) Sa0t.out rfl rfl (by kernel_rfl) (by kernel_rfl) (by kernel_rfl) (by kernel_rfl) (fun _ _ _ h => h) (SteadyX.value (by rfl) ?_) ?_
  rotate_left
  · (intro w_ hS; go_simp; try with_reducible rfl)
  simp only [List.setIfInBounds_toArray, List.set_cons_zero, List.set_cons_succ]
  refine wpX_take (i := 4) (v := ?_) Sa0t.out rfl rfl (by kernel_rfl) (by kernel_rfl) (by kernel_rfl) (by kernel_rfl) (fun _ _ _ h => h) (SteadyX.value (by rfl) ?_) ?_
  rotate_left
  · (intro w_ hS; obtain ⟨q0, q1, q2, q3⟩ := Sa0u.out _ hS; (have q9 := q0.six); go_simp; try with_reducible rfl)
  simp only [List.setIfInBounds_toArray, List.set_cons_zero, List.set_cons_succ]
  refine wpX_take (i := 5) (v := ?_) Sa0t.out rfl rfl (by kernel_rfl) (by kernel_rfl) (by kernel_rfl) (by kernel_rfl) (fun _ _ _ h => h) (SteadyX.value (by rfl) ?_) ?_
  rotate_left
  · (intro w_ hS; go_simp; try with_reducible rfl)
  simp only [List.setIfInBounds_toArray, List.set_cons_zero, List.set_cons_succ]
  refine wpX_take (i := 6) (v := ?_) Sa0t.out rfl rfl (by kernel_rfl) (by kernel_rfl) (by kernel_rfl) (by kernel_rfl) (fun _ _ _ h => h) (SteadyX.value (by rfl) ?_) ?_
  rotate_left
  · (intro w_ hS; go_simp; try with_reducible rfl)
  simp only [List.setIfInBounds_toArray, List.set_cons_zero, List.set_cons_succ]
  refine wpX_take (i := 7) (v := ?_) Sa0t.out rfl rfl (by kernel_rfl) (by kernel_rfl) (by kernel_rfl) (by kernel_rfl) (fun _ _ _ h => h) (SteadyX.value (by rfl) ?_) ?_
  rotate_left
  · (intro w_ hS; go_simp; try with_reducible rfl)
  simp only [List.setIfInBounds_toArray, List.set_cons_zero, List.set_cons_succ]
  refine wpX_one (i := 8) (by kernel_rfl) (fun w_ hS => ?_)
  obtain ⟨q0, q1, q2, q3⟩ := Sa0u.out _ hS
  refine wpX_call rfl rfl (by rfl) (clone_byt q2 HZ.out.1 HZ.out.2 q0.bar) (by go_simp) ?_
  rintro _ w1_ ⟨p5, c5, rfl, hv, hb⟩
  obtain ⟨Sa1, Sa1d⟩ : ∃ S : World → Prop, S = fun v : World => DiskAt v b m vl D.act ∧ Turn (own b m vl) w1 v ∧ Byt v (.slice (some p) D.size c) l ∧ w1.heap.size ≤ v.heap.size ∧ BytP v (.slice (some p5) D.size c5) l := ⟨_, rfl⟩
  have Sa1t0 : Stands Sa1 := by rw [Sa1d]; exact ((stands_disk _ _ _ _).and ((stands_turn _ _).and ((stands_byt _ _).and ((stands_size _).and (stands_bytp _ _)))))
  have Sa1u0 : ∀ v, Sa1 v → DiskAt v b m vl D.act ∧ Turn (own b m vl) w1 v ∧ Byt v (.slice (some p) D.size c) l ∧ w1.heap.size ≤ v.heap.size ∧ BytP v (.slice (some p5) D.size c5) l := fun v h => by rw [Sa1d] at h; exact h
  have Sa1m0 : ∀ v, (DiskAt v b m vl D.act ∧ Turn (own b m vl) w1 v ∧ Byt v (.slice (some p) D.size c) l ∧ w1.heap.size ≤ v.heap.size ∧ BytP v (.slice (some p5) D.size c5) l) → Sa1 v := fun v h => by rw [Sa1d]; exact h
  have Sa1u := Lib.hid Sa1u0
  have Sa1m := Lib.hid Sa1m0
  have Sa1t := Lib.hid Sa1t0
  clear Sa1d Sa1u0 Sa1m0 Sa1t0
  refine ⟨Sa1, Sa1t.out, .inr (fun v h => Sa0m.out _ (by obtain ⟨q0, q1, q2, q3, q4⟩ := Sa1u.out _ h; exact ⟨q0, q1, q2, q3⟩)), Sa1m.out _ ⟨(stands_disk _ _ _ _) _ _ hb q0, (stands_turn _ _) _ _ hb q1, (stands_byt _ _) _ _ hb q2, (stands_size _) _ _ hb q3, hv⟩, ?_⟩
  clear hS q0 q1 q2 q3
  clear hv hb
  clear w1_ w_
  simp only [List.setIfInBounds_toArray, List.set_cons_zero, List.set_cons_succ]
  refine wpX_take (i := 9) (v := ?_) Sa1t.out rfl rfl (by kernel_rfl) (by kernel_rfl) (by kernel_rfl) (by kernel_rfl) (fun _ _ _ h => h) (SteadyX.value (by rfl) ?_) ?_
  rotate_left
  · (intro w_ hS; go_simp; try with_reducible rfl)
  simp only [List.setIfInBounds_toArray, List.set_cons_zero, List.set_cons_succ]
  refine wpX_one (i := 10) (by kernel_rfl) (fun w_ hS => ?_)
  obtain ⟨q0, q1, q2, q3, q4⟩ := Sa1u.out _ hS
  obtain ⟨g_, hg_⟩ : ∃ g_, g_ = w_.heap.size := ⟨_, rfl⟩
  have LG := Lib.hid (fun g (hg : vl.ownBlock = some g) => Nat.ne_of_lt (show g < g_ by have := q0.loose.lt hg; omega))
  obtain ⟨Sa2, Sa2d⟩ : ∃ S : World → Prop, S = fun v : World => DiskAt v b m vl D.act ∧ Turn (own b m vl) w1 v ∧ Byt v (.slice (some p) D.size c) l ∧ w1.heap.size ≤ v.heap.size ∧ BytP v (.slice (some p5) D.size c5) l ∧ Blk v g_ #[.int .i64 a, (.slice (some p5) D.size c5)] 68 := ⟨_, rfl⟩
  have Sa2t0 : Stands Sa2 := by rw [Sa2d]; exact ((stands_disk _ _ _ _).and ((stands_turn _ _).and ((stands_byt _ _).and ((stands_size _).and ((stands_bytp _ _).and (stands_blk _ _ _))))))
  have Sa2u0 : ∀ v, Sa2 v → DiskAt v b m vl D.act ∧ Turn (own b m vl) w1 v ∧ Byt v (.slice (some p) D.size c) l ∧ w1.heap.size ≤ v.heap.size ∧ BytP v (.slice (some p5) D.size c5) l ∧ Blk v g_ #[.int .i64 a, (.slice (some p5) D.size c5)] 68 := fun v h => by rw [Sa2d] at h; exact h
  have Sa2m0 : ∀ v, (DiskAt v b m vl D.act ∧ Turn (own b m vl) w1 v ∧ Byt v (.slice (some p) D.size c) l ∧ w1.heap.size ≤ v.heap.size ∧ BytP v (.slice (some p5) D.size c5) l ∧ Blk v g_ #[.int .i64 a, (.slice (some p5) D.size c5)] 68) → Sa2 v := fun v h => by rw [Sa2d]; exact h
  have Sa2u := Lib.hid Sa2u0
  have Sa2m := Lib.hid Sa2m0
  have Sa2t := Lib.hid Sa2t0
  clear Sa2d Sa2u0 Sa2m0 Sa2t0
  have st_ : Sa2 (w_.alloc (.cells #[.int .i64 a, (.slice (some p5) D.size c5)] 68)) := Sa2m.out _ ⟨(stands_disk _ _ _ _) _ _ ((Below.refl _ w_).alloc (Nat.le_refl _) _) q0, (stands_turn _ _) _ _ ((Below.refl _ w_).alloc (Nat.le_refl _) _) q1, (stands_byt _ _) _ _ ((Below.refl _ w_).alloc (Nat.le_refl _) _) q2, (stands_size _) _ _ ((Below.refl _ w_).alloc (Nat.le_refl _) _) q3, (stands_bytp _ _) _ _ ((Below.refl _ w_).alloc (Nat.le_refl _) _) q4, Blk.new' w_ _ _ hg_⟩
  refine wpX_run (i := 10) (v := (.slice (some ⟨g_, 0, none⟩) 1 1)) (w' := (w_.alloc (.cells #[.int .i64 a, (.slice (some p5) D.size c5)] 68))) Sa2 rfl rfl (by rfl) (by (subst hg_; go_simp)) Sa2t.out (.inr fun v h => Sa1m.out _ (by obtain ⟨q0, q1, q2, q3, q4, q5⟩ := Sa2u.out _ h; exact ⟨q0, q1, q2, q3, q4⟩)) st_ ?_
  clear hS st_ hg_ q0 q1 q2 q3 q4
  clear w_
  simp only [List.setIfInBounds_toArray, List.set_cons_zero, List.set_cons_succ]
  refine wpX_one (i := 11) (by kernel_rfl) (fun w_ hS => ?_)
  obtain ⟨q0, q1, q2, q3, q4, q5⟩ := Sa2u.out _ hS
  obtain ⟨v6_, w6, happ, hl6, hl6', hgr6, hloc6⟩ := q0.loose.append (by rw [Dsk.act_loose]; exact HL.out) q5 q4
  obtain ⟨A6, c6, rfl, h61, h62⟩ := hl6.form
  clear h61 h62
  obtain ⟨v6, rv6⟩ : ∃ v6, v6 = Value.slice A6 (D.act.loose ++ [(a, l)]).length c6 := ⟨_, rfl⟩
  rw [← rv6] at happ hl6 hloc6
  have hnb := q0.nobytes
  have ht6 : Turn vl.ownBlock.toList w_ w6 := (Turn.refl _ w_).grown hgr6 (fun k e => .inl (by simp [e]))
  have hsub : ∀ k ∈ vl.ownBlock.toList, k ∈ own b m vl := fun k hk => mem_own.2 (.inr (.inr (by simpa using hk)))
  have hnb6 : NoBytes w_ vl.ownBlock.toList := fun k hk => hnb k (hsub k hk)
  have hkd := q0.kinds
  have hd6 : DiskAt w6 b m vl D.act := ⟨q0.ok, (ht6.block b q0.blk.lt (fun hk => (hkd.2 b (by simpa using hk)).1 rfl)).trans q0.blk, q0.fast.turn ht6 hnb6 (fun hk => (hkd.2 m (by simpa using hk)).2 rfl), hl6', fun j hj => q0.bar j (Nat.le_trans ht6.size hj)⟩
  have hg6 : Blk w6 g_ #[.int .i64 a, .slice (some p5) D.size c5] 68 := (ht6.block g_ q5.lt (fun hk => LG.out g_ (by simpa using hk) rfl)).trans q5
  have LV := Lib.hid (fun g (hg : v6.ownBlock = some g) => (show vl.ownBlock = some g ∨ w1.heap.size ≤ g by
    rcases hloc6 with e | e
    · exact .inl (e ▸ hg)
    · rw [hg] at e; injection e with e; omega))
  obtain ⟨Sa3, Sa3d⟩ : ∃ S : World → Prop, S = fun v : World => DiskAt v b m vl D.act ∧ Turn (own b m vl) w1 v ∧ Byt v (.slice (some p) D.size c) l ∧ w1.heap.size ≤ v.heap.size ∧ BytP v (.slice (some p5) D.size c5) l ∧ Blk v g_ #[.int .i64 a, (.slice (some p5) D.size c5)] 68 ∧ Loose v v6 (D.act.loose ++ [(a, l)]) := ⟨_, rfl⟩
  have Sa3t0 : Stands Sa3 := by rw [Sa3d]; exact ((stands_disk _ _ _ _).and ((stands_turn _ _).and ((stands_byt _ _).and ((stands_size _).and ((stands_bytp _ _).and ((stands_blk _ _ _).and (stands_loose _ _)))))))
  have Sa3u0 : ∀ v, Sa3 v → DiskAt v b m vl D.act ∧ Turn (own b m vl) w1 v ∧ Byt v (.slice (some p) D.size c) l ∧ w1.heap.size ≤ v.heap.size ∧ BytP v (.slice (some p5) D.size c5) l ∧ Blk v g_ #[.int .i64 a, (.slice (some p5) D.size c5)] 68 ∧ Loose v v6 (D.act.loose ++ [(a, l)]) := fun v h => by rw [Sa3d] at h; exact h
  have Sa3m0 : ∀ v, (DiskAt v b m vl D.act ∧ Turn (own b m vl) w1 v ∧ Byt v (.slice (some p) D.size c) l ∧ w1.heap.size ≤ v.heap.size ∧ BytP v (.slice (some p5) D.size c5) l ∧ Blk v g_ #[.int .i64 a, (.slice (some p5) D.size c5)] 68 ∧ Loose v v6 (D.act.loose ++ [(a, l)])) → Sa3 v := fun v h => by rw [Sa3d]; exact h
  have Sa3u := Lib.hid Sa3u0
  have Sa3m := Lib.hid Sa3m0
  have Sa3t := Lib.hid Sa3t0
  clear Sa3d Sa3u0 Sa3m0 Sa3t0
  have st_ : Sa3 w6 := Sa3m.out _ ⟨hd6, q1.trans ht6 (fun k hk _ => hsub k hk), q2.turn ht6 hnb6, Nat.le_trans q3 ht6.size, q4.turn ht6 hnb6.sp, hg6, hl6⟩
  refine wpX_run (i := 11) (v := v6) (w' := w6) Sa3 rfl rfl (by rfl) (by exact exec_append (.tmp 28) (.tmp 34) 62 62 rfl rfl rfl happ) Sa3t.out (.inr fun v h => Sa2m.out _ (by obtain ⟨q0, q1, q2, q3, q4, q5, q6⟩ := Sa3u.out _ h; exact ⟨q0, q1, q2, q3, q4, q5⟩)) st_ ?_
  clear hS st_ happ hl6 hl6' hgr6 hloc6 hnb ht6 hsub hnb6 hkd hd6 hg6 q0 q1 q2 q3 q4 q5
  clear w_
  simp only [List.setIfInBounds_toArray, List.set_cons_zero, List.set_cons_succ]
  clear w6 LG
  refine wpX_take (i := 12) (v := ?_) Sa3t.out rfl rfl (by kernel_rfl) (by kernel_rfl) (by kernel_rfl) (by kernel_rfl) (fun _ _ _ h => h) (SteadyX.value (by rfl) ?_) ?_
  rotate_left
  · (intro w_ hS; obtain ⟨q0, q1, q2, q3, q4, q5, q6⟩ := Sa3u.out _ hS; (have q9 := q0.six); go_simp; try with_reducible rfl)
  simp only [List.setIfInBounds_toArray, List.set_cons_zero, List.set_cons_succ]
  refine wpX_take (i := 13) (v := ?_) Sa3t.out rfl rfl (by kernel_rfl) (by kernel_rfl) (by kernel_rfl) (by kernel_rfl) (fun _ _ _ h => h) (SteadyX.value (by rfl) ?_) ?_
  rotate_left
  · (intro w_ hS; go_simp; try with_reducible rfl)
  simp only [List.setIfInBounds_toArray, List.set_cons_zero, List.set_cons_succ]
  refine wpX_one (i := 14) (by kernel_rfl) (fun w_ hS => ?_)
  obtain ⟨q0, q1, q2, q3, q4, q5, q6⟩ := Sa3u.out _ hS
  have q9 := q0.six
  obtain ⟨Sa4, Sa4d⟩ : ∃ S : World → Prop, S = fun v : World => DiskAt v b m v6 DD ∧ Turn (own b m vl) w1 v := ⟨_, rfl⟩
  have Sa4t0 : Stands Sa4 := by rw [Sa4d]; exact ((stands_disk _ _ _ _).and (stands_turn _ _))
  have Sa4u0 : ∀ v, Sa4 v → DiskAt v b m v6 DD ∧ Turn (own b m vl) w1 v := fun v h => by rw [Sa4d] at h; exact h
  have Sa4m0 : ∀ v, (DiskAt v b m v6 DD ∧ Turn (own b m vl) w1 v) → Sa4 v := fun v h => by rw [Sa4d]; exact h
  have Sa4u := Lib.hid Sa4u0
  have Sa4m := Lib.hid Sa4m0
  have Sa4t := Lib.hid Sa4t0
  clear Sa4d Sa4u0 Sa4m0 Sa4t0
  have st_ : Sa4 (w_.setCell ⟨b, 3, none⟩ v6) := Sa4m.out _ ⟨(by rw [HE.out]; exact q0.push q6 HOK.out), q1.set (.inl (mem_own.2 (.inl rfl))) _⟩
  refine wpX_store (i := 14) (w' := (w_.setCell ⟨b, 3, none⟩ v6)) Sa4 rfl rfl (by rfl) (by (subst rv6; go_simp)) Sa4t.out (.inl (by kernel_rfl)) st_ ?_
  clear hS st_ q9 q0 q1 q2 q3 q4 q5 q6
  clear w_
  refine wpX_done (by kernel_rfl) (fun W hS => ?_) _
  obtain ⟨q0, q1⟩ := Sa4u.out _ hS
  clear hS Sa0u Sa0m Sa0t Sa1u Sa1m Sa1t Sa2u Sa2m Sa2t Sa3u Sa3m Sa3t Sa4u Sa4m Sa4t
  clear Sa0 Sa1 Sa2 Sa3 Sa4

  clear HZ HL HOK HZZ HE
  cases z
  · go_wp2
    go_ret
    exact ⟨rfl, _, q0, q1, LV.out⟩
  · go_wp2
    go_ret
    exact ⟨rfl, _, q0, q1, LV.out⟩


theorem Write_any (a : Int) (p : Addr) (c n : Nat) (l : List Nat) (b m : Nat) (vl : Value) (D : Dsk) (w : World) (h : DiskAt w b m vl D) (hb : Byt w (.slice (some p) n c) l) (hn : l.length = n) (hL : D.loose.length ≤ 1000000000) :
    Calls Try.prog 24 #[.pointer (some ⟨b, 0, none⟩), .int .i64 a, .slice (some p) n c] w fun e w' => e = .returned (.int .i64 (D.putErr a l)) ∧ ∃ vl', DiskAt w' b m vl' (D.put a l) ∧ Turn (own b m vl) w w' ∧ ∀ g, vl'.ownBlock = some g → vl.ownBlock = some g ∨ w.heap.size ≤ g := by
  unfold Dsk.putErr
  by_cases hr : D.ready a = 0
  · by_cases hl : l.length = D.size
    · rw [if_neg (by simp [hr]), if_neg (by simp [hl])]
      have e : n = D.size := by omega
      subst e
      exact Write_main a p c l b m vl D w h hb hr hl hL
    · rw [if_neg (by simp [hr]), if_pos hl, Dsk.put_stay (.inr hl)]
      have hsz := h.six.2.1
      have hne : (n == D.size) = false := by simp; omega
      have hrd := ready_any a h
      rw [hr] at hrd
      have HRD := Lib.hid hrd
      have H := Lib.hid h
      clear h hb hr hl hn hrd hL
      go_enter Try.func24, Try.ntmps24
      go_wp2_with fail
      refine HRD.out.mono ?_
      rintro e w1 ⟨rfl, rfl⟩
      go_wp2_with fail
      all_goals (go_ret; exact ⟨rfl, _, H.out, Turn.refl _ _, fun _ h => .inl h⟩)
  · rw [if_pos hr, Dsk.put_stay (.inl hr)]
    have HRD := Lib.hid (ready_any a h)
    have hne : (D.ready a == 0) = false := by simpa using hr
    have H := Lib.hid h
    clear h hb hn hL
    generalize D.ready a = z at *
    go_enter Try.func24, Try.ntmps24
    go_wp2_with fail
    refine HRD.out.mono ?_
    rintro e w1 ⟨rfl, rfl⟩
    go_wp2_with fail
    all_goals (go_ret; exact ⟨rfl, _, H.out, Turn.refl _ _, fun _ h => .inl h⟩)

end Go.Proofs.Ytapllljbbldfkaa
