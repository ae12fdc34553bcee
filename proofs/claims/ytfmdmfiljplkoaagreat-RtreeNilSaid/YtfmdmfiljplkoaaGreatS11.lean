/- An entry is put into a leaf that has room: insert, Put. Printed by mk_s11.py. -/
import Derived.Test.YtfmdmfiljplkoaaGreatS10
namespace Go.Proofs.YtfmdmfiljplkoaaGreat
open Go.RowKit Go.Maps Go.Shelf
set_option maxRecDepth 8000
set_option linter.unusedSimpArgs false
attribute [local go_sem] Oper.semAt_some
variable {ι : Type} [Bar ι]
section
variable {w0 v v' : World} {L L' : List Bx} {R R' : List Rx} {M M' : Mem} {S S' : Pl} {D D' : Dsk} {K : Ks}
theorem cellsE_snoc0 (es : List En) (x : En) : cellsE 0 es ++ (#[.int .i64 x.b.x0, .int .i64 x.b.y0, .int .i64 x.b.x1, .int .i64 x.b.y1, .iface 82 (.int .i64 x.of)] : Array Value).toList = cellsE 0 (es ++ [x]) := by
  unfold cellsE
  rw [List.flatMap_append]
  rfl
set_option maxHeartbeats 4000000 in
theorem insert_leaf (h : Qn w0 v L R M S D K) (hi : ∃ rows, InvR S D rows) {tp root i : Nat} (ht : L[i]? = some ⟨tp, #[.pointer (some ⟨M.p, 0, none⟩), .int .i64 (root : Nat)], 79⟩) {es : List En} (hn : NodeP S D root 0 es) {x : En} (hx : x.Ok) (hm : es.length < D.most) (again : Value) :
    Calls Tryz.prog 38 #[.pointer (some ⟨tp, 0, none⟩), .agg #[.int .i64 x.b.x0, .int .i64 x.b.y0, .int .i64 x.b.x1, .int .i64 x.b.y1, .iface 82 (.int .i64 x.of)], .int .i64 0, again] v fun e v' => e = .returned (.int .i64 0) ∧ ∃ S', NodeP S' D root 0 (es ++ [x]) ∧ S'.now = S.now ∧ (∀ j, j ≠ root → S'.val D j = S.val D j) ∧ Qn w0 v' L R M S' D K ∧ ∃ rows, InvR S' D rows := by
  have HQ := Lib.hid h
  have HI := Lib.hid hi
  have HT := Lib.hid ht
  have HN := Lib.hid hn
  have HX := Lib.hid hx
  have HM := Lib.hid hm
  clear h hi ht hn hx hm
  go_enter Tryz.func38, Tryz.ntmps38
  go_wp2_with (rw [wpl_id]; first
    | (refine wpln_box HQ 84 _ rfl (by first | exact .inl rfl | exact .inr ⟨_, _, _, _, rfl, rfl, rfl, rfl⟩) rfl (fun bx w' H2 => ?_); clear HQ; have HQ := H2; clear H2)
    | (refine wpl_lda (Lib.hid HQ.out.bx) 0 rfl _ _ rfl (by first | exact .inl rfl | exact .inr ⟨_, _, _, _, rfl, rfl, rfl, rfl⟩) (by exact rfl) Tryz.isAgg33 Tryz.sizeOf33 (by kernel_rfl) (cs := #[.int .i64 x.b.x0, .int .i64 x.b.y0, .int .i64 x.b.x1, .int .i64 x.b.y1]) rfl ?_))
  refine (way_leaf HQ.out HI.out (i := i + 1) HT.out HN.out x.b).mono ?_
  rintro e w1 ⟨pn, A, c, wg, wc, S1, rfl, hs, hq, hin⟩
  have HS := Lib.hid hs
  have HIN := Lib.hid hin
  have HQ2 := Lib.hid hq
  clear hs hin hq HI
  clear HQ
  have HQ := HQ2
  clear HQ2
  go_wp2_with (rw [wpl_id]; first
    | (refine wpln_new HQ 147 rfl (by first | exact .inl rfl | exact .inr ⟨_, _, _, _, rfl, rfl, rfl, rfl⟩) Tryz.zeroValue147 rfl (fun bs w' H2 => ?_); simp only [Value.cells] at H2; clear HQ; have HQ := H2; clear H2)
    | (refine wpln_sta HQ 0 rfl rfl _ _ _ rfl (by first | exact .inl rfl | exact .inr ⟨_, _, _, _, rfl, rfl, rfl, rfl⟩) (by exact rfl) (by exact rfl) Tryz.sizeOf147 (by kernel_rfl) (by kernel_rfl) (by kernel_rfl) rfl (splice_whole (n := 3) (by kernel_rfl) (by kernel_rfl)) (fun w' H2 => ?_); simp only [List.set_cons_succ, List.set_cons_zero] at H2; clear HQ; have HQ := H2; clear H2)
    | (refine wpl_rlda (Lib.hid HQ.out.bx) 0 rfl 147 _ rfl (by first | exact .inl rfl | exact .inr ⟨_, _, _, _, rfl, rfl, rfl, rfl⟩) (off := 0) (by exact rfl) rfl Tryz.isAgg147 Tryz.sizeOf147 (by simp) (cs := #[.int .i64 (root : Nat), .pointer (some ⟨pn, 0, none⟩), .int .i64 0]) rfl ?_))
  dsimp only [Act.put]
  simp only [List.setIfInBounds_toArray, List.set_cons_zero, List.set_cons_succ]
  refine wp_region_H (fun v => Blk v bs #[.int .i64 (root : Nat), .pointer (some ⟨pn, 0, none⟩), .int .i64 0] 147 ∧ Blk v bx #[.int .i64 x.b.x0, .int .i64 x.b.y0, .int .i64 x.b.x1, .int .i64 x.b.y1, .iface 82 (.int .i64 x.of)] 84) (by kernel_rfl) (fun u hu => ?_)
  have hS0 : (fun v => Blk v bs #[.int .i64 (root : Nat), .pointer (some ⟨pn, 0, none⟩), .int .i64 0] 147 ∧ Blk v bx #[.int .i64 x.b.x0, .int .i64 x.b.y0, .int .i64 x.b.x1, .int .i64 x.b.y1, .iface 82 (.int .i64 x.of)] 84) u := by subst hu; exact ⟨(HQ.out.bx.at_ (i := 0) rfl).drew, (HQ.out.bx.at_ (i := 2) rfl).drew⟩
  have HQ0 := Lib.hid (show Qn w0 u _ _ M S1 D K from by subst hu; exact HQ.out.grew ⟨rfl, rfl, rfl, Nat.le_refl _, fun _ _ => rfl⟩)
  clear hu HQ
  refine wpH_take (i := 0) (v := ?_) rfl rfl (by kernel_rfl) (by kernel_rfl) (by kernel_rfl) (fun _ _ _ h => h) (Or.inl ⟨by rfl, ?_⟩) hS0 ?_
  rotate_left
  · (intro w_ hw_; go_simp; try with_reducible rfl)
  simp only [List.setIfInBounds_toArray, List.set_cons_zero, List.set_cons_succ]
  refine wpH_take (i := 1) (v := ?_) rfl rfl (by kernel_rfl) (by kernel_rfl) (by kernel_rfl) (fun _ _ _ h => h) (Or.inl ⟨by rfl, ?_⟩) hS0 ?_
  rotate_left
  · (intro w_ hw_; obtain ⟨q1, q2⟩ := hw_; have q1 := q1.three; have q2 := q2.five; go_simp; try with_reducible rfl)
  simp only [List.setIfInBounds_toArray, List.set_cons_zero, List.set_cons_succ]
  refine wpH_take (i := 2) (v := ?_) rfl rfl (by kernel_rfl) (by kernel_rfl) (by kernel_rfl) (fun _ _ _ h => h) (Or.inl ⟨by rfl, ?_⟩) hS0 ?_
  rotate_left
  · (intro w_ hw_; go_simp; try with_reducible rfl)
  simp only [List.setIfInBounds_toArray, List.set_cons_zero, List.set_cons_succ]
  refine wpH_take (i := 3) (v := ?_) rfl rfl (by kernel_rfl) (by kernel_rfl) (by kernel_rfl) (fun _ _ _ h => h) (Or.inl ⟨by rfl, ?_⟩) hS0 ?_
  rotate_left
  · (intro w_ hw_; obtain ⟨q1, q2⟩ := hw_; have q1 := q1.three; have q2 := q2.five; go_simp; try with_reducible rfl)
  simp only [List.setIfInBounds_toArray, List.set_cons_zero, List.set_cons_succ]
  refine wpH_take (i := 4) (v := ?_) rfl rfl (by kernel_rfl) (by kernel_rfl) (by kernel_rfl) (fun _ _ _ h => h) (Or.inl ⟨by rfl, ?_⟩) hS0 ?_
  rotate_left
  · (intro w_ hw_; obtain ⟨q1, q2⟩ := hw_; have q1 := q1.three; have q2 := q2.five; go_simp; try with_reducible rfl)
  simp only [List.setIfInBounds_toArray, List.set_cons_zero, List.set_cons_succ]
  refine wpH_take (i := 5) (v := ?_) rfl rfl (by kernel_rfl) (by kernel_rfl) (by kernel_rfl) (fun _ _ _ h => h) (Or.inl ⟨by rfl, ?_⟩) hS0 ?_
  rotate_left
  · (intro w_ hw_; go_simp; try with_reducible rfl)
  simp only [List.setIfInBounds_toArray, List.set_cons_zero, List.set_cons_succ]
  refine wpH_take (i := 7) (v := .agg #[.int .i64 x.b.x0, .int .i64 x.b.y0, .int .i64 x.b.x1, .int .i64 x.b.y1, .iface 82 (.int .i64 x.of)]) rfl rfl (by kernel_rfl) (by kernel_rfl) (by kernel_rfl) (fun _ _ _ h => h) (Or.inl ⟨by rfl, ?_⟩) hS0 ?_
  · (intro w_ hw_; exact exec_load 84 (.tmp 5) rfl rfl (run_load_agg (Tryz.isAgg84 _) (Tryz.sizeOf84 _) hw_.2 (by simp)))
  simp only [List.setIfInBounds_toArray, List.set_cons_zero, List.set_cons_succ]
  have hbl := (Below.refl u.heap.size u).alloc (Nat.le_refl _) (.cells #[.int .i64 x.b.x0, .int .i64 x.b.y0, .int .i64 x.b.x1, .int .i64 x.b.y1, .iface 82 (.int .i64 x.of)] 84)
  have hlit : (u.alloc (.cells #[.int .i64 x.b.x0, .int .i64 x.b.y0, .int .i64 x.b.x1, .int .i64 x.b.y1, .iface 82 (.int .i64 x.of)] 84)).ownsRow u.heap.size 84 5 (.slice (some ⟨u.heap.size, 0, none⟩) 1 1) 1 (#[.int .i64 x.b.x0, .int .i64 x.b.y0, .int .i64 x.b.x1, .int .i64 x.b.y1, .iface 82 (.int .i64 x.of)] : Array Value).toList := World.ownsRow_lit u #[.int .i64 x.b.x0, .int .i64 x.b.y0, .int .i64 x.b.x1, .int .i64 x.b.y1, .iface 82 (.int .i64 x.of)] 1 (Nat.le_refl _) (by simp [maxLen]) rfl
  have HQ1 := Lib.hid (HQ0.out.grew hbl)
  obtain ⟨A2, c2, u2, hap, hps⟩ := run_appQ el84 91 HQ1.out 1 rfl hlit (by intro x hx; simp at hx; rcases hx with rfl | rfl | rfl | rfl | rfl <;> rfl) (by have := HN.out.2.2.2.2; omega) (by decide)
  have hS1 : (fun v => Blk v bs #[.int .i64 (root : Nat), .pointer (some ⟨pn, 0, none⟩), .int .i64 0] 147 ∧ Blk v bx #[.int .i64 x.b.x0, .int .i64 x.b.y0, .int .i64 x.b.x1, .int .i64 x.b.y1, .iface 82 (.int .i64 x.of)] 84) (u.alloc (.cells #[.int .i64 x.b.x0, .int .i64 x.b.y0, .int .i64 x.b.x1, .int .i64 x.b.y1, .iface 82 (.int .i64 x.of)] 84)) := ⟨HQ1.out.bx.at_ (i := 0) rfl, HQ1.out.bx.at_ (i := 2) rfl⟩
  refine wpH_pair (i := 6) (j := 8) (v1 := .slice A es.length c) (v2 := .slice (some ⟨u.heap.size, 0, none⟩) 1 1) (w2 := u.alloc (.cells #[.int .i64 x.b.x0, .int .i64 x.b.y0, .int .i64 x.b.x1, .int .i64 x.b.y1, .iface 82 (.int .i64 x.of)] 84)) (by kernel_rfl) (by kernel_rfl) (by kernel_rfl) rfl rfl rfl rfl (by decide) (by decide) (by rfl) (by rfl) (by rfl) (by rfl) (exec_load 91 (.tmp 44) rfl rfl (run_load_one (Tryz.isAgg91 _) (HQ0.out.bx.at_ (i := 1) rfl) rfl)) (exec_load 91 (.tmp 44) rfl rfl (run_load_one (Tryz.isAgg91 _) (HQ1.out.bx.at_ (i := 1) rfl) rfl)) (exec_lit rfl (ps := #[(0, .agg #[.int .i64 x.b.x0, .int .i64 x.b.y0, .int .i64 x.b.x1, .int .i64 x.b.y1, .iface 82 (.int .i64 x.of)])]) (by simp only [List.map_toArray, List.map_cons, List.map_nil]; rfl) (run_lit84 _ _ _ _ _ u)) (exec_lit rfl (ps := #[(0, .agg #[.int .i64 x.b.x0, .int .i64 x.b.y0, .int .i64 x.b.x1, .int .i64 x.b.y1, .iface 82 (.int .i64 x.of)])]) (by simp only [List.map_toArray, List.map_cons, List.map_nil]; rfl) (run_lit84 _ _ _ _ _ u)) hS0 hS1 ?_
  simp only [List.setIfInBounds_toArray, List.set_cons_zero, List.set_cons_succ]
  have hS2 : (fun v => Blk v bs #[.int .i64 (root : Nat), .pointer (some ⟨pn, 0, none⟩), .int .i64 0] 147 ∧ Blk v bx #[.int .i64 x.b.x0, .int .i64 x.b.y0, .int .i64 x.b.x1, .int .i64 x.b.y1, .iface 82 (.int .i64 x.of)] 84) u2 := ⟨hps.bx.at_ (i := 0) rfl, hps.bx.at_ (i := 2) rfl⟩
  refine wpH_run (i := 9) (v := .slice A2 (es.length + 1) c2) (w' := u2) (by kernel_rfl) rfl rfl (by rfl) (exec_append (.tmp 45) (.tmp 47) 91 91 rfl rfl rfl hap) hS2 ?_
  simp only [List.setIfInBounds_toArray, List.set_cons_zero, List.set_cons_succ]
  have HQ := Lib.hid hps
  clear hps hap hbl hlit hS0 hS1 HQ0 HQ1
  refine wpH_take (i := 10) (v := ?_) rfl rfl (by kernel_rfl) (by kernel_rfl) (by kernel_rfl) (fun _ _ _ h => h) (Or.inl ⟨by rfl, ?_⟩) hS2 ?_
  rotate_left
  · (intro w_ hw_; obtain ⟨q1, q2⟩ := hw_; have q1 := q1.three; have q2 := q2.five; go_simp; try with_reducible rfl)
  simp only [List.setIfInBounds_toArray, List.set_cons_zero, List.set_cons_succ]
  refine wpH_take (i := 11) (v := ?_) rfl rfl (by kernel_rfl) (by kernel_rfl) (by kernel_rfl) (fun _ _ _ h => h) (Or.inl ⟨by rfl, ?_⟩) hS2 ?_
  rotate_left
  · (intro w_ hw_; go_simp; try with_reducible rfl)
  simp only [List.setIfInBounds_toArray, List.set_cons_zero, List.set_cons_succ]
  have hst := HQ.out.setb (i := 1) rfl ((HQ.out.bx.at_ (i := 1) rfl).set 1 (.slice A2 (es.length + 1) c2)) ((Turn.refl [pn] u2).set (a := ⟨pn, 1, none⟩) (.inl (by simp)) _) (by show (93 : Nat) ≠ 5; decide)
  have hS3 : (fun v => Blk v bs #[.int .i64 (root : Nat), .pointer (some ⟨pn, 0, none⟩), .int .i64 0] 147 ∧ Blk v bx #[.int .i64 x.b.x0, .int .i64 x.b.y0, .int .i64 x.b.x1, .int .i64 x.b.y1, .iface 82 (.int .i64 x.of)] 84) (u2.setCell ⟨pn, 1, none⟩ (.slice A2 (es.length + 1) c2)) := ⟨hst.bx.at_ (i := 0) rfl, hst.bx.at_ (i := 2) rfl⟩
  refine wpH_store (i := 12) (w' := u2.setCell ⟨pn, 1, none⟩ (.slice A2 (es.length + 1) c2)) (by kernel_rfl) rfl rfl (by rfl) (exec_store 91 (.tmp 50) (.tmp 48) rfl rfl rfl (run_store_one (Tryz.sizeOf91 _) (HQ.out.bx.at_ (i := 1) rfl) (by simp) rfl)) hS3 ?_
  clear HQ hS2 hS3
  simp only [List.set_cons_succ, List.set_cons_zero, List.setIfInBounds_toArray] at hst
  refine wpAnyH_done (by kernel_rfl) ?_ _
  generalize u2.setCell ⟨pn, 1, none⟩ (.slice A2 (es.length + 1) c2) = u3 at *
  obtain ⟨es2, he2⟩ : ∃ es2, es2 = es ++ [x] := ⟨_, rfl⟩
  rw [show es.length + 1 = es2.length by rw [he2]; simp, cellsE_snoc0, ← he2] at hst
  have HQ := Lib.hid hst
  have HE := Lib.hid he2
  clear hst he2
  go_wp2
  go_loopw [9, 12] (fun wv iv wr => wv = .slice (some ⟨wg, 0, none⟩) 1 wc ∧ iv = .int .i64 0 ∧ Hid (Qn w0 wr (⟨bs, #[.int .i64 (root : Nat), .pointer (some ⟨pn, 0, none⟩), .int .i64 0], 147⟩ :: ⟨pn, #[.int .i64 (0 : Nat), .slice A2 es2.length c2], 93⟩ :: ⟨bx, #[.int .i64 x.b.x0, .int .i64 x.b.y0, .int .i64 x.b.x1, .int .i64 x.b.y1, .iface 82 (.int .i64 x.of)], 84⟩ :: L) (⟨147, 3, .slice (some ⟨wg, 0, none⟩) 1 wc, 1, [.int .i64 (root : Nat), .pointer (some ⟨pn, 0, none⟩), .int .i64 0]⟩ :: ⟨84, 5, .slice A2 es2.length c2, es2.length, cellsE 0 es2⟩ :: R) M S1 D K)) (fun _ _ _ => 0)
  case atStart => exact ⟨rfl, rfl, HQ⟩
  case round =>
    clear HQ
    obtain ⟨rfl, rfl, HQ⟩ := hrel
    go_wp2_with fail
    refine wp_region_H (fun v => v.cell? ⟨wg, 1, none⟩ = some (.pointer (some ⟨pn, 0, none⟩)) ∧ Blk v pn #[.int .i64 (0 : Nat), .slice A2 es2.length c2] 93 ∧ Blk v tp #[.pointer (some ⟨M.p, 0, none⟩), .int .i64 (root : Nat)] 79) (by kernel_rfl) (fun u hu => ?_)
    have hS0 : (fun v => v.cell? ⟨wg, 1, none⟩ = some (.pointer (some ⟨pn, 0, none⟩)) ∧ Blk v pn #[.int .i64 (0 : Nat), .slice A2 es2.length c2] 93 ∧ Blk v tp #[.pointer (some ⟨M.p, 0, none⟩), .int .i64 (root : Nat)] 79) u := by subst hu; exact ⟨World.ownsRow.cellAt (HQ.out.bx.row_ (i := 0) rfl) 1 (by show 1 < 1 * 3; decide), (HQ.out.bx.at_ (i := 1) rfl).drew, (HQ.out.bx.at_ (i := i + 3) HT.out).drew⟩
    have HQ0 := Lib.hid (show Qn w0 u (⟨bs, #[.int .i64 (root : Nat), .pointer (some ⟨pn, 0, none⟩), .int .i64 0], 147⟩ :: ⟨pn, #[.int .i64 (0 : Nat), .slice A2 es2.length c2], 93⟩ :: ⟨bx, #[.int .i64 x.b.x0, .int .i64 x.b.y0, .int .i64 x.b.x1, .int .i64 x.b.y1, .iface 82 (.int .i64 x.of)], 84⟩ :: L) (⟨147, 3, .slice (some ⟨wg, 0, none⟩) 1 wc, 1, [.int .i64 (root : Nat), .pointer (some ⟨pn, 0, none⟩), .int .i64 0]⟩ :: ⟨84, 5, .slice A2 es2.length c2, es2.length, cellsE 0 es2⟩ :: R) M S1 D K from by subst hu; exact HQ.out.grew ⟨rfl, rfl, rfl, Nat.le_refl _, fun _ _ => rfl⟩)
    clear hu HQ
    refine wpH_take (i := 0) (v := ?_) rfl rfl (by kernel_rfl) (by kernel_rfl) (by kernel_rfl) (fun _ _ _ h => h) (Or.inl ⟨by rfl, ?_⟩) hS0 ?_
    rotate_left
    · (intro w_ hw_; go_simp; try with_reducible rfl)
    simp only [List.setIfInBounds_toArray, List.set_cons_zero, List.set_cons_succ]
    refine wpH_take (i := 1) (v := ?_) rfl rfl (by kernel_rfl) (by kernel_rfl) (by kernel_rfl) (fun _ _ _ h => h) (Or.inl ⟨by rfl, ?_⟩) hS0 ?_
    rotate_left
    · (intro w_ hw_; go_simp; try with_reducible rfl)
    simp only [List.setIfInBounds_toArray, List.set_cons_zero, List.set_cons_succ]
    refine wpH_take (i := 2) (v := ?_) rfl rfl (by kernel_rfl) (by kernel_rfl) (by kernel_rfl) (fun _ _ _ h => h) (Or.inl ⟨by rfl, ?_⟩) hS0 ?_
    rotate_left
    · (intro w_ hw_; go_simp; try with_reducible rfl)
    simp only [List.setIfInBounds_toArray, List.set_cons_zero, List.set_cons_succ]
    refine wpH_take (i := 3) (v := ?_) rfl rfl (by kernel_rfl) (by kernel_rfl) (by kernel_rfl) (fun _ _ _ h => h) (Or.inl ⟨by rfl, ?_⟩) hS0 ?_
    rotate_left
    · (intro w_ hw_; go_simp; try with_reducible rfl)
    simp only [List.setIfInBounds_toArray, List.set_cons_zero, List.set_cons_succ]
    refine wpH_take (i := 4) (v := ?_) rfl rfl (by kernel_rfl) (by kernel_rfl) (by kernel_rfl) (fun _ _ _ h => h) (Or.inl ⟨by rfl, ?_⟩) hS0 ?_
    rotate_left
    · (intro w_ hw_; obtain ⟨q1, q2, q3⟩ := hw_; have q2 := q2.two; have q3 := q3.two; go_simp; try with_reducible rfl)
    simp only [List.setIfInBounds_toArray, List.set_cons_zero, List.set_cons_succ]
    refine wpH_take (i := 5) (v := ?_) rfl rfl (by kernel_rfl) (by kernel_rfl) (by kernel_rfl) (fun _ _ _ h => h) (Or.inl ⟨by rfl, ?_⟩) hS0 ?_
    rotate_left
    · (intro w_ hw_; obtain ⟨q1, q2, q3⟩ := hw_; have q2 := q2.two; have q3 := q3.two; go_simp; try with_reducible rfl)
    simp only [List.setIfInBounds_toArray, List.set_cons_zero, List.set_cons_succ]
    refine wpH_take (i := 6) (v := ?_) rfl rfl (by kernel_rfl) (by kernel_rfl) (by kernel_rfl) (fun _ _ _ h => h) (Or.inl ⟨by rfl, ?_⟩) hS0 ?_
    rotate_left
    · (intro w_ hw_; go_simp; try with_reducible rfl)
    simp only [List.setIfInBounds_toArray, List.set_cons_zero, List.set_cons_succ]
    refine wpH_take (i := 7) (v := ?_) rfl rfl (by kernel_rfl) (by kernel_rfl) (by kernel_rfl) (fun _ _ _ h => h) (Or.inl ⟨by rfl, ?_⟩) hS0 ?_
    rotate_left
    · (intro w_ hw_; obtain ⟨q1, q2, q3⟩ := hw_; have q2 := q2.two; have q3 := q3.two; go_simp; try with_reducible rfl)
    simp only [List.setIfInBounds_toArray, List.set_cons_zero, List.set_cons_succ]
    refine wpH_take (i := 8) (v := ?_) rfl rfl (by kernel_rfl) (by kernel_rfl) (by kernel_rfl) (fun _ _ _ h => h) (Or.inl ⟨by rfl, ?_⟩) hS0 ?_
    rotate_left
    · (intro w_ hw_; obtain ⟨q1, q2, q3⟩ := hw_; have q2 := q2.two; have q3 := q3.two; go_simp; try with_reducible rfl)
    simp only [List.setIfInBounds_toArray, List.set_cons_zero, List.set_cons_succ]
    refine wpH_take (i := 9) (v := ?_) rfl rfl (by kernel_rfl) (by kernel_rfl) (by kernel_rfl) (fun _ _ _ h => h) (Or.inl ⟨by rfl, ?_⟩) hS0 ?_
    rotate_left
    · (intro w_ hw_; go_simp; try with_reducible rfl)
    simp only [List.setIfInBounds_toArray, List.set_cons_zero, List.set_cons_succ]
    refine wpH_take (i := 10) (v := ?_) rfl rfl (by kernel_rfl) (by kernel_rfl) (by kernel_rfl) (fun _ _ _ h => h) (Or.inl ⟨by rfl, ?_⟩) hS0 ?_
    rotate_left
    · (intro w_ hw_; obtain ⟨q1, q2, q3⟩ := hw_; have q2 := q2.two; have q3 := q3.two; go_simp; try with_reducible rfl)
    simp only [List.setIfInBounds_toArray, List.set_cons_zero, List.set_cons_succ]
    refine wpH_take (i := 11) (v := ?_) rfl rfl (by kernel_rfl) (by kernel_rfl) (by kernel_rfl) (fun _ _ _ h => h) (Or.inl ⟨by rfl, ?_⟩) hS0 ?_
    rotate_left
    · (intro w_ hw_; go_simp; try with_reducible rfl)
    simp only [List.setIfInBounds_toArray, List.set_cons_zero, List.set_cons_succ]
    refine wpH_take (i := 12) (v := ?_) rfl rfl (by kernel_rfl) (by kernel_rfl) (by kernel_rfl) (fun _ _ _ h => h) (Or.inl ⟨by rfl, ?_⟩) hS0 ?_
    rotate_left
    · (intro w_ hw_; obtain ⟨q1, q2, q3⟩ := hw_; have q2 := q2.two; have q3 := q3.two; go_simp; try with_reducible rfl)
    simp only [List.setIfInBounds_toArray, List.set_cons_zero, List.set_cons_succ]
    refine wpH_callv (i := 13) (by kernel_rfl) rfl rfl (by rfl) (int_tup (most_q (HQ0.out.lp HIN.out))) (by go_simp) ?_
    rintro _ v2 ⟨rfl, hb⟩
    have hS1 : (fun v => v.cell? ⟨wg, 1, none⟩ = some (.pointer (some ⟨pn, 0, none⟩)) ∧ Blk v pn #[.int .i64 (0 : Nat), .slice A2 es2.length c2] 93 ∧ Blk v tp #[.pointer (some ⟨M.p, 0, none⟩), .int .i64 (root : Nat)] 79) v2 := ⟨cell_grew hS0.1 hb, hS0.2.1.grew hb, hS0.2.2.grew hb⟩
    clear hS0
    refine ⟨hS1, ?_⟩
    simp only [List.setIfInBounds_toArray, List.set_cons_zero, List.set_cons_succ]
    have HQ := Lib.hid (HQ0.out.grew hb)
    clear HQ0 hb
    refine wpH_take (i := 14) (v := .bool false) rfl rfl (by kernel_rfl) (by kernel_rfl) (by kernel_rfl) (fun _ _ _ h => h) (Or.inl ⟨by rfl, ?_⟩) hS1 ?_
    · (have hm := HM.out; have he : es2.length = es.length + 1 := (by rw [HE.out]; simp); go_simp; omega)
    simp only [List.setIfInBounds_toArray, List.set_cons_zero, List.set_cons_succ]
    clear hS1
    refine wpAnyH_done (by kernel_rfl) ?_ _
    go_wp2_with fail
    have hn1 := HN.out.same HS.out
    have he2 : ∀ e ∈ es2, e.Ok := fun e he => by
      rw [HE.out] at he
      rcases List.mem_append.1 he with he | he
      · exact HN.out.2.2.1 e he
      · simp at he; rw [he]; exact HX.out
    have hl2 : es2.length = es.length + 1 := by rw [HE.out]; simp
    have hm := HM.out
    unfold Dsk.most at hm
    obtain ⟨rows1, hi1⟩ := HIN.out
    have hw := write_node hi1 hn1.1 he2 (show 0 < 256 by omega) (show 3 + 40 * es2.length ≤ D.rm by omega)
    have hbn := HN.out.2.2.2.2
    have HW := Lib.hid hw
    have HL := Lib.hid (show es2.length ≤ 20000 by have := rm_size hi1.cl.ok hi1.cl.z; have := hi1.cl.ok.z2; omega)
    clear hn1 he2 hl2 hm hw hbn hi1
    refine (fit_one HQ.out HIN.out (i := i + 3) HT.out (j := 1) (k := 1) (g := 0) rfl rfl rfl HW.out.1 (by omega) HL.out).mono ?_
    rintro e w4 ⟨rfl, hq, hin⟩
    have HQ2 := Lib.hid hq
    have HI2 := Lib.hid hin
    clear hq hin
    go_wp2
    go_ret
    refine ⟨rfl, _, ?_, HW.out.2.2.1.trans HS.out.now, fun j hj => (HW.out.2.2.2 j hj).trans HS.out.val, HQ2.out.sub (List.Sublist.cons _ (List.Sublist.cons _ (List.Sublist.cons _ (List.Sublist.refl _)))) (List.Sublist.cons _ (List.Sublist.cons _ (List.Sublist.refl _))), HI2.out⟩
    rw [← HE.out]
    exact HW.out.2.1
end
end Go.Proofs.YtfmdmfiljplkoaaGreat
