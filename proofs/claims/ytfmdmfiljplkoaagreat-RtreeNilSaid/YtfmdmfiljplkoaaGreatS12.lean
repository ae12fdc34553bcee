/- An item is put into a leaf that has room: Put. Printed by mk_s12.py. -/
import Derived.Test.YtfmdmfiljplkoaaGreatS11
namespace Go.Proofs.YtfmdmfiljplkoaaGreat
open Go.RowKit Go.Maps Go.Shelf
set_option maxRecDepth 8000
set_option linter.unusedSimpArgs false
variable {ι : Type} [Bar ι]
section
variable {w0 v v' : World} {L L' : List Bx} {R R' : List Rx} {M M' : Mem} {S S' : Pl} {D D' : Dsk} {K : Ks}
theorem exec_makeMap {P : Program} {w : World} {ev : Operand → Value} {o : Oper} {t : TypeId} (ho : o.op = .makeMap t none) : (execOp ev o).run P w = .ok (.value (.map (some w.heap.size))) (w.alloc (.map #[] 0)) := by
  unfold execOp
  simp only [ho, Option.map_none]
  rfl
theorem tup2 {f : FuncId} {args : Array Value} {v : World} {u : Value} {n : Int} {P : World → Prop} (h : Calls Tryz.prog f args v fun e w' => e = .returned (.tuple #[u, .int .i64 n]) ∧ P w') : Calls Tryz.prog f args v fun e w' => ∃ z, e = .returned z ∧ z = .tuple #[u, .int .i64 n] ∧ P w' :=
  h.mono fun _ _ ⟨h1, h2⟩ => ⟨_, h1, rfl, h2⟩
theorem int_tupM {f : FuncId} {args : Array Value} {v : World} {n : Int} {P : Mem → World → Prop} (h : Calls Tryz.prog f args v fun e w' => ∃ M', e = .returned (.int .i64 n) ∧ P M' w') : Calls Tryz.prog f args v fun e w' => ∃ u, e = .returned u ∧ u = .int .i64 n ∧ ∃ M', P M' w' :=
  h.mono fun _ _ ⟨M', h1, h2⟩ => ⟨_, h1, rfl, M', h2⟩
theorem back_same (h : Qn w0 v L R M S D K) (hi : ∃ rows, InvR S D rows) {er : Int} (he : calmE er = true) :
    Calls Tryz.prog 37 #[.agg #[.pointer (some ⟨M.p, 0, none⟩)], .int .i64 er] v fun e v' => ∃ M', e = .returned (.int .i64 er) ∧ Hand M M' ∧ Qn w0 v' L R M' S D K ∧ ∃ rows, InvR S D rows := by
  have hb := back_q h hi er
  rw [if_pos he] at hb
  exact hb
set_option maxHeartbeats 4000000 in
theorem Put_leaf (h : Qn w0 v L R M S D K) (hi : ∃ rows, InvR S D rows) {tp root i : Nat} (ht : L[i]? = some ⟨tp, #[.pointer (some ⟨M.p, 0, none⟩), .int .i64 (root : Nat)], 79⟩) {es : List En} (hn : NodeP S D root 0 es) {x : En} (hx : x.Ok) (hr : rightF x.b x.of = 0) (hm : es.length < D.most) (hno : ∀ e ∈ es, ¬ e.Is x) :
    Calls Tryz.prog 9 #[.pointer (some ⟨tp, 0, none⟩), .agg #[.int .i64 x.b.x0, .int .i64 x.b.y0, .int .i64 x.b.x1, .int .i64 x.b.y1, .int .i64 x.of]] v fun e v' => e = .returned (.int .i64 0) ∧ ∃ M' S', Hand M M' ∧ NodeP S' D root 0 (es ++ [x]) ∧ S'.now = S.now ∧ (∀ j, j ≠ root → S'.val D j = S.val D j) ∧ Qn w0 v' L R M' S' D K ∧ ∃ rows, InvR S' D rows := by
  have HQ := Lib.hid h
  have HI := Lib.hid hi
  have HT := Lib.hid ht
  have HN := Lib.hid hn
  have HX := Lib.hid hx
  have HM := Lib.hid hm
  have HNO := Lib.hid hno
  have hrr := fun w => rright_any x.b x.of w
  rw [hr] at hrr
  have HR := Lib.hid hrr
  clear h hi ht hn hx hm hno hr hrr
  go_enter Tryz.func9, Tryz.ntmps9
  go_wp2_with (rw [wpl_id]; first
    | (refine wpln_box HQ 35 _ rfl (by first | exact .inl rfl | exact .inr ⟨_, _, _, _, rfl, rfl, rfl, rfl⟩) rfl (fun bx w' H2 => ?_); clear HQ; have HQ := H2; clear H2)
    | (refine wpl_lda (Lib.hid HQ.out.bx) 0 rfl _ _ rfl (by first | exact .inl rfl | exact .inr ⟨_, _, _, _, rfl, rfl, rfl, rfl⟩) (by exact rfl) Tryz.isAgg35 Tryz.sizeOf35 (by kernel_rfl) (cs := #[.int .i64 x.b.x0, .int .i64 x.b.y0, .int .i64 x.b.x1, .int .i64 x.b.y1, .int .i64 x.of]) rfl ?_))
  refine (HR.out _).mono ?_
  rintro e w1 ⟨rfl, hb⟩
  have HQ2 := Lib.hid (HQ.out.grew hb)
  clear hb
  clear HQ
  have HQ := HQ2
  clear HQ2
  go_wp2_with fail
  refine wp_region_H (fun v => Blk v bx #[.int .i64 x.b.x0, .int .i64 x.b.y0, .int .i64 x.b.x1, .int .i64 x.b.y1, .int .i64 x.of] 35 ∧ Blk v tp #[.pointer (some ⟨M.p, 0, none⟩), .int .i64 (root : Nat)] 79) (by kernel_rfl) (fun u hu => ?_)
  have hS0 : (fun v => Blk v bx #[.int .i64 x.b.x0, .int .i64 x.b.y0, .int .i64 x.b.x1, .int .i64 x.b.y1, .int .i64 x.of] 35 ∧ Blk v tp #[.pointer (some ⟨M.p, 0, none⟩), .int .i64 (root : Nat)] 79) u := by subst hu; exact ⟨(HQ.out.bx.at_ (i := 0) rfl).drew, (HQ.out.bx.at_ (i := i + 1) HT.out).drew⟩
  have HQ0 := Lib.hid (show Qn w0 u (⟨bx, #[.int .i64 x.b.x0, .int .i64 x.b.y0, .int .i64 x.b.x1, .int .i64 x.b.y1, .int .i64 x.of], 35⟩ :: L) R M S D K from by subst hu; exact HQ.out.grew ⟨rfl, rfl, rfl, Nat.le_refl _, fun _ _ => rfl⟩)
  clear hu HQ
  refine wpH_take (i := 0) (v := ?_) rfl rfl (by kernel_rfl) (by kernel_rfl) (by kernel_rfl) (fun _ _ _ h => h) (Or.inl ⟨by rfl, ?_⟩) hS0 ?_
  rotate_left
  · (intro w_ hw_; go_simp; try with_reducible rfl)
  simp only [List.setIfInBounds_toArray, List.set_cons_zero, List.set_cons_succ]
  refine wpH_take (i := 1) (v := ?_) rfl rfl (by kernel_rfl) (by kernel_rfl) (by kernel_rfl) (fun _ _ _ h => h) (Or.inl ⟨by rfl, ?_⟩) hS0 ?_
  rotate_left
  · (intro w_ hw_; go_simp; try with_reducible rfl)
  simp only [List.setIfInBounds_toArray, List.set_cons_zero, List.set_cons_succ]
  refine wpH_take (i := 2) (v := ?_) rfl rfl (by kernel_rfl) (by kernel_rfl) (by kernel_rfl) (fun _ _ _ h => h) (Or.inl ⟨by rfl, ?_⟩) hS0 ?_
  rotate_left
  · (intro w_ hw_; obtain ⟨q1, q2⟩ := hw_; have q1 := q1.five; have q2 := q2.two; go_simp; try with_reducible rfl)
  simp only [List.setIfInBounds_toArray, List.set_cons_zero, List.set_cons_succ]
  refine wpH_take (i := 3) (v := ?_) rfl rfl (by kernel_rfl) (by kernel_rfl) (by kernel_rfl) (fun _ _ _ h => h) (Or.inl ⟨by rfl, ?_⟩) hS0 ?_
  rotate_left
  · (intro w_ hw_; go_simp; try with_reducible rfl)
  simp only [List.setIfInBounds_toArray, List.set_cons_zero, List.set_cons_succ]
  refine wpH_take (i := 4) (v := ?_) rfl rfl (by kernel_rfl) (by kernel_rfl) (by kernel_rfl) (fun _ _ _ h => h) (Or.inl ⟨by rfl, ?_⟩) hS0 ?_
  rotate_left
  · (intro w_ hw_; obtain ⟨q1, q2⟩ := hw_; have q1 := q1.five; have q2 := q2.two; go_simp; try with_reducible rfl)
  simp only [List.setIfInBounds_toArray, List.set_cons_zero, List.set_cons_succ]
  refine wpH_take (i := 5) (v := .agg #[.int .i64 x.b.x0, .int .i64 x.b.y0, .int .i64 x.b.x1, .int .i64 x.b.y1, .int .i64 x.of]) rfl rfl (by kernel_rfl) (by kernel_rfl) (by kernel_rfl) (fun _ _ _ h => h) (Or.inl ⟨by rfl, ?_⟩) hS0 ?_
  · (intro w_ hw_; exact exec_load 35 (.tmp 3) rfl rfl (run_load_agg (Tryz.isAgg35 _) (Tryz.sizeOf35 _) hw_.1 (by simp)))
  simp only [List.setIfInBounds_toArray, List.set_cons_zero, List.set_cons_succ]
  refine wpH_callv (i := 6) (by kernel_rfl) rfl rfl (by rfl) (tup2 (find_leaf HQ0.out HI.out (i := i + 1) HT.out HN.out HNO.out)) (by go_simp) ?_
  rintro _ v2 ⟨rfl, S1, hs, hq, hin⟩
  have hS1 : (fun v => Blk v bx #[.int .i64 x.b.x0, .int .i64 x.b.y0, .int .i64 x.b.x1, .int .i64 x.b.y1, .int .i64 x.of] 35 ∧ Blk v tp #[.pointer (some ⟨M.p, 0, none⟩), .int .i64 (root : Nat)] 79) v2 := ⟨hq.bx.at_ (i := 0) rfl, hq.bx.at_ (i := i + 1) HT.out⟩
  clear hS0
  refine ⟨hS1, ?_⟩
  simp only [List.setIfInBounds_toArray, List.set_cons_zero, List.set_cons_succ]
  have HS := Lib.hid hs
  have HIN := Lib.hid hin
  have HQ := Lib.hid hq
  clear hs hin hq HQ0 HI
  refine wpH_take (i := 7) (v := ?_) rfl rfl (by kernel_rfl) (by kernel_rfl) (by kernel_rfl) (fun _ _ _ h => h) (Or.inl ⟨by rfl, ?_⟩) hS1 ?_
  rotate_left
  · (intro w_ hw_; go_simp; try with_reducible rfl)
  simp only [List.setIfInBounds_toArray, List.set_cons_zero, List.set_cons_succ]
  refine wpH_take (i := 8) (v := ?_) rfl rfl (by kernel_rfl) (by kernel_rfl) (by kernel_rfl) (fun _ _ _ h => h) (Or.inl ⟨by rfl, ?_⟩) hS1 ?_
  rotate_left
  · (intro w_ hw_; go_simp; try with_reducible rfl)
  simp only [List.setIfInBounds_toArray, List.set_cons_zero, List.set_cons_succ]
  refine wpH_take (i := 9) (v := ?_) rfl rfl (by kernel_rfl) (by kernel_rfl) (by kernel_rfl) (fun _ _ _ h => h) (Or.inl ⟨by rfl, ?_⟩) hS1 ?_
  rotate_left
  · (intro w_ hw_; go_simp; try with_reducible rfl)
  simp only [List.setIfInBounds_toArray, List.set_cons_zero, List.set_cons_succ]
  refine wpH_take (i := 10) (v := ?_) rfl rfl (by kernel_rfl) (by kernel_rfl) (by kernel_rfl) (fun _ _ _ h => h) (Or.inl ⟨by rfl, ?_⟩) hS1 ?_
  rotate_left
  · (intro w_ hw_; go_simp; try with_reducible rfl)
  simp only [List.setIfInBounds_toArray, List.set_cons_zero, List.set_cons_succ]
  refine wpH_take (i := 11) (v := ?_) rfl rfl (by kernel_rfl) (by kernel_rfl) (by kernel_rfl) (fun _ _ _ h => h) (Or.inl ⟨by rfl, ?_⟩) hS1 ?_
  rotate_left
  · (intro w_ hw_; go_simp; try with_reducible rfl)
  simp only [List.setIfInBounds_toArray, List.set_cons_zero, List.set_cons_succ]
  clear hS1
  refine wpAnyH_done (by kernel_rfl) ?_ _
  go_wp2_with fail
  refine wp_region_H (fun v => Blk v bx #[.int .i64 x.b.x0, .int .i64 x.b.y0, .int .i64 x.b.x1, .int .i64 x.b.y1, .int .i64 x.of] 35 ∧ Blk v tp #[.pointer (some ⟨M.p, 0, none⟩), .int .i64 (root : Nat)] 79) (by kernel_rfl) (fun u hu => ?_)
  have hS0 : (fun v => Blk v bx #[.int .i64 x.b.x0, .int .i64 x.b.y0, .int .i64 x.b.x1, .int .i64 x.b.y1, .int .i64 x.of] 35 ∧ Blk v tp #[.pointer (some ⟨M.p, 0, none⟩), .int .i64 (root : Nat)] 79) u := by subst hu; exact ⟨(HQ.out.bx.at_ (i := 0) rfl).drew, (HQ.out.bx.at_ (i := i + 1) HT.out).drew⟩
  have HQ0 := Lib.hid (show Qn w0 u (⟨bx, #[.int .i64 x.b.x0, .int .i64 x.b.y0, .int .i64 x.b.x1, .int .i64 x.b.y1, .int .i64 x.of], 35⟩ :: L) R M S1 D K from by subst hu; exact HQ.out.grew ⟨rfl, rfl, rfl, Nat.le_refl _, fun _ _ => rfl⟩)
  clear hu HQ
  refine wpH_take (i := 0) (v := ?_) rfl rfl (by kernel_rfl) (by kernel_rfl) (by kernel_rfl) (fun _ _ _ h => h) (Or.inl ⟨by rfl, ?_⟩) hS0 ?_
  rotate_left
  · (intro w_ hw_; go_simp; try with_reducible rfl)
  simp only [List.setIfInBounds_toArray, List.set_cons_zero, List.set_cons_succ]
  refine wpH_take (i := 1) (v := ?_) rfl rfl (by kernel_rfl) (by kernel_rfl) (by kernel_rfl) (fun _ _ _ h => h) (Or.inl ⟨by rfl, ?_⟩) hS0 ?_
  rotate_left
  · (intro w_ hw_; obtain ⟨q1, q2⟩ := hw_; have q1 := q1.five; have q2 := q2.two; go_simp; try with_reducible rfl)
  simp only [List.setIfInBounds_toArray, List.set_cons_zero, List.set_cons_succ]
  refine wpH_take (i := 2) (v := ?_) rfl rfl (by kernel_rfl) (by kernel_rfl) (by kernel_rfl) (fun _ _ _ h => h) (Or.inl ⟨by rfl, ?_⟩) hS0 ?_
  rotate_left
  · (intro w_ hw_; go_simp; try with_reducible rfl)
  simp only [List.setIfInBounds_toArray, List.set_cons_zero, List.set_cons_succ]
  refine wpH_take (i := 3) (v := ?_) rfl rfl (by kernel_rfl) (by kernel_rfl) (by kernel_rfl) (fun _ _ _ h => h) (Or.inl ⟨by rfl, ?_⟩) hS0 ?_
  rotate_left
  · (intro w_ hw_; obtain ⟨q1, q2⟩ := hw_; have q1 := q1.five; have q2 := q2.two; go_simp; try with_reducible rfl)
  simp only [List.setIfInBounds_toArray, List.set_cons_zero, List.set_cons_succ]
  refine wpH_take (i := 4) (v := ?_) rfl rfl (by kernel_rfl) (by kernel_rfl) (by kernel_rfl) (fun _ _ _ h => h) (Or.inl ⟨by rfl, ?_⟩) hS0 ?_
  rotate_left
  · (intro w_ hw_; go_simp; try with_reducible rfl)
  simp only [List.setIfInBounds_toArray, List.set_cons_zero, List.set_cons_succ]
  refine wpH_take (i := 5) (v := ?_) rfl rfl (by kernel_rfl) (by kernel_rfl) (by kernel_rfl) (fun _ _ _ h => h) (Or.inl ⟨by rfl, ?_⟩) hS0 ?_
  rotate_left
  · (intro w_ hw_; go_simp; try with_reducible rfl)
  simp only [List.setIfInBounds_toArray, List.set_cons_zero, List.set_cons_succ]
  refine wpH_take (i := 6) (v := .agg #[.int .i64 x.b.x0, .int .i64 x.b.y0, .int .i64 x.b.x1, .int .i64 x.b.y1]) rfl rfl (by kernel_rfl) (by kernel_rfl) (by kernel_rfl) (fun _ _ _ h => h) (Or.inl ⟨by rfl, ?_⟩) hS0 ?_
  · (intro w_ hw_; exact exec_load 33 (.tmp 43) rfl rfl (run_load_agg (Tryz.isAgg33 _) (Tryz.sizeOf33 _) hw_.1 (by simp)))
  simp only [List.setIfInBounds_toArray, List.set_cons_zero, List.set_cons_succ]
  refine wpH_take (i := 7) (v := ?_) rfl rfl (by kernel_rfl) (by kernel_rfl) (by kernel_rfl) (fun _ _ _ h => h) (Or.inl ⟨by rfl, ?_⟩) hS0 ?_
  rotate_left
  · (intro w_ hw_; go_simp; try with_reducible rfl)
  simp only [List.setIfInBounds_toArray, List.set_cons_zero, List.set_cons_succ]
  refine wpH_take (i := 8) (v := ?_) rfl rfl (by kernel_rfl) (by kernel_rfl) (by kernel_rfl) (fun _ _ _ h => h) (Or.inl ⟨by rfl, ?_⟩) hS0 ?_
  rotate_left
  · (intro w_ hw_; obtain ⟨q1, q2⟩ := hw_; have q1 := q1.five; have q2 := q2.two; go_simp; try with_reducible rfl)
  simp only [List.setIfInBounds_toArray, List.set_cons_zero, List.set_cons_succ]
  refine wpH_take (i := 9) (v := ?_) rfl rfl (by kernel_rfl) (by kernel_rfl) (by kernel_rfl) (fun _ _ _ h => h) (Or.inl ⟨by rfl, ?_⟩) hS0 ?_
  rotate_left
  · (intro w_ hw_; obtain ⟨q1, q2⟩ := hw_; have q1 := q1.five; have q2 := q2.two; go_simp; try with_reducible rfl)
  simp only [List.setIfInBounds_toArray, List.set_cons_zero, List.set_cons_succ]
  refine wpH_take (i := 10) (v := ?_) rfl rfl (by kernel_rfl) (by kernel_rfl) (by kernel_rfl) (fun _ _ _ h => h) (Or.inl ⟨by rfl, ?_⟩) hS0 ?_
  rotate_left
  · (intro w_ hw_; go_simp; try with_reducible rfl)
  simp only [List.setIfInBounds_toArray, List.set_cons_zero, List.set_cons_succ]
  have hbl := (Below.refl u.heap.size u).alloc (Nat.le_refl _) (.map #[] 0)
  have hS1 : (fun v => Blk v bx #[.int .i64 x.b.x0, .int .i64 x.b.y0, .int .i64 x.b.x1, .int .i64 x.b.y1, .int .i64 x.of] 35 ∧ Blk v tp #[.pointer (some ⟨M.p, 0, none⟩), .int .i64 (root : Nat)] 79) (u.alloc (.map #[] 0)) := ⟨hS0.1.grew hbl, hS0.2.grew hbl⟩
  refine wpH_run (i := 11) (v := .map (some u.heap.size)) (w' := u.alloc (.map #[] 0)) (by kernel_rfl) rfl rfl (by rfl) (exec_makeMap rfl) hS1 ?_
  simp only [List.setIfInBounds_toArray, List.set_cons_zero, List.set_cons_succ]
  have HQ1 := Lib.hid (HQ0.out.grew hbl)
  clear hbl hS0 HQ0
  generalize u.heap.size = mm at *
  generalize u.alloc (.map #[] 0) = u1 at *
  refine wpH_callv (i := 12) (by kernel_rfl) rfl rfl (by rfl) (int_tup (insert_leaf HQ1.out HIN.out (i := i + 1) HT.out (HN.out.same HS.out) HX.out HM.out (.map (some mm)))) (by go_simp) ?_
  rintro _ v2 ⟨rfl, S2, hnp, hnow, hval, hq, hin⟩
  have hS2 : (fun v => Blk v bx #[.int .i64 x.b.x0, .int .i64 x.b.y0, .int .i64 x.b.x1, .int .i64 x.b.y1, .int .i64 x.of] 35 ∧ Blk v tp #[.pointer (some ⟨M.p, 0, none⟩), .int .i64 (root : Nat)] 79) v2 := ⟨hq.bx.at_ (i := 0) rfl, hq.bx.at_ (i := i + 1) HT.out⟩
  clear hS1
  refine ⟨hS2, ?_⟩
  simp only [List.setIfInBounds_toArray, List.set_cons_zero, List.set_cons_succ]
  have HQ := Lib.hid hq
  have HI2 := Lib.hid hin
  have HF := Lib.hid (And.intro hnp (And.intro hnow hval))
  clear hq hin hnp hnow hval HQ1 HIN
  refine wpH_callv (i := 13) (by kernel_rfl) rfl rfl (by rfl) (int_tupM (back_same HQ.out HI2.out (er := 0) rfl)) (by go_simp) ?_
  rintro _ v3 ⟨rfl, M2, hh, hq, hin⟩
  have hS3 : (fun v => Blk v bx #[.int .i64 x.b.x0, .int .i64 x.b.y0, .int .i64 x.b.x1, .int .i64 x.b.y1, .int .i64 x.of] 35 ∧ Blk v tp #[.pointer (some ⟨M.p, 0, none⟩), .int .i64 (root : Nat)] 79) v3 := ⟨hq.bx.at_ (i := 0) rfl, hq.bx.at_ (i := i + 1) HT.out⟩
  clear hS2
  refine ⟨hS3, ?_⟩
  simp only [List.setIfInBounds_toArray, List.set_cons_zero, List.set_cons_succ]
  have HQ2 := Lib.hid hq
  have HI3 := Lib.hid hin
  have HH := Lib.hid hh
  clear hq hin hh HQ HI2
  refine wpH_take (i := 14) (v := ?_) rfl rfl (by kernel_rfl) (by kernel_rfl) (by kernel_rfl) (fun _ _ _ h => h) (Or.inl ⟨by rfl, ?_⟩) hS3 ?_
  rotate_left
  · (intro w_ hw_; go_simp; try with_reducible rfl)
  simp only [List.setIfInBounds_toArray, List.set_cons_zero, List.set_cons_succ]
  clear hS3
  refine wpAnyH_done (by kernel_rfl) ?_ _
  go_wp2
  go_ret
  exact ⟨rfl, M2, S2, HH.out, HF.out.1, HF.out.2.1.trans HS.out.now, fun j hj => (HF.out.2.2 j hj).trans HS.out.val, HQ2.out.sub (List.Sublist.cons _ (List.Sublist.refl _)) (List.Sublist.refl _), HI3.out⟩
end
end Go.Proofs.YtfmdmfiljplkoaaGreat
