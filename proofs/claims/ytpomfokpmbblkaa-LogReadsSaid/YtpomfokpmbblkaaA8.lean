/- Walks: told. Printed by mk_a8.py. -/
import Derived.Test.YtpomfokpmbblkaaA7
namespace Go.Proofs.Ytpomfokpmbblkaa
open Go.RowKit Go.Maps
set_option maxRecDepth 8000

theorem Grps.at_ {w : World} {v : Value} {gs : List (List (Int × List Nat))} {B : Nat} (h : Grps w v gs B) (k : Nat) (hk : k < gs.length) : ∃ g c u, v = .slice (some ⟨g, 0, none⟩) gs.length c ∧ w.cell? ⟨g, k, none⟩ = some u ∧ Chg w u gs[k] := by
  obtain ⟨vs, h1, ho, h2⟩ := h
  obtain ⟨u, e, _, hu, _⟩ := h2 k hk
  rcases id ho.2 with ⟨_, h0⟩ | ⟨g, cap, cur, rfl, _⟩
  · omega
  · have q0 := World.ownsRow.cells ho (g := g) rfl _ _ e
    rw [addr_add] at q0
    try rw [Nat.zero_add] at q0
    exact ⟨g, cap, u, rfl, q0, hu⟩
theorem Grps.form {w : World} {v : Value} {gs : List (List (Int × List Nat))} {B : Nat} (h : Grps w v gs B) : ∃ A c, v = .slice A gs.length c := by
  obtain ⟨vs, _, ho, _⟩ := h
  rcases ho.2 with ⟨rfl, h0⟩ | ⟨g, cap, cur, rfl, _⟩
  · exact ⟨none, 0, by rw [h0]⟩
  · exact ⟨_, _, rfl⟩
theorem Grps.bytes {w : World} {v : Value} {gs : List (List (Int × List Nat))} {B : Nat} (h : Grps w v gs B) : BytesIn gs := by
  intro g hg c hc b hb
  obtain ⟨k, hk, rfl⟩ := List.getElem_of_mem hg
  obtain ⟨_, _, u, _, _, hu⟩ := h.at_ k hk
  obtain ⟨j, hj, rfl⟩ := List.getElem_of_mem hc
  obtain ⟨_, _, _, _, _, _, _, _, _, hy, _⟩ := hu.at_ j hj
  exact hy.1 b hb
theorem Chg.le {w : World} {v : Value} {L : List (Int × List Nat)} (h : Chg w v L) : (L.length : Int) ≤ 9223372036854775807 := by
  have hm : maxLen = 9223372036854775807 := by decide
  obtain ⟨vs, _, ho, _⟩ := h
  rcases ho.2 with ⟨_, h0⟩ | ⟨g, cap, cur, _, _, _, h1, h2, _⟩
  · rw [h0]; decide
  · omega
/-- What stands while groups become the document's. -/
structure TdSt (w v : World) (gs : List (List (Int × List Nat))) (i : Nat) (ov lv : Value) (row : List (Int × List Nat)) : Prop where
  low : Below w.heap.size w v
  out : ∃ Bo, Bo ≤ v.heap.size ∧ RGs v w.heap.size ov (gs.take i) Bo ∧ ∀ j, lv.ownBlock = some j → Bo ≤ j
  row : RCg v w.heap.size lv row
section
variable {w v v' : World} {gs : List (List (Int × List Nat))} {i : Nat} {ov lv : Value} {row : List (Int × List Nat)}
theorem TdSt.grew (h : TdSt w v gs i ov lv row) (k : Below v.heap.size v v') : TdSt w v' gs i ov lv row := by
  obtain ⟨Bo, h0, h1, h2⟩ := h.out
  exact ⟨grow h.low k, ⟨Bo, Nat.le_trans h0 k.size, h1.grew k, h2⟩, h.row.grew k⟩
theorem TdSt.drew (h : TdSt w v gs i ov lv row) : TdSt w v.drew gs i ov lv row := h.grew ⟨rfl, rfl, rfl, Nat.le_refl _, fun _ _ => rfl⟩
theorem TdSt.fresh (h : TdSt w v gs i ov lv row) : TdSt w v gs i ov nilv [] := by
  obtain ⟨Bo, h0, h1, h2⟩ := h.out
  exact ⟨h.low, ⟨Bo, h0, h1, by intro j hj; simp [nilv, Value.ownBlock] at hj⟩, RCg.nil _ _⟩
theorem TdSt.push (h : TdSt w v gs i ov lv row) {g : Nat} {x : Int} {l : List Nat} (hB : Blk v g #[.int .i64 x, .string (str l)] 47) (hn : row.length ≤ 1000000000) :
    ∃ v' w', (Builtin.append_ #[45, 45] 45 #[lv, .slice (some ⟨g, 0, none⟩) 1 1]).run Try.prog v = .ok v' w' ∧ TdSt w w' gs i ov v' (row ++ [(x, l)]) := by
  obtain ⟨Bo, h0, h1, h2⟩ := h.out
  obtain ⟨v', w', hrun, q1, hgr, hloc⟩ := h.row.append hn h.low.size hB
  have ht : Turn lv.ownBlock.toList v w' := (Turn.refl _ v).grown hgr (fun k e => .inl (by simp [e]))
  have hb : Below w.heap.size v w' := (Below.refl _ v).grown hgr h.low.size (fun j e => (h.row.lt e).1)
  refine ⟨v', w', hrun, h.low.trans hb, ⟨Bo, Nat.le_trans h0 ht.size, h1.turn ht (fun j hj => .inr (h2 j (by simpa using hj))) (fun j hj hm => ?_), fun j hj => ?_⟩, q1⟩
  · obtain ⟨cs, e⟩ := h1.kind hj
    obtain ⟨cs', e'⟩ := h.row.kind (g := j) (by simpa using hm)
    rw [e] at e'; cases e'
  · rcases hloc with e | e
    · exact h2 j (by rw [← e]; exact hj)
    · rw [e] at hj; cases hj; exact h0
theorem TdSt.close (h : TdSt w v gs i ov lv row) (hi : i < gs.length) (hr : row = gs[i]) {g : Nat} (hB : Blk v g #[lv] 45) (hn : gs.length ≤ 1000000000) :
    ∃ v' w', (Builtin.append_ #[37, 37] 37 #[ov, .slice (some ⟨g, 0, none⟩) 1 1]).run Try.prog v = .ok v' w' ∧ TdSt w w' gs (i + 1) v' nilv [] := by
  obtain ⟨Bo, h0, h1, h2⟩ := h.out
  obtain ⟨v', w', hrun, q1, _, _, _, hgr, hloc⟩ := h1.append (by rw [List.length_take]; omega) h.low.size hB h.row
  have ht : Turn ov.ownBlock.toList v w' := (Turn.refl _ v).grown hgr (fun k e => .inl (by simp [e]))
  have hb : Below w.heap.size v w' := (Below.refl _ v).grown hgr h.low.size (fun j e => (h1.lt e).1)
  have et : gs.take (i + 1) = gs.take i ++ [row] := by rw [List.take_add_one, List.getElem?_eq_getElem hi, hr]; rfl
  exact ⟨v', w', hrun, h.low.trans hb, ⟨v.heap.size, ht.size, by rw [et]; exact q1, by intro j hj; simp [nilv, Value.ownBlock] at hj⟩, RCg.nil _ _⟩
end
set_option maxHeartbeats 8000000 in
theorem told_any {gv wv : Value} {gs ws : List (List (Int × List Nat))} {B0 bw Bw : Nat} {w : World} (h1 : Grps w gv gs B0) (h2 : RGs w bw wv ws Bw) (hh : BytesIn ws) (hng : gs.length ≤ 1000000000) (hnr : ∀ g ∈ gs, g.length ≤ 1000000000) :
    Calls Try.prog 23 #[gv, wv] w fun e w' => e = .returned (.bool (decide (gs = ws))) ∧ Below w.heap.size w w' := by
  obtain ⟨A, c, rfl⟩ := h1.form
  obtain ⟨n, hn⟩ : ∃ n, n = gs.length := ⟨_, rfl⟩
  rw [← hn] at h1 ⊢
  have HN := Lib.hid hn
  have HNR := Lib.hid (And.intro hng hnr)
  have H1 := Lib.hid h1
  have H2 := Lib.hid h2
  have HBY := Lib.hid hh
  have hnb : (n : Int) ≤ 1000000000 := by omega
  clear h1 h2 hh hn hng hnr
  go_enter Try.func23, Try.ntmps23
  go_wp2_with fail
  go_loopw [5, 6] (fun ov iv wr => ∃ i : Nat, i ≤ n ∧ iv = .int .i64 i ∧ Hid (TdSt w wr gs i ov nilv [])) (fun _ iv _ => n - (intOf iv).toNat)
  case atStart => exact ⟨0, by omega, rfl, Lib.hid ⟨Below.refl _ _, ⟨0, Nat.zero_le _, RGs.nil w _ 0, by intro j hj; simp [nilv, Value.ownBlock] at hj⟩, RCg.nil _ _⟩⟩
  case round =>
    obtain ⟨i, hi, rfl, HS0⟩ := hrel
    by_cases hlt : i < n
    · have hig : i < gs.length := by rw [← HN.out]; exact hlt
      obtain ⟨gs0, _, u, e, c1, hu⟩ := H1.out.at_ i hig
      injection e with e e2 e3
      subst e
      clear e2 e3
      obtain ⟨nr, hnr⟩ : ∃ nr, nr = gs[i].length := ⟨_, rfl⟩
      obtain ⟨Ar, cr, rfl⟩ := hu.slice
      have hul := hu.le
      rw [← hnr] at c1 hu hul
      have HNI := Lib.hid hnr
      have HC1 := Lib.hid c1
      have HU := Lib.hid hu
      have HNB9 : Hid (gs[i].length ≤ 1000000000) := Lib.hid (HNR.out.2 _ (List.getElem_mem hig))
      clear hnr c1 hu
      go_wp2_with fail
      go_loopw [7, 8] (fun lv kv wk => ∃ k : Nat, k ≤ nr ∧ kv = .int .i64 k ∧ Hid (TdSt w wk gs i u5 lv (gs[i].take k))) (fun _ kv _ => nr - (intOf kv).toNat)
      case atStart => exact ⟨0, by omega, rfl, HS0⟩
      case round =>
        clear HS0
        obtain ⟨k, hk, rfl, HS⟩ := hrel
        have c1 := cell_grew HC1.out HS.out.low
        by_cases hk2 : k < nr
        · have hki : k < gs[i].length := by rw [← HNI.out]; exact hk2
          obtain ⟨gr, _, pp, z, d, e, e4, f1, f2, hy, e5⟩ := HU.out.at_ k hki
          injection e with e e2 e3
          subst e
          clear e2 e3 e4 e5
          obtain ⟨px, hpx⟩ : ∃ px, px = gs[i][k].1 := ⟨_, rfl⟩
          obtain ⟨ll, hll⟩ : ∃ ll, ll = gs[i][k].2 := ⟨_, rfl⟩
          rw [← hpx] at f1
          rw [← hll] at hy
          have HTK : Hid (gs[i].take k ++ [(px, ll)] = gs[i].take (k + 1)) := Lib.hid (by rw [List.take_add_one, List.getElem?_eq_getElem hki, hpx, hll]; rfl)
          have HSRC : Hid (∀ v, Below w.heap.size w v → (v.cell? ⟨gs0, i, none⟩ = some (.slice (some ⟨gr, 0, none⟩) nr cr) ∧ v.cell? ⟨gr, k * 2, none⟩ = some (.int .i64 px) ∧ v.cell? ⟨gr, k * 2 + 1, none⟩ = some (.slice (some pp) z d)) ∧ Byt v (.slice (some pp) z d) ll) :=
            Lib.hid (fun v hv => ⟨⟨cell_grew HC1.out hv, cell_grew f1 hv, cell_grew f2 hv⟩, hy.grew hv⟩)
          have HNB := Lib.hid (show k ≤ 1000000000 by have := HNB9.out; omega)
          obtain ⟨ov, hov⟩ : ∃ ov, ov = u5 := ⟨_, rfl⟩
          obtain ⟨lv, hlv⟩ : ∃ lv, lv = u7 := ⟨_, rfl⟩
          rw [← hov, ← hlv] at HS ⊢
          clear f1 f2 hy hpx hll hov hlv
          go_wp2_with fail
          refine wp_region_H (fun v => (v.cell? ⟨gs0, i, none⟩ = some (.slice (some ⟨gr, 0, none⟩) nr cr) ∧ v.cell? ⟨gr, k * 2, none⟩ = some (.int .i64 px) ∧ v.cell? ⟨gr, k * 2 + 1, none⟩ = some (.slice (some pp) z d)) ∧ Byt v (.slice (some pp) z d) ll) (by kernel_rfl) (fun u0 hu0 => ?_)
          have hS0 : (fun v => (v.cell? ⟨gs0, i, none⟩ = some (.slice (some ⟨gr, 0, none⟩) nr cr) ∧ v.cell? ⟨gr, k * 2, none⟩ = some (.int .i64 px) ∧ v.cell? ⟨gr, k * 2 + 1, none⟩ = some (.slice (some pp) z d)) ∧ Byt v (.slice (some pp) z d) ll) u0 := by subst hu0; exact HSRC.out _ HS.out.low.drew
          have g0 : TdSt w u0 gs i ov lv (gs[i].take k) := by subst hu0; exact HS.out.drew
          clear hu0
          refine wpH_take (i := 0) (v := ?_) rfl rfl (by kernel_rfl) (by kernel_rfl) (by kernel_rfl) (fun _ _ _ h => h) (Or.inl ⟨by rfl, ?_⟩) hS0 ?_
          rotate_left
          · (intro w_ hw_; go_simp; try with_reducible rfl)
          simp only [List.setIfInBounds_toArray, List.set_cons_zero, List.set_cons_succ]
          refine wpH_take (i := 1) (v := ?_) rfl rfl (by kernel_rfl) (by kernel_rfl) (by kernel_rfl) (fun _ _ _ h => h) (Or.inl ⟨by rfl, ?_⟩) hS0 ?_
          rotate_left
          · (intro w_ hw_; go_simp; try with_reducible rfl)
          simp only [List.setIfInBounds_toArray, List.set_cons_zero, List.set_cons_succ]
          refine wpH_take (i := 2) (v := ?_) rfl rfl (by kernel_rfl) (by kernel_rfl) (by kernel_rfl) (fun _ _ _ h => h) (Or.inl ⟨by rfl, ?_⟩) hS0 ?_
          rotate_left
          · (intro w_ hw_; go_simp; try with_reducible rfl)
          simp only [List.setIfInBounds_toArray, List.set_cons_zero, List.set_cons_succ]
          refine wpH_take (i := 3) (v := ?_) rfl rfl (by kernel_rfl) (by kernel_rfl) (by kernel_rfl) (fun _ _ _ h => h) (Or.inl ⟨by rfl, ?_⟩) hS0 ?_
          rotate_left
          · (intro w_ hw_; go_simp; try with_reducible rfl)
          simp only [List.setIfInBounds_toArray, List.set_cons_zero, List.set_cons_succ]
          refine wpH_take (i := 4) (v := ?_) rfl rfl (by kernel_rfl) (by kernel_rfl) (by kernel_rfl) (fun _ _ _ h => h) (Or.inl ⟨by rfl, ?_⟩) hS0 ?_
          rotate_left
          · (intro w_ hw_; (have q1 := hw_.1.1; have q2 := hw_.1.2.1; have q3 := hw_.1.2.2; clear hw_); go_simp; try with_reducible rfl)
          simp only [List.setIfInBounds_toArray, List.set_cons_zero, List.set_cons_succ]
          refine wpH_take (i := 5) (v := ?_) rfl rfl (by kernel_rfl) (by kernel_rfl) (by kernel_rfl) (fun _ _ _ h => h) (Or.inl ⟨by rfl, ?_⟩) hS0 ?_
          rotate_left
          · (intro w_ hw_; go_simp; try with_reducible rfl)
          simp only [List.setIfInBounds_toArray, List.set_cons_zero, List.set_cons_succ]
          refine wpH_take (i := 6) (v := ?_) rfl rfl (by kernel_rfl) (by kernel_rfl) (by kernel_rfl) (fun _ _ _ h => h) (Or.inl ⟨by rfl, ?_⟩) hS0 ?_
          rotate_left
          · (intro w_ hw_; go_simp; try with_reducible rfl)
          simp only [List.setIfInBounds_toArray, List.set_cons_zero, List.set_cons_succ]
          refine wpH_take (i := 7) (v := ?_) rfl rfl (by kernel_rfl) (by kernel_rfl) (by kernel_rfl) (fun _ _ _ h => h) (Or.inl ⟨by rfl, ?_⟩) hS0 ?_
          rotate_left
          · (intro w_ hw_; go_simp; try with_reducible rfl)
          simp only [List.setIfInBounds_toArray, List.set_cons_zero, List.set_cons_succ]
          refine wpH_take (i := 8) (v := ?_) rfl rfl (by kernel_rfl) (by kernel_rfl) (by kernel_rfl) (fun _ _ _ h => h) (Or.inl ⟨by rfl, ?_⟩) hS0 ?_
          rotate_left
          · (intro w_ hw_; (have q1 := hw_.1.1; have q2 := hw_.1.2.1; have q3 := hw_.1.2.2; clear hw_); go_simp; try with_reducible rfl)
          simp only [List.setIfInBounds_toArray, List.set_cons_zero, List.set_cons_succ]
          refine wpH_take (i := 9) (v := ?_) rfl rfl (by kernel_rfl) (by kernel_rfl) (by kernel_rfl) (fun _ _ _ h => h) (Or.inl ⟨by rfl, ?_⟩) hS0 ?_
          rotate_left
          · (intro w_ hw_; go_simp; try with_reducible rfl)
          simp only [List.setIfInBounds_toArray, List.set_cons_zero, List.set_cons_succ]
          refine wpH_take (i := 10) (v := ?_) rfl rfl (by kernel_rfl) (by kernel_rfl) (by kernel_rfl) (fun _ _ _ h => h) (Or.inl ⟨by rfl, ?_⟩) hS0 ?_
          rotate_left
          · (intro w_ hw_; go_simp; try with_reducible rfl)
          simp only [List.setIfInBounds_toArray, List.set_cons_zero, List.set_cons_succ]
          refine wpH_take (i := 11) (v := ?_) rfl rfl (by kernel_rfl) (by kernel_rfl) (by kernel_rfl) (fun _ _ _ h => h) (Or.inl ⟨by rfl, ?_⟩) hS0 ?_
          rotate_left
          · (intro w_ hw_; go_simp; try with_reducible rfl)
          simp only [List.setIfInBounds_toArray, List.set_cons_zero, List.set_cons_succ]
          refine wpH_take (i := 12) (v := ?_) rfl rfl (by kernel_rfl) (by kernel_rfl) (by kernel_rfl) (fun _ _ _ h => h) (Or.inl ⟨by rfl, ?_⟩) hS0 ?_
          rotate_left
          · (intro w_ hw_; (have q1 := hw_.1.1; have q2 := hw_.1.2.1; have q3 := hw_.1.2.2; clear hw_); go_simp; try with_reducible rfl)
          simp only [List.setIfInBounds_toArray, List.set_cons_zero, List.set_cons_succ]
          refine wpH_take (i := 13) (v := ?_) rfl rfl (by kernel_rfl) (by kernel_rfl) (by kernel_rfl) (fun _ _ _ h => h) (Or.inl ⟨by rfl, ?_⟩) hS0 ?_
          rotate_left
          · (intro w_ hw_; go_simp; try with_reducible rfl)
          simp only [List.setIfInBounds_toArray, List.set_cons_zero, List.set_cons_succ]
          refine wpH_take (i := 14) (v := ?_) rfl rfl (by kernel_rfl) (by kernel_rfl) (by kernel_rfl) (fun _ _ _ h => h) (Or.inl ⟨by rfl, ?_⟩) hS0 ?_
          rotate_left
          · (intro w_ hw_; go_simp; try with_reducible rfl)
          simp only [List.setIfInBounds_toArray, List.set_cons_zero, List.set_cons_succ]
          refine wpH_take (i := 15) (v := ?_) rfl rfl (by kernel_rfl) (by kernel_rfl) (by kernel_rfl) (fun _ _ _ h => h) (Or.inl ⟨by rfl, ?_⟩) hS0 ?_
          rotate_left
          · (intro w_ hw_; go_simp; try with_reducible rfl)
          simp only [List.setIfInBounds_toArray, List.set_cons_zero, List.set_cons_succ]
          refine wpH_take (i := 16) (v := ?_) rfl rfl (by kernel_rfl) (by kernel_rfl) (by kernel_rfl) (fun _ _ _ h => h) (Or.inl ⟨by rfl, ?_⟩) hS0 ?_
          rotate_left
          · (intro w_ hw_; (have q1 := hw_.1.1; have q2 := hw_.1.2.1; have q3 := hw_.1.2.2; clear hw_); go_simp; try with_reducible rfl)
          simp only [List.setIfInBounds_toArray, List.set_cons_zero, List.set_cons_succ]
          refine wpH_take (i := 17) (v := (.string (str ll))) rfl rfl (by kernel_rfl) (by kernel_rfl) (by kernel_rfl) (fun _ _ _ h => h) (Or.inl ⟨by rfl, ?_⟩) hS0 ?_
          · (intro w_ hw_; exact exec_convert 42 9 (.tmp 40) rfl rfl (hw_.2.strv))
          simp only [List.setIfInBounds_toArray, List.set_cons_zero, List.set_cons_succ]
          refine wpH_take (i := 18) (v := ?_) rfl rfl (by kernel_rfl) (by kernel_rfl) (by kernel_rfl) (fun _ _ _ h => h) (Or.inl ⟨by rfl, ?_⟩) hS0 ?_
          rotate_left
          · (intro w_ hw_; go_simp; try with_reducible rfl)
          simp only [List.setIfInBounds_toArray, List.set_cons_zero, List.set_cons_succ]
          obtain ⟨u2, hu2⟩ : ∃ u2, u2 = u0.alloc (.cells #[.int .i64 px, .string (str ll)] 47) := ⟨_, rfl⟩
          have hb2 : Below u0.heap.size u0 u2 := by subst hu2; exact grow_alloc (Below.refl _ _) _
          have hB : Blk u2 u0.heap.size #[.int .i64 px, .string (str ll)] 47 := by subst hu2; exact Blk.new _ _ _
          have g2 := g0.grew hb2
          have hS1 : (fun v => (v.cell? ⟨gs0, i, none⟩ = some (.slice (some ⟨gr, 0, none⟩) nr cr) ∧ v.cell? ⟨gr, k * 2, none⟩ = some (.int .i64 px) ∧ v.cell? ⟨gr, k * 2 + 1, none⟩ = some (.slice (some pp) z d)) ∧ Byt v (.slice (some pp) z d) ll) u2 := HSRC.out _ g2.low
          clear hS0
          refine wpH_run (i := 19) (v := (.slice (some ⟨u0.heap.size, 0, none⟩) 1 1)) (w' := u2) (by kernel_rfl) rfl rfl (by rfl) (by rw [hu2]; go_simp) hS1 ?_
          simp only [List.setIfInBounds_toArray, List.set_cons_zero, List.set_cons_succ]
          obtain ⟨v', u3, hrun, g3⟩ := g2.push hB (by have := HNB.out; rw [List.length_take]; omega)
          have hS2 : (fun v => (v.cell? ⟨gs0, i, none⟩ = some (.slice (some ⟨gr, 0, none⟩) nr cr) ∧ v.cell? ⟨gr, k * 2, none⟩ = some (.int .i64 px) ∧ v.cell? ⟨gr, k * 2 + 1, none⟩ = some (.slice (some pp) z d)) ∧ Byt v (.slice (some pp) z d) ll) u3 := HSRC.out _ g3.low
          clear hS1
          refine wpH_run (i := 20) (v := v') (w' := u3) (by kernel_rfl) rfl rfl (by rfl) (by exact exec_append (.tmp 24) (.tmp 43) 45 45 rfl rfl rfl hrun) hS2 ?_
          simp only [List.setIfInBounds_toArray, List.set_cons_zero, List.set_cons_succ]
          clear hrun hB g2 g0 hb2 hu2
          refine wpH_take (i := 21) (v := ?_) rfl rfl (by kernel_rfl) (by kernel_rfl) (by kernel_rfl) (fun _ _ _ h => h) (Or.inl ⟨by rfl, ?_⟩) hS2 ?_
          rotate_left
          · (intro w_ hw_; go_simp; try with_reducible rfl)
          simp only [List.setIfInBounds_toArray, List.set_cons_zero, List.set_cons_succ]
          rw [HTK.out] at g3
          have HG3 := Lib.hid g3
          clear g3
          clear hS2
          refine wpAnyH_done (by kernel_rfl) ?_ _

          go_wp2
          go_round
          case rel => exact ⟨k + 1, by omega, by go_num, HG3⟩
          case measure => simp only [intOf]; omega
        · obtain rfl : k = nr := by omega
          have hk3 : ¬ (k : Int) < k := by omega
          have hte : gs[i].take k = gs[i] := List.take_of_length_le (by rw [← HNI.out]; exact Nat.le_refl _)
          have hs := HS.out
          rw [hte] at hs
          obtain ⟨lv, hlv⟩ : ∃ lv, lv = u7 := ⟨_, rfl⟩
          obtain ⟨ov, hov⟩ : ∃ ov, ov = u5 := ⟨_, rfl⟩
          rw [← hlv, ← hov] at hs ⊢
          have hg8 := grow_alloc (Below.refl _ wr) (.cells #[lv] 45)
          obtain ⟨v', w9, hrun, h9⟩ := (hs.grew hg8).close hig rfl (Blk.new wr _ _) HNR.out.1
          obtain ⟨Al, cl, rfl⟩ := hs.row.form
          have HRUN := Lib.hid hrun
          have HG9 := Lib.hid h9
          clear hs hg8 hrun h9 hlv hov
          go_wp2_with (at_builtin; refine Lib.wpList_append_run _ rfl (.tmp 45) (.tmp 47) 37 37 rfl _ _ rfl rfl v' w9 HRUN.out ?_)
          exact ⟨⟨i + 1, by omega, by go_num, HG9⟩, by simp only [intOf]; omega⟩
    · obtain rfl : i = n := by omega
      have hk3 : ¬ (i : Int) < i := by omega
      have hte : gs.take i = gs := List.take_of_length_le (by rw [← HN.out]; exact Nat.le_refl _)
      obtain ⟨Bo, _, ho, _⟩ := HS0.out.out
      rw [hte] at ho
      have HSM := Lib.hid (Same_any ho (H2.out.grew HS0.out.low) H1.out.bytes HBY.out HNR.out.1)
      have HLOW := Lib.hid HS0.out.low
      clear ho HS0
      go_wp2_with fail
      refine HSM.out.mono ?_
      rintro e w9 ⟨rfl, hb9⟩
      have HB9 := Lib.hid (grow HLOW.out hb9)
      clear hb9
      go_wp2
      go_ret
      exact ⟨rfl, HB9.out⟩
end Go.Proofs.Ytpomfokpmbblkaa
