/- Walks: Take. Printed by mk_p16.py. Walks: Take of a new page; of none. Printed by mk_p17.py. Walks: back. Walks: Back. Walks: head. Walks: latest. Walks: begin. Printed by mk_p22.py. Walks: point. What Append leaves of a log and its disk; what a checkpoint leaves; a pool whose log was appended to; a pool's state is noted. -/
import Derived.Test.YtfmdmfiljplkoaaGreatPB
namespace Go.Proofs.YtfmdmfiljplkoaaGreat
open Go.RowKit Go.Maps
set_option maxRecDepth 8000
variable {ι : Type} [Bar ι]
theorem exec_mapEntry {P : Program} {ev : Operand → Value} {o : Oper} (t : TypeId) (m k : Operand) (ho : o.op = .mapEntry t m k) {vm vk r : Value} {w w' : World} (hm : ev m = vm) (hk : ev k = vk)
    (hr : (Instr.mapEntry t vm vk).run P w = .ok r w') : (execOp ev o).run P w = .ok (.value r) w' := by
  unfold execOp
  simp only [ho, Sem.run_bind, Sem.run_pure, Result.andThen_ok, hm, hk, hr]
theorem exec_entryStore {P : Program} {ev : Operand → Value} {o : Oper} (t : TypeId) (m k x : Operand) (ho : o.op = .entryStore t m k x) {vm vk vx : Value} {w w' : World} (hm : ev m = vm) (hk : ev k = vk) (hx : ev x = vx)
    (hr : (Instr.entryStore t vm vk vx).run P w = .ok () w') : (execOp ev o).run P w = .ok .skip w' := by
  unfold execOp
  simp only [ho, Sem.run_bind, Sem.run_pure, Result.andThen_ok, hm, hk, hx, hr]
theorem wpH_two {P : Program} {ops : Array Oper} {Q : Exit → Act → World → Prop} {md : Region.Mode} {S : World → Prop} {i j d1 d2 : Nat} {oi oj : Oper} {v1 v2 : Value} {fuel : Nat} {listed : Array Bool} {T : Array Value} {D : List Deferred} {w : World}
    (hr : Region.ready md ops listed = [i, j]) (hi : ops[i]? = some oi) (hj : ops[j]? = some oj) (hd1 : oi.dst = some d1) (hd2 : oj.dst = some d2) (hw1 : Region.wanted oi (yielded ops T) = true) (hw2 : Region.wanted oj (yielded ops T) = true)
    (hrun1 : (execOp (Act.eval { tmps := T, defers := D }) oi).run P w = .ok (.value v1) w) (hrun2 : (execOp (Act.eval { tmps := T, defers := D }) oj).run P w = .ok (.value v2) w) (hS : S w)
    (h1 : wpAnyH P md ops Q S fuel (listed.setIfInBounds i true) { tmps := T.setIfInBounds d1 v1, defers := D } w) (h2 : wpAnyH P md ops Q S fuel (listed.setIfInBounds j true) { tmps := T.setIfInBounds d2 v2, defers := D } w) : wpAnyH P md ops Q S (fuel + 1) listed { tmps := T, defers := D } w := by
  refine wpAnyH_all hr (by simp) fun k hk => ?_
  rcases List.mem_cons.1 hk with rfl | hk
  · unfold Go.wpOp
    simp only [hi, hw1, if_true]
    refine .inl ?_
    unfold Oper.wp
    rw [hrun1]
    simp only [Oper.upon, Act.put, hd1]
    exact ⟨hS, h1⟩
  · obtain rfl : k = j := by simpa using hk
    unfold Go.wpOp
    simp only [hj, hw2, if_true]
    refine .inl ?_
    unfold Oper.wp
    rw [hrun2]
    simp only [Oper.upon, Act.put, hd2]
    exact ⟨hS, h2⟩
theorem Rd.nil_ (w : World) (L : Nat) : Rd w L none [] := ⟨by simp, fun h => absurd rfl h⟩
section
variable {w w' : World} {M : Mem} {S : Pl} {D D' : Dsk}
theorem PoolAt.c_pend_turn (h : PoolAt w M S D) (ht : Turn [M.mn] w w') : w'.cell? ⟨M.p, 26, none⟩ = some (.map (some M.mn)) := by
  have hap := h.apart
  refine (h.blk.turn ht (fun e => ?_)).cell 26
  simp at e
  refine (List.nodup_cons.1 hap).1 ?_
  rw [e]
  simp
theorem RowI.cut {g k c : Nat} {l : List Nat} (h : RowI w (.slice (some ⟨g, 0, none⟩) (k + 1) c) l) : RowI w (.slice (some ⟨g, 0, none⟩) k c) l.dropLast := by
  obtain ⟨h1, h2⟩ := h
  rcases h2 with ⟨e, _⟩ | ⟨g', cap, cur, e, hb, hh, hn, hm, hs, ht⟩
  · cases e
  · injection e with e1 e2 e3
    injection e1 with e1
    injection e1 with e1
    subst e3
    subst e1
    have hl : l.dropLast.length = k := by rw [List.length_dropLast]; omega
    refine ⟨by simp, .inr ⟨g, c, cur, by rw [hl], hb, hh, by omega, hm, hs, ?_⟩⟩
    rw [hl, Nat.mul_one]
    rw [← e2, Nat.mul_one] at ht
    have h3 := congrArg (List.take k) ht
    rw [List.take_take, Nat.min_eq_left (by omega)] at h3
    rw [h3, List.dropLast_eq_take, List.map_take]
    congr 1
    omega
theorem PoolAt.cut_free (h : PoolAt w M S D) {g k c : Nat} (hv : M.vf = .slice (some ⟨g, 0, none⟩) (k + 1) c) :
    PoolAt (w.setCell ⟨M.p, 1, none⟩ (.slice (some ⟨g, 0, none⟩) k c)) { M with vf := .slice (some ⟨g, 0, none⟩) k c } { S with now := { S.now with free := S.now.free.dropLast } } D ∧ PWent w (w.setCell ⟨M.p, 1, none⟩ (.slice (some ⟨g, 0, none⟩) k c)) M { M with vf := .slice (some ⟨g, 0, none⟩) k c } := by
  have hr := h.free
  rw [hv] at hr
  have hs := h.set_free hr.cut (by intro g' e; left; rw [hv]; exact e)
  refine ⟨hs.1, hs.2, fun j hj => .inl ?_, rfl⟩
  have e : ({ M with vf := .slice (some ⟨g, 0, none⟩) k c } : Mem).own = M.own := by
    simp [Mem.own, hv, Value.ownBlock]
  rw [e] at hj
  exact hj
def Pl.tookFree (S : Pl) (D : Dsk) : Pl := { S with now := { S.now with free := S.now.free.dropLast }, pend := S.pend.put S.now.top (widen D.rm []), moved := true }
def Pl.tookNew (S : Pl) (D : Dsk) : Pl := { S with now := { S.now with next := S.now.next + 1 }, pend := S.pend.put S.now.next (widen D.rm []), moved := true }
set_option maxHeartbeats 4000000 in
theorem PTake_free {Z : Pl} (h : PoolAt w M Z D) (ok : Z.Ok D) (hd : Z.dead = false) {g k c : Nat} (hvf : M.vf = .slice (some ⟨g, 0, none⟩) (k + 1) c) (hkc : k + 1 ≤ c) (hk1 : k + 1 ≤ 1048576) (htop : 1 ≤ Z.now.top) (htp : Z.now.top < Z.pages D) :
    Calls Tryz.prog 104 #[.pointer (some ⟨M.p, 0, none⟩)] w fun e w' => e = .returned (.tuple #[.int .i64 (Z.now.top : Nat), .int .i64 0]) ∧ ∃ M', PoolAt w' M' (Z.tookFree D) D ∧ PWent w w' M M' := by
  have HR := ready_pool h
  rw [hd] at HR
  have HR := Lib.hid HR
  have hfl := ok.free_le
  have HT := Lib.hid (top_any h (by omega))
  have hrm := ok.rm1 h.disk.ok
  have hw : (widen D.rm []).length = D.rm := widen_length (Nat.zero_le _)
  have HNE : Hid (widen D.rm [] ≠ []) := Lib.hid (by intro e; rw [e] at hw; simp at hw; omega)
  have HVF := Lib.hid hvf
  have H := Lib.hid h
  unfold Pl.tookFree
  obtain ⟨page, hpage⟩ : ∃ page, page = Z.now.top := ⟨_, rfl⟩
  rw [← hpage] at HT htop htp ⊢
  have HPG : Hid (page < D.sectors) := Lib.hid (by unfold Pl.pages at htp; omega)
  have e1 : IntKind.i64.wrap (((k + 1 : Nat) : Int) - 1) = (k : Int) := by rw [IntKind.wrap_i64]; omega
  have e2 : (page : Int) ≠ 0 := by omega
  have e3 : IntKind.i64.wrap (k : Int) = (k : Int) := by rw [IntKind.wrap_i64]; omega
  have e4 : (k : Int) ≤ c := by omega
  clear h hd ok hfl hrm hw hvf htp hpage
  go_enter Tryz.func104, Tryz.ntmps104
  go_wp2_with fail
  refine HR.out.mono ?_
  rintro r w ⟨rfl, rfl⟩
  go_wp2_with fail
  refine HT.out.mono ?_
  rintro r w ⟨rfl, rfl⟩
  go_wp2_with fail
  refine wp_region_H (fun _ => True) (by kernel_rfl) (fun v0 hv0 => ?_)
  have hS0 : (fun _ => True) v0 := trivial
  have HV0 : Hid (PoolAt v0 M Z D) := Lib.hid (by subst hv0; exact H.out.drew)
  have HW0 : Hid (PWent w v0 M M) := Lib.hid (by subst hv0; exact PWent.of_below (Below.refl _ _).drew)
  clear hv0
  have hcf : v0.cell? ⟨M.p, 1, none⟩ = some (.slice (some ⟨g, 0, none⟩) (k + 1) c) := by have := HV0.out.c_free; rw [HVF.out] at this; exact this
  have hf1 := HV0.out.c_fz 1
  refine wpH_take (i := 0) (v := ?_) rfl rfl (by kernel_rfl) (by kernel_rfl) (by kernel_rfl) (fun _ _ _ h => h) (Or.inl ⟨by rfl, ?_⟩) hS0 ?_
  rotate_left
  · (intro w_ hw_; go_simp; try with_reducible rfl)
  simp only [List.setIfInBounds_toArray, List.set_cons_zero, List.set_cons_succ]
  refine wpH_take (i := 1) (v := ?_) rfl rfl (by kernel_rfl) (by kernel_rfl) (by kernel_rfl) (fun _ _ _ h => h) (Or.inl ⟨by rfl, ?_⟩) hS0 ?_
  rotate_left
  · (intro w_ hw_; go_simp; try with_reducible rfl)
  simp only [List.setIfInBounds_toArray, List.set_cons_zero, List.set_cons_succ]
  refine wpH_take (i := 2) (v := ?_) rfl rfl (by kernel_rfl) (by kernel_rfl) (by kernel_rfl) (fun _ _ _ h => h) (Or.inl ⟨by rfl, ?_⟩) hS0 ?_
  rotate_left
  · (intro w_ hw_; skip; go_simp; try with_reducible rfl)
  simp only [List.setIfInBounds_toArray, List.set_cons_zero, List.set_cons_succ]
  refine wpH_take (i := 3) (v := ?_) rfl rfl (by kernel_rfl) (by kernel_rfl) (by kernel_rfl) (fun _ _ _ h => h) (Or.inl ⟨by rfl, ?_⟩) hS0 ?_
  rotate_left
  · (intro w_ hw_; go_simp; try with_reducible rfl)
  simp only [List.setIfInBounds_toArray, List.set_cons_zero, List.set_cons_succ]
  refine wpH_take (i := 4) (v := ?_) rfl rfl (by kernel_rfl) (by kernel_rfl) (by kernel_rfl) (fun _ _ _ h => h) (Or.inl ⟨by rfl, ?_⟩) hS0 ?_
  rotate_left
  · (intro w_ hw_; go_simp; try with_reducible rfl)
  simp only [List.setIfInBounds_toArray, List.set_cons_zero, List.set_cons_succ]
  refine wpH_take (i := 6) (v := ?_) rfl rfl (by kernel_rfl) (by kernel_rfl) (by kernel_rfl) (fun _ _ _ h => h) (Or.inl ⟨by rfl, ?_⟩) hS0 ?_
  rotate_left
  · (intro w_ hw_; go_simp; try with_reducible rfl)
  simp only [List.setIfInBounds_toArray, List.set_cons_zero, List.set_cons_succ]
  refine wpH_take (i := 7) (v := ?_) rfl rfl (by kernel_rfl) (by kernel_rfl) (by kernel_rfl) (fun _ _ _ h => h) (Or.inl ⟨by rfl, ?_⟩) hS0 ?_
  rotate_left
  · (intro w_ hw_; skip; go_simp; try with_reducible rfl)
  simp only [List.setIfInBounds_toArray, List.set_cons_zero, List.set_cons_succ]
  refine wpH_take (i := 8) (v := ?_) rfl rfl (by kernel_rfl) (by kernel_rfl) (by kernel_rfl) (fun _ _ _ h => h) (Or.inl ⟨by rfl, ?_⟩) hS0 ?_
  rotate_left
  · (intro w_ hw_; go_simp; try with_reducible rfl)
  simp only [List.setIfInBounds_toArray, List.set_cons_zero, List.set_cons_succ]
  refine wpH_take (i := 9) (v := ?_) rfl rfl (by kernel_rfl) (by kernel_rfl) (by kernel_rfl) (fun _ _ _ h => h) (Or.inl ⟨by rfl, ?_⟩) hS0 ?_
  rotate_left
  · (intro w_ hw_; go_simp; try with_reducible rfl)
  simp only [List.setIfInBounds_toArray, List.set_cons_zero, List.set_cons_succ]
  refine wpH_two (i := 5) (j := 10) (v1 := .slice (some ⟨g, 0, none⟩) (k + 1) c) (v2 := .slice (some ⟨g, 0, none⟩) (k + 1) c) (by kernel_rfl) rfl rfl rfl rfl (by rfl) (by rfl) (by go_simp) (by go_simp) trivial ?_ ?_
  · simp only [List.setIfInBounds_toArray, List.set_cons_zero, List.set_cons_succ]
    have hS1 : (fun _ => True) v0 := trivial
    clear hS0
    refine wpH_run (i := 10) (v := (.slice (some ⟨g, 0, none⟩) (k + 1) c)) (w' := v0) (by kernel_rfl) rfl rfl (by rfl) (by go_simp) hS1 ?_
    simp only [List.setIfInBounds_toArray, List.set_cons_zero, List.set_cons_succ]
    refine wpH_take (i := 11) (v := ?_) rfl rfl (by kernel_rfl) (by kernel_rfl) (by kernel_rfl) (fun _ _ _ h => h) (Or.inl ⟨by rfl, ?_⟩) hS1 ?_
    rotate_left
    · (intro w_ hw_; skip; go_simp; try with_reducible rfl)
    simp only [List.setIfInBounds_toArray, List.set_cons_zero, List.set_cons_succ]
    refine wpH_take (i := 12) (v := (.int .i64 (k : Int))) rfl rfl (by kernel_rfl) (by kernel_rfl) (by kernel_rfl) (fun _ _ _ h => h) (Or.inl ⟨by rfl, ?_⟩) hS1 ?_
    · (intro w_ hw_; go_simp; try omega)
    simp only [List.setIfInBounds_toArray, List.set_cons_zero, List.set_cons_succ]
    refine wpH_take (i := 13) (v := (.slice (some ⟨g, 0, none⟩) k c)) rfl rfl (by kernel_rfl) (by kernel_rfl) (by kernel_rfl) (fun _ _ _ h => h) (Or.inl ⟨by rfl, ?_⟩) hS1 ?_
    · (intro w_ hw_; go_simp)
    simp only [List.setIfInBounds_toArray, List.set_cons_zero, List.set_cons_succ]
    refine wpH_take (i := 14) (v := ?_) rfl rfl (by kernel_rfl) (by kernel_rfl) (by kernel_rfl) (fun _ _ _ h => h) (Or.inl ⟨by rfl, ?_⟩) hS1 ?_
    rotate_left
    · (intro w_ hw_; skip; go_simp; try with_reducible rfl)
    simp only [List.setIfInBounds_toArray, List.set_cons_zero, List.set_cons_succ]
    refine wpH_take (i := 15) (v := ?_) rfl rfl (by kernel_rfl) (by kernel_rfl) (by kernel_rfl) (fun _ _ _ h => h) (Or.inl ⟨by rfl, ?_⟩) hS1 ?_
    rotate_left
    · (intro w_ hw_; go_simp; try with_reducible rfl)
    simp only [List.setIfInBounds_toArray, List.set_cons_zero, List.set_cons_succ]
    refine wpH_take (i := 16) (v := ?_) rfl rfl (by kernel_rfl) (by kernel_rfl) (by kernel_rfl) (fun _ _ _ h => h) (Or.inl ⟨by rfl, ?_⟩) hS1 ?_
    rotate_left
    · (intro w_ hw_; go_simp; try with_reducible rfl)
    simp only [List.setIfInBounds_toArray, List.set_cons_zero, List.set_cons_succ]
    obtain ⟨v1, hv1⟩ : ∃ v1, v1 = v0.setCell ⟨M.p, 1, none⟩ (.slice (some ⟨g, 0, none⟩) k c) := ⟨_, rfl⟩
    have hS2 : (fun _ => True) v1 := trivial
    clear hS1
    refine wpH_store (i := 17) (w' := v1) (by kernel_rfl) rfl rfl (by rfl) (by subst hv1; go_simp) hS2 ?_
    have q0 := (HV0.out.cut_free HVF.out)
    rw [← hv1] at q0
    have q1 := HW0.out.trans q0.2
    replace q0 := q0.1
    clear hv1 hcf hf1 HV0 HW0
    clear hS2
    refine wpAnyH_done (by kernel_rfl) ?_ _
    have HWQ := Lib.hid q1
    obtain ⟨M1, hM1⟩ : ∃ M1 : Mem, M1 = { M with vf := .slice (some ⟨g, 0, none⟩) k c } := ⟨_, rfl⟩
    obtain ⟨S1, hS1⟩ : ∃ S1 : Pl, S1 = { Z with now := { Z.now with free := Z.now.free.dropLast } } := ⟨_, rfl⟩
    have HP := Lib.hid q0
    clear q0 q1
    rw [← hM1] at HWQ
    rw [← hM1, ← hS1] at HP
    have hpp : M1.p = M.p := by rw [hM1]
    go_wp2_with fail
    refine wp_region_H (fun v => v.cell? ⟨M.p, 26, none⟩ = some (.map (some M1.mn))) (by kernel_rfl) (fun v0 hv0 => ?_)
    have hS0 : (fun v => v.cell? ⟨M.p, 26, none⟩ = some (.map (some M1.mn))) v0 := by subst hv0; rw [← hpp]; exact (HP.out.drew).c_pend
    have HV0 : Hid (PoolAt v0 M1 S1 D) := Lib.hid (by subst hv0; exact HP.out.drew)
    have HW0 : Hid (PWent w v0 M M1) := Lib.hid (by subst hv0; exact HWQ.out.tail (Below.refl _ _).drew)
    clear hv0 HP HWQ
    refine wpH_take (i := 0) (v := ?_) rfl rfl (by kernel_rfl) (by kernel_rfl) (by kernel_rfl) (fun _ _ _ h => h) (Or.inl ⟨by rfl, ?_⟩) hS0 ?_
    rotate_left
    · (intro w_ hw_; go_simp; try with_reducible rfl)
    simp only [List.setIfInBounds_toArray, List.set_cons_zero, List.set_cons_succ]
    refine wpH_take (i := 1) (v := ?_) rfl rfl (by kernel_rfl) (by kernel_rfl) (by kernel_rfl) (fun _ _ _ h => h) (Or.inl ⟨by rfl, ?_⟩) hS0 ?_
    rotate_left
    · (intro w_ hw_; have q1 := hw_; go_simp; try with_reducible rfl)
    simp only [List.setIfInBounds_toArray, List.set_cons_zero, List.set_cons_succ]
    refine wpH_take (i := 2) (v := ?_) rfl rfl (by kernel_rfl) (by kernel_rfl) (by kernel_rfl) (fun _ _ _ h => h) (Or.inl ⟨by rfl, ?_⟩) hS0 ?_
    rotate_left
    · (intro w_ hw_; go_simp; try with_reducible rfl)
    simp only [List.setIfInBounds_toArray, List.set_cons_zero, List.set_cons_succ]
    refine wpH_take (i := 3) (v := ?_) rfl rfl (by kernel_rfl) (by kernel_rfl) (by kernel_rfl) (fun _ _ _ h => h) (Or.inl ⟨by rfl, ?_⟩) hS0 ?_
    rotate_left
    · (intro w_ hw_; have q1 := hw_; go_simp; try with_reducible rfl)
    simp only [List.setIfInBounds_toArray, List.set_cons_zero, List.set_cons_succ]
    refine wpH_take (i := 4) (v := ?_) rfl rfl (by kernel_rfl) (by kernel_rfl) (by kernel_rfl) (fun _ _ _ h => h) (Or.inl ⟨by rfl, ?_⟩) hS0 ?_
    rotate_left
    · (intro w_ hw_; go_simp; try with_reducible rfl)
    simp only [List.setIfInBounds_toArray, List.set_cons_zero, List.set_cons_succ]
    refine wpH_take (i := 5) (v := ?_) rfl rfl (by kernel_rfl) (by kernel_rfl) (by kernel_rfl) (fun _ _ _ h => h) (Or.inl ⟨by rfl, ?_⟩) hS0 ?_
    rotate_left
    · (intro w_ hw_; go_simp; try with_reducible rfl)
    simp only [List.setIfInBounds_toArray, List.set_cons_zero, List.set_cons_succ]
    refine wpH_take (i := 6) (v := ?_) rfl rfl (by kernel_rfl) (by kernel_rfl) (by kernel_rfl) (fun _ _ _ h => h) (Or.inl ⟨by rfl, ?_⟩) hS0 ?_
    rotate_left
    · (intro w_ hw_; go_simp; try with_reducible rfl)
    simp only [List.setIfInBounds_toArray, List.set_cons_zero, List.set_cons_succ]
    have hwd := wide_any (A := none) (n := 0) (c := 0) (l := []) HV0.out rfl (Rd.nil_ _ _) (Nat.zero_le _)
    rw [hpp] at hwd
    refine wpH_callv (i := 7) (by kernel_rfl) rfl rfl (by rfl) (hwd) (by go_simp) ?_
    rintro x1 v1 ⟨ho1, hb1⟩
    have hS1 : (fun v => v.cell? ⟨M.p, 26, none⟩ = some (.map (some M1.mn))) v1 := (by rw [← hpp]; exact (HV0.out.grew hb1).c_pend)
    clear hS0
    refine ⟨hS1, ?_⟩
    simp only [List.setIfInBounds_toArray, List.set_cons_zero, List.set_cons_succ]
    have hx1 := Byt.of_own ho1 HNE.out
    have HV1 : Hid (PoolAt v1 M1 S1 D) := Lib.hid (HV0.out.grew hb1)
    have HW1 : Hid (PWent w v1 M M1) := Lib.hid (HW0.out.tail hb1)
    obtain ⟨y0, st, v2, v3, hrun1, ht1, hrun2, hm3, ht3⟩ := HV1.out.pend.entry (k := page) HPG.out hx1
    have hs3 := HV1.out.set_pend hm3 ht3
    have HV3 : Hid (PoolAt v3 M1 { S1 with pend := S1.pend.put page (widen D.rm []) } D) := Lib.hid hs3.1
    have HW3 : Hid (PWent w v3 M M1) := Lib.hid (HW1.out.trans hs3.2)
    have hc2 : v2.cell? ⟨M.p, 26, none⟩ = some (.map (some M1.mn)) := by rw [← hpp]; exact HV1.out.c_pend_turn ht1
    have hs4 := HV3.out.set_moved true
    have hc48 := HV3.out.c_moved
    have hf48 := HV3.out.c_fz 28
    rw [hpp] at hc48 hf48 hs4
    clear hm3 ht3 hs3 hx1 ho1 hb1
    have hS2 : (fun v => v.cell? ⟨M.p, 26, none⟩ = some (.map (some M1.mn))) v2 := hc2
    clear hS1
    refine wpH_run (i := 8) (v := (.tuple #[y0, goInt st])) (w' := v2) (by kernel_rfl) rfl rfl (by rfl) (by exact exec_mapEntry (vm := .map (some M1.mn)) (vk := .int .i64 (page : Int)) _ (.tmp 59) (.tmp 60) rfl (by go_simp) (by go_simp) hrun1) hS2 ?_
    simp only [List.setIfInBounds_toArray, List.set_cons_zero, List.set_cons_succ]
    refine wpH_take (i := 9) (v := ?_) rfl rfl (by kernel_rfl) (by kernel_rfl) (by kernel_rfl) (fun _ _ _ h => h) (Or.inl ⟨by rfl, ?_⟩) hS2 ?_
    rotate_left
    · (intro w_ hw_; go_simp; try with_reducible rfl)
    simp only [List.setIfInBounds_toArray, List.set_cons_zero, List.set_cons_succ]
    have hS3 : (fun v => v.cell? ⟨M.p, 26, none⟩ = some (.map (some M1.mn))) v3 := (by rw [← hpp]; exact HV3.out.c_pend)
    clear hS2
    refine wpH_store (i := 10) (w' := v3) (by kernel_rfl) rfl rfl (by rfl) (by exact exec_entryStore (vm := .map (some M1.mn)) (vk := goInt st) (vx := x1) _ (.tmp 59) (.tmp 65) (.tmp 63) rfl (by go_simp) (by go_simp) (by go_simp) hrun2) hS3 ?_
    refine wpH_take (i := 11) (v := ?_) rfl rfl (by kernel_rfl) (by kernel_rfl) (by kernel_rfl) (fun _ _ _ h => h) (Or.inl ⟨by rfl, ?_⟩) hS3 ?_
    rotate_left
    · (intro w_ hw_; have q1 := hw_; go_simp; try with_reducible rfl)
    simp only [List.setIfInBounds_toArray, List.set_cons_zero, List.set_cons_succ]
    refine wpH_take (i := 12) (v := ?_) rfl rfl (by kernel_rfl) (by kernel_rfl) (by kernel_rfl) (fun _ _ _ h => h) (Or.inl ⟨by rfl, ?_⟩) hS3 ?_
    rotate_left
    · (intro w_ hw_; go_simp; try with_reducible rfl)
    simp only [List.setIfInBounds_toArray, List.set_cons_zero, List.set_cons_succ]
    obtain ⟨v4, hv4⟩ : ∃ v4, v4 = v3.setCell ⟨M.p, 28, none⟩ (.bool true) := ⟨_, rfl⟩
    rw [← hv4] at hs4
    have HV4 := Lib.hid hs4
    clear hs4
    have hS4 : (fun v => v.cell? ⟨M.p, 26, none⟩ = some (.map (some M1.mn))) v4 := (by rw [← hpp]; exact HV4.out.1.c_pend)
    clear hS3
    refine wpH_store (i := 13) (w' := v4) (by kernel_rfl) rfl rfl (by rfl) (by subst hv4; go_simp) hS4 ?_
    clear hS4
    refine wpAnyH_done (by kernel_rfl) ?_ _
    go_wp2
    go_ret2
    have h4 := HV4.out
    rw [hv4] at h4
    refine ⟨rfl, M1, ?_, HW3.out.trans h4.2⟩
    have := h4.1
    rw [hS1] at this
    exact this
  · simp only [List.setIfInBounds_toArray, List.set_cons_zero, List.set_cons_succ]
    refine wpH_take (i := 11) (v := ?_) rfl rfl (by kernel_rfl) (by kernel_rfl) (by kernel_rfl) (fun _ _ _ h => h) (Or.inl ⟨by rfl, ?_⟩) hS0 ?_
    rotate_left
    · (intro w_ hw_; skip; go_simp; try with_reducible rfl)
    simp only [List.setIfInBounds_toArray, List.set_cons_zero, List.set_cons_succ]
    refine wpH_take (i := 12) (v := (.int .i64 (k : Int))) rfl rfl (by kernel_rfl) (by kernel_rfl) (by kernel_rfl) (fun _ _ _ h => h) (Or.inl ⟨by rfl, ?_⟩) hS0 ?_
    · (intro w_ hw_; go_simp; try omega)
    simp only [List.setIfInBounds_toArray, List.set_cons_zero, List.set_cons_succ]
    have hS1 : (fun _ => True) v0 := trivial
    clear hS0
    refine wpH_run (i := 5) (v := (.slice (some ⟨g, 0, none⟩) (k + 1) c)) (w' := v0) (by kernel_rfl) rfl rfl (by rfl) (by go_simp) hS1 ?_
    simp only [List.setIfInBounds_toArray, List.set_cons_zero, List.set_cons_succ]
    refine wpH_take (i := 13) (v := (.slice (some ⟨g, 0, none⟩) k c)) rfl rfl (by kernel_rfl) (by kernel_rfl) (by kernel_rfl) (fun _ _ _ h => h) (Or.inl ⟨by rfl, ?_⟩) hS1 ?_
    · (intro w_ hw_; go_simp)
    simp only [List.setIfInBounds_toArray, List.set_cons_zero, List.set_cons_succ]
    refine wpH_take (i := 14) (v := ?_) rfl rfl (by kernel_rfl) (by kernel_rfl) (by kernel_rfl) (fun _ _ _ h => h) (Or.inl ⟨by rfl, ?_⟩) hS1 ?_
    rotate_left
    · (intro w_ hw_; skip; go_simp; try with_reducible rfl)
    simp only [List.setIfInBounds_toArray, List.set_cons_zero, List.set_cons_succ]
    refine wpH_take (i := 15) (v := ?_) rfl rfl (by kernel_rfl) (by kernel_rfl) (by kernel_rfl) (fun _ _ _ h => h) (Or.inl ⟨by rfl, ?_⟩) hS1 ?_
    rotate_left
    · (intro w_ hw_; go_simp; try with_reducible rfl)
    simp only [List.setIfInBounds_toArray, List.set_cons_zero, List.set_cons_succ]
    refine wpH_take (i := 16) (v := ?_) rfl rfl (by kernel_rfl) (by kernel_rfl) (by kernel_rfl) (fun _ _ _ h => h) (Or.inl ⟨by rfl, ?_⟩) hS1 ?_
    rotate_left
    · (intro w_ hw_; go_simp; try with_reducible rfl)
    simp only [List.setIfInBounds_toArray, List.set_cons_zero, List.set_cons_succ]
    obtain ⟨v1, hv1⟩ : ∃ v1, v1 = v0.setCell ⟨M.p, 1, none⟩ (.slice (some ⟨g, 0, none⟩) k c) := ⟨_, rfl⟩
    have hS2 : (fun _ => True) v1 := trivial
    clear hS1
    refine wpH_store (i := 17) (w' := v1) (by kernel_rfl) rfl rfl (by rfl) (by subst hv1; go_simp) hS2 ?_
    have q0 := (HV0.out.cut_free HVF.out)
    rw [← hv1] at q0
    have q1 := HW0.out.trans q0.2
    replace q0 := q0.1
    clear hv1 hcf hf1 HV0 HW0
    clear hS2
    refine wpAnyH_done (by kernel_rfl) ?_ _
    have HWQ := Lib.hid q1
    obtain ⟨M1, hM1⟩ : ∃ M1 : Mem, M1 = { M with vf := .slice (some ⟨g, 0, none⟩) k c } := ⟨_, rfl⟩
    obtain ⟨S1, hS1⟩ : ∃ S1 : Pl, S1 = { Z with now := { Z.now with free := Z.now.free.dropLast } } := ⟨_, rfl⟩
    have HP := Lib.hid q0
    clear q0 q1
    rw [← hM1] at HWQ
    rw [← hM1, ← hS1] at HP
    have hpp : M1.p = M.p := by rw [hM1]
    go_wp2_with fail
    refine wp_region_H (fun v => v.cell? ⟨M.p, 26, none⟩ = some (.map (some M1.mn))) (by kernel_rfl) (fun v0 hv0 => ?_)
    have hS0 : (fun v => v.cell? ⟨M.p, 26, none⟩ = some (.map (some M1.mn))) v0 := by subst hv0; rw [← hpp]; exact (HP.out.drew).c_pend
    have HV0 : Hid (PoolAt v0 M1 S1 D) := Lib.hid (by subst hv0; exact HP.out.drew)
    have HW0 : Hid (PWent w v0 M M1) := Lib.hid (by subst hv0; exact HWQ.out.tail (Below.refl _ _).drew)
    clear hv0 HP HWQ
    refine wpH_take (i := 0) (v := ?_) rfl rfl (by kernel_rfl) (by kernel_rfl) (by kernel_rfl) (fun _ _ _ h => h) (Or.inl ⟨by rfl, ?_⟩) hS0 ?_
    rotate_left
    · (intro w_ hw_; go_simp; try with_reducible rfl)
    simp only [List.setIfInBounds_toArray, List.set_cons_zero, List.set_cons_succ]
    refine wpH_take (i := 1) (v := ?_) rfl rfl (by kernel_rfl) (by kernel_rfl) (by kernel_rfl) (fun _ _ _ h => h) (Or.inl ⟨by rfl, ?_⟩) hS0 ?_
    rotate_left
    · (intro w_ hw_; have q1 := hw_; go_simp; try with_reducible rfl)
    simp only [List.setIfInBounds_toArray, List.set_cons_zero, List.set_cons_succ]
    refine wpH_take (i := 2) (v := ?_) rfl rfl (by kernel_rfl) (by kernel_rfl) (by kernel_rfl) (fun _ _ _ h => h) (Or.inl ⟨by rfl, ?_⟩) hS0 ?_
    rotate_left
    · (intro w_ hw_; go_simp; try with_reducible rfl)
    simp only [List.setIfInBounds_toArray, List.set_cons_zero, List.set_cons_succ]
    refine wpH_take (i := 3) (v := ?_) rfl rfl (by kernel_rfl) (by kernel_rfl) (by kernel_rfl) (fun _ _ _ h => h) (Or.inl ⟨by rfl, ?_⟩) hS0 ?_
    rotate_left
    · (intro w_ hw_; have q1 := hw_; go_simp; try with_reducible rfl)
    simp only [List.setIfInBounds_toArray, List.set_cons_zero, List.set_cons_succ]
    refine wpH_take (i := 4) (v := ?_) rfl rfl (by kernel_rfl) (by kernel_rfl) (by kernel_rfl) (fun _ _ _ h => h) (Or.inl ⟨by rfl, ?_⟩) hS0 ?_
    rotate_left
    · (intro w_ hw_; go_simp; try with_reducible rfl)
    simp only [List.setIfInBounds_toArray, List.set_cons_zero, List.set_cons_succ]
    refine wpH_take (i := 5) (v := ?_) rfl rfl (by kernel_rfl) (by kernel_rfl) (by kernel_rfl) (fun _ _ _ h => h) (Or.inl ⟨by rfl, ?_⟩) hS0 ?_
    rotate_left
    · (intro w_ hw_; go_simp; try with_reducible rfl)
    simp only [List.setIfInBounds_toArray, List.set_cons_zero, List.set_cons_succ]
    refine wpH_take (i := 6) (v := ?_) rfl rfl (by kernel_rfl) (by kernel_rfl) (by kernel_rfl) (fun _ _ _ h => h) (Or.inl ⟨by rfl, ?_⟩) hS0 ?_
    rotate_left
    · (intro w_ hw_; go_simp; try with_reducible rfl)
    simp only [List.setIfInBounds_toArray, List.set_cons_zero, List.set_cons_succ]
    have hwd := wide_any (A := none) (n := 0) (c := 0) (l := []) HV0.out rfl (Rd.nil_ _ _) (Nat.zero_le _)
    rw [hpp] at hwd
    refine wpH_callv (i := 7) (by kernel_rfl) rfl rfl (by rfl) (hwd) (by go_simp) ?_
    rintro x1 v1 ⟨ho1, hb1⟩
    have hS1 : (fun v => v.cell? ⟨M.p, 26, none⟩ = some (.map (some M1.mn))) v1 := (by rw [← hpp]; exact (HV0.out.grew hb1).c_pend)
    clear hS0
    refine ⟨hS1, ?_⟩
    simp only [List.setIfInBounds_toArray, List.set_cons_zero, List.set_cons_succ]
    have hx1 := Byt.of_own ho1 HNE.out
    have HV1 : Hid (PoolAt v1 M1 S1 D) := Lib.hid (HV0.out.grew hb1)
    have HW1 : Hid (PWent w v1 M M1) := Lib.hid (HW0.out.tail hb1)
    obtain ⟨y0, st, v2, v3, hrun1, ht1, hrun2, hm3, ht3⟩ := HV1.out.pend.entry (k := page) HPG.out hx1
    have hs3 := HV1.out.set_pend hm3 ht3
    have HV3 : Hid (PoolAt v3 M1 { S1 with pend := S1.pend.put page (widen D.rm []) } D) := Lib.hid hs3.1
    have HW3 : Hid (PWent w v3 M M1) := Lib.hid (HW1.out.trans hs3.2)
    have hc2 : v2.cell? ⟨M.p, 26, none⟩ = some (.map (some M1.mn)) := by rw [← hpp]; exact HV1.out.c_pend_turn ht1
    have hs4 := HV3.out.set_moved true
    have hc48 := HV3.out.c_moved
    have hf48 := HV3.out.c_fz 28
    rw [hpp] at hc48 hf48 hs4
    clear hm3 ht3 hs3 hx1 ho1 hb1
    have hS2 : (fun v => v.cell? ⟨M.p, 26, none⟩ = some (.map (some M1.mn))) v2 := hc2
    clear hS1
    refine wpH_run (i := 8) (v := (.tuple #[y0, goInt st])) (w' := v2) (by kernel_rfl) rfl rfl (by rfl) (by exact exec_mapEntry (vm := .map (some M1.mn)) (vk := .int .i64 (page : Int)) _ (.tmp 59) (.tmp 60) rfl (by go_simp) (by go_simp) hrun1) hS2 ?_
    simp only [List.setIfInBounds_toArray, List.set_cons_zero, List.set_cons_succ]
    refine wpH_take (i := 9) (v := ?_) rfl rfl (by kernel_rfl) (by kernel_rfl) (by kernel_rfl) (fun _ _ _ h => h) (Or.inl ⟨by rfl, ?_⟩) hS2 ?_
    rotate_left
    · (intro w_ hw_; go_simp; try with_reducible rfl)
    simp only [List.setIfInBounds_toArray, List.set_cons_zero, List.set_cons_succ]
    have hS3 : (fun v => v.cell? ⟨M.p, 26, none⟩ = some (.map (some M1.mn))) v3 := (by rw [← hpp]; exact HV3.out.c_pend)
    clear hS2
    refine wpH_store (i := 10) (w' := v3) (by kernel_rfl) rfl rfl (by rfl) (by exact exec_entryStore (vm := .map (some M1.mn)) (vk := goInt st) (vx := x1) _ (.tmp 59) (.tmp 65) (.tmp 63) rfl (by go_simp) (by go_simp) (by go_simp) hrun2) hS3 ?_
    refine wpH_take (i := 11) (v := ?_) rfl rfl (by kernel_rfl) (by kernel_rfl) (by kernel_rfl) (fun _ _ _ h => h) (Or.inl ⟨by rfl, ?_⟩) hS3 ?_
    rotate_left
    · (intro w_ hw_; have q1 := hw_; go_simp; try with_reducible rfl)
    simp only [List.setIfInBounds_toArray, List.set_cons_zero, List.set_cons_succ]
    refine wpH_take (i := 12) (v := ?_) rfl rfl (by kernel_rfl) (by kernel_rfl) (by kernel_rfl) (fun _ _ _ h => h) (Or.inl ⟨by rfl, ?_⟩) hS3 ?_
    rotate_left
    · (intro w_ hw_; go_simp; try with_reducible rfl)
    simp only [List.setIfInBounds_toArray, List.set_cons_zero, List.set_cons_succ]
    obtain ⟨v4, hv4⟩ : ∃ v4, v4 = v3.setCell ⟨M.p, 28, none⟩ (.bool true) := ⟨_, rfl⟩
    rw [← hv4] at hs4
    have HV4 := Lib.hid hs4
    clear hs4
    have hS4 : (fun v => v.cell? ⟨M.p, 26, none⟩ = some (.map (some M1.mn))) v4 := (by rw [← hpp]; exact HV4.out.1.c_pend)
    clear hS3
    refine wpH_store (i := 13) (w' := v4) (by kernel_rfl) rfl rfl (by rfl) (by subst hv4; go_simp) hS4 ?_
    clear hS4
    refine wpAnyH_done (by kernel_rfl) ?_ _
    go_wp2
    go_ret2
    have h4 := HV4.out
    rw [hv4] at h4
    refine ⟨rfl, M1, ?_, HW3.out.trans h4.2⟩
    have := h4.1
    rw [hS1] at this
    exact this
end
end Go.Proofs.YtfmdmfiljplkoaaGreat
namespace Go.Proofs.YtfmdmfiljplkoaaGreat
open Go.RowKit Go.Maps
set_option maxRecDepth 8000
variable {ι : Type} [Bar ι]
section
variable {w w' : World} {M : Mem} {Z : Pl} {D D' : Dsk}
set_option maxHeartbeats 4000000 in
theorem PTake_full (h : PoolAt w M Z D) (ok : Z.Ok D) (hd : Z.dead = false) (htop : Z.now.top = 0) (hnx : Z.pages D ≤ Z.now.next) :
    Calls Tryz.prog 104 #[.pointer (some ⟨M.p, 0, none⟩)] w fun e w' => e = .returned (.tuple #[.int .i64 0, .int .i64 6]) ∧ PoolAt w' M Z D ∧ PWent w w' M M := by
  have HR := ready_pool h
  rw [hd] at HR
  have HR := Lib.hid HR
  have hfl := ok.free_le
  have HT := top_any h (by omega)
  rw [htop] at HT
  have HT := Lib.hid HT
  have HFS := Lib.hid ok.fst
  have H := Lib.hid h
  have hpg : (Z.now.next : Int) ≤ 1048576 := by have := ok.now.n2; have := ok.s2; unfold Pl.pages at *; omega
  obtain ⟨BB, hBB⟩ : ∃ BB, BB = true := ⟨_, rfl⟩
  have HBB : Hid (decide ((D.sectors : Int) - Z.first ≤ (Z.now.next : Int)) = BB) := Lib.hid (by rw [hBB]; unfold Pl.pages at hnx; simp; omega)
  have hge : (D.sectors : Int) - Z.first ≤ (Z.now.next : Int) := by unfold Pl.pages at hnx; omega
  clear h hd htop ok hfl hnx
  go_enter Tryz.func104, Tryz.ntmps104
  go_wp2_with fail
  refine HR.out.mono ?_
  rintro r w ⟨rfl, rfl⟩
  go_wp2_with fail
  refine HT.out.mono ?_
  rintro r w ⟨rfl, rfl⟩
  go_wp2_with fail
  refine wp_region_H (fun v => v.cell? ⟨M.p, 0, none⟩ = some (.int .i64 (Z.now.next : Nat))) (by kernel_rfl) (fun v0 hv0 => ?_)
  have hS0 : (fun v => v.cell? ⟨M.p, 0, none⟩ = some (.int .i64 (Z.now.next : Nat))) v0 := by subst hv0; exact (H.out.drew).c_next
  have HV0 : Hid (PoolAt v0 M Z D ∧ PWent w v0 M M) := Lib.hid (by subst hv0; exact ⟨H.out.drew, PWent.of_below (Below.refl _ _).drew⟩)
  clear hv0
  refine wpH_take (i := 0) (v := ?_) rfl rfl (by kernel_rfl) (by kernel_rfl) (by kernel_rfl) (fun _ _ _ h => h) (Or.inl ⟨by rfl, ?_⟩) hS0 ?_
  rotate_left
  · (intro w_ hw_; go_simp; try with_reducible rfl)
  simp only [List.setIfInBounds_toArray, List.set_cons_zero, List.set_cons_succ]
  refine wpH_take (i := 1) (v := ?_) rfl rfl (by kernel_rfl) (by kernel_rfl) (by kernel_rfl) (fun _ _ _ h => h) (Or.inl ⟨by rfl, ?_⟩) hS0 ?_
  rotate_left
  · (intro w_ hw_; have q1 := hw_; go_simp; try with_reducible rfl)
  simp only [List.setIfInBounds_toArray, List.set_cons_zero, List.set_cons_succ]
  refine wpH_take (i := 2) (v := ?_) rfl rfl (by kernel_rfl) (by kernel_rfl) (by kernel_rfl) (fun _ _ _ h => h) (Or.inl ⟨by rfl, ?_⟩) hS0 ?_
  rotate_left
  · (intro w_ hw_; go_simp; try with_reducible rfl)
  simp only [List.setIfInBounds_toArray, List.set_cons_zero, List.set_cons_succ]
  refine wpH_take (i := 3) (v := ?_) rfl rfl (by kernel_rfl) (by kernel_rfl) (by kernel_rfl) (fun _ _ _ h => h) (Or.inl ⟨by rfl, ?_⟩) hS0 ?_
  rotate_left
  · (intro w_ hw_; go_simp; try with_reducible rfl)
  simp only [List.setIfInBounds_toArray, List.set_cons_zero, List.set_cons_succ]
  refine wpH_take (i := 4) (v := ?_) rfl rfl (by kernel_rfl) (by kernel_rfl) (by kernel_rfl) (fun _ _ _ h => h) (Or.inl ⟨by rfl, ?_⟩) hS0 ?_
  rotate_left
  · (intro w_ hw_; have q1 := hw_; go_simp; try with_reducible rfl)
  simp only [List.setIfInBounds_toArray, List.set_cons_zero, List.set_cons_succ]
  refine wpH_take (i := 5) (v := ?_) rfl rfl (by kernel_rfl) (by kernel_rfl) (by kernel_rfl) (fun _ _ _ h => h) (Or.inl ⟨by rfl, ?_⟩) hS0 ?_
  rotate_left
  · (intro w_ hw_; go_simp; try with_reducible rfl)
  simp only [List.setIfInBounds_toArray, List.set_cons_zero, List.set_cons_succ]
  refine wpH_call (i := 6) (by kernel_rfl) rfl rfl (by rfl) (Pages_any HV0.out.1 HFS.out) (by go_simp) (fun u1 hR => ?_)
  have hS1 : (fun v => v.cell? ⟨M.p, 0, none⟩ = some (.int .i64 (Z.now.next : Nat))) u1 := (by obtain ⟨q, e⟩ := hR; rw [e]; exact HV0.out.1.c_next)
  clear hS0
  refine ⟨hS1, ?_⟩
  simp only [List.setIfInBounds_toArray, List.set_cons_zero, List.set_cons_succ]
  have HU : Hid (PoolAt u1 M Z D ∧ PWent w u1 M M) := Lib.hid (by obtain ⟨q, e⟩ := hR; rw [e]; exact ⟨HV0.out.1.grew (below_drewN _ _), HV0.out.2.tail (below_drewN _ _)⟩)
  clear hR HV0
  refine wpH_take (i := 7) (v := (.bool BB)) rfl rfl (by kernel_rfl) (by kernel_rfl) (by kernel_rfl) (fun _ _ _ h => h) (Or.inl ⟨by rfl, ?_⟩) hS1 ?_
  · (intro w_ hw_; go_simp; first | done | omega | (simp [HBB.out]; done) | (simp [HBB.out]; omega))
  simp only [List.setIfInBounds_toArray, List.set_cons_zero, List.set_cons_succ]
  refine wpH_take (i := 8) (v := ?_) rfl rfl (by kernel_rfl) (by kernel_rfl) (by kernel_rfl) (fun _ _ _ h => h) (Or.inl ⟨by rfl, ?_⟩) hS1 ?_
  rotate_left
  · (intro w_ hw_; go_simp; try with_reducible rfl)
  simp only [List.setIfInBounds_toArray, List.set_cons_zero, List.set_cons_succ]
  clear hS1
  refine wpAnyH_done (by kernel_rfl) ?_ _
  subst hBB
  go_wp2
  go_ret2
  exact ⟨rfl, HU.out⟩
set_option maxHeartbeats 8000000 in
theorem PTake_new (h : PoolAt w M Z D) (ok : Z.Ok D) (hd : Z.dead = false) (htop : Z.now.top = 0) (hnx : Z.now.next < Z.pages D) :
    Calls Tryz.prog 104 #[.pointer (some ⟨M.p, 0, none⟩)] w fun e w' => e = .returned (.tuple #[.int .i64 (Z.now.next : Nat), .int .i64 0]) ∧ PoolAt w' M (Z.tookNew D) D ∧ PWent w w' M M := by
  have HR := ready_pool h
  rw [hd] at HR
  have HR := Lib.hid HR
  have hfl := ok.free_le
  have HT := top_any h (by omega)
  rw [htop] at HT
  have HT := Lib.hid HT
  have HFS := Lib.hid ok.fst
  have H := Lib.hid h
  have hpg : (Z.now.next : Int) ≤ 1048576 := by have := ok.now.n2; have := ok.s2; unfold Pl.pages at *; omega
  have hrm := ok.rm1 h.disk.ok
  have hw : (widen D.rm []).length = D.rm := widen_length (Nat.zero_le _)
  have HNE : Hid (widen D.rm [] ≠ []) := Lib.hid (by intro e; rw [e] at hw; simp at hw; omega)
  unfold Pl.tookNew
  obtain ⟨BB, hBB⟩ : ∃ BB, BB = false := ⟨_, rfl⟩
  have HBB : Hid (decide ((D.sectors : Int) - Z.first ≤ (Z.now.next : Int)) = BB) := Lib.hid (by rw [hBB]; unfold Pl.pages at hnx; have := HFS.out; simp; omega)
  have hge : ¬ (D.sectors : Int) - Z.first ≤ (Z.now.next : Int) := by unfold Pl.pages at hnx; have := HFS.out; omega
  obtain ⟨page, hpage⟩ : ∃ page, page = Z.now.next := ⟨_, rfl⟩
  have HPG : Hid (page < D.sectors) := Lib.hid (by unfold Pl.pages at hnx; omega)
  have HPE := Lib.hid hpage
  have e9 : IntKind.i64.wrap ((page : Int) + 1) = ((page + 1 : Nat) : Int) := by rw [IntKind.wrap_i64]; omega
  clear h hd htop ok hfl hnx hw hrm
  go_enter Tryz.func104, Tryz.ntmps104
  go_wp2_with fail
  refine HR.out.mono ?_
  rintro r w ⟨rfl, rfl⟩
  go_wp2_with fail
  refine HT.out.mono ?_
  rintro r w ⟨rfl, rfl⟩
  go_wp2_with fail
  refine wp_region_H (fun v => v.cell? ⟨M.p, 0, none⟩ = some (.int .i64 (Z.now.next : Nat))) (by kernel_rfl) (fun v0 hv0 => ?_)
  have hS0 : (fun v => v.cell? ⟨M.p, 0, none⟩ = some (.int .i64 (Z.now.next : Nat))) v0 := by subst hv0; exact (H.out.drew).c_next
  have HV0 : Hid (PoolAt v0 M Z D ∧ PWent w v0 M M) := Lib.hid (by subst hv0; exact ⟨H.out.drew, PWent.of_below (Below.refl _ _).drew⟩)
  clear hv0
  refine wpH_take (i := 0) (v := ?_) rfl rfl (by kernel_rfl) (by kernel_rfl) (by kernel_rfl) (fun _ _ _ h => h) (Or.inl ⟨by rfl, ?_⟩) hS0 ?_
  rotate_left
  · (intro w_ hw_; go_simp; try with_reducible rfl)
  simp only [List.setIfInBounds_toArray, List.set_cons_zero, List.set_cons_succ]
  refine wpH_take (i := 1) (v := ?_) rfl rfl (by kernel_rfl) (by kernel_rfl) (by kernel_rfl) (fun _ _ _ h => h) (Or.inl ⟨by rfl, ?_⟩) hS0 ?_
  rotate_left
  · (intro w_ hw_; have q1 := hw_; go_simp; try with_reducible rfl)
  simp only [List.setIfInBounds_toArray, List.set_cons_zero, List.set_cons_succ]
  refine wpH_take (i := 2) (v := ?_) rfl rfl (by kernel_rfl) (by kernel_rfl) (by kernel_rfl) (fun _ _ _ h => h) (Or.inl ⟨by rfl, ?_⟩) hS0 ?_
  rotate_left
  · (intro w_ hw_; go_simp; try with_reducible rfl)
  simp only [List.setIfInBounds_toArray, List.set_cons_zero, List.set_cons_succ]
  refine wpH_take (i := 3) (v := ?_) rfl rfl (by kernel_rfl) (by kernel_rfl) (by kernel_rfl) (fun _ _ _ h => h) (Or.inl ⟨by rfl, ?_⟩) hS0 ?_
  rotate_left
  · (intro w_ hw_; go_simp; try with_reducible rfl)
  simp only [List.setIfInBounds_toArray, List.set_cons_zero, List.set_cons_succ]
  refine wpH_take (i := 4) (v := ?_) rfl rfl (by kernel_rfl) (by kernel_rfl) (by kernel_rfl) (fun _ _ _ h => h) (Or.inl ⟨by rfl, ?_⟩) hS0 ?_
  rotate_left
  · (intro w_ hw_; have q1 := hw_; go_simp; try with_reducible rfl)
  simp only [List.setIfInBounds_toArray, List.set_cons_zero, List.set_cons_succ]
  refine wpH_take (i := 5) (v := ?_) rfl rfl (by kernel_rfl) (by kernel_rfl) (by kernel_rfl) (fun _ _ _ h => h) (Or.inl ⟨by rfl, ?_⟩) hS0 ?_
  rotate_left
  · (intro w_ hw_; go_simp; try with_reducible rfl)
  simp only [List.setIfInBounds_toArray, List.set_cons_zero, List.set_cons_succ]
  refine wpH_call (i := 6) (by kernel_rfl) rfl rfl (by rfl) (Pages_any HV0.out.1 HFS.out) (by go_simp) (fun u1 hR => ?_)
  have hS1 : (fun v => v.cell? ⟨M.p, 0, none⟩ = some (.int .i64 (Z.now.next : Nat))) u1 := (by obtain ⟨q, e⟩ := hR; rw [e]; exact HV0.out.1.c_next)
  clear hS0
  refine ⟨hS1, ?_⟩
  simp only [List.setIfInBounds_toArray, List.set_cons_zero, List.set_cons_succ]
  have HU : Hid (PoolAt u1 M Z D ∧ PWent w u1 M M) := Lib.hid (by obtain ⟨q, e⟩ := hR; rw [e]; exact ⟨HV0.out.1.grew (below_drewN _ _), HV0.out.2.tail (below_drewN _ _)⟩)
  clear hR HV0
  refine wpH_take (i := 7) (v := (.bool BB)) rfl rfl (by kernel_rfl) (by kernel_rfl) (by kernel_rfl) (fun _ _ _ h => h) (Or.inl ⟨by rfl, ?_⟩) hS1 ?_
  · (intro w_ hw_; go_simp; first | done | omega | (simp [HBB.out]; done) | (simp [HBB.out]; omega))
  simp only [List.setIfInBounds_toArray, List.set_cons_zero, List.set_cons_succ]
  refine wpH_take (i := 8) (v := ?_) rfl rfl (by kernel_rfl) (by kernel_rfl) (by kernel_rfl) (fun _ _ _ h => h) (Or.inl ⟨by rfl, ?_⟩) hS1 ?_
  rotate_left
  · (intro w_ hw_; go_simp; try with_reducible rfl)
  simp only [List.setIfInBounds_toArray, List.set_cons_zero, List.set_cons_succ]
  clear hS1
  refine wpAnyH_done (by kernel_rfl) ?_ _
  subst hBB
  have hs1 := HU.out.1.set_next (Z.now.next + 1)
  have hcn := HU.out.1.c_next
  have hfn := HU.out.1.c_fz 0
  rw [← hpage] at hcn hs1
  have ec : ((page + 1 : Nat) : Int) = (page : Int) + 1 := by omega
  rw [ec] at hs1
  have HS1 := Lib.hid (And.intro hs1.1 (HU.out.2.trans hs1.2))
  clear hs1 hpage
  go_wp2_with fail
  generalize hwq : u1.setCell ⟨M.p, 0, none⟩ (.int .i64 ((page : Int) + 1)) = wq at *
  clear hwq hcn hfn ec e9 HU hge
  obtain ⟨M1, hM1⟩ : ∃ M1 : Mem, M1 = M := ⟨_, rfl⟩
  obtain ⟨S1, hS1⟩ : ∃ S1 : Pl, S1 = { Z with now := { Z.now with next := page + 1 } } := ⟨_, rfl⟩
  have HP : Hid (PoolAt wq M1 S1 D) := Lib.hid (by rw [hM1, hS1]; exact HS1.out.1)
  have HWQ : Hid (PWent w wq M M1) := Lib.hid (by rw [hM1]; exact HS1.out.2)
  have hpp : M1.p = M.p := by rw [hM1]
  refine wp_region_H (fun v => v.cell? ⟨M.p, 26, none⟩ = some (.map (some M1.mn))) (by kernel_rfl) (fun v0 hv0 => ?_)
  have hS0 : (fun v => v.cell? ⟨M.p, 26, none⟩ = some (.map (some M1.mn))) v0 := by subst hv0; rw [← hpp]; exact (HP.out.drew).c_pend
  have HV0 : Hid (PoolAt v0 M1 S1 D) := Lib.hid (by subst hv0; exact HP.out.drew)
  have HW0 : Hid (PWent w v0 M M1) := Lib.hid (by subst hv0; exact HWQ.out.tail (Below.refl _ _).drew)
  clear hv0 HP HWQ
  refine wpH_take (i := 0) (v := ?_) rfl rfl (by kernel_rfl) (by kernel_rfl) (by kernel_rfl) (fun _ _ _ h => h) (Or.inl ⟨by rfl, ?_⟩) hS0 ?_
  rotate_left
  · (intro w_ hw_; go_simp; try with_reducible rfl)
  simp only [List.setIfInBounds_toArray, List.set_cons_zero, List.set_cons_succ]
  refine wpH_take (i := 1) (v := ?_) rfl rfl (by kernel_rfl) (by kernel_rfl) (by kernel_rfl) (fun _ _ _ h => h) (Or.inl ⟨by rfl, ?_⟩) hS0 ?_
  rotate_left
  · (intro w_ hw_; have q1 := hw_; go_simp; try with_reducible rfl)
  simp only [List.setIfInBounds_toArray, List.set_cons_zero, List.set_cons_succ]
  refine wpH_take (i := 2) (v := ?_) rfl rfl (by kernel_rfl) (by kernel_rfl) (by kernel_rfl) (fun _ _ _ h => h) (Or.inl ⟨by rfl, ?_⟩) hS0 ?_
  rotate_left
  · (intro w_ hw_; go_simp; try with_reducible rfl)
  simp only [List.setIfInBounds_toArray, List.set_cons_zero, List.set_cons_succ]
  refine wpH_take (i := 3) (v := ?_) rfl rfl (by kernel_rfl) (by kernel_rfl) (by kernel_rfl) (fun _ _ _ h => h) (Or.inl ⟨by rfl, ?_⟩) hS0 ?_
  rotate_left
  · (intro w_ hw_; have q1 := hw_; go_simp; try with_reducible rfl)
  simp only [List.setIfInBounds_toArray, List.set_cons_zero, List.set_cons_succ]
  refine wpH_take (i := 4) (v := ?_) rfl rfl (by kernel_rfl) (by kernel_rfl) (by kernel_rfl) (fun _ _ _ h => h) (Or.inl ⟨by rfl, ?_⟩) hS0 ?_
  rotate_left
  · (intro w_ hw_; go_simp; try with_reducible rfl)
  simp only [List.setIfInBounds_toArray, List.set_cons_zero, List.set_cons_succ]
  refine wpH_take (i := 5) (v := ?_) rfl rfl (by kernel_rfl) (by kernel_rfl) (by kernel_rfl) (fun _ _ _ h => h) (Or.inl ⟨by rfl, ?_⟩) hS0 ?_
  rotate_left
  · (intro w_ hw_; go_simp; try with_reducible rfl)
  simp only [List.setIfInBounds_toArray, List.set_cons_zero, List.set_cons_succ]
  refine wpH_take (i := 6) (v := ?_) rfl rfl (by kernel_rfl) (by kernel_rfl) (by kernel_rfl) (fun _ _ _ h => h) (Or.inl ⟨by rfl, ?_⟩) hS0 ?_
  rotate_left
  · (intro w_ hw_; go_simp; try with_reducible rfl)
  simp only [List.setIfInBounds_toArray, List.set_cons_zero, List.set_cons_succ]
  have hwd := wide_any (A := none) (n := 0) (c := 0) (l := []) HV0.out rfl (Rd.nil_ _ _) (Nat.zero_le _)
  rw [hpp] at hwd
  refine wpH_callv (i := 7) (by kernel_rfl) rfl rfl (by rfl) (hwd) (by go_simp) ?_
  rintro x1 v1 ⟨ho1, hb1⟩
  have hS1 : (fun v => v.cell? ⟨M.p, 26, none⟩ = some (.map (some M1.mn))) v1 := (by rw [← hpp]; exact (HV0.out.grew hb1).c_pend)
  clear hS0
  refine ⟨hS1, ?_⟩
  simp only [List.setIfInBounds_toArray, List.set_cons_zero, List.set_cons_succ]
  have hx1 := Byt.of_own ho1 HNE.out
  have HV1 : Hid (PoolAt v1 M1 S1 D) := Lib.hid (HV0.out.grew hb1)
  have HW1 : Hid (PWent w v1 M M1) := Lib.hid (HW0.out.tail hb1)
  obtain ⟨y0, st, v2, v3, hrun1, ht1, hrun2, hm3, ht3⟩ := HV1.out.pend.entry (k := page) HPG.out hx1
  have hs3 := HV1.out.set_pend hm3 ht3
  have HV3 : Hid (PoolAt v3 M1 { S1 with pend := S1.pend.put page (widen D.rm []) } D) := Lib.hid hs3.1
  have HW3 : Hid (PWent w v3 M M1) := Lib.hid (HW1.out.trans hs3.2)
  have hc2 : v2.cell? ⟨M.p, 26, none⟩ = some (.map (some M1.mn)) := by rw [← hpp]; exact HV1.out.c_pend_turn ht1
  have hs4 := HV3.out.set_moved true
  have hc48 := HV3.out.c_moved
  have hf48 := HV3.out.c_fz 28
  rw [hpp] at hc48 hf48 hs4
  clear hm3 ht3 hs3 hx1 ho1 hb1
  have hS2 : (fun v => v.cell? ⟨M.p, 26, none⟩ = some (.map (some M1.mn))) v2 := hc2
  clear hS1
  refine wpH_run (i := 8) (v := (.tuple #[y0, goInt st])) (w' := v2) (by kernel_rfl) rfl rfl (by rfl) (by exact exec_mapEntry (vm := .map (some M1.mn)) (vk := .int .i64 (page : Int)) _ (.tmp 59) (.tmp 60) rfl (by go_simp) (by go_simp) hrun1) hS2 ?_
  simp only [List.setIfInBounds_toArray, List.set_cons_zero, List.set_cons_succ]
  refine wpH_take (i := 9) (v := ?_) rfl rfl (by kernel_rfl) (by kernel_rfl) (by kernel_rfl) (fun _ _ _ h => h) (Or.inl ⟨by rfl, ?_⟩) hS2 ?_
  rotate_left
  · (intro w_ hw_; go_simp; try with_reducible rfl)
  simp only [List.setIfInBounds_toArray, List.set_cons_zero, List.set_cons_succ]
  have hS3 : (fun v => v.cell? ⟨M.p, 26, none⟩ = some (.map (some M1.mn))) v3 := (by rw [← hpp]; exact HV3.out.c_pend)
  clear hS2
  refine wpH_store (i := 10) (w' := v3) (by kernel_rfl) rfl rfl (by rfl) (by exact exec_entryStore (vm := .map (some M1.mn)) (vk := goInt st) (vx := x1) _ (.tmp 59) (.tmp 65) (.tmp 63) rfl (by go_simp) (by go_simp) (by go_simp) hrun2) hS3 ?_
  refine wpH_take (i := 11) (v := ?_) rfl rfl (by kernel_rfl) (by kernel_rfl) (by kernel_rfl) (fun _ _ _ h => h) (Or.inl ⟨by rfl, ?_⟩) hS3 ?_
  rotate_left
  · (intro w_ hw_; have q1 := hw_; go_simp; try with_reducible rfl)
  simp only [List.setIfInBounds_toArray, List.set_cons_zero, List.set_cons_succ]
  refine wpH_take (i := 12) (v := ?_) rfl rfl (by kernel_rfl) (by kernel_rfl) (by kernel_rfl) (fun _ _ _ h => h) (Or.inl ⟨by rfl, ?_⟩) hS3 ?_
  rotate_left
  · (intro w_ hw_; go_simp; try with_reducible rfl)
  simp only [List.setIfInBounds_toArray, List.set_cons_zero, List.set_cons_succ]
  obtain ⟨v4, hv4⟩ : ∃ v4, v4 = v3.setCell ⟨M.p, 28, none⟩ (.bool true) := ⟨_, rfl⟩
  rw [← hv4] at hs4
  have HV4 := Lib.hid hs4
  clear hs4
  have hS4 : (fun v => v.cell? ⟨M.p, 26, none⟩ = some (.map (some M1.mn))) v4 := (by rw [← hpp]; exact HV4.out.1.c_pend)
  clear hS3
  refine wpH_store (i := 13) (w' := v4) (by kernel_rfl) rfl rfl (by rfl) (by subst hv4; go_simp) hS4 ?_
  clear hS4
  refine wpAnyH_done (by kernel_rfl) ?_ _
  go_wp2
  go_ret2
  have h4 := HV4.out
  rw [hv4] at h4
  have h5 := HW3.out.trans h4.2
  have h6 := h4.1
  rw [hS1, hM1] at h6
  rw [hM1] at h5
  have e7 := HPE.out
  subst e7
  exact ⟨rfl, h6, h5⟩
end
end Go.Proofs.YtfmdmfiljplkoaaGreat
namespace Go.Proofs.YtfmdmfiljplkoaaGreat
open Go.RowKit Go.Maps
set_option maxRecDepth 8000
variable {ι : Type} [Bar ι]
def putSta (w : World) (p : Nat) (s : Sta) (v : Value) : World :=
  ((((((((((w.setCell ⟨p, 0, none⟩ (.int .i64 s.next)).setCell ⟨p, 1, none⟩ v).setCell ⟨p, 2, none⟩ (.int .i64 s.roots.r0)).setCell ⟨p, 3, none⟩ (.int .i64 s.roots.r1)).setCell ⟨p, 4, none⟩ (.int .i64 s.roots.r2)).setCell ⟨p, 5, none⟩ (.int .i64 s.roots.r3)).setCell ⟨p, 6, none⟩ (.int .i64 s.roots.r4)).setCell ⟨p, 7, none⟩ (.int .i64 s.roots.r5)).setCell ⟨p, 8, none⟩ (.int .i64 s.roots.r6)).setCell ⟨p, 9, none⟩ (.int .i64 s.roots.r7))
section
variable {w w' : World} {M : Mem} {S : Pl} {D : Dsk}
set_option maxHeartbeats 1000000 in
theorem PoolAt.set_now (h : PoolAt w M S D) {s : Sta} {v : Value} (hr : RowI w v s.free) (hv : ∀ g, v.ownBlock = some g → M.vf.ownBlock = some g ∨ g ∉ M.own) :
    PoolAt (putSta w M.p s v) { M with vf := v } { S with now := s } D ∧ Turn M.own w (putSta w M.p s v) := by
  have ht : Turn [M.p] w (putSta w M.p s v) := by
    unfold putSta
    repeat (refine Turn.set ?_ (.inl (by simp)) _)
    exact Turn.refl _ _
  have hb : Blk (putSta w M.p s v) M.p (plCells { M with vf := v } { S with now := s }) 124 := by
    unfold putSta
    have h9 := (((((((((h.blk.set 0 (.int .i64 s.next)).set 1 v).set 2 (.int .i64 s.roots.r0)).set 3 (.int .i64 s.roots.r1)).set 4 (.int .i64 s.roots.r2)).set 5 (.int .i64 s.roots.r3)).set 6 (.int .i64 s.roots.r4)).set 7 (.int .i64 s.roots.r5)).set 8 (.int .i64 s.roots.r6)).set 9 (.int .i64 s.roots.r7)
    unfold plCells at h9 ⊢
    simp only [List.setIfInBounds_toArray, List.set_cons_zero, List.set_cons_succ] at h9
    exact h9
  have hn : NoBytes w [M.p] := fun j hj => h.nobytes j (mem_mem.2 (.inl (by simpa using hj)))
  have hap := h.apart
  have hm : ∀ j, (j = M.ml ∨ j = M.mn ∨ j = M.ms ∨ M.G = some j ∨ M.vf.ownBlock = some j ∨ M.vw.ownBlock = some j ∨ j ∈ own M.b M.m M.vl) → j ∉ [M.p] := by
    intro j hj e
    simp only [List.mem_singleton] at e
    subst e
    refine (List.nodup_cons.1 hap).1 ?_
    simp [Option.mem_toList]
    exact hj
  refine ⟨⟨hb, h.disk.turn ht hn (fun j hj => hm j (by simp [hj])), h.log.turn ht (fun g e => hm g (by simp [e])), hr.turn ht (fun g e => ?_), h.wfree.turn ht (fun g e => hm g (by simp [e])), h.last.turn ht hn (hm _ (by simp)), h.pend.turn ht hn (hm _ (by simp)), h.seen.turn ht hn (hm _ (by simp)), Mem.nodup_vf hap hv⟩, ht.mono (by intro j hj _; simp at hj; subst hj; exact mem_mem.2 (.inl rfl))⟩
  rcases hv g e with h1 | h1
  · exact hm g (by simp [h1])
  · intro h2; simp at h2; subst h2; exact h1 (mem_mem.2 (.inl rfl))
set_option maxHeartbeats 2000000 in
theorem back_any (h : PoolAt w M S D) (hl : S.was.free.length ≤ 1048576) : Calls Tryz.prog 66 #[.pointer (some ⟨M.p, 0, none⟩)] w fun e w' => e = .returned (.tuple #[]) ∧ ∃ M', PoolAt w' M' { S with now := S.was, pend := Pgs.none_, moved := false } D ∧ PWent w w' M M' := by
  have HC := Lib.hid (clone_any h.wfree hl)
  unfold Sta.val at HC
  have a0 : w.cell? ⟨M.p, 10, none⟩ = _ := h.blk.cell 10
  have a1 : w.cell? ⟨M.p, 11, none⟩ = _ := h.blk.cell 11
  have a2 : w.cell? ⟨M.p, 12, none⟩ = _ := h.blk.cell 12
  have a3 : w.cell? ⟨M.p, 13, none⟩ = _ := h.blk.cell 13
  have a4 : w.cell? ⟨M.p, 14, none⟩ = _ := h.blk.cell 14
  have a5 : w.cell? ⟨M.p, 15, none⟩ = _ := h.blk.cell 15
  have a6 : w.cell? ⟨M.p, 16, none⟩ = _ := h.blk.cell 16
  have a7 : w.cell? ⟨M.p, 17, none⟩ = _ := h.blk.cell 17
  have a8 : w.cell? ⟨M.p, 18, none⟩ = _ := h.blk.cell 18
  have a9 : w.cell? ⟨M.p, 19, none⟩ = _ := h.blk.cell 19
  simp only [plCells, List.getElem?_toArray, List.getElem?_cons_succ, List.getElem?_cons_zero] at a0 a1 a2 a3 a4 a5 a6 a7 a8 a9
  have H := Lib.hid h
  clear h hl
  go_enter Tryz.func66, Tryz.ntmps66
  go_wp2_with fail
  refine HC.out.mono ?_
  rintro e w1 ⟨v', rfl, hr, hf, hb⟩
  have hp1 := H.out.grew hb
  have b0 : w1.cell? ⟨M.p, 0, none⟩ = _ := hp1.blk.cell 0
  have f0 := hp1.c_fz 0
  have b1 : w1.cell? ⟨M.p, 1, none⟩ = _ := hp1.blk.cell 1
  have f1 := hp1.c_fz 1
  have b2 : w1.cell? ⟨M.p, 2, none⟩ = _ := hp1.blk.cell 2
  have f2 := hp1.c_fz 2
  have b3 : w1.cell? ⟨M.p, 3, none⟩ = _ := hp1.blk.cell 3
  have f3 := hp1.c_fz 3
  have b4 : w1.cell? ⟨M.p, 4, none⟩ = _ := hp1.blk.cell 4
  have f4 := hp1.c_fz 4
  have b5 : w1.cell? ⟨M.p, 5, none⟩ = _ := hp1.blk.cell 5
  have f5 := hp1.c_fz 5
  have b6 : w1.cell? ⟨M.p, 6, none⟩ = _ := hp1.blk.cell 6
  have f6 := hp1.c_fz 6
  have b7 : w1.cell? ⟨M.p, 7, none⟩ = _ := hp1.blk.cell 7
  have f7 := hp1.c_fz 7
  have b8 : w1.cell? ⟨M.p, 8, none⟩ = _ := hp1.blk.cell 8
  have f8 := hp1.c_fz 8
  have b9 : w1.cell? ⟨M.p, 9, none⟩ = _ := hp1.blk.cell 9
  have f9 := hp1.c_fz 9
  simp only [plCells, List.getElem?_toArray, List.getElem?_cons_succ, List.getElem?_cons_zero] at b0 b1 b2 b3 b4 b5 b6 b7 b8 b9
  have hc26 := hp1.c_pend
  have hc28 := hp1.c_moved
  have hf28 := hp1.c_fz 28
  obtain ⟨X, cx, e9, _⟩ := hr.form
  subst e9
  have h1 := hp1.set_now hr (fun g hg => .inr fun hm => by have := hf g hg; have := H.out.lt g hm; omega)
  have h2 := h1.1.set_moved false
  obtain ⟨w5, hrun5, hm5, ht5⟩ := h2.1.pend.clear 0
  have h3 := h2.1.set_pend hm5 ht5
  have hp : PWent w (putSta w1 M.p S.was (.slice X S.was.free.length cx)) M { M with vf := .slice X S.was.free.length cx } := by
    refine ⟨(Turn.of_below hb M.own).trans h1.2 (fun _ hj _ => hj), fun g hg => ?_, rfl⟩
    rcases List.mem_append.1 ((Mem.perm_vf M _).mem_iff.1 hg) with q | q
    · rw [Option.mem_toList] at q
      exact .inr (hf g (by simpa using q))
    · exact .inl ((Mem.perm_vf M M.vf).mem_iff.2 (List.mem_append.2 (.inr q)))
  have HK := Lib.hid (And.intro h3.1 (hp.trans (h2.2.trans h3.2)))
  unfold putSta at hrun5
  clear h1 h2 h3 hp hm5 ht5 hr hf hb hp1 HC
  go_wp2
  go_end0
  exact ⟨rfl, _, HK.out⟩
end
end Go.Proofs.YtfmdmfiljplkoaaGreat
namespace Go.Proofs.YtfmdmfiljplkoaaGreat
open Go.RowKit Go.Maps
set_option maxRecDepth 8000
variable {ι : Type} [Bar ι]
section
variable {w w' : World} {M : Mem} {S : Pl} {D : Dsk}
theorem PBack_ok (h : PoolAt w M S D) (hl : S.was.free.length ≤ 1048576) (hd : S.dead = false) : Calls Tryz.prog 83 #[.pointer (some ⟨M.p, 0, none⟩)] w fun e w' => e = .returned (.int .i64 0) ∧ ∃ M', PoolAt w' M' { S with now := S.was, pend := Pgs.none_, moved := false } D ∧ PWent w w' M M' := by
  have HR := ready_pool h
  rw [hd] at HR
  have HR := Lib.hid HR
  have HB := Lib.hid (back_any h hl)
  clear h hd hl
  go_enter Tryz.func83, Tryz.ntmps83
  go_wp2_with fail
  refine HR.out.mono ?_
  rintro r w ⟨rfl, rfl⟩
  go_wp2_with fail
  refine HB.out.mono ?_
  rintro r w2 ⟨rfl, M', hk⟩
  have HK := Lib.hid hk
  clear hk
  go_wp2
  go_ret
  exact ⟨rfl, M', HK.out⟩
end
end Go.Proofs.YtfmdmfiljplkoaaGreat
namespace Go.Proofs.YtfmdmfiljplkoaaGreat
open Go.RowKit Go.Maps
set_option maxRecDepth 8000
variable {ι : Type} [Bar ι]
section
variable {w : World} {b m : Nat} {vl : Value} {D : Dsk}
/-- What a head tells. -/
def headZ (s : List Nat) (a : Int) : Int := if readErr s = 0 ∧ (readMark s).tmod 2 = a ∧ 1 ≤ readMark s then readMark s else 0
set_option maxHeartbeats 2000000 in
theorem head_yes (h : DiskAt w b m vl D) (hL : D.loose.length ≤ 1000000000) (a : Int) (hr : D.ready a = 0) :
    Calls Tryz.prog 109 #[.pointer (some ⟨b, 0, none⟩), .int .i64 a] w fun e w' => e = .returned (.tuple #[.int .i64 (headZ (D.tells a) a), .int .i64 0]) ∧ Below w.heap.size w w' := by
  have HRD := Lib.hid (Read_any a h hL)
  have hlen := (Dsk.tells_ok h.ok a).1
  have HLEN := Lib.hid hlen
  have HZ := Lib.hid (And.intro h.ok.z1 h.ok.z2)
  clear h hL hlen
  rw [hr] at HRD
  simp only [if_true] at HRD
  generalize D.tells a = s at *
  go_enter Tryz.func109, Tryz.ntmps109
  go_wp2_with fail
  refine HRD.out.mono ?_
  rintro e w1 ⟨v, rfl, ho, hb⟩
  have hby := Byt.of_own ho (by intro e; have := HLEN.out; rw [e] at this; have := HZ.out; simp at *; omega)
  obtain ⟨p, c, rfl, hc, hrd⟩ := hby.rd
  have HF := Lib.hid (FRead_any p _ c w1 hrd (by have := HLEN.out; have := HZ.out; omega) (by have := HLEN.out; have := HZ.out; omega) (by omega))
  have HB := Lib.hid hb
  clear ho hby hrd hb HRD
  rw [HLEN.out] at HF ⊢
  go_wp2_with fail
  refine HF.out.mono ?_
  rintro r w2 ⟨v2, rfl, _, hb2⟩
  have HB2 := Lib.hid (HB.out.trans (hb2.mono HB.out.size))
  have HH : Hid ((readErr s = 0 ∧ (readMark s).tmod 2 = a ∧ 1 ≤ readMark s → headZ s a = readMark s) ∧ (¬ (readErr s = 0 ∧ (readMark s).tmod 2 = a ∧ 1 ≤ readMark s) → headZ s a = 0)) := Lib.hid ⟨fun h => by unfold headZ; rw [if_pos h], fun h => by unfold headZ; rw [if_neg h]⟩
  clear hb2 HF
  obtain ⟨HH0, hhe⟩ : ∃ HH0, HH0 = headZ s a := ⟨_, rfl⟩
  rw [← hhe] at HH
  have HHE := Lib.hid hhe
  clear hhe
  generalize readErr s = er at *
  generalize readMark s = mk at *
  have ew : IntKind.i64.wrap (mk.tmod 2) = mk.tmod 2 := by
    have t1 := Int.lt_tmod_of_pos mk (show (0 : Int) < 2 by omega)
    have t2 := Int.tmod_lt_of_pos mk (show (0 : Int) < 2 by omega)
    rw [IntKind.wrap_i64]; omega
  by_cases h1 : er = 0
  · subst h1
    by_cases h2 : mk.tmod 2 = a
    · by_cases h3 : 1 ≤ mk
      · have e := HH.out.1 ⟨rfl, h2, h3⟩
        subst e
        go_wp2
        go_ret2
        exact ⟨by rw [← HHE.out]; rfl, HB2.out⟩
      · have e := HH.out.2 (fun h => h3 h.2.2)
        subst e
        have h4 : mk < 1 := by omega
        go_wp2
        go_ret2
        exact ⟨by rw [← HHE.out]; rfl, HB2.out⟩
    · have e := HH.out.2 (fun h => h2 h.2.1)
      subst e
      go_wp2
      go_ret2
      exact ⟨by rw [← HHE.out]; rfl, HB2.out⟩
  · have e := HH.out.2 (fun h => h1 h.1)
    subst e
    go_wp2
    go_ret2
    exact ⟨by rw [← HHE.out]; rfl, HB2.out⟩
end
end Go.Proofs.YtfmdmfiljplkoaaGreat
namespace Go.Proofs.YtfmdmfiljplkoaaGreat
open Go.RowKit Go.Maps
set_option maxRecDepth 8000
variable {ι : Type} [Bar ι]
/-- The greatest epoch of the first k heads. -/
def headsZ (D : Dsk) : Nat → Int
  | 0 => 0
  | k + 1 => max (headsZ D k) (headZ (D.tells (k : Nat)) (k : Nat))
section
variable {w : World} {b m : Nat} {vl : Value} {D : Dsk}
set_option maxHeartbeats 2000000 in
theorem heads_any (h : DiskAt w b m vl D) (hL : D.loose.length ≤ 1000000000) (hd : D.down = false) (hs : 2 ≤ D.sectors) :
    Calls Tryz.prog 55 #[.pointer (some ⟨b, 0, none⟩)] w fun e w' => e = .returned (.tuple #[.int .i64 (headsZ D 2), .int .i64 0]) ∧ Below w.heap.size w w' := by
  have HH := Lib.hid (fun (k : Nat) (hk : k < 2) w' (hb : Below w.heap.size w w') => head_yes (h.grew hb) hL (k : Nat) (ready_calm hd (by omega) (by omega)))
  have HS := Lib.hid (fun k => (rfl : headsZ D (k + 1) = max (headsZ D k) (headZ (D.tells (k : Nat)) (k : Nat))))
  have H0 : Hid (headsZ D 0 = 0) := Lib.hid rfl
  clear h hL
  go_enter Tryz.func55, Tryz.ntmps55
  go_wp2
  go_loopw [4, 8] (fun x i wr => ∃ k : Nat, k ≤ 2 ∧ i = .int .i64 k ∧ x = .int .i64 (headsZ D k) ∧ Hid (Below w.heap.size w wr)) (fun _ i _ => 2 - (intOf i).toNat)
  case atStart => exact ⟨0, by omega, rfl, by rw [H0.out], Lib.hid (Below.refl _ _)⟩
  case round =>
    obtain ⟨k, hk, rfl, rfl, HB⟩ := hrel
    by_cases hlt : k < 2
    · have HC := Lib.hid (HH.out k hlt _ HB.out)
      generalize hx : headsZ D k = x at *
      generalize hy : headZ (D.tells (k : Nat)) (k : Nat) = y at *
      have HX := Lib.hid hx
      have HY := Lib.hid hy
      clear hx hy
      go_wp2_with fail
      refine HC.out.mono ?_
      rintro e w1 ⟨rfl, hb1⟩
      have HB1 := Lib.hid (HB.out.trans (hb1.mono HB.out.size))
      clear hb1
      go_wp2
      go_round
      case rel => exact ⟨k + 1, by omega, by simp, by rw [show headsZ D (k + 1) = max (headsZ D k) (headZ (D.tells (k : Nat)) (k : Nat)) from rfl, HX.out, HY.out], HB1⟩
      case measure => simp [intOf]; omega
    · obtain rfl : k = 2 := by omega
      go_wp2
      go_ret2
      exact ⟨rfl, HB.out⟩
end
end Go.Proofs.YtfmdmfiljplkoaaGreat
namespace Go.Proofs.YtfmdmfiljplkoaaGreat
open Go.RowKit Go.Maps
set_option maxRecDepth 8000
variable {ι : Type} [Bar ι]
section
variable {w w' : World} {M : Mem} {S : Pl} {D D' : Dsk}
theorem PoolAt.set_log (h : PoolAt w M S D) {G : Nat} {L : Lg} (hl : LogIn w G M.b L) (ho : L.Ok) (hv : G ∉ M.own) :
    PoolAt (w.setCell ⟨M.p, 21, none⟩ (.pointer (some ⟨G, 0, none⟩))) { M with G := some G } { S with log := some L } D ∧ Turn M.own w (w.setCell ⟨M.p, 21, none⟩ (.pointer (some ⟨G, 0, none⟩))) := by
  have ht : Turn [M.p] w (w.setCell ⟨M.p, 21, none⟩ (.pointer (some ⟨G, 0, none⟩))) := (Turn.refl [M.p] w).set (.inl (by simp)) _
  have hn : NoBytes w [M.p] := fun j hj => h.nobytes j (mem_mem.2 (.inl (by simpa using hj)))
  have hap := h.apart
  have hm : ∀ j, (j = M.ml ∨ j = M.mn ∨ j = M.ms ∨ M.G = some j ∨ M.vf.ownBlock = some j ∨ M.vw.ownBlock = some j ∨ j ∈ own M.b M.m M.vl) → j ∉ [M.p] := by
    intro j hj e
    simp only [List.mem_singleton] at e
    subst e
    refine (List.nodup_cons.1 hap).1 ?_
    simp [Option.mem_toList]
    exact hj
  have hG : G ∉ [M.p] := by
    intro e
    simp only [List.mem_singleton] at e
    exact hv (mem_mem.2 (.inl e))
  refine ⟨⟨?_, h.disk.turn ht hn (fun j hj => hm j (by simp [hj])), ⟨Blk.turn hl ht hG, ho⟩, h.free.turn ht (fun g e => hm g (by simp [e])), h.wfree.turn ht (fun g e => hm g (by simp [e])), h.last.turn ht hn (hm _ (by simp)), h.pend.turn ht hn (hm _ (by simp)), h.seen.turn ht hn (hm _ (by simp)), Mem.nodup_G hap (fun g e => .inr (by cases e; exact hv))⟩, ht.mono (by intro j hj _; simp at hj; subst hj; exact mem_mem.2 (.inl rfl))⟩
  exact h.blk.set 21 _
theorem Start_tup {b m : Nat} {vl : Value} (h : DiskAt w b m vl D) (f c e : Nat) (hk : okAt D f c = true) (he : okEp e = true) :
    Calls Tryz.prog 117 #[.pointer (some ⟨b, 0, none⟩), .int .i64 f, .int .i64 c, .int .i64 e] w fun r w' => ∃ u, r = .returned u ∧ ∃ G, u = .tuple #[.pointer (some ⟨G, 0, none⟩), .int .i64 0] ∧ LogIn w' G b ⟨f, c, e, 0, false⟩ ∧ w.heap.size ≤ G ∧ Below w.heap.size w w' := by
  refine (Start_ok h f c e hk he).mono ?_
  rintro r w' ⟨G, rfl, h1⟩
  exact ⟨_, rfl, G, rfl, h1⟩
def Pl.begun (S : Pl) (ep : Nat) : Pl := { S with epoch := ep, log := some ⟨2, S.slots, ep, 0, false⟩ }
def headL (D : Dsk) (ep : Nat) : List Nat := sector D.size ep []
/-- begin: its answer, the pool and the disk behind it. -/
def beg (S : Pl) (D : Dsk) (ep : Nat) : Int × Pl × Dsk :=
  if D.putErr ((ep % 2 : Nat) : Int) (headL D ep) ≠ 0 then (D.putErr ((ep % 2 : Nat) : Int) (headL D ep), S, D.put ((ep % 2 : Nat) : Int) (headL D ep))
  else if (D.put ((ep % 2 : Nat) : Int) (headL D ep)).flushErr ≠ 0 then ((D.put ((ep % 2 : Nat) : Int) (headL D ep)).flushErr, S, (D.put ((ep % 2 : Nat) : Int) (headL D ep)).flush)
  else (0, S.begun ep, (D.put ((ep % 2 : Nat) : Int) (headL D ep)).flush)
theorem okAt_same {D D' : Dsk} (h1 : D'.sectors = D.sectors) (f c : Int) : okAt D' f c = okAt D f c := by
  unfold okAt
  simp [h1]
set_option maxHeartbeats 4000000 in
theorem begin_any (h : PoolAt w M S D) (hk : okAt D 2 S.slots = true) (hsl : S.slots ≤ 1048576) (hL : D.loose.length ≤ 900000000) (ep : Nat) (h1 : 1 ≤ ep) (h2 : ep ≤ 1099511627776) (X : Int × Pl × Dsk) (hX : X = beg S D ep) :
    Calls Tryz.prog 61 #[.pointer (some ⟨M.p, 0, none⟩), .int .i64 ep] w fun e w' => e = .returned (.int .i64 X.1) ∧ ∃ M', PoolAt w' M' X.2.1 X.2.2 ∧ PWent w w' M M' := by
  have HZ := Lib.hid (And.intro h.disk.ok.z1 h.disk.ok.z2)
  have HS := Lib.hid (Size_any h.disk)
  have H := Lib.hid h
  have HLO := Lib.hid hL
  have HHL : Hid ((headL D ep).length = D.size) := Lib.hid (sector_length (by have := h.disk.ok.z1; simp; omega))
  have hc := h.c_disk
  have HLK : Hid (Lg.Ok ⟨2, S.slots, ep, 0, false⟩) := Lib.hid ⟨by show 2 ≤ 1048576; decide, hsl, ⟨h1, h2⟩, Nat.zero_le _⟩
  have HEP : Hid (okEp ep = true) := Lib.hid (by unfold okEp; simp; omega)
  have HKO := Lib.hid hk
  have e1 : IntKind.i64.wrap ((ep : Int).tmod 2) = ((ep % 2 : Nat) : Int) := by
    rw [Int.tmod_eq_emod_of_nonneg (by omega), IntKind.wrap_i64]; omega
  have HB := Lib.hid (fun (w1 : World) => build_rd (m := ep) D.size (Own.none_ w1 w1.heap.size) HZ.out.1 HZ.out.2 (by omega) (by omega) (by have := h.disk.ok.z1; simp; omega))
  have HX := Lib.hid hX
  clear h hL hk hX h1 h2 hsl
  obtain ⟨P, hpE⟩ : ∃ P, P = M.p := ⟨_, rfl⟩
  obtain ⟨B, hbE⟩ : ∃ B, B = M.b := ⟨_, rfl⟩
  rw [← hpE]
  rw [← hpE, ← hbE] at hc
  have HPE := Lib.hid hpE
  have HBE := Lib.hid hbE
  clear hpE hbE
  go_enter Tryz.func61, Tryz.ntmps61
  go_wp2_with fail
  rw [HBE.out]
  refine HS.out.mono ?_
  rintro r w ⟨rfl, rfl⟩
  go_wp2_with fail
  refine (HB.out _).mono ?_
  rintro r w2 ⟨u2, rfl, p9, c9, rfl, hby, hb2⟩
  have HBY : Hid (Byt w2 (.slice (some p9) D.size c9) (headL D ep)) := Lib.hid hby
  have HW2 := Lib.hid hb2
  have HP2 := Lib.hid (H.out.grew hb2)
  have hc2 := HP2.out.c_disk
  rw [← HPE.out, ← HBE.out] at hc2
  clear hby hb2 HB hc HS
  go_wp2_with fail
  rw [HBE.out]
  refine (Write_any ((ep % 2 : Nat) : Int) p9 c9 D.size _ M.b M.m M.vl D _ HP2.out.disk HBY.out HHL.out (by have := HLO.out; omega)).mono ?_
  rintro r w3 ⟨rfl, vl3, hd3, ht3, hg3⟩
  have hk3 := HP2.out.disked hd3 (Dsk.put_sectors _ _).1 ht3 hg3
  have hX := HX.out
  unfold beg at hX
  obtain ⟨pe, hpe⟩ : ∃ pe, pe = D.putErr ((ep % 2 : Nat) : Int) (headL D ep) := ⟨_, rfl⟩
  obtain ⟨D1, hD1⟩ : ∃ D1, D1 = D.put ((ep % 2 : Nat) : Int) (headL D ep) := ⟨_, rfl⟩
  have HO1 : Hid (okAt D1 2 S.slots = true ∧ D1.loose.length ≤ 900000001) := Lib.hid (by
    rw [hD1]
    refine ⟨by rw [okAt_same (Dsk.put_sectors _ _).1]; exact HKO.out, ?_⟩
    have := Dsk.put_loose (d := D) ((ep % 2 : Nat) : Int) (headL D ep)
    have := HLO.out
    omega)
  rw [← hpe, ← hD1] at hX
  rw [← hpe]
  rw [← hD1] at hk3
  have HW3 : Hid (PWent w w3 M { M with vl := vl3 }) := Lib.hid ((PWent.of_below HW2.out).trans hk3.2)
  have HP3 := Lib.hid hk3.1
  have HXX := Lib.hid hX
  clear hk3 hd3 ht3 hg3 hpe hD1 hX HX HP2 HBY HW2 hc2 H
  by_cases hp0 : pe = 0
  · subst hp0
    have hc3 := HP3.out.c_disk
    dsimp only at hc3
    rw [← HPE.out, ← HBE.out] at hc3
    go_wp2_with fail
    rw [HBE.out]
    refine (Flush_any M.b M.m vl3 D1 _ HP3.out.disk (by have := HO1.out.2; omega)).mono ?_
    rintro r w4 ⟨rfl, vl4, hd4, ht4, hg4⟩
    have hk4 := HP3.out.disked hd4 Dsk.flush_sectors.1 ht4 (fun g e => .inl (hg4 g e))
    have hX := HXX.out
    rw [if_neg (by simp)] at hX
    obtain ⟨fe, hfe⟩ : ∃ fe, fe = D1.flushErr := ⟨_, rfl⟩
    obtain ⟨D2, hD2⟩ : ∃ D2, D2 = D1.flush := ⟨_, rfl⟩
    have HOK : Hid (okAt D2 2 S.slots = true ∧ okEp ep = true) := Lib.hid ⟨by rw [hD2, okAt_same Dsk.flush_sectors.1]; exact HO1.out.1, HEP.out⟩
    rw [← hfe, ← hD2] at hX
    rw [← hfe]
    rw [← hD2] at hk4
    have HW4 := Lib.hid (HW3.out.trans hk4.2)
    have HP4 := Lib.hid hk4.1
    have HX4 := Lib.hid hX
    clear hk4 hd4 ht4 hg4 hX hfe hD2 HXX HP3 HW3 hc3
    by_cases hf0 : fe = 0
    · subst hf0
      have hX := HX4.out
      rw [if_neg (by simp)] at hX
      have HX5 := Lib.hid hX
      clear HX4 hX
      obtain ⟨M2, hM2⟩ : ∃ M2 : Mem, M2 = { M with vl := vl4 } := ⟨_, rfl⟩
      have HP5 : Hid (PoolAt w4 M2 S D2) := Lib.hid (by rw [hM2]; exact HP4.out)
      have HW5 : Hid (PWent w w4 M M2) := Lib.hid (by rw [hM2]; exact HW4.out)
      have hpp : M2.p = P := by rw [hM2, HPE.out]
      have hbb : M2.b = B := by rw [hM2, HBE.out]
      clear hM2 HP4 HW4
      have hse := HP5.out.set_epoch ep
      have hc22 := HP5.out.c_epoch
      have hf22 := HP5.out.c_fz 22
      rw [hpp] at hc22 hf22 hse
      obtain ⟨w5, hw5⟩ : ∃ w5, w5 = w4.setCell ⟨P, 22, none⟩ (.int .i64 ep) := ⟨_, rfl⟩
      rw [← hw5] at hse
      have HW : Hid (PWent w w5 M M2) := Lib.hid (HW5.out.trans hse.2)
      have HP : Hid (PoolAt w5 M2 { S with epoch := ep } D2) := Lib.hid hse.1
      clear hse HW5 HP5
      go_wp2_with fail
      rw [← hw5]
      refine wp_region_H (fun v => v.cell? ⟨P, 20, none⟩ = some (.pointer (some ⟨B, 0, none⟩)) ∧ v.cell? ⟨P, 23, none⟩ = some (.int .i64 S.slots)) (by kernel_rfl) (fun v0 hv0 => ?_)
      have hS0 : (fun v => v.cell? ⟨P, 20, none⟩ = some (.pointer (some ⟨B, 0, none⟩)) ∧ v.cell? ⟨P, 23, none⟩ = some (.int .i64 S.slots)) v0 := by subst hv0; exact ⟨by rw [← hpp, ← hbb]; exact (HP.out.drew).c_disk, by rw [← hpp]; exact (HP.out.drew).c_slots⟩
      have HV0 : Hid (PoolAt v0 M2 { S with epoch := ep } D2) := Lib.hid (by subst hv0; exact HP.out.drew)
      have HW0 : Hid (PWent w v0 M M2) := Lib.hid (by subst hv0; exact HW.out.tail (Below.refl _ _).drew)
      clear hv0 HP HW
      refine wpH_take (i := 0) (v := ?_) rfl rfl (by kernel_rfl) (by kernel_rfl) (by kernel_rfl) (fun _ _ _ h => h) (Or.inl ⟨by rfl, ?_⟩) hS0 ?_
      rotate_left
      · (intro w_ hw_; go_simp; try with_reducible rfl)
      simp only [List.setIfInBounds_toArray, List.set_cons_zero, List.set_cons_succ]
      refine wpH_take (i := 1) (v := ?_) rfl rfl (by kernel_rfl) (by kernel_rfl) (by kernel_rfl) (fun _ _ _ h => h) (Or.inl ⟨by rfl, ?_⟩) hS0 ?_
      rotate_left
      · (intro w_ hw_; go_simp; try with_reducible rfl)
      simp only [List.setIfInBounds_toArray, List.set_cons_zero, List.set_cons_succ]
      refine wpH_take (i := 2) (v := ?_) rfl rfl (by kernel_rfl) (by kernel_rfl) (by kernel_rfl) (fun _ _ _ h => h) (Or.inl ⟨by rfl, ?_⟩) hS0 ?_
      rotate_left
      · (intro w_ hw_; obtain ⟨q1, q2⟩ := hw_; go_simp; try with_reducible rfl)
      simp only [List.setIfInBounds_toArray, List.set_cons_zero, List.set_cons_succ]
      refine wpH_take (i := 3) (v := ?_) rfl rfl (by kernel_rfl) (by kernel_rfl) (by kernel_rfl) (fun _ _ _ h => h) (Or.inl ⟨by rfl, ?_⟩) hS0 ?_
      rotate_left
      · (intro w_ hw_; go_simp; try with_reducible rfl)
      simp only [List.setIfInBounds_toArray, List.set_cons_zero, List.set_cons_succ]
      refine wpH_take (i := 4) (v := ?_) rfl rfl (by kernel_rfl) (by kernel_rfl) (by kernel_rfl) (fun _ _ _ h => h) (Or.inl ⟨by rfl, ?_⟩) hS0 ?_
      rotate_left
      · (intro w_ hw_; obtain ⟨q1, q2⟩ := hw_; go_simp; try with_reducible rfl)
      simp only [List.setIfInBounds_toArray, List.set_cons_zero, List.set_cons_succ]
      refine wpH_take (i := 5) (v := ?_) rfl rfl (by kernel_rfl) (by kernel_rfl) (by kernel_rfl) (fun _ _ _ h => h) (Or.inl ⟨by rfl, ?_⟩) hS0 ?_
      rotate_left
      · (intro w_ hw_; go_simp; try with_reducible rfl)
      simp only [List.setIfInBounds_toArray, List.set_cons_zero, List.set_cons_succ]
      refine wpH_take (i := 6) (v := ?_) rfl rfl (by kernel_rfl) (by kernel_rfl) (by kernel_rfl) (fun _ _ _ h => h) (Or.inl ⟨by rfl, ?_⟩) hS0 ?_
      rotate_left
      · (intro w_ hw_; obtain ⟨q1, q2⟩ := hw_; go_simp; try with_reducible rfl)
      simp only [List.setIfInBounds_toArray, List.set_cons_zero, List.set_cons_succ]
      refine wpH_take (i := 7) (v := ?_) rfl rfl (by kernel_rfl) (by kernel_rfl) (by kernel_rfl) (fun _ _ _ h => h) (Or.inl ⟨by rfl, ?_⟩) hS0 ?_
      rotate_left
      · (intro w_ hw_; go_simp; try with_reducible rfl)
      simp only [List.setIfInBounds_toArray, List.set_cons_zero, List.set_cons_succ]
      refine wpH_take (i := 8) (v := ?_) rfl rfl (by kernel_rfl) (by kernel_rfl) (by kernel_rfl) (fun _ _ _ h => h) (Or.inl ⟨by rfl, ?_⟩) hS0 ?_
      rotate_left
      · (intro w_ hw_; obtain ⟨q1, q2⟩ := hw_; go_simp; try with_reducible rfl)
      simp only [List.setIfInBounds_toArray, List.set_cons_zero, List.set_cons_succ]
      refine wpH_take (i := 9) (v := ?_) rfl rfl (by kernel_rfl) (by kernel_rfl) (by kernel_rfl) (fun _ _ _ h => h) (Or.inl ⟨by rfl, ?_⟩) hS0 ?_
      rotate_left
      · (intro w_ hw_; go_simp; try with_reducible rfl)
      simp only [List.setIfInBounds_toArray, List.set_cons_zero, List.set_cons_succ]
      have hst := Start_tup HV0.out.disk 2 S.slots ep HOK.out.1 HOK.out.2
      rw [hbb, show ((2 : Nat) : Int) = 2 from rfl] at hst
      refine wpH_callv (i := 10) (by kernel_rfl) rfl rfl (by rfl) (hst) (by go_simp) ?_
      rintro _ v1 ⟨G, rfl, hl1, hg1, hb1⟩
      have hS1 : (fun v => v.cell? ⟨P, 20, none⟩ = some (.pointer (some ⟨B, 0, none⟩)) ∧ v.cell? ⟨P, 23, none⟩ = some (.int .i64 S.slots)) v1 := ⟨by rw [← hpp, ← hbb]; exact (HV0.out.grew hb1).c_disk, by rw [← hpp]; exact (HV0.out.grew hb1).c_slots⟩
      clear hS0
      refine ⟨hS1, ?_⟩
      simp only [List.setIfInBounds_toArray, List.set_cons_zero, List.set_cons_succ]
      have HV1 : Hid (PoolAt v1 M2 { S with epoch := ep } D2) := Lib.hid (HV0.out.grew hb1)
      have HGN : Hid (v0.heap.size ≤ G ∧ Below v0.heap.size v0 v1) := Lib.hid ⟨hg1, hb1⟩
      have HS1 := Lib.hid (HV1.out.set_log (G := G) (L := ⟨2, S.slots, ep, 0, false⟩) (by rw [hbb]; exact hl1) HLK.out (fun hm => by have := HV0.out.lt G hm; omega))
      have hc21 := HV1.out.c_log
      have hf21 := HV1.out.c_fz 21
      rw [hpp] at hc21 hf21
      have hc20 := HV1.out.c_disk
      have hc23 := HV1.out.c_slots
      rw [hpp] at hc20 hc23
      rw [hbb] at hc20
      clear hl1 hg1 hb1
      refine wpH_take (i := 11) (v := ?_) rfl rfl (by kernel_rfl) (by kernel_rfl) (by kernel_rfl) (fun _ _ _ h => h) (Or.inl ⟨by rfl, ?_⟩) hS1 ?_
      rotate_left
      · (intro w_ hw_; go_simp; try with_reducible rfl)
      simp only [List.setIfInBounds_toArray, List.set_cons_zero, List.set_cons_succ]
      refine wpH_take (i := 12) (v := ?_) rfl rfl (by kernel_rfl) (by kernel_rfl) (by kernel_rfl) (fun _ _ _ h => h) (Or.inl ⟨by rfl, ?_⟩) hS1 ?_
      rotate_left
      · (intro w_ hw_; go_simp; try with_reducible rfl)
      simp only [List.setIfInBounds_toArray, List.set_cons_zero, List.set_cons_succ]
      refine wpH_take (i := 13) (v := ?_) rfl rfl (by kernel_rfl) (by kernel_rfl) (by kernel_rfl) (fun _ _ _ h => h) (Or.inl ⟨by rfl, ?_⟩) hS1 ?_
      rotate_left
      · (intro w_ hw_; go_simp; try with_reducible rfl)
      simp only [List.setIfInBounds_toArray, List.set_cons_zero, List.set_cons_succ]
      refine wpH_take (i := 14) (v := ?_) rfl rfl (by kernel_rfl) (by kernel_rfl) (by kernel_rfl) (fun _ _ _ h => h) (Or.inl ⟨by rfl, ?_⟩) hS1 ?_
      rotate_left
      · (intro w_ hw_; obtain ⟨q1, q2⟩ := hw_; go_simp; try with_reducible rfl)
      simp only [List.setIfInBounds_toArray, List.set_cons_zero, List.set_cons_succ]
      refine wpH_take (i := 15) (v := ?_) rfl rfl (by kernel_rfl) (by kernel_rfl) (by kernel_rfl) (fun _ _ _ h => h) (Or.inl ⟨by rfl, ?_⟩) hS1 ?_
      rotate_left
      · (intro w_ hw_; go_simp; try with_reducible rfl)
      simp only [List.setIfInBounds_toArray, List.set_cons_zero, List.set_cons_succ]
      obtain ⟨v2, hv2⟩ : ∃ v2, v2 = v1.setCell ⟨P, 21, none⟩ (.pointer (some ⟨G, 0, none⟩)) := ⟨_, rfl⟩
      have hs2 := HS1.out.1
      rw [hpp, ← hv2] at hs2
      have hk2 := And.intro hs2.c_disk hs2.c_slots
      dsimp only at hk2
      rw [hbb] at hk2
      clear hs2
      have hS2 : (fun v => v.cell? ⟨P, 20, none⟩ = some (.pointer (some ⟨B, 0, none⟩)) ∧ v.cell? ⟨P, 23, none⟩ = some (.int .i64 S.slots)) v2 := hk2
      clear hS1
      refine wpH_store (i := 16) (w' := v2) (by kernel_rfl) rfl rfl (by rfl) (by subst hv2; go_simp) hS2 ?_
      refine wpH_take (i := 17) (v := ?_) rfl rfl (by kernel_rfl) (by kernel_rfl) (by kernel_rfl) (fun _ _ _ h => h) (Or.inl ⟨by rfl, ?_⟩) hS2 ?_
      rotate_left
      · (intro w_ hw_; go_simp; try with_reducible rfl)
      simp only [List.setIfInBounds_toArray, List.set_cons_zero, List.set_cons_succ]
      clear hS2
      refine wpAnyH_done (by kernel_rfl) ?_ _
      go_wp2
      go_ret
      have h4 := HS1.out
      rw [HX5.out, ← hpp]
      refine ⟨rfl, { M2 with G := some G }, h4.1, HW0.out.trans ⟨(Turn.of_below HGN.out.2 M2.own).trans h4.2 (fun _ hj _ => hj), fun g hg => ?_, rfl⟩⟩
      rcases List.mem_append.1 ((Mem.perm_G M2 _).mem_iff.1 hg) with q | q
      · simp at q
        exact .inr (q ▸ HGN.out.1)
      · exact .inl ((Mem.perm_G M2 M2.G).mem_iff.2 (List.mem_append.2 (.inr q)))
    · have hne : (fe == 0) = false := by simpa using hf0
      have hX := HX4.out
      rw [if_pos hf0] at hX
      have HX5 := Lib.hid hX
      clear HX4 hX
      go_wp2
      go_ret
      rw [HX5.out]
      exact ⟨rfl, _, HP4.out, HW4.out⟩
  · have hne : (pe == 0) = false := by simpa using hp0
    have hX := HXX.out
    rw [if_pos hp0] at hX
    have HX5 := Lib.hid hX
    clear HXX hX
    go_wp2
    go_ret
    rw [HX5.out]
    exact ⟨rfl, _, HP3.out, HW3.out⟩
end
end Go.Proofs.YtfmdmfiljplkoaaGreat
namespace Go.Proofs.YtfmdmfiljplkoaaGreat
open Go.RowKit Go.Maps
set_option maxRecDepth 8000
variable {ι : Type} [Bar ι]
/-- A row of numbers beside a pool. -/
def Side (w : World) (M : Mem) (v : Value) (l : List Nat) : Prop := RowI w v l ∧ ∀ g, v.ownBlock = some g → g ∉ M.own
section
variable {w w' : World} {M M' : Mem} {S : Pl} {D D' : Dsk} {v : Value} {l : List Nat}
/-- The pages of a map are written to their places. -/
def layAll (first : Nat) (f : Pgs) (D : Dsk) : List Nat → Int × Dsk
  | [] => (0, D)
  | k :: r => if D.putErr ((first : Int) + k) (sectL D k ((f k).getD [])) ≠ 0 then (D.putErr ((first : Int) + k) (sectL D k ((f k).getD [])), D.put ((first : Int) + k) (sectL D k ((f k).getD [])))
    else layAll first f (D.put ((first : Int) + k) (sectL D k ((f k).getD []))) r
def Pl.die (S : Pl) (e : Int) : Pl := { S with dead := S.dead || e != 0 }
def Pl.fresh (S : Pl) : Pl := { S with last := Pgs.none_, seen := Pgs.none_ }
/-- The rest of a checkpoint, behind its pages. -/
def pointed (S : Pl) (Y : Int × Dsk) : Int × Pl × Dsk :=
  if Y.1 ≠ 0 then (Y.1, S.die Y.1, Y.2)
  else if Y.2.flushErr ≠ 0 then (Y.2.flushErr, S.die Y.2.flushErr, Y.2.flush)
  else if (beg S Y.2.flush (S.epoch + 1)).1 ≠ 0 then ((beg S Y.2.flush (S.epoch + 1)).1, (beg S Y.2.flush (S.epoch + 1)).2.1.die (beg S Y.2.flush (S.epoch + 1)).1, (beg S Y.2.flush (S.epoch + 1)).2.2)
  else (0, (beg S Y.2.flush (S.epoch + 1)).2.1.fresh, (beg S Y.2.flush (S.epoch + 1)).2.2)
def point (S : Pl) (D : Dsk) : Int × Pl × Dsk := pointed S (layAll S.first S.last D (S.last.keys D.sectors))
structure PtSt (w wr : World) (M : Mem) (S : Pl) (D : Dsk) (v : Value) (ks : List Nat) (X : Int × Pl × Dsk) (k : Nat) (Dk : Dsk) (vlk : Value) : Prop where
  pool : PoolAt wr { M with vl := vlk } S Dk
  went : PWent w wr M { M with vl := vlk }
  side : Side wr { M with vl := vlk } v ks
  sec : Dk.sectors = D.sectors
  size : Dk.size = D.size
  lose : Dk.loose.length ≤ D.loose.length + k
  res : pointed S (layAll S.first S.last Dk (ks.drop k)) = X
theorem rm_same (h : D'.size = D.size) : D'.rm = D.rm := by unfold Dsk.rm; rw [h]
end
end Go.Proofs.YtfmdmfiljplkoaaGreat
namespace Go.Proofs.YtfmdmfiljplkoaaGreat
open Go.RowKit Go.Maps
set_option maxRecDepth 8000
variable {ι : Type} [Bar ι]
/-- A checkpoint's pool. -/
def Pl.pointed (S : Pl) : Pl := (S.begun (S.epoch + 1)).fresh
section
variable {w w' : World} {M : Mem} {S : Pl} {D D' : Dsk}
def putWas (w : World) (p : Nat) (s : Sta) (v : Value) : World :=
  ((((((((((w.setCell ⟨p, 10, none⟩ (.int .i64 s.next)).setCell ⟨p, 11, none⟩ v).setCell ⟨p, 12, none⟩ (.int .i64 s.roots.r0)).setCell ⟨p, 13, none⟩ (.int .i64 s.roots.r1)).setCell ⟨p, 14, none⟩ (.int .i64 s.roots.r2)).setCell ⟨p, 15, none⟩ (.int .i64 s.roots.r3)).setCell ⟨p, 16, none⟩ (.int .i64 s.roots.r4)).setCell ⟨p, 17, none⟩ (.int .i64 s.roots.r5)).setCell ⟨p, 18, none⟩ (.int .i64 s.roots.r6)).setCell ⟨p, 19, none⟩ (.int .i64 s.roots.r7))
end
end Go.Proofs.YtfmdmfiljplkoaaGreat
