/- Walks: Commit. Printed by mk_p25.py. -/
import Derived.Test.YtklppnknllbfnaaGreatPC
namespace Go.Proofs.YtklppnknllbfnaaGreat
open Go.RowKit Go.Maps
set_option maxRecDepth 8000
variable {ι : Type} [Bar ι]
def grpOf (f : Pgs) (ks : List Nat) : List (Int × List Nat) := ks.map fun k : Nat => ((k : Int), (f k).getD [])
def Pl.done (S : Pl) (L : Lg) : Pl := { S with log := some L, last := S.pend.over S.last, pend := Pgs.none_, was := S.now, moved := false }
/-- Commit, from the group on. -/
def appended (S : Pl) (D : Dsk) : Int × Pl × Dsk := match S.log with
 | none => (0, S, D)
 | some L =>
  if (app D L (grpOf S.pend (S.pend.keys D.sectors))).1 ≠ 0 then
   ((app D L (grpOf S.pend (S.pend.keys D.sectors))).1, ({ S with log := some (app D L (grpOf S.pend (S.pend.keys D.sectors))).2.2 } : Pl).die (app D L (grpOf S.pend (S.pend.keys D.sectors))).1, (app D L (grpOf S.pend (S.pend.keys D.sectors))).2.1)
  else (0, S.done (app D L (grpOf S.pend (S.pend.keys D.sectors))).2.2, (app D L (grpOf S.pend (S.pend.keys D.sectors))).2.1)
def Pl.room (S : Pl) : Int := match S.log with
 | none => 0
 | some L => (L.count : Int) - L.next
def Pl.meta0 (S : Pl) (D : Dsk) : Pl := if S.moved then { S with pend := S.pend.put 0 (widen D.rm S.now.metaL) } else S
def Pl.backed (S : Pl) : Pl := { S with now := S.was, pend := Pgs.none_, moved := false }
/-- Commit, behind page 0. -/
def committed (S : Pl) (D : Dsk) : Int × Pl × Dsk :=
 if (S.pend.keys D.sectors).length = 0 then (0, S, D)
 else if S.slots < (S.pend.keys D.sectors).length then (6, S.backed, D)
 else if S.room < (S.pend.keys D.sectors).length then (if (point S D).1 ≠ 0 then point S D else appended (point S D).2.1 (point S D).2.2)
 else appended S D
def commit (S : Pl) (D : Dsk) : Int × Pl × Dsk := if S.dead then (21, S, D) else committed (S.meta0 D) D
section
variable {w w' : World} {M M2 : Mem} {S : Pl} {D D' : Dsk}
theorem PWent.of_vw {v : Value} (ht : Turn M.own w w') (hv : ∀ g, v.ownBlock = some g → M.vw.ownBlock = some g ∨ w.heap.size ≤ g) : PWent w w' M { M with vw := v } := by
 refine ⟨ht, fun g hg => ?_, rfl⟩
 rcases List.mem_append.1 ((Mem.perm_vw M _).mem_iff.1 hg) with q | q
 ·rw [Option.mem_toList] at q
  rcases hv g (by simpa using q) with h1 | h1
  ·exact .inl ((Mem.perm_vw M M.vw).mem_iff.2 (List.mem_append.2 (.inl (by simp [h1]))))
  ·exact .inr h1
 ·exact .inl ((Mem.perm_vw M M.vw).mem_iff.2 (List.mem_append.2 (.inr q)))
theorem PoolAt.has_log (h : PoolAt w M S D) {L : Lg} (hl : S.log = some L) : ∃ G, M.G = some G ∧ LogIn w G M.b L ∧ L.Ok := by
 have h1 := h.log
 rw [hl] at h1
 cases hG : M.G with
 | none => rw [hG] at h1; exact h1.elim
 | some G => rw [hG] at h1; exact ⟨G, rfl, h1.1, h1.2⟩
theorem PoolAt.ml_ne (h : PoolAt w M S D) : M.ml ≠ M.mn := by
 have := (List.nodup_cons.1 (List.nodup_cons.1 h.apart).2).1
 intro e
 exact this (by simp [e])
structure CmSt (w wr : World) (M M2 : Mem) (S : Pl) (D : Dsk) (v : Value) (ks : List Nat) (gv : Value) (k : Nat) : Prop where
 pool : PoolAt wr M2 S D
 went : PWent w wr M M2
 side : Side wr M2 v ks
 row : Chg wr gv (grpOf S.pend (ks.take k))
 lo : ∀ g, gv.ownBlock = some g → w.heap.size ≤ g ∧ g ∉ M2.own
theorem CmSt.push {wr : World} {v gv u : Value} {ks : List Nat} {k : Nat} {l : List Nat} (h : CmSt w wr M M2 S D v ks gv k) (hk : k < ks.length) (hb : k ≤ 1000000000) (hl : S.pend ks[k] = some l) (hu : Byt wr u l) :
  ∃ v' w', (Builtin.append_ #[92, 92] 92 #[gv, .slice (some ⟨wr.heap.size, 0, none⟩) 1 1]).run Tryz.prog (wr.alloc (.cells #[.int .i64 (ks[k] : Nat), u] 94)) = .ok v' w' ∧ Hid (CmSt w w' M M2 S D v ks v' (k + 1)) := by
 have hg : Below wr.heap.size wr (wr.alloc (.cells #[.int .i64 (ks[k] : Nat), u] 94)) := (Below.refl _ wr).alloc (Nat.le_refl _) _
 have hrow := h.row.grew hg
 have hkind := fun g (e : gv.ownBlock = some g) => hrow.kind e
 obtain ⟨v', w', hrun, hc1, hc2, hgr, hloc⟩ := hrow.append (by unfold grpOf; simp; omega) (Blk.new wr #[.int .i64 (ks[k] : Nat), u] 94) (hu.grew hg)
 obtain ⟨w1, hw1⟩ : ∃ w1, w1 = wr.alloc (.cells #[.int .i64 (ks[k] : Nat), u] 94) := ⟨_, rfl⟩
 rw [← hw1] at hg hrow hkind hgr hloc hrun
 have ht : Turn gv.ownBlock.toList w1 w' := (Turn.refl _ w1).grown hgr (fun k e => .inl (by simp [e]))
 have hnb : NoBytes w1 gv.ownBlock.toList := by
  intro k hk cs fz e
  obtain ⟨cs', e'⟩ := hkind k (by simpa using hk)
  rw [e'] at e; cases e
 have hsz := h.went.1.size
 refine ⟨v', w', by rw [← hw1]; exact hrun, Lib.hid ⟨(h.pool.grew hg).turn ht hnb (fun j hj hT => (h.lo j (by simpa using hT)).2 hj), ?_, ?_, ?_, fun g hg' => ?_⟩⟩
 ·refine ⟨(h.went.1.tail hg).trans ht (fun j hj hlt => ?_), h.went.2.1, h.went.2.2⟩
  have := (h.lo j (by simpa using hj)).1
  omega
 ·refine ⟨(h.side.1.turn (Turn.of_below hg []) (by simp)).turn ht (fun g e hT => ?_), h.side.2⟩
  obtain ⟨cs1, e1⟩ := (h.side.1.turn (Turn.of_below hg []) (by simp)).kind e
  obtain ⟨cs2, e2⟩ := hkind g (by simpa using hT)
  rw [e1] at e2; cases e2
 ·have e : grpOf S.pend (ks.take (k + 1)) = grpOf S.pend (ks.take k) ++ [(((ks[k] : Nat) : Int), l)] := by
   unfold grpOf
   rw [List.take_add_one, List.getElem?_eq_getElem hk, Option.toList_some, List.map_append]
   simp [hl]
  rw [e]
  exact hc1
 ·rcases hloc with e | e
  ·rw [e] at hg'; exact h.lo g hg'
  ·rw [e] at hg'
   injection hg' with hg'
   have h2 := hg.size
   refine ⟨by omega, fun hm => ?_⟩
   have h3 := h.pool.lt g hm
   omega
theorem Pl.Ok.meta0 (h : S.Ok D) (hd : D.Ok) : (S.meta0 D).Ok D := by
 unfold Pl.meta0
 split
 ·refine ⟨h.z, h.s, h.s2, h.slots, h.first, h.now, h.was, h.last, Pgs.Ok.put h.pend ?_ (widen_length ?_), h.seen⟩
  ·have h1 := h.now.n1
   have h2 := h.now.n2
   show 0 < S.pages D
   omega
  ·have h1 := h.rm1 hd
   have h2 := metaL_length S.now
   omega
 ·exact h
theorem PCommit_nil (w : World) : Calls Tryz.prog 26 #[.pointer none] w fun e w' => e = .returned (.int .i64 1) ∧ w' = w := by
 have HR := Lib.hid (ready_nil w)
 go_enter Tryz.func26, Tryz.ntmps26
 go_wp2_with fail
 refine HR.out.mono ?_
 rintro r w ⟨rfl, rfl⟩
 go_wp2
 go_ret
 exact ⟨rfl, rfl⟩
set_option maxHeartbeats 16000000 in
theorem PCommit_any (h : PoolAt w M S D) (ok : S.Ok D) (hd : S.dead = false) {L : Lg} (hlog : S.log = some L) (hL : D.loose.length ≤ 700000000) (hep : S.epoch ≤ 1000000000000) (X : Int × Pl × Dsk) (hX : X = committed (S.meta0 D) D) :
  Calls Tryz.prog 26 #[.pointer (some ⟨M.p, 0, none⟩)] w fun e w' => e = .returned (.int .i64 X.1) ∧ ∃ M', PoolAt w' M' X.2.1 X.2.2 ∧ PWent w w' M M' := by
 have HR := ready_pool h
 rw [hd] at HR
 have HR := Lib.hid HR
 have HOK1 := Lib.hid (ok.meta0 h.disk.ok)
 have HLO := Lib.hid hL
 have hfl := ok.free_le
 have HFL : Hid ((S.now.free.length : Int) ≤ 1048576) := Lib.hid (by omega)
 have hrm := ok.rm1 h.disk.ok
 have hml := metaL_length S.now
 have HML : Hid (S.now.metaL.length ≤ D.rm) := Lib.hid (by omega)
 have hw : (widen D.rm S.now.metaL).length = D.rm := widen_length (by omega)
 have HNE : Hid (widen D.rm S.now.metaL ≠ []) := Lib.hid (by intro e; rw [e] at hw; simp at hw; omega)
 have HPG : Hid (0 < D.sectors) := Lib.hid (by have := ok.s; omega)
 have HX1 := Lib.hid hX.symm
 have HLG : Hid ((S.meta0 D).log = some L) := Lib.hid (by unfold Pl.meta0; split <;> exact hlog)
 have HEP : Hid ((S.meta0 D).epoch ≤ 1000000000000) := Lib.hid (by unfold Pl.meta0; split <;> exact hep)
 have hcm := h.c_moved
 have H := Lib.hid h
 clear h ok hL hfl hrm hml hw hX hlog hd hep
 obtain ⟨S1, hS1⟩ : ∃ S1 : Pl, S1 = S.meta0 D := ⟨_, rfl⟩
 rw [← hS1] at HOK1 HX1 HLG HEP
 unfold Pl.meta0 at hS1
 have HS1 := Lib.hid hS1
 clear hS1
 go_enter Tryz.func26, Tryz.ntmps26
 go_wp2_with fail
 refine HR.out.mono ?_
 rintro r w ⟨rfl, rfl⟩
 cases hm : S.moved with
 | true =>
  rw [hm] at hcm
  have hS1 := HS1.out
  rw [if_pos hm] at hS1
  clear HS1
  have HS1 := Lib.hid hS1
  clear hm hS1
  go_wp2_with fail
  refine wp_region_H (fun v => v.cell? ⟨M.p, 26, none⟩ = some (.map (some M.mn))) (by kernel_rfl) (fun v0 hv0 => ?_)
  have hS0 : (fun v => v.cell? ⟨M.p, 26, none⟩ = some (.map (some M.mn))) v0 := by subst hv0; exact (H.out.drew).c_pend
  have HV0 : Hid (PoolAt v0 M S D) := Lib.hid (by subst hv0; exact H.out.drew)
  have HW0 : Hid (PWent w v0 M M) := Lib.hid (by subst hv0; exact PWent.of_below (Below.refl _ _).drew)
  clear hv0
  refine wpH_t 0 ?_ rfl rfl (by kernel_rfl) (fun _ _ _ h => h) rfl ?_ hS0 ?_
  rotate_left
  ·(intro w_ hw_; go_simp; try with_reducible rfl)
  simp only [sL]
  refine wpH_t 1 ?_ rfl rfl (by kernel_rfl) (fun _ _ _ h => h) rfl ?_ hS0 ?_
  rotate_left
  ·(intro w_ hw_; have q1 := hw_; go_simp; try with_reducible rfl)
  simp only [sL]
  refine wpH_t 2 ?_ rfl rfl (by kernel_rfl) (fun _ _ _ h => h) rfl ?_ hS0 ?_
  rotate_left
  ·(intro w_ hw_; go_simp; try with_reducible rfl)
  simp only [sL]
  refine wpH_t 3 ?_ rfl rfl (by kernel_rfl) (fun _ _ _ h => h) rfl ?_ hS0 ?_
  rotate_left
  ·(intro w_ hw_; have q1 := hw_; go_simp; try with_reducible rfl)
  simp only [sL]
  refine wpH_t 4 ?_ rfl rfl (by kernel_rfl) (fun _ _ _ h => h) rfl ?_ hS0 ?_
  rotate_left
  ·(intro w_ hw_; go_simp; try with_reducible rfl)
  simp only [sL]
  refine wpH_t 5 ?_ rfl rfl (by kernel_rfl) (fun _ _ _ h => h) rfl ?_ hS0 ?_
  rotate_left
  ·(intro w_ hw_; go_simp; try with_reducible rfl)
  simp only [sL]
  refine wpH_callv (i := 6) (by kernel_rfl) rfl rfl (by rfl) (meta_any HV0.out HFL.out) (by go_simp) ?_
  rintro x1 v1 ⟨ho1, hb1⟩
  have hS1 : (fun v => v.cell? ⟨M.p, 26, none⟩ = some (.map (some M.mn))) v1 := (HV0.out.grew hb1).c_pend
  clear hS0
  refine ⟨hS1, ?_⟩
  simp only [sL]
  have HV1 : Hid (PoolAt v1 M S D) := Lib.hid (HV0.out.grew hb1)
  have HW1 : Hid (PWent w v1 M M) := Lib.hid (HW0.out.tail hb1)
  obtain ⟨A1, k1, rfl, hr1⟩ := ho1.form
  have hwd := wide_any (c := k1) HV1.out rfl hr1 HML.out
  refine wpH_callv (i := 7) (by kernel_rfl) rfl rfl (by rfl) (hwd) (by go_simp) ?_
  rintro x2 v2 ⟨ho2, hb2⟩
  have hS2 : (fun v => v.cell? ⟨M.p, 26, none⟩ = some (.map (some M.mn))) v2 := (HV1.out.grew hb2).c_pend
  clear hS1
  refine ⟨hS2, ?_⟩
  simp only [sL]
  have hx2 := Byt.of_own ho2 HNE.out
  have HV2 : Hid (PoolAt v2 M S D) := Lib.hid (HV1.out.grew hb2)
  have HW2 : Hid (PWent w v2 M M) := Lib.hid (HW1.out.tail hb2)
  obtain ⟨v3, hrun, hm3, ht3⟩ := HV2.out.pend.store (k := 0) HPG.out hx2
  have hs3 := HV2.out.set_pend hm3 ht3
  have HV3 : Hid (PoolAt v3 M { S with pend := S.pend.put 0 (widen D.rm S.now.metaL) } D) := Lib.hid hs3.1
  have HW3 : Hid (PWent w v3 M M) := Lib.hid (HW2.out.trans hs3.2)
  clear hm3 ht3 hs3 hx2 ho2 hb2 ho1 hb1 hr1
  have hS3 : (fun v => v.cell? ⟨M.p, 26, none⟩ = some (.map (some M.mn))) v3 := HV3.out.c_pend
  clear hS2
  refine wpH_store (i := 8) (w' := v3) (by kernel_rfl) rfl rfl (by rfl) (by exact exec_mapUpdate _ (.tmp 22) (.const (.int .i64 0)) (.tmp 26) rfl rfl rfl rfl hrun) hS3 ?_
  clear hS3
  refine wpAnyH_done (by kernel_rfl) ?_ _
  have hp1 := HV3.out
  rw [← HS1.out] at hp1
  have HP1 := Lib.hid hp1
  have HWW := HW3
  clear HV3 HW3 HV0 HW0 HV1 HW1 HV2 HW2 HS1 HR hcm H hp1
  have HW1 := HWW
  clear HWW
  have hcn := HP1.out.c_pend
  have hlen := HP1.out.pend.len 3
  have hcs := HP1.out.c_slots
  have hx := HX1.out
  unfold committed at hx
  have hsl : S1.slots ≤ 262144 := by
   have h1 := HOK1.out.slots
   have h2 := HOK1.out.s2
   omega
  obtain ⟨n, hn⟩ : ∃ n, n = (S1.pend.keys D.sectors).length := ⟨_, rfl⟩
  rw [← hn] at hlen hx
  have HN := Lib.hid hn
  clear hn
  by_cases h0 : n = 0
  ·subst h0
   rw [if_pos rfl] at hx
   have HXX := Lib.hid hx
   rw [show ((0 : Nat) : Int) = 0 from rfl] at hlen
   clear hx HX1 hsl
   go_wp2
   go_ret
   rw [← HXX.out]
   exact ⟨rfl, _, HP1.out, HW1.out⟩
  ·have hne : ((n : Int) == 0) = false := by simp; omega
   rw [if_neg h0] at hx
   by_cases h1 : S1.slots < n
   ·rw [if_pos h1] at hx
    have h1' : (S1.slots : Int) < n := by omega
    have HXX := Lib.hid hx
    have HBK := Lib.hid (back_any HP1.out (by have := HOK1.out.was.len; have := HOK1.out.was.n2; have := HOK1.out.s2; unfold Pl.pages at *; omega))
    clear hx HX1 hsl h1
    go_wp2_with fail
    refine HBK.out.mono ?_
    rintro r w2 ⟨rfl, M2, hp2, hw2⟩
    have HF := Lib.hid (And.intro hp2 (HW1.out.trans hw2))
    clear hp2 hw2
    go_wp2
    go_ret
    rw [← HXX.out]
    exact ⟨rfl, M2, HF.out⟩
   ·rw [if_neg h1] at hx
    have h1' : ¬ (S1.slots : Int) < n := by omega
    obtain ⟨G, hG, hlg, hlo⟩ := HP1.out.has_log HLG.out
    have hcl := HP1.out.c_log
    rw [hG] at hcl
    unfold logV at hcl
    have HLF := Lib.hid (Left_any hlg hlo)
    have hrm : S1.room = (L.count : Int) - L.next := by unfold Pl.room; rw [HLG.out]
    rw [hrm] at hx
    have HXX := Lib.hid hx
    have hnb : n ≤ 262144 := by omega
    obtain ⟨left, hleft⟩ : ∃ left, left = (L.count : Int) - L.next := ⟨_, rfl⟩
    rw [← hleft] at HLF HXX
    clear hx HX1 hlg hlo hG hrm hleft h1
    go_wp2_with fail
    refine HLF.out.mono ?_
    rintro r w2 ⟨rfl, hb2⟩
    have HP2 := Lib.hid (HP1.out.grew hb2)
    have HW2 := Lib.hid (HW1.out.tail hb2)
    clear hb2 HLF hcl hlen hcn hcs HP1 HW1
    by_cases h2 : left < n
    ·have hx := HXX.out
     rw [if_pos h2] at hx
     obtain ⟨Y, hY⟩ : ∃ Y, Y = point S1 D := ⟨_, rfl⟩
     have hpf := point_facts S1 D
     rw [← hY] at hx hpf
     have HPT := Lib.hid (point_any HP2.out HOK1.out (by have := HLO.out; omega) HEP.out Y hY)
     have HPF := Lib.hid hpf
     clear HXX
     have HXX := Lib.hid hx
     clear hx hY hpf
     go_wp2_with fail
     refine HPT.out.mono ?_
     rintro r wq ⟨rfl, M2, hp3, hw3⟩
     have HP3 := Lib.hid hp3
     have HW3 := Lib.hid (HW2.out.trans hw3)
     have hmp : M2.p = M.p := hw3.p_eq
     obtain ⟨Ye, S2, D2⟩ := Y
     dsimp only at HPF HXX HP3 ⊢
     clear hp3 hw3 HPT HP2 HW2
     by_cases hy : Ye = 0
     ·subst hy
      have hx := HXX.out
      rw [if_neg (by simp)] at hx
      obtain ⟨q1, q2, q3, q4⟩ := HPF.out
      have q4 := q4 rfl
      have HX2 := Lib.hid hx
      have HP := HP3
      have HW := HW3
      obtain ⟨L2, hL2⟩ : ∃ L2 : Lg, L2 = ⟨2, S1.slots, S1.epoch + 1, 0, false⟩ := ⟨_, rfl⟩
      have HLG2 : Hid (S2.log = some L2) := Lib.hid (by rw [q4, hL2]; rfl)
      have HS2 : Hid ((S2.pend.keys D2.sectors).length ≤ 262144 ∧ D2.loose.length ≤ 900000000) := Lib.hid ⟨by
        have e : S2.pend = S1.pend := by rw [q4]; rfl
        rw [e, q1, ← HN.out]; exact hnb, by
        have h1 := HLO.out
        have h2 := HOK1.out.s2
        omega⟩
      have HFN : Hid (S2.now.free.length ≤ 1048576) := Lib.hid (by
        have e : S2.now = S1.now := by rw [q4]; rfl
        rw [e]; exact HOK1.out.free_le)
      clear HP3 HW3 HXX HPF q1 q2 q3 q4 hx hL2 HOK1 HLG
      obtain ⟨G, hG, hlg, hlo⟩ := HP.out.has_log HLG2.out
      have HLK := Lib.hid hlo
      have HGG := Lib.hid hG
      clear hG hlg hlo
      have hcn := HP.out.c_pend
      rw [hmp] at hcn
      have HK := Lib.hid (Keys_any (some M2.mn) wq)
      have HSO := Lib.hid (Sorted_any (HP.out.pend.grew ((Below.refl _ wq).alloc (Nat.le_refl _) (.cells #[.map (some M2.mn)] 73))) (B := wq.heap.size) (by simp) ((Blk.new wq _ _).cell 0))
      have HB1 : Hid (Below wq.heap.size wq (wq.alloc (.cells #[.map (some M2.mn)] 73))) := Lib.hid ((Below.refl _ wq).alloc (Nat.le_refl _) _)
      have HKN : Hid (∀ k ∈ S2.pend.keys D2.sectors, ∃ l, S2.pend k = some l) := Lib.hid (fun k hk => (mem_keys.1 hk).2)
      obtain ⟨ks, hks⟩ : ∃ ks, ks = S2.pend.keys D2.sectors := ⟨_, rfl⟩
      have HKE := Lib.hid hks
      rw [← hks] at HSO HKN HS2
      clear hks
      go_wp2_with fail
      refine HK.out.mono ?_
      rintro e w5 ⟨rfl, rfl⟩
      go_wp2_with fail
      refine HSO.out.mono ?_
      rintro e w6 ⟨v, rfl, hrow, hnil, hb6⟩
      have hri : RowI w6 v ks := Own.base_ (Nat.zero_le _) hrow
      have hbw : Below wq.heap.size wq w6 := HB1.out.trans (hb6.mono HB1.out.size)
      have hside : Side w6 M2 v ks := ⟨hri, fun g hg hm => by
       have h1 := (World.ownsRow.lt hrow g hg).1
       have h2 := HP.out.lt g hm
       have h3 := HB1.out.size
       omega⟩
      obtain ⟨A, c, rfl, hc, _⟩ := hri.form
      have H0 : Hid (CmSt w w6 M M2 S2 D2 (.slice A ks.length c) ks nilv 0) := Lib.hid ⟨HP.out.grew hbw, HW.out.tail hbw, hside, Chg.nil _, fun g hg => by simp [nilv, Value.ownBlock] at hg⟩
      clear hrow hri hbw hside hnil hb6 HSO HK HB1 HP HW hc hcn
      obtain ⟨m, hm⟩ : ∃ m, m = ks.length := ⟨_, rfl⟩
      rw [← hm] at H0 HS2
      rw [← hm]
      have HM := Lib.hid hm
      clear hm
      go_wp2_with fail
      go_loopw [6, 64] (fun gv iv wr => ∃ (k : Nat), k ≤ m ∧ iv = .int .i64 k ∧ Hid (CmSt w wr M M2 S2 D2 (.slice A m c) ks gv k)) (fun _ iv _ => m - (intOf iv).toNat)
      case atStart => exact ⟨0, by omega, rfl, H0⟩
      case round =>
       clear H0
       rename_i gv iv wr
       obtain ⟨k, hk, rfl, HS⟩ := hrel
       by_cases hlt : k < m
       ·have hkl2 : k < ks.length := by rw [← HM.out]; exact hlt
        have hlt' : (k : Int) < m := by omega
        have hmb : m ≤ 262144 := HS2.out.1
        obtain ⟨g, rfl, hg, hcg⟩ := HS.out.side.1.at_.2.2 k hkl2
        obtain ⟨l, hl1⟩ := HKN.out ks[k] (List.getElem_mem hkl2)
        obtain ⟨u, hrun, hby⟩ := HS.out.pool.pend.look1 hl1
        obtain ⟨v', w', happ, hnew⟩ := HS.out.push hkl2 (by omega) hl1 hby
        obtain ⟨pg, hpg⟩ : ∃ pg, pg = ks[k] := ⟨_, rfl⟩
        rw [← hpg] at hl1 hcg hrun happ
        clear hpg
        have hcp := HS.out.pool.c_pend
        rw [hmp] at hcp
        obtain ⟨p9, cu, rfl, hcu, hrd⟩ := hby.rd
        have RUN := Lib.hid happ
        have HNEW := Lib.hid hnew
        clear happ hnew hby hrd hcu hl1 hg HS
        go_wp2_with (at_builtin; refine Lib.wpList_append_run _ rfl (.tmp 68) (.tmp 77) 92 92 rfl _ _ rfl rfl v' w' RUN.out ?_)
        go_roundw
        case rel => exact ⟨k + 1, by omega, by go_num, HNEW⟩
        case measure => simp [intOf]; omega
       ·have hkn : k = m := by omega
        subst hkn
        have HP := Lib.hid HS.out.pool
        have HW := Lib.hid HS.out.went
        have hrow := HS.out.row
        rw [List.take_of_length_le (by rw [← HM.out]; exact Nat.le_refl _)] at hrow
        have hgl : (grpOf S2.pend ks).length = k := by unfold grpOf; rw [List.length_map]; exact HM.out.symm
        have hgE : grpOf S2.pend ks = grpOf S2.pend (S2.pend.keys D2.sectors) := by rw [HKE.out]
        obtain ⟨A2, c2, e2, _⟩ := hrow.form
        rw [hgl] at e2
        subst e2
        have hx := HX2.out
        unfold appended at hx
        rw [HLG2.out] at hx
        dsimp only at hx
        rw [← hgE] at hx
        obtain ⟨grp_, hgrp⟩ : ∃ g, g = grpOf S2.pend ks := ⟨_, rfl⟩
        rw [← hgrp] at hrow hgl hx
        obtain ⟨Z, hZ⟩ : ∃ Z, Z = app D2 L2 grp_ := ⟨_, rfl⟩
        rw [← hZ] at hx
        obtain ⟨G', hG', hlg, hlo⟩ := HP.out.has_log HLG2.out
        obtain rfl : G' = G := by rw [HGG.out] at hG'; injection hG' with e; exact e.symm
        have HAP := Lib.hid (Append_any HP.out.disk hlg hlo grp_ k c2 hgl A2 hrow (by have := HS2.out.1; omega) (by exact HS2.out.2) Z hZ)
        have hcl := HP.out.c_log
        rw [hG', hmp] at hcl
        unfold logV at hcl
        have hfa := app_facts grp_ D2 L2 hlo
        rw [← hZ] at hfa
        have HFA := Lib.hid hfa
        have HXX := Lib.hid hx
        clear hrow hgl hgE hx hgrp hZ hG' hlg hlo hfa HX2 HS
        go_wp2_with fail
        refine HAP.out.mono ?_
        rintro e w7 ⟨rfl, vl7, hd7, hl7, hw7⟩
        have h7 := HP.out.logged HGG.out hd7 hl7 HFA.out.2.2.1 HFA.out.1 hw7
        obtain ⟨M3, hM3⟩ : ∃ M3 : Mem, M3 = { M2 with vl := vl7 } := ⟨_, rfl⟩
        rw [← hM3] at h7
        obtain ⟨S3, hS3⟩ : ∃ S3 : Pl, S3 = { S2 with log := some Z.2.2 } := ⟨_, rfl⟩
        rw [← hS3] at h7
        obtain ⟨D3, hD3⟩ : ∃ D3, D3 = Z.2.1 := ⟨_, rfl⟩
        rw [← hD3] at h7 HXX
        obtain ⟨ze, hze⟩ : ∃ ze, ze = Z.1 := ⟨_, rfl⟩
        rw [← hze] at HXX
        rw [← hze]
        have hmp3 : M3.p = M.p := (congrArg Mem.p hM3).trans hmp
        have HP9 := Lib.hid h7.1
        have HW9 := Lib.hid (HW.out.trans h7.2)
        have HS3 := Lib.hid hS3
        clear h7 hd7 hl7 hw7 HP HW HAP HFA hM3 hD3 hze hcl hS3
        by_cases hz0 : ze = 0
        ·subst hz0
         have hx := HXX.out
         rw [if_neg (by simp)] at hx
         clear HXX
         have HXX := Lib.hid hx
         have HP := HP9
         have HW := HW9
         clear hx HP9 HW9
         go_wp2_with fail
         refine wp_region_H (fun v => v.cell? ⟨M.p, 25, none⟩ = some (.map (some M3.ml)) ∧ v.cell? ⟨M.p, 26, none⟩ = some (.map (some M3.mn))) (by kernel_rfl) (fun v0 hv0 => ?_)
         have hS0 : (fun v => v.cell? ⟨M.p, 25, none⟩ = some (.map (some M3.ml)) ∧ v.cell? ⟨M.p, 26, none⟩ = some (.map (some M3.mn))) v0 := by subst hv0; exact ⟨by rw [← hmp3]; exact (HP.out.drew).c_last, by rw [← hmp3]; exact (HP.out.drew).c_pend⟩
         have HV0 : Hid (PoolAt v0 M3 S3 D3) := Lib.hid (by subst hv0; exact HP.out.drew)
         have HW0 : Hid (PWent w v0 M M3) := Lib.hid (by subst hv0; exact HW.out.tail (Below.refl _ _).drew)
         clear hv0 HP HW
         refine wpH_t 0 ?_ rfl rfl (by kernel_rfl) (fun _ _ _ h => h) rfl ?_ hS0 ?_
         rotate_left
         ·(intro w_ hw_; go_simp; try with_reducible rfl)
         simp only [sL]
         refine wpH_t 1 ?_ rfl rfl (by kernel_rfl) (fun _ _ _ h => h) rfl ?_ hS0 ?_
         rotate_left
         ·(intro w_ hw_; obtain ⟨q1, q2⟩ := hw_; go_simp; try with_reducible rfl)
         simp only [sL]
         refine wpH_t 2 ?_ rfl rfl (by kernel_rfl) (fun _ _ _ h => h) rfl ?_ hS0 ?_
         rotate_left
         ·(intro w_ hw_; go_simp; try with_reducible rfl)
         simp only [sL]
         refine wpH_t 3 ?_ rfl rfl (by kernel_rfl) (fun _ _ _ h => h) rfl ?_ hS0 ?_
         rotate_left
         ·(intro w_ hw_; obtain ⟨q1, q2⟩ := hw_; go_simp; try with_reducible rfl)
         simp only [sL]
         refine wpH_t 4 ?_ rfl rfl (by kernel_rfl) (fun _ _ _ h => h) rfl ?_ hS0 ?_
         rotate_left
         ·(intro w_ hw_; go_simp; try with_reducible rfl)
         simp only [sL]
         refine wpH_t 5 ?_ rfl rfl (by kernel_rfl) (fun _ _ _ h => h) rfl ?_ hS0 ?_
         rotate_left
         ·(intro w_ hw_; obtain ⟨q1, q2⟩ := hw_; go_simp; try with_reducible rfl)
         simp only [sL]
         refine wpH_t 6 ?_ rfl rfl (by kernel_rfl) (fun _ _ _ h => h) rfl ?_ hS0 ?_
         rotate_left
         ·(intro w_ hw_; go_simp; try with_reducible rfl)
         simp only [sL]
         refine wpH_t 7 ?_ rfl rfl (by kernel_rfl) (fun _ _ _ h => h) rfl ?_ hS0 ?_
         rotate_left
         ·(intro w_ hw_; obtain ⟨q1, q2⟩ := hw_; go_simp; try with_reducible rfl)
         simp only [sL]
         refine wpH_call (i := 8) (by kernel_rfl) rfl rfl (by rfl) (Copy_any HV0.out.last HV0.out.pend HV0.out.ml_ne) (by go_simp) (fun v1 hR => ?_)
         have hS1 : (fun v => v.cell? ⟨M.p, 25, none⟩ = some (.map (some M3.ml)) ∧ v.cell? ⟨M.p, 26, none⟩ = some (.map (some M3.mn))) v1 := ⟨by rw [← hmp3]; exact (HV0.out.set_last hR.1 hR.2).1.c_last, by rw [← hmp3]; exact (HV0.out.set_last hR.1 hR.2).1.c_pend⟩
         clear hS0
         refine ⟨hS1, ?_⟩
         simp only [sL]
         have h1 := HV0.out.set_last hR.1 hR.2
         have HP := Lib.hid h1.1
         have HW := Lib.hid (HW0.out.trans h1.2)
         clear h1 hR HV0 HW0
         clear hS1
         refine wpAnyH_done (by kernel_rfl) ?_ _
         obtain ⟨S4, hS4⟩ : ∃ S4 : Pl, S4 = { S3 with last := S3.pend.over S3.last } := ⟨_, rfl⟩
         rw [← hS4] at HP
         have HS4 := Lib.hid hS4
         clear hS4
         have hc26 := HP.out.c_pend
         obtain ⟨w8, hrun8, hm8, ht8⟩ := HP.out.pend.clear 0
         have h8 := HP.out.set_pend hm8 ht8
         have HP8 := Lib.hid h8.1
         have HW8 := Lib.hid (HW.out.trans h8.2)
         rw [hmp3] at hc26
         clear h8 hm8 ht8 HP HW
         have hfl := HFN.out
         have HC := Lib.hid (clone_any HP8.out.free (by rw [HS4.out, HS3.out]; exact hfl))
         unfold Sta.val at HC
         have a0 : w8.cell? ⟨M3.p, 0, none⟩ = _ := HP8.out.blk.cell 0
         have a1 : w8.cell? ⟨M3.p, 1, none⟩ = _ := HP8.out.blk.cell 1
         have a2 : w8.cell? ⟨M3.p, 2, none⟩ = _ := HP8.out.blk.cell 2
         have a3 : w8.cell? ⟨M3.p, 3, none⟩ = _ := HP8.out.blk.cell 3
         have a4 : w8.cell? ⟨M3.p, 4, none⟩ = _ := HP8.out.blk.cell 4
         have a5 : w8.cell? ⟨M3.p, 5, none⟩ = _ := HP8.out.blk.cell 5
         have a6 : w8.cell? ⟨M3.p, 6, none⟩ = _ := HP8.out.blk.cell 6
         have a7 : w8.cell? ⟨M3.p, 7, none⟩ = _ := HP8.out.blk.cell 7
         have a8 : w8.cell? ⟨M3.p, 8, none⟩ = _ := HP8.out.blk.cell 8
         have a9 : w8.cell? ⟨M3.p, 9, none⟩ = _ := HP8.out.blk.cell 9
         simp only [plCells, List.getElem?_toArray, List.getElem?_cons_succ, List.getElem?_cons_zero] at a0 a1 a2 a3 a4 a5 a6 a7 a8 a9
         rw [hmp3] at a0 a1 a2 a3 a4 a5 a6 a7 a8 a9
         clear hfl
         go_wp2_with fail
         refine HC.out.mono ?_
         rintro e w9 ⟨v9, rfl, hr9, hf9, hb9⟩
         have hp9 := HP8.out.grew hb9
         have b10 : w9.cell? ⟨M3.p, 10, none⟩ = _ := hp9.blk.cell 10
         have f10 := hp9.c_fz 10
         have b11 : w9.cell? ⟨M3.p, 11, none⟩ = _ := hp9.blk.cell 11
         have f11 := hp9.c_fz 11
         have b12 : w9.cell? ⟨M3.p, 12, none⟩ = _ := hp9.blk.cell 12
         have f12 := hp9.c_fz 12
         have b13 : w9.cell? ⟨M3.p, 13, none⟩ = _ := hp9.blk.cell 13
         have f13 := hp9.c_fz 13
         have b14 : w9.cell? ⟨M3.p, 14, none⟩ = _ := hp9.blk.cell 14
         have f14 := hp9.c_fz 14
         have b15 : w9.cell? ⟨M3.p, 15, none⟩ = _ := hp9.blk.cell 15
         have f15 := hp9.c_fz 15
         have b16 : w9.cell? ⟨M3.p, 16, none⟩ = _ := hp9.blk.cell 16
         have f16 := hp9.c_fz 16
         have b17 : w9.cell? ⟨M3.p, 17, none⟩ = _ := hp9.blk.cell 17
         have f17 := hp9.c_fz 17
         have b18 : w9.cell? ⟨M3.p, 18, none⟩ = _ := hp9.blk.cell 18
         have f18 := hp9.c_fz 18
         have b19 : w9.cell? ⟨M3.p, 19, none⟩ = _ := hp9.blk.cell 19
         have f19 := hp9.c_fz 19
         simp only [plCells, List.getElem?_toArray, List.getElem?_cons_succ, List.getElem?_cons_zero] at b10 b11 b12 b13 b14 b15 b16 b17 b18 b19
         have hc28 := hp9.c_moved
         have hf28 := hp9.c_fz 28
         rw [hmp3] at b10 b11 b12 b13 b14 b15 b16 b17 b18 b19 f10 f11 f12 f13 f14 f15 f16 f17 f18 f19 hc28 hf28
         obtain ⟨X9, c9, e9, _⟩ := hr9.form
         subst e9
         have h1 := hp9.set_was hr9 (fun g hg => .inr fun hm => by have := hf9 g hg; have := HP8.out.lt g hm; omega)
         have h2 := h1.1.set_moved false
         have hpw := PWent.of_vw ((Turn.of_below hb9 M3.own).trans h1.2 (fun _ hj _ => hj)) (v := (.slice X9 (S4.now.free.length) c9)) (fun g hg => .inr (hf9 g hg))
         have HK := Lib.hid (And.intro h2.1 (HW8.out.trans (hpw.trans h2.2)))
         clear h1 h2 hpw hr9 hf9 hb9 hp9 HC HP8 HW8
         go_wp2
         go_ret
         have eS : S2.done Z.2.2 = { S4 with was := S4.now, pend := Pgs.none_, moved := false } := by rw [HS4.out, HS3.out]; rfl
         rw [← HXX.out, eS]
         have hk := HK.out
         unfold putWas at hk
         rw [hmp3] at hk
         exact ⟨rfl, _, hk⟩
        ·have hne : (ze == 0) = false := by simpa using hz0
         have hx := HXX.out
         rw [if_pos hz0] at hx
         clear HXX
         have HXX := Lib.hid hx
         have HDI := died_pool HP9.out ze
         rw [hmp3] at HDI
         have HDI := Lib.hid HDI
         clear hx
         go_wp2_with fail
         refine HDI.out.mono ?_
         rintro e w8 ⟨rfl, hp8, hw8⟩
         have HF := Lib.hid (And.intro hp8 (HW9.out.trans hw8))
         clear hp8 hw8
         go_wp2
         go_ret
         rw [← HXX.out, ← HS3.out]
         exact ⟨rfl, _, HF.out⟩
     ·have hne : (Ye == 0) = false := by simpa using hy
      have hx := HXX.out
      rw [if_pos hy] at hx
      have HX2 := Lib.hid hx
      clear hx
      go_wp2
      go_ret
      rw [← HX2.out]
      exact ⟨rfl, M2, HP3.out, HW3.out⟩
    ·have hx := HXX.out
     rw [if_neg h2] at hx
     have HX2 := Lib.hid hx
     have HLG2 := HLG
     have HFN : Hid (S1.now.free.length ≤ 1048576) := Lib.hid HOK1.out.free_le
     have HS2 : Hid ((S1.pend.keys D.sectors).length ≤ 262144 ∧ D.loose.length ≤ 900000000) := Lib.hid ⟨by rw [← HN.out]; exact hnb, by have := HLO.out; omega⟩
     have HP := HP2
     have HW := HW2
     obtain ⟨wq, hwq⟩ : ∃ wq, wq = w2 := ⟨_, rfl⟩
     subst hwq
     clear HP2 HW2 HXX hx HOK1 HLG
     obtain ⟨G, hG, hlg, hlo⟩ := HP.out.has_log HLG2.out
     have HLK := Lib.hid hlo
     have HGG := Lib.hid hG
     clear hG hlg hlo
     have hcn := HP.out.c_pend
     have HK := Lib.hid (Keys_any (some M.mn) wq)
     have HSO := Lib.hid (Sorted_any (HP.out.pend.grew ((Below.refl _ wq).alloc (Nat.le_refl _) (.cells #[.map (some M.mn)] 73))) (B := wq.heap.size) (by simp) ((Blk.new wq _ _).cell 0))
     have HB1 : Hid (Below wq.heap.size wq (wq.alloc (.cells #[.map (some M.mn)] 73))) := Lib.hid ((Below.refl _ wq).alloc (Nat.le_refl _) _)
     have HKN : Hid (∀ k ∈ S1.pend.keys D.sectors, ∃ l, S1.pend k = some l) := Lib.hid (fun k hk => (mem_keys.1 hk).2)
     obtain ⟨ks, hks⟩ : ∃ ks, ks = S1.pend.keys D.sectors := ⟨_, rfl⟩
     have HKE := Lib.hid hks
     rw [← hks] at HSO HKN HS2
     clear hks
     go_wp2_with fail
     refine HK.out.mono ?_
     rintro e w5 ⟨rfl, rfl⟩
     go_wp2_with fail
     refine HSO.out.mono ?_
     rintro e w6 ⟨v, rfl, hrow, hnil, hb6⟩
     have hri : RowI w6 v ks := Own.base_ (Nat.zero_le _) hrow
     have hbw : Below wq.heap.size wq w6 := HB1.out.trans (hb6.mono HB1.out.size)
     have hside : Side w6 M v ks := ⟨hri, fun g hg hm => by
      have h1 := (World.ownsRow.lt hrow g hg).1
      have h2 := HP.out.lt g hm
      have h3 := HB1.out.size
      omega⟩
     obtain ⟨A, c, rfl, hc, _⟩ := hri.form
     have H0 : Hid (CmSt w w6 M M S1 D (.slice A ks.length c) ks nilv 0) := Lib.hid ⟨HP.out.grew hbw, HW.out.tail hbw, hside, Chg.nil _, fun g hg => by simp [nilv, Value.ownBlock] at hg⟩
     clear hrow hri hbw hside hnil hb6 HSO HK HB1 HP HW hc hcn
     obtain ⟨m, hm⟩ : ∃ m, m = ks.length := ⟨_, rfl⟩
     rw [← hm] at H0 HS2
     rw [← hm]
     have HM := Lib.hid hm
     clear hm
     go_wp2_with fail
     go_loopw [6, 64] (fun gv iv wr => ∃ (k : Nat), k ≤ m ∧ iv = .int .i64 k ∧ Hid (CmSt w wr M M S1 D (.slice A m c) ks gv k)) (fun _ iv _ => m - (intOf iv).toNat)
     case atStart => exact ⟨0, by omega, rfl, H0⟩
     case round =>
      clear H0
      rename_i gv iv wr
      obtain ⟨k, hk, rfl, HS⟩ := hrel
      by_cases hlt : k < m
      ·have hkl2 : k < ks.length := by rw [← HM.out]; exact hlt
       have hlt' : (k : Int) < m := by omega
       have hmb : m ≤ 262144 := HS2.out.1
       obtain ⟨g, rfl, hg, hcg⟩ := HS.out.side.1.at_.2.2 k hkl2
       obtain ⟨l, hl1⟩ := HKN.out ks[k] (List.getElem_mem hkl2)
       obtain ⟨u, hrun, hby⟩ := HS.out.pool.pend.look1 hl1
       obtain ⟨v', w', happ, hnew⟩ := HS.out.push hkl2 (by omega) hl1 hby
       obtain ⟨pg, hpg⟩ : ∃ pg, pg = ks[k] := ⟨_, rfl⟩
       rw [← hpg] at hl1 hcg hrun happ
       clear hpg
       have hcp := HS.out.pool.c_pend
       obtain ⟨p9, cu, rfl, hcu, hrd⟩ := hby.rd
       have RUN := Lib.hid happ
       have HNEW := Lib.hid hnew
       clear happ hnew hby hrd hcu hl1 hg HS
       go_wp2_with (at_builtin; refine Lib.wpList_append_run _ rfl (.tmp 68) (.tmp 77) 92 92 rfl _ _ rfl rfl v' w' RUN.out ?_)
       go_roundw
       case rel => exact ⟨k + 1, by omega, by go_num, HNEW⟩
       case measure => simp [intOf]; omega
      ·have hkn : k = m := by omega
       subst hkn
       have HP := Lib.hid HS.out.pool
       have HW := Lib.hid HS.out.went
       have hrow := HS.out.row
       rw [List.take_of_length_le (by rw [← HM.out]; exact Nat.le_refl _)] at hrow
       have hgl : (grpOf S1.pend ks).length = k := by unfold grpOf; rw [List.length_map]; exact HM.out.symm
       have hgE : grpOf S1.pend ks = grpOf S1.pend (S1.pend.keys D.sectors) := by rw [HKE.out]
       obtain ⟨A2, c2, e2, _⟩ := hrow.form
       rw [hgl] at e2
       subst e2
       have hx := HX2.out
       unfold appended at hx
       rw [HLG2.out] at hx
       dsimp only at hx
       rw [← hgE] at hx
       obtain ⟨grp_, hgrp⟩ : ∃ g, g = grpOf S1.pend ks := ⟨_, rfl⟩
       rw [← hgrp] at hrow hgl hx
       obtain ⟨Z, hZ⟩ : ∃ Z, Z = app D L grp_ := ⟨_, rfl⟩
       rw [← hZ] at hx
       obtain ⟨G', hG', hlg, hlo⟩ := HP.out.has_log HLG2.out
       obtain rfl : G' = G := by rw [HGG.out] at hG'; injection hG' with e; exact e.symm
       have HAP := Lib.hid (Append_any HP.out.disk hlg hlo grp_ k c2 hgl A2 hrow (by have := HS2.out.1; omega) (by exact HS2.out.2) Z hZ)
       have hcl := HP.out.c_log
       rw [hG'] at hcl
       unfold logV at hcl
       have hfa := app_facts grp_ D L hlo
       rw [← hZ] at hfa
       have HFA := Lib.hid hfa
       have HXX := Lib.hid hx
       clear hrow hgl hgE hx hgrp hZ hG' hlg hlo hfa HX2 HS
       go_wp2_with fail
       refine HAP.out.mono ?_
       rintro e w7 ⟨rfl, vl7, hd7, hl7, hw7⟩
       have h7 := HP.out.logged HGG.out hd7 hl7 HFA.out.2.2.1 HFA.out.1 hw7
       obtain ⟨M3, hM3⟩ : ∃ M3 : Mem, M3 = { M with vl := vl7 } := ⟨_, rfl⟩
       rw [← hM3] at h7
       obtain ⟨S3, hS3⟩ : ∃ S3 : Pl, S3 = { S1 with log := some Z.2.2 } := ⟨_, rfl⟩
       rw [← hS3] at h7
       obtain ⟨D3, hD3⟩ : ∃ D3, D3 = Z.2.1 := ⟨_, rfl⟩
       rw [← hD3] at h7 HXX
       obtain ⟨ze, hze⟩ : ∃ ze, ze = Z.1 := ⟨_, rfl⟩
       rw [← hze] at HXX
       rw [← hze]
       have hmp3 : M3.p = M.p := by rw [hM3]
       have HP9 := Lib.hid h7.1
       have HW9 := Lib.hid (HW.out.trans h7.2)
       have HS3 := Lib.hid hS3
       clear h7 hd7 hl7 hw7 HP HW HAP HFA hM3 hD3 hze hcl hS3
       by_cases hz0 : ze = 0
       ·subst hz0
        have hx := HXX.out
        rw [if_neg (by simp)] at hx
        clear HXX
        have HXX := Lib.hid hx
        have HP := HP9
        have HW := HW9
        clear hx HP9 HW9
        go_wp2_with fail
        refine wp_region_H (fun v => v.cell? ⟨M.p, 25, none⟩ = some (.map (some M3.ml)) ∧ v.cell? ⟨M.p, 26, none⟩ = some (.map (some M3.mn))) (by kernel_rfl) (fun v0 hv0 => ?_)
        have hS0 : (fun v => v.cell? ⟨M.p, 25, none⟩ = some (.map (some M3.ml)) ∧ v.cell? ⟨M.p, 26, none⟩ = some (.map (some M3.mn))) v0 := by subst hv0; exact ⟨by rw [← hmp3]; exact (HP.out.drew).c_last, by rw [← hmp3]; exact (HP.out.drew).c_pend⟩
        have HV0 : Hid (PoolAt v0 M3 S3 D3) := Lib.hid (by subst hv0; exact HP.out.drew)
        have HW0 : Hid (PWent w v0 M M3) := Lib.hid (by subst hv0; exact HW.out.tail (Below.refl _ _).drew)
        clear hv0 HP HW
        refine wpH_t 0 ?_ rfl rfl (by kernel_rfl) (fun _ _ _ h => h) rfl ?_ hS0 ?_
        rotate_left
        ·(intro w_ hw_; go_simp; try with_reducible rfl)
        simp only [sL]
        refine wpH_t 1 ?_ rfl rfl (by kernel_rfl) (fun _ _ _ h => h) rfl ?_ hS0 ?_
        rotate_left
        ·(intro w_ hw_; obtain ⟨q1, q2⟩ := hw_; go_simp; try with_reducible rfl)
        simp only [sL]
        refine wpH_t 2 ?_ rfl rfl (by kernel_rfl) (fun _ _ _ h => h) rfl ?_ hS0 ?_
        rotate_left
        ·(intro w_ hw_; go_simp; try with_reducible rfl)
        simp only [sL]
        refine wpH_t 3 ?_ rfl rfl (by kernel_rfl) (fun _ _ _ h => h) rfl ?_ hS0 ?_
        rotate_left
        ·(intro w_ hw_; obtain ⟨q1, q2⟩ := hw_; go_simp; try with_reducible rfl)
        simp only [sL]
        refine wpH_t 4 ?_ rfl rfl (by kernel_rfl) (fun _ _ _ h => h) rfl ?_ hS0 ?_
        rotate_left
        ·(intro w_ hw_; go_simp; try with_reducible rfl)
        simp only [sL]
        refine wpH_t 5 ?_ rfl rfl (by kernel_rfl) (fun _ _ _ h => h) rfl ?_ hS0 ?_
        rotate_left
        ·(intro w_ hw_; obtain ⟨q1, q2⟩ := hw_; go_simp; try with_reducible rfl)
        simp only [sL]
        refine wpH_t 6 ?_ rfl rfl (by kernel_rfl) (fun _ _ _ h => h) rfl ?_ hS0 ?_
        rotate_left
        ·(intro w_ hw_; go_simp; try with_reducible rfl)
        simp only [sL]
        refine wpH_t 7 ?_ rfl rfl (by kernel_rfl) (fun _ _ _ h => h) rfl ?_ hS0 ?_
        rotate_left
        ·(intro w_ hw_; obtain ⟨q1, q2⟩ := hw_; go_simp; try with_reducible rfl)
        simp only [sL]
        refine wpH_call (i := 8) (by kernel_rfl) rfl rfl (by rfl) (Copy_any HV0.out.last HV0.out.pend HV0.out.ml_ne) (by go_simp) (fun v1 hR => ?_)
        have hS1 : (fun v => v.cell? ⟨M.p, 25, none⟩ = some (.map (some M3.ml)) ∧ v.cell? ⟨M.p, 26, none⟩ = some (.map (some M3.mn))) v1 := ⟨by rw [← hmp3]; exact (HV0.out.set_last hR.1 hR.2).1.c_last, by rw [← hmp3]; exact (HV0.out.set_last hR.1 hR.2).1.c_pend⟩
        clear hS0
        refine ⟨hS1, ?_⟩
        simp only [sL]
        have h1 := HV0.out.set_last hR.1 hR.2
        have HP := Lib.hid h1.1
        have HW := Lib.hid (HW0.out.trans h1.2)
        clear h1 hR HV0 HW0
        clear hS1
        refine wpAnyH_done (by kernel_rfl) ?_ _
        obtain ⟨S4, hS4⟩ : ∃ S4 : Pl, S4 = { S3 with last := S3.pend.over S3.last } := ⟨_, rfl⟩
        rw [← hS4] at HP
        have HS4 := Lib.hid hS4
        clear hS4
        have hc26 := HP.out.c_pend
        obtain ⟨w8, hrun8, hm8, ht8⟩ := HP.out.pend.clear 0
        have h8 := HP.out.set_pend hm8 ht8
        have HP8 := Lib.hid h8.1
        have HW8 := Lib.hid (HW.out.trans h8.2)
        rw [hmp3] at hc26
        clear h8 hm8 ht8 HP HW
        have hfl := HFN.out
        have HC := Lib.hid (clone_any HP8.out.free (by rw [HS4.out, HS3.out]; exact hfl))
        unfold Sta.val at HC
        have a0 : w8.cell? ⟨M3.p, 0, none⟩ = _ := HP8.out.blk.cell 0
        have a1 : w8.cell? ⟨M3.p, 1, none⟩ = _ := HP8.out.blk.cell 1
        have a2 : w8.cell? ⟨M3.p, 2, none⟩ = _ := HP8.out.blk.cell 2
        have a3 : w8.cell? ⟨M3.p, 3, none⟩ = _ := HP8.out.blk.cell 3
        have a4 : w8.cell? ⟨M3.p, 4, none⟩ = _ := HP8.out.blk.cell 4
        have a5 : w8.cell? ⟨M3.p, 5, none⟩ = _ := HP8.out.blk.cell 5
        have a6 : w8.cell? ⟨M3.p, 6, none⟩ = _ := HP8.out.blk.cell 6
        have a7 : w8.cell? ⟨M3.p, 7, none⟩ = _ := HP8.out.blk.cell 7
        have a8 : w8.cell? ⟨M3.p, 8, none⟩ = _ := HP8.out.blk.cell 8
        have a9 : w8.cell? ⟨M3.p, 9, none⟩ = _ := HP8.out.blk.cell 9
        simp only [plCells, List.getElem?_toArray, List.getElem?_cons_succ, List.getElem?_cons_zero] at a0 a1 a2 a3 a4 a5 a6 a7 a8 a9
        rw [hmp3] at a0 a1 a2 a3 a4 a5 a6 a7 a8 a9
        clear hfl
        go_wp2_with fail
        refine HC.out.mono ?_
        rintro e w9 ⟨v9, rfl, hr9, hf9, hb9⟩
        have hp9 := HP8.out.grew hb9
        have b10 : w9.cell? ⟨M3.p, 10, none⟩ = _ := hp9.blk.cell 10
        have f10 := hp9.c_fz 10
        have b11 : w9.cell? ⟨M3.p, 11, none⟩ = _ := hp9.blk.cell 11
        have f11 := hp9.c_fz 11
        have b12 : w9.cell? ⟨M3.p, 12, none⟩ = _ := hp9.blk.cell 12
        have f12 := hp9.c_fz 12
        have b13 : w9.cell? ⟨M3.p, 13, none⟩ = _ := hp9.blk.cell 13
        have f13 := hp9.c_fz 13
        have b14 : w9.cell? ⟨M3.p, 14, none⟩ = _ := hp9.blk.cell 14
        have f14 := hp9.c_fz 14
        have b15 : w9.cell? ⟨M3.p, 15, none⟩ = _ := hp9.blk.cell 15
        have f15 := hp9.c_fz 15
        have b16 : w9.cell? ⟨M3.p, 16, none⟩ = _ := hp9.blk.cell 16
        have f16 := hp9.c_fz 16
        have b17 : w9.cell? ⟨M3.p, 17, none⟩ = _ := hp9.blk.cell 17
        have f17 := hp9.c_fz 17
        have b18 : w9.cell? ⟨M3.p, 18, none⟩ = _ := hp9.blk.cell 18
        have f18 := hp9.c_fz 18
        have b19 : w9.cell? ⟨M3.p, 19, none⟩ = _ := hp9.blk.cell 19
        have f19 := hp9.c_fz 19
        simp only [plCells, List.getElem?_toArray, List.getElem?_cons_succ, List.getElem?_cons_zero] at b10 b11 b12 b13 b14 b15 b16 b17 b18 b19
        have hc28 := hp9.c_moved
        have hf28 := hp9.c_fz 28
        rw [hmp3] at b10 b11 b12 b13 b14 b15 b16 b17 b18 b19 f10 f11 f12 f13 f14 f15 f16 f17 f18 f19 hc28 hf28
        obtain ⟨X9, c9, e9, _⟩ := hr9.form
        subst e9
        have h1 := hp9.set_was hr9 (fun g hg => .inr fun hm => by have := hf9 g hg; have := HP8.out.lt g hm; omega)
        have h2 := h1.1.set_moved false
        have hpw := PWent.of_vw ((Turn.of_below hb9 M3.own).trans h1.2 (fun _ hj _ => hj)) (v := (.slice X9 (S4.now.free.length) c9)) (fun g hg => .inr (hf9 g hg))
        have HK := Lib.hid (And.intro h2.1 (HW8.out.trans (hpw.trans h2.2)))
        clear h1 h2 hpw hr9 hf9 hb9 hp9 HC HP8 HW8
        go_wp2
        go_ret
        have eS : S1.done Z.2.2 = { S4 with was := S4.now, pend := Pgs.none_, moved := false } := by rw [HS4.out, HS3.out]; rfl
        rw [← HXX.out, eS]
        have hk := HK.out
        unfold putWas at hk
        rw [hmp3] at hk
        exact ⟨rfl, _, hk⟩
       ·have hne : (ze == 0) = false := by simpa using hz0
        have hx := HXX.out
        rw [if_pos hz0] at hx
        clear HXX
        have HXX := Lib.hid hx
        have HDI := died_pool HP9.out ze
        rw [hmp3] at HDI
        have HDI := Lib.hid HDI
        clear hx
        go_wp2_with fail
        refine HDI.out.mono ?_
        rintro e w8 ⟨rfl, hp8, hw8⟩
        have HF := Lib.hid (And.intro hp8 (HW9.out.trans hw8))
        clear hp8 hw8
        go_wp2
        go_ret
        rw [← HXX.out, ← HS3.out]
        exact ⟨rfl, _, HF.out⟩
 | false =>
  rw [hm] at hcm
  have hS1 := HS1.out
  rw [if_neg (by rw [hm]; simp)] at hS1
  have HP1 : Hid (PoolAt w M S1 D) := Lib.hid (by rw [hS1]; exact H.out)
  have HW1 : Hid (PWent w w M M) := Lib.hid PWent.refl
  clear hm hS1 HS1 HR H
  have hcn := HP1.out.c_pend
  have hlen := HP1.out.pend.len 3
  have hcs := HP1.out.c_slots
  have hx := HX1.out
  unfold committed at hx
  have hsl : S1.slots ≤ 262144 := by
   have h1 := HOK1.out.slots
   have h2 := HOK1.out.s2
   omega
  obtain ⟨n, hn⟩ : ∃ n, n = (S1.pend.keys D.sectors).length := ⟨_, rfl⟩
  rw [← hn] at hlen hx
  have HN := Lib.hid hn
  clear hn
  by_cases h0 : n = 0
  ·subst h0
   rw [if_pos rfl] at hx
   have HXX := Lib.hid hx
   rw [show ((0 : Nat) : Int) = 0 from rfl] at hlen
   clear hx HX1 hsl
   go_wp2
   go_ret
   rw [← HXX.out]
   exact ⟨rfl, _, HP1.out, HW1.out⟩
  ·have hne : ((n : Int) == 0) = false := by simp; omega
   rw [if_neg h0] at hx
   by_cases h1 : S1.slots < n
   ·rw [if_pos h1] at hx
    have h1' : (S1.slots : Int) < n := by omega
    have HXX := Lib.hid hx
    have HBK := Lib.hid (back_any HP1.out (by have := HOK1.out.was.len; have := HOK1.out.was.n2; have := HOK1.out.s2; unfold Pl.pages at *; omega))
    clear hx HX1 hsl h1
    go_wp2_with fail
    refine HBK.out.mono ?_
    rintro r w2 ⟨rfl, M2, hp2, hw2⟩
    have HF := Lib.hid (And.intro hp2 (HW1.out.trans hw2))
    clear hp2 hw2
    go_wp2
    go_ret
    rw [← HXX.out]
    exact ⟨rfl, M2, HF.out⟩
   ·rw [if_neg h1] at hx
    have h1' : ¬ (S1.slots : Int) < n := by omega
    obtain ⟨G, hG, hlg, hlo⟩ := HP1.out.has_log HLG.out
    have hcl := HP1.out.c_log
    rw [hG] at hcl
    unfold logV at hcl
    have HLF := Lib.hid (Left_any hlg hlo)
    have hrm : S1.room = (L.count : Int) - L.next := by unfold Pl.room; rw [HLG.out]
    rw [hrm] at hx
    have HXX := Lib.hid hx
    have hnb : n ≤ 262144 := by omega
    obtain ⟨left, hleft⟩ : ∃ left, left = (L.count : Int) - L.next := ⟨_, rfl⟩
    rw [← hleft] at HLF HXX
    clear hx HX1 hlg hlo hG hrm hleft h1
    go_wp2_with fail
    refine HLF.out.mono ?_
    rintro r w2 ⟨rfl, hb2⟩
    have HP2 := Lib.hid (HP1.out.grew hb2)
    have HW2 := Lib.hid (HW1.out.tail hb2)
    clear hb2 HLF hcl hlen hcn hcs HP1 HW1
    by_cases h2 : left < n
    ·have hx := HXX.out
     rw [if_pos h2] at hx
     obtain ⟨Y, hY⟩ : ∃ Y, Y = point S1 D := ⟨_, rfl⟩
     have hpf := point_facts S1 D
     rw [← hY] at hx hpf
     have HPT := Lib.hid (point_any HP2.out HOK1.out (by have := HLO.out; omega) HEP.out Y hY)
     have HPF := Lib.hid hpf
     clear HXX
     have HXX := Lib.hid hx
     clear hx hY hpf
     go_wp2_with fail
     refine HPT.out.mono ?_
     rintro r wq ⟨rfl, M2, hp3, hw3⟩
     have HP3 := Lib.hid hp3
     have HW3 := Lib.hid (HW2.out.trans hw3)
     have hmp : M2.p = M.p := hw3.p_eq
     obtain ⟨Ye, S2, D2⟩ := Y
     dsimp only at HPF HXX HP3 ⊢
     clear hp3 hw3 HPT HP2 HW2
     by_cases hy : Ye = 0
     ·subst hy
      have hx := HXX.out
      rw [if_neg (by simp)] at hx
      obtain ⟨q1, q2, q3, q4⟩ := HPF.out
      have q4 := q4 rfl
      have HX2 := Lib.hid hx
      have HP := HP3
      have HW := HW3
      obtain ⟨L2, hL2⟩ : ∃ L2 : Lg, L2 = ⟨2, S1.slots, S1.epoch + 1, 0, false⟩ := ⟨_, rfl⟩
      have HLG2 : Hid (S2.log = some L2) := Lib.hid (by rw [q4, hL2]; rfl)
      have HS2 : Hid ((S2.pend.keys D2.sectors).length ≤ 262144 ∧ D2.loose.length ≤ 900000000) := Lib.hid ⟨by
        have e : S2.pend = S1.pend := by rw [q4]; rfl
        rw [e, q1, ← HN.out]; exact hnb, by
        have h1 := HLO.out
        have h2 := HOK1.out.s2
        omega⟩
      have HFN : Hid (S2.now.free.length ≤ 1048576) := Lib.hid (by
        have e : S2.now = S1.now := by rw [q4]; rfl
        rw [e]; exact HOK1.out.free_le)
      clear HP3 HW3 HXX HPF q1 q2 q3 q4 hx hL2 HOK1 HLG
      obtain ⟨G, hG, hlg, hlo⟩ := HP.out.has_log HLG2.out
      have HLK := Lib.hid hlo
      have HGG := Lib.hid hG
      clear hG hlg hlo
      have hcn := HP.out.c_pend
      rw [hmp] at hcn
      have HK := Lib.hid (Keys_any (some M2.mn) wq)
      have HSO := Lib.hid (Sorted_any (HP.out.pend.grew ((Below.refl _ wq).alloc (Nat.le_refl _) (.cells #[.map (some M2.mn)] 73))) (B := wq.heap.size) (by simp) ((Blk.new wq _ _).cell 0))
      have HB1 : Hid (Below wq.heap.size wq (wq.alloc (.cells #[.map (some M2.mn)] 73))) := Lib.hid ((Below.refl _ wq).alloc (Nat.le_refl _) _)
      have HKN : Hid (∀ k ∈ S2.pend.keys D2.sectors, ∃ l, S2.pend k = some l) := Lib.hid (fun k hk => (mem_keys.1 hk).2)
      obtain ⟨ks, hks⟩ : ∃ ks, ks = S2.pend.keys D2.sectors := ⟨_, rfl⟩
      have HKE := Lib.hid hks
      rw [← hks] at HSO HKN HS2
      clear hks
      go_wp2_with fail
      refine HK.out.mono ?_
      rintro e w5 ⟨rfl, rfl⟩
      go_wp2_with fail
      refine HSO.out.mono ?_
      rintro e w6 ⟨v, rfl, hrow, hnil, hb6⟩
      have hri : RowI w6 v ks := Own.base_ (Nat.zero_le _) hrow
      have hbw : Below wq.heap.size wq w6 := HB1.out.trans (hb6.mono HB1.out.size)
      have hside : Side w6 M2 v ks := ⟨hri, fun g hg hm => by
       have h1 := (World.ownsRow.lt hrow g hg).1
       have h2 := HP.out.lt g hm
       have h3 := HB1.out.size
       omega⟩
      obtain ⟨A, c, rfl, hc, _⟩ := hri.form
      have H0 : Hid (CmSt w w6 M M2 S2 D2 (.slice A ks.length c) ks nilv 0) := Lib.hid ⟨HP.out.grew hbw, HW.out.tail hbw, hside, Chg.nil _, fun g hg => by simp [nilv, Value.ownBlock] at hg⟩
      clear hrow hri hbw hside hnil hb6 HSO HK HB1 HP HW hc hcn
      obtain ⟨m, hm⟩ : ∃ m, m = ks.length := ⟨_, rfl⟩
      rw [← hm] at H0 HS2
      rw [← hm]
      have HM := Lib.hid hm
      clear hm
      go_wp2_with fail
      go_loopw [6, 64] (fun gv iv wr => ∃ (k : Nat), k ≤ m ∧ iv = .int .i64 k ∧ Hid (CmSt w wr M M2 S2 D2 (.slice A m c) ks gv k)) (fun _ iv _ => m - (intOf iv).toNat)
      case atStart => exact ⟨0, by omega, rfl, H0⟩
      case round =>
       clear H0
       rename_i gv iv wr
       obtain ⟨k, hk, rfl, HS⟩ := hrel
       by_cases hlt : k < m
       ·have hkl2 : k < ks.length := by rw [← HM.out]; exact hlt
        have hlt' : (k : Int) < m := by omega
        have hmb : m ≤ 262144 := HS2.out.1
        obtain ⟨g, rfl, hg, hcg⟩ := HS.out.side.1.at_.2.2 k hkl2
        obtain ⟨l, hl1⟩ := HKN.out ks[k] (List.getElem_mem hkl2)
        obtain ⟨u, hrun, hby⟩ := HS.out.pool.pend.look1 hl1
        obtain ⟨v', w', happ, hnew⟩ := HS.out.push hkl2 (by omega) hl1 hby
        obtain ⟨pg, hpg⟩ : ∃ pg, pg = ks[k] := ⟨_, rfl⟩
        rw [← hpg] at hl1 hcg hrun happ
        clear hpg
        have hcp := HS.out.pool.c_pend
        rw [hmp] at hcp
        obtain ⟨p9, cu, rfl, hcu, hrd⟩ := hby.rd
        have RUN := Lib.hid happ
        have HNEW := Lib.hid hnew
        clear happ hnew hby hrd hcu hl1 hg HS
        go_wp2_with (at_builtin; refine Lib.wpList_append_run _ rfl (.tmp 68) (.tmp 77) 92 92 rfl _ _ rfl rfl v' w' RUN.out ?_)
        go_roundw
        case rel => exact ⟨k + 1, by omega, by go_num, HNEW⟩
        case measure => simp [intOf]; omega
       ·have hkn : k = m := by omega
        subst hkn
        have HP := Lib.hid HS.out.pool
        have HW := Lib.hid HS.out.went
        have hrow := HS.out.row
        rw [List.take_of_length_le (by rw [← HM.out]; exact Nat.le_refl _)] at hrow
        have hgl : (grpOf S2.pend ks).length = k := by unfold grpOf; rw [List.length_map]; exact HM.out.symm
        have hgE : grpOf S2.pend ks = grpOf S2.pend (S2.pend.keys D2.sectors) := by rw [HKE.out]
        obtain ⟨A2, c2, e2, _⟩ := hrow.form
        rw [hgl] at e2
        subst e2
        have hx := HX2.out
        unfold appended at hx
        rw [HLG2.out] at hx
        dsimp only at hx
        rw [← hgE] at hx
        obtain ⟨grp_, hgrp⟩ : ∃ g, g = grpOf S2.pend ks := ⟨_, rfl⟩
        rw [← hgrp] at hrow hgl hx
        obtain ⟨Z, hZ⟩ : ∃ Z, Z = app D2 L2 grp_ := ⟨_, rfl⟩
        rw [← hZ] at hx
        obtain ⟨G', hG', hlg, hlo⟩ := HP.out.has_log HLG2.out
        obtain rfl : G' = G := by rw [HGG.out] at hG'; injection hG' with e; exact e.symm
        have HAP := Lib.hid (Append_any HP.out.disk hlg hlo grp_ k c2 hgl A2 hrow (by have := HS2.out.1; omega) (by exact HS2.out.2) Z hZ)
        have hcl := HP.out.c_log
        rw [hG', hmp] at hcl
        unfold logV at hcl
        have hfa := app_facts grp_ D2 L2 hlo
        rw [← hZ] at hfa
        have HFA := Lib.hid hfa
        have HXX := Lib.hid hx
        clear hrow hgl hgE hx hgrp hZ hG' hlg hlo hfa HX2 HS
        go_wp2_with fail
        refine HAP.out.mono ?_
        rintro e w7 ⟨rfl, vl7, hd7, hl7, hw7⟩
        have h7 := HP.out.logged HGG.out hd7 hl7 HFA.out.2.2.1 HFA.out.1 hw7
        obtain ⟨M3, hM3⟩ : ∃ M3 : Mem, M3 = { M2 with vl := vl7 } := ⟨_, rfl⟩
        rw [← hM3] at h7
        obtain ⟨S3, hS3⟩ : ∃ S3 : Pl, S3 = { S2 with log := some Z.2.2 } := ⟨_, rfl⟩
        rw [← hS3] at h7
        obtain ⟨D3, hD3⟩ : ∃ D3, D3 = Z.2.1 := ⟨_, rfl⟩
        rw [← hD3] at h7 HXX
        obtain ⟨ze, hze⟩ : ∃ ze, ze = Z.1 := ⟨_, rfl⟩
        rw [← hze] at HXX
        rw [← hze]
        have hmp3 : M3.p = M.p := (congrArg Mem.p hM3).trans hmp
        have HP9 := Lib.hid h7.1
        have HW9 := Lib.hid (HW.out.trans h7.2)
        have HS3 := Lib.hid hS3
        clear h7 hd7 hl7 hw7 HP HW HAP HFA hM3 hD3 hze hcl hS3
        by_cases hz0 : ze = 0
        ·subst hz0
         have hx := HXX.out
         rw [if_neg (by simp)] at hx
         clear HXX
         have HXX := Lib.hid hx
         have HP := HP9
         have HW := HW9
         clear hx HP9 HW9
         go_wp2_with fail
         refine wp_region_H (fun v => v.cell? ⟨M.p, 25, none⟩ = some (.map (some M3.ml)) ∧ v.cell? ⟨M.p, 26, none⟩ = some (.map (some M3.mn))) (by kernel_rfl) (fun v0 hv0 => ?_)
         have hS0 : (fun v => v.cell? ⟨M.p, 25, none⟩ = some (.map (some M3.ml)) ∧ v.cell? ⟨M.p, 26, none⟩ = some (.map (some M3.mn))) v0 := by subst hv0; exact ⟨by rw [← hmp3]; exact (HP.out.drew).c_last, by rw [← hmp3]; exact (HP.out.drew).c_pend⟩
         have HV0 : Hid (PoolAt v0 M3 S3 D3) := Lib.hid (by subst hv0; exact HP.out.drew)
         have HW0 : Hid (PWent w v0 M M3) := Lib.hid (by subst hv0; exact HW.out.tail (Below.refl _ _).drew)
         clear hv0 HP HW
         refine wpH_t 0 ?_ rfl rfl (by kernel_rfl) (fun _ _ _ h => h) rfl ?_ hS0 ?_
         rotate_left
         ·(intro w_ hw_; go_simp; try with_reducible rfl)
         simp only [sL]
         refine wpH_t 1 ?_ rfl rfl (by kernel_rfl) (fun _ _ _ h => h) rfl ?_ hS0 ?_
         rotate_left
         ·(intro w_ hw_; obtain ⟨q1, q2⟩ := hw_; go_simp; try with_reducible rfl)
         simp only [sL]
         refine wpH_t 2 ?_ rfl rfl (by kernel_rfl) (fun _ _ _ h => h) rfl ?_ hS0 ?_
         rotate_left
         ·(intro w_ hw_; go_simp; try with_reducible rfl)
         simp only [sL]
         refine wpH_t 3 ?_ rfl rfl (by kernel_rfl) (fun _ _ _ h => h) rfl ?_ hS0 ?_
         rotate_left
         ·(intro w_ hw_; obtain ⟨q1, q2⟩ := hw_; go_simp; try with_reducible rfl)
         simp only [sL]
         refine wpH_t 4 ?_ rfl rfl (by kernel_rfl) (fun _ _ _ h => h) rfl ?_ hS0 ?_
         rotate_left
         ·(intro w_ hw_; go_simp; try with_reducible rfl)
         simp only [sL]
         refine wpH_t 5 ?_ rfl rfl (by kernel_rfl) (fun _ _ _ h => h) rfl ?_ hS0 ?_
         rotate_left
         ·(intro w_ hw_; obtain ⟨q1, q2⟩ := hw_; go_simp; try with_reducible rfl)
         simp only [sL]
         refine wpH_t 6 ?_ rfl rfl (by kernel_rfl) (fun _ _ _ h => h) rfl ?_ hS0 ?_
         rotate_left
         ·(intro w_ hw_; go_simp; try with_reducible rfl)
         simp only [sL]
         refine wpH_t 7 ?_ rfl rfl (by kernel_rfl) (fun _ _ _ h => h) rfl ?_ hS0 ?_
         rotate_left
         ·(intro w_ hw_; obtain ⟨q1, q2⟩ := hw_; go_simp; try with_reducible rfl)
         simp only [sL]
         refine wpH_call (i := 8) (by kernel_rfl) rfl rfl (by rfl) (Copy_any HV0.out.last HV0.out.pend HV0.out.ml_ne) (by go_simp) (fun v1 hR => ?_)
         have hS1 : (fun v => v.cell? ⟨M.p, 25, none⟩ = some (.map (some M3.ml)) ∧ v.cell? ⟨M.p, 26, none⟩ = some (.map (some M3.mn))) v1 := ⟨by rw [← hmp3]; exact (HV0.out.set_last hR.1 hR.2).1.c_last, by rw [← hmp3]; exact (HV0.out.set_last hR.1 hR.2).1.c_pend⟩
         clear hS0
         refine ⟨hS1, ?_⟩
         simp only [sL]
         have h1 := HV0.out.set_last hR.1 hR.2
         have HP := Lib.hid h1.1
         have HW := Lib.hid (HW0.out.trans h1.2)
         clear h1 hR HV0 HW0
         clear hS1
         refine wpAnyH_done (by kernel_rfl) ?_ _
         obtain ⟨S4, hS4⟩ : ∃ S4 : Pl, S4 = { S3 with last := S3.pend.over S3.last } := ⟨_, rfl⟩
         rw [← hS4] at HP
         have HS4 := Lib.hid hS4
         clear hS4
         have hc26 := HP.out.c_pend
         obtain ⟨w8, hrun8, hm8, ht8⟩ := HP.out.pend.clear 0
         have h8 := HP.out.set_pend hm8 ht8
         have HP8 := Lib.hid h8.1
         have HW8 := Lib.hid (HW.out.trans h8.2)
         rw [hmp3] at hc26
         clear h8 hm8 ht8 HP HW
         have hfl := HFN.out
         have HC := Lib.hid (clone_any HP8.out.free (by rw [HS4.out, HS3.out]; exact hfl))
         unfold Sta.val at HC
         have a0 : w8.cell? ⟨M3.p, 0, none⟩ = _ := HP8.out.blk.cell 0
         have a1 : w8.cell? ⟨M3.p, 1, none⟩ = _ := HP8.out.blk.cell 1
         have a2 : w8.cell? ⟨M3.p, 2, none⟩ = _ := HP8.out.blk.cell 2
         have a3 : w8.cell? ⟨M3.p, 3, none⟩ = _ := HP8.out.blk.cell 3
         have a4 : w8.cell? ⟨M3.p, 4, none⟩ = _ := HP8.out.blk.cell 4
         have a5 : w8.cell? ⟨M3.p, 5, none⟩ = _ := HP8.out.blk.cell 5
         have a6 : w8.cell? ⟨M3.p, 6, none⟩ = _ := HP8.out.blk.cell 6
         have a7 : w8.cell? ⟨M3.p, 7, none⟩ = _ := HP8.out.blk.cell 7
         have a8 : w8.cell? ⟨M3.p, 8, none⟩ = _ := HP8.out.blk.cell 8
         have a9 : w8.cell? ⟨M3.p, 9, none⟩ = _ := HP8.out.blk.cell 9
         simp only [plCells, List.getElem?_toArray, List.getElem?_cons_succ, List.getElem?_cons_zero] at a0 a1 a2 a3 a4 a5 a6 a7 a8 a9
         rw [hmp3] at a0 a1 a2 a3 a4 a5 a6 a7 a8 a9
         clear hfl
         go_wp2_with fail
         refine HC.out.mono ?_
         rintro e w9 ⟨v9, rfl, hr9, hf9, hb9⟩
         have hp9 := HP8.out.grew hb9
         have b10 : w9.cell? ⟨M3.p, 10, none⟩ = _ := hp9.blk.cell 10
         have f10 := hp9.c_fz 10
         have b11 : w9.cell? ⟨M3.p, 11, none⟩ = _ := hp9.blk.cell 11
         have f11 := hp9.c_fz 11
         have b12 : w9.cell? ⟨M3.p, 12, none⟩ = _ := hp9.blk.cell 12
         have f12 := hp9.c_fz 12
         have b13 : w9.cell? ⟨M3.p, 13, none⟩ = _ := hp9.blk.cell 13
         have f13 := hp9.c_fz 13
         have b14 : w9.cell? ⟨M3.p, 14, none⟩ = _ := hp9.blk.cell 14
         have f14 := hp9.c_fz 14
         have b15 : w9.cell? ⟨M3.p, 15, none⟩ = _ := hp9.blk.cell 15
         have f15 := hp9.c_fz 15
         have b16 : w9.cell? ⟨M3.p, 16, none⟩ = _ := hp9.blk.cell 16
         have f16 := hp9.c_fz 16
         have b17 : w9.cell? ⟨M3.p, 17, none⟩ = _ := hp9.blk.cell 17
         have f17 := hp9.c_fz 17
         have b18 : w9.cell? ⟨M3.p, 18, none⟩ = _ := hp9.blk.cell 18
         have f18 := hp9.c_fz 18
         have b19 : w9.cell? ⟨M3.p, 19, none⟩ = _ := hp9.blk.cell 19
         have f19 := hp9.c_fz 19
         simp only [plCells, List.getElem?_toArray, List.getElem?_cons_succ, List.getElem?_cons_zero] at b10 b11 b12 b13 b14 b15 b16 b17 b18 b19
         have hc28 := hp9.c_moved
         have hf28 := hp9.c_fz 28
         rw [hmp3] at b10 b11 b12 b13 b14 b15 b16 b17 b18 b19 f10 f11 f12 f13 f14 f15 f16 f17 f18 f19 hc28 hf28
         obtain ⟨X9, c9, e9, _⟩ := hr9.form
         subst e9
         have h1 := hp9.set_was hr9 (fun g hg => .inr fun hm => by have := hf9 g hg; have := HP8.out.lt g hm; omega)
         have h2 := h1.1.set_moved false
         have hpw := PWent.of_vw ((Turn.of_below hb9 M3.own).trans h1.2 (fun _ hj _ => hj)) (v := (.slice X9 (S4.now.free.length) c9)) (fun g hg => .inr (hf9 g hg))
         have HK := Lib.hid (And.intro h2.1 (HW8.out.trans (hpw.trans h2.2)))
         clear h1 h2 hpw hr9 hf9 hb9 hp9 HC HP8 HW8
         go_wp2
         go_ret
         have eS : S2.done Z.2.2 = { S4 with was := S4.now, pend := Pgs.none_, moved := false } := by rw [HS4.out, HS3.out]; rfl
         rw [← HXX.out, eS]
         have hk := HK.out
         unfold putWas at hk
         rw [hmp3] at hk
         exact ⟨rfl, _, hk⟩
        ·have hne : (ze == 0) = false := by simpa using hz0
         have hx := HXX.out
         rw [if_pos hz0] at hx
         clear HXX
         have HXX := Lib.hid hx
         have HDI := died_pool HP9.out ze
         rw [hmp3] at HDI
         have HDI := Lib.hid HDI
         clear hx
         go_wp2_with fail
         refine HDI.out.mono ?_
         rintro e w8 ⟨rfl, hp8, hw8⟩
         have HF := Lib.hid (And.intro hp8 (HW9.out.trans hw8))
         clear hp8 hw8
         go_wp2
         go_ret
         rw [← HXX.out, ← HS3.out]
         exact ⟨rfl, _, HF.out⟩
     ·have hne : (Ye == 0) = false := by simpa using hy
      have hx := HXX.out
      rw [if_pos hy] at hx
      have HX2 := Lib.hid hx
      clear hx
      go_wp2
      go_ret
      rw [← HX2.out]
      exact ⟨rfl, M2, HP3.out, HW3.out⟩
    ·have hx := HXX.out
     rw [if_neg h2] at hx
     have HX2 := Lib.hid hx
     have HLG2 := HLG
     have HFN : Hid (S1.now.free.length ≤ 1048576) := Lib.hid HOK1.out.free_le
     have HS2 : Hid ((S1.pend.keys D.sectors).length ≤ 262144 ∧ D.loose.length ≤ 900000000) := Lib.hid ⟨by rw [← HN.out]; exact hnb, by have := HLO.out; omega⟩
     have HP := HP2
     have HW := HW2
     obtain ⟨wq, hwq⟩ : ∃ wq, wq = w2 := ⟨_, rfl⟩
     subst hwq
     clear HP2 HW2 HXX hx HOK1 HLG
     obtain ⟨G, hG, hlg, hlo⟩ := HP.out.has_log HLG2.out
     have HLK := Lib.hid hlo
     have HGG := Lib.hid hG
     clear hG hlg hlo
     have hcn := HP.out.c_pend
     have HK := Lib.hid (Keys_any (some M.mn) wq)
     have HSO := Lib.hid (Sorted_any (HP.out.pend.grew ((Below.refl _ wq).alloc (Nat.le_refl _) (.cells #[.map (some M.mn)] 73))) (B := wq.heap.size) (by simp) ((Blk.new wq _ _).cell 0))
     have HB1 : Hid (Below wq.heap.size wq (wq.alloc (.cells #[.map (some M.mn)] 73))) := Lib.hid ((Below.refl _ wq).alloc (Nat.le_refl _) _)
     have HKN : Hid (∀ k ∈ S1.pend.keys D.sectors, ∃ l, S1.pend k = some l) := Lib.hid (fun k hk => (mem_keys.1 hk).2)
     obtain ⟨ks, hks⟩ : ∃ ks, ks = S1.pend.keys D.sectors := ⟨_, rfl⟩
     have HKE := Lib.hid hks
     rw [← hks] at HSO HKN HS2
     clear hks
     go_wp2_with fail
     refine HK.out.mono ?_
     rintro e w5 ⟨rfl, rfl⟩
     go_wp2_with fail
     refine HSO.out.mono ?_
     rintro e w6 ⟨v, rfl, hrow, hnil, hb6⟩
     have hri : RowI w6 v ks := Own.base_ (Nat.zero_le _) hrow
     have hbw : Below wq.heap.size wq w6 := HB1.out.trans (hb6.mono HB1.out.size)
     have hside : Side w6 M v ks := ⟨hri, fun g hg hm => by
      have h1 := (World.ownsRow.lt hrow g hg).1
      have h2 := HP.out.lt g hm
      have h3 := HB1.out.size
      omega⟩
     obtain ⟨A, c, rfl, hc, _⟩ := hri.form
     have H0 : Hid (CmSt w w6 M M S1 D (.slice A ks.length c) ks nilv 0) := Lib.hid ⟨HP.out.grew hbw, HW.out.tail hbw, hside, Chg.nil _, fun g hg => by simp [nilv, Value.ownBlock] at hg⟩
     clear hrow hri hbw hside hnil hb6 HSO HK HB1 HP HW hc hcn
     obtain ⟨m, hm⟩ : ∃ m, m = ks.length := ⟨_, rfl⟩
     rw [← hm] at H0 HS2
     rw [← hm]
     have HM := Lib.hid hm
     clear hm
     go_wp2_with fail
     go_loopw [6, 64] (fun gv iv wr => ∃ (k : Nat), k ≤ m ∧ iv = .int .i64 k ∧ Hid (CmSt w wr M M S1 D (.slice A m c) ks gv k)) (fun _ iv _ => m - (intOf iv).toNat)
     case atStart => exact ⟨0, by omega, rfl, H0⟩
     case round =>
      clear H0
      rename_i gv iv wr
      obtain ⟨k, hk, rfl, HS⟩ := hrel
      by_cases hlt : k < m
      ·have hkl2 : k < ks.length := by rw [← HM.out]; exact hlt
       have hlt' : (k : Int) < m := by omega
       have hmb : m ≤ 262144 := HS2.out.1
       obtain ⟨g, rfl, hg, hcg⟩ := HS.out.side.1.at_.2.2 k hkl2
       obtain ⟨l, hl1⟩ := HKN.out ks[k] (List.getElem_mem hkl2)
       obtain ⟨u, hrun, hby⟩ := HS.out.pool.pend.look1 hl1
       obtain ⟨v', w', happ, hnew⟩ := HS.out.push hkl2 (by omega) hl1 hby
       obtain ⟨pg, hpg⟩ : ∃ pg, pg = ks[k] := ⟨_, rfl⟩
       rw [← hpg] at hl1 hcg hrun happ
       clear hpg
       have hcp := HS.out.pool.c_pend
       obtain ⟨p9, cu, rfl, hcu, hrd⟩ := hby.rd
       have RUN := Lib.hid happ
       have HNEW := Lib.hid hnew
       clear happ hnew hby hrd hcu hl1 hg HS
       go_wp2_with (at_builtin; refine Lib.wpList_append_run _ rfl (.tmp 68) (.tmp 77) 92 92 rfl _ _ rfl rfl v' w' RUN.out ?_)
       go_roundw
       case rel => exact ⟨k + 1, by omega, by go_num, HNEW⟩
       case measure => simp [intOf]; omega
      ·have hkn : k = m := by omega
       subst hkn
       have HP := Lib.hid HS.out.pool
       have HW := Lib.hid HS.out.went
       have hrow := HS.out.row
       rw [List.take_of_length_le (by rw [← HM.out]; exact Nat.le_refl _)] at hrow
       have hgl : (grpOf S1.pend ks).length = k := by unfold grpOf; rw [List.length_map]; exact HM.out.symm
       have hgE : grpOf S1.pend ks = grpOf S1.pend (S1.pend.keys D.sectors) := by rw [HKE.out]
       obtain ⟨A2, c2, e2, _⟩ := hrow.form
       rw [hgl] at e2
       subst e2
       have hx := HX2.out
       unfold appended at hx
       rw [HLG2.out] at hx
       dsimp only at hx
       rw [← hgE] at hx
       obtain ⟨grp_, hgrp⟩ : ∃ g, g = grpOf S1.pend ks := ⟨_, rfl⟩
       rw [← hgrp] at hrow hgl hx
       obtain ⟨Z, hZ⟩ : ∃ Z, Z = app D L grp_ := ⟨_, rfl⟩
       rw [← hZ] at hx
       obtain ⟨G', hG', hlg, hlo⟩ := HP.out.has_log HLG2.out
       obtain rfl : G' = G := by rw [HGG.out] at hG'; injection hG' with e; exact e.symm
       have HAP := Lib.hid (Append_any HP.out.disk hlg hlo grp_ k c2 hgl A2 hrow (by have := HS2.out.1; omega) (by exact HS2.out.2) Z hZ)
       have hcl := HP.out.c_log
       rw [hG'] at hcl
       unfold logV at hcl
       have hfa := app_facts grp_ D L hlo
       rw [← hZ] at hfa
       have HFA := Lib.hid hfa
       have HXX := Lib.hid hx
       clear hrow hgl hgE hx hgrp hZ hG' hlg hlo hfa HX2 HS
       go_wp2_with fail
       refine HAP.out.mono ?_
       rintro e w7 ⟨rfl, vl7, hd7, hl7, hw7⟩
       have h7 := HP.out.logged HGG.out hd7 hl7 HFA.out.2.2.1 HFA.out.1 hw7
       obtain ⟨M3, hM3⟩ : ∃ M3 : Mem, M3 = { M with vl := vl7 } := ⟨_, rfl⟩
       rw [← hM3] at h7
       obtain ⟨S3, hS3⟩ : ∃ S3 : Pl, S3 = { S1 with log := some Z.2.2 } := ⟨_, rfl⟩
       rw [← hS3] at h7
       obtain ⟨D3, hD3⟩ : ∃ D3, D3 = Z.2.1 := ⟨_, rfl⟩
       rw [← hD3] at h7 HXX
       obtain ⟨ze, hze⟩ : ∃ ze, ze = Z.1 := ⟨_, rfl⟩
       rw [← hze] at HXX
       rw [← hze]
       have hmp3 : M3.p = M.p := by rw [hM3]
       have HP9 := Lib.hid h7.1
       have HW9 := Lib.hid (HW.out.trans h7.2)
       have HS3 := Lib.hid hS3
       clear h7 hd7 hl7 hw7 HP HW HAP HFA hM3 hD3 hze hcl hS3
       by_cases hz0 : ze = 0
       ·subst hz0
        have hx := HXX.out
        rw [if_neg (by simp)] at hx
        clear HXX
        have HXX := Lib.hid hx
        have HP := HP9
        have HW := HW9
        clear hx HP9 HW9
        go_wp2_with fail
        refine wp_region_H (fun v => v.cell? ⟨M.p, 25, none⟩ = some (.map (some M3.ml)) ∧ v.cell? ⟨M.p, 26, none⟩ = some (.map (some M3.mn))) (by kernel_rfl) (fun v0 hv0 => ?_)
        have hS0 : (fun v => v.cell? ⟨M.p, 25, none⟩ = some (.map (some M3.ml)) ∧ v.cell? ⟨M.p, 26, none⟩ = some (.map (some M3.mn))) v0 := by subst hv0; exact ⟨by rw [← hmp3]; exact (HP.out.drew).c_last, by rw [← hmp3]; exact (HP.out.drew).c_pend⟩
        have HV0 : Hid (PoolAt v0 M3 S3 D3) := Lib.hid (by subst hv0; exact HP.out.drew)
        have HW0 : Hid (PWent w v0 M M3) := Lib.hid (by subst hv0; exact HW.out.tail (Below.refl _ _).drew)
        clear hv0 HP HW
        refine wpH_t 0 ?_ rfl rfl (by kernel_rfl) (fun _ _ _ h => h) rfl ?_ hS0 ?_
        rotate_left
        ·(intro w_ hw_; go_simp; try with_reducible rfl)
        simp only [sL]
        refine wpH_t 1 ?_ rfl rfl (by kernel_rfl) (fun _ _ _ h => h) rfl ?_ hS0 ?_
        rotate_left
        ·(intro w_ hw_; obtain ⟨q1, q2⟩ := hw_; go_simp; try with_reducible rfl)
        simp only [sL]
        refine wpH_t 2 ?_ rfl rfl (by kernel_rfl) (fun _ _ _ h => h) rfl ?_ hS0 ?_
        rotate_left
        ·(intro w_ hw_; go_simp; try with_reducible rfl)
        simp only [sL]
        refine wpH_t 3 ?_ rfl rfl (by kernel_rfl) (fun _ _ _ h => h) rfl ?_ hS0 ?_
        rotate_left
        ·(intro w_ hw_; obtain ⟨q1, q2⟩ := hw_; go_simp; try with_reducible rfl)
        simp only [sL]
        refine wpH_t 4 ?_ rfl rfl (by kernel_rfl) (fun _ _ _ h => h) rfl ?_ hS0 ?_
        rotate_left
        ·(intro w_ hw_; go_simp; try with_reducible rfl)
        simp only [sL]
        refine wpH_t 5 ?_ rfl rfl (by kernel_rfl) (fun _ _ _ h => h) rfl ?_ hS0 ?_
        rotate_left
        ·(intro w_ hw_; obtain ⟨q1, q2⟩ := hw_; go_simp; try with_reducible rfl)
        simp only [sL]
        refine wpH_t 6 ?_ rfl rfl (by kernel_rfl) (fun _ _ _ h => h) rfl ?_ hS0 ?_
        rotate_left
        ·(intro w_ hw_; go_simp; try with_reducible rfl)
        simp only [sL]
        refine wpH_t 7 ?_ rfl rfl (by kernel_rfl) (fun _ _ _ h => h) rfl ?_ hS0 ?_
        rotate_left
        ·(intro w_ hw_; obtain ⟨q1, q2⟩ := hw_; go_simp; try with_reducible rfl)
        simp only [sL]
        refine wpH_call (i := 8) (by kernel_rfl) rfl rfl (by rfl) (Copy_any HV0.out.last HV0.out.pend HV0.out.ml_ne) (by go_simp) (fun v1 hR => ?_)
        have hS1 : (fun v => v.cell? ⟨M.p, 25, none⟩ = some (.map (some M3.ml)) ∧ v.cell? ⟨M.p, 26, none⟩ = some (.map (some M3.mn))) v1 := ⟨by rw [← hmp3]; exact (HV0.out.set_last hR.1 hR.2).1.c_last, by rw [← hmp3]; exact (HV0.out.set_last hR.1 hR.2).1.c_pend⟩
        clear hS0
        refine ⟨hS1, ?_⟩
        simp only [sL]
        have h1 := HV0.out.set_last hR.1 hR.2
        have HP := Lib.hid h1.1
        have HW := Lib.hid (HW0.out.trans h1.2)
        clear h1 hR HV0 HW0
        clear hS1
        refine wpAnyH_done (by kernel_rfl) ?_ _
        obtain ⟨S4, hS4⟩ : ∃ S4 : Pl, S4 = { S3 with last := S3.pend.over S3.last } := ⟨_, rfl⟩
        rw [← hS4] at HP
        have HS4 := Lib.hid hS4
        clear hS4
        have hc26 := HP.out.c_pend
        obtain ⟨w8, hrun8, hm8, ht8⟩ := HP.out.pend.clear 0
        have h8 := HP.out.set_pend hm8 ht8
        have HP8 := Lib.hid h8.1
        have HW8 := Lib.hid (HW.out.trans h8.2)
        rw [hmp3] at hc26
        clear h8 hm8 ht8 HP HW
        have hfl := HFN.out
        have HC := Lib.hid (clone_any HP8.out.free (by rw [HS4.out, HS3.out]; exact hfl))
        unfold Sta.val at HC
        have a0 : w8.cell? ⟨M3.p, 0, none⟩ = _ := HP8.out.blk.cell 0
        have a1 : w8.cell? ⟨M3.p, 1, none⟩ = _ := HP8.out.blk.cell 1
        have a2 : w8.cell? ⟨M3.p, 2, none⟩ = _ := HP8.out.blk.cell 2
        have a3 : w8.cell? ⟨M3.p, 3, none⟩ = _ := HP8.out.blk.cell 3
        have a4 : w8.cell? ⟨M3.p, 4, none⟩ = _ := HP8.out.blk.cell 4
        have a5 : w8.cell? ⟨M3.p, 5, none⟩ = _ := HP8.out.blk.cell 5
        have a6 : w8.cell? ⟨M3.p, 6, none⟩ = _ := HP8.out.blk.cell 6
        have a7 : w8.cell? ⟨M3.p, 7, none⟩ = _ := HP8.out.blk.cell 7
        have a8 : w8.cell? ⟨M3.p, 8, none⟩ = _ := HP8.out.blk.cell 8
        have a9 : w8.cell? ⟨M3.p, 9, none⟩ = _ := HP8.out.blk.cell 9
        simp only [plCells, List.getElem?_toArray, List.getElem?_cons_succ, List.getElem?_cons_zero] at a0 a1 a2 a3 a4 a5 a6 a7 a8 a9
        rw [hmp3] at a0 a1 a2 a3 a4 a5 a6 a7 a8 a9
        clear hfl
        go_wp2_with fail
        refine HC.out.mono ?_
        rintro e w9 ⟨v9, rfl, hr9, hf9, hb9⟩
        have hp9 := HP8.out.grew hb9
        have b10 : w9.cell? ⟨M3.p, 10, none⟩ = _ := hp9.blk.cell 10
        have f10 := hp9.c_fz 10
        have b11 : w9.cell? ⟨M3.p, 11, none⟩ = _ := hp9.blk.cell 11
        have f11 := hp9.c_fz 11
        have b12 : w9.cell? ⟨M3.p, 12, none⟩ = _ := hp9.blk.cell 12
        have f12 := hp9.c_fz 12
        have b13 : w9.cell? ⟨M3.p, 13, none⟩ = _ := hp9.blk.cell 13
        have f13 := hp9.c_fz 13
        have b14 : w9.cell? ⟨M3.p, 14, none⟩ = _ := hp9.blk.cell 14
        have f14 := hp9.c_fz 14
        have b15 : w9.cell? ⟨M3.p, 15, none⟩ = _ := hp9.blk.cell 15
        have f15 := hp9.c_fz 15
        have b16 : w9.cell? ⟨M3.p, 16, none⟩ = _ := hp9.blk.cell 16
        have f16 := hp9.c_fz 16
        have b17 : w9.cell? ⟨M3.p, 17, none⟩ = _ := hp9.blk.cell 17
        have f17 := hp9.c_fz 17
        have b18 : w9.cell? ⟨M3.p, 18, none⟩ = _ := hp9.blk.cell 18
        have f18 := hp9.c_fz 18
        have b19 : w9.cell? ⟨M3.p, 19, none⟩ = _ := hp9.blk.cell 19
        have f19 := hp9.c_fz 19
        simp only [plCells, List.getElem?_toArray, List.getElem?_cons_succ, List.getElem?_cons_zero] at b10 b11 b12 b13 b14 b15 b16 b17 b18 b19
        have hc28 := hp9.c_moved
        have hf28 := hp9.c_fz 28
        rw [hmp3] at b10 b11 b12 b13 b14 b15 b16 b17 b18 b19 f10 f11 f12 f13 f14 f15 f16 f17 f18 f19 hc28 hf28
        obtain ⟨X9, c9, e9, _⟩ := hr9.form
        subst e9
        have h1 := hp9.set_was hr9 (fun g hg => .inr fun hm => by have := hf9 g hg; have := HP8.out.lt g hm; omega)
        have h2 := h1.1.set_moved false
        have hpw := PWent.of_vw ((Turn.of_below hb9 M3.own).trans h1.2 (fun _ hj _ => hj)) (v := (.slice X9 (S4.now.free.length) c9)) (fun g hg => .inr (hf9 g hg))
        have HK := Lib.hid (And.intro h2.1 (HW8.out.trans (hpw.trans h2.2)))
        clear h1 h2 hpw hr9 hf9 hb9 hp9 HC HP8 HW8
        go_wp2
        go_ret
        have eS : S1.done Z.2.2 = { S4 with was := S4.now, pend := Pgs.none_, moved := false } := by rw [HS4.out, HS3.out]; rfl
        rw [← HXX.out, eS]
        have hk := HK.out
        unfold putWas at hk
        rw [hmp3] at hk
        exact ⟨rfl, _, hk⟩
       ·have hne : (ze == 0) = false := by simpa using hz0
        have hx := HXX.out
        rw [if_pos hz0] at hx
        clear HXX
        have HXX := Lib.hid hx
        have HDI := died_pool HP9.out ze
        rw [hmp3] at HDI
        have HDI := Lib.hid HDI
        clear hx
        go_wp2_with fail
        refine HDI.out.mono ?_
        rintro e w8 ⟨rfl, hp8, hw8⟩
        have HF := Lib.hid (And.intro hp8 (HW9.out.trans hw8))
        clear hp8 hw8
        go_wp2
        go_ret
        rw [← HXX.out, ← HS3.out]
        exact ⟨rfl, _, HF.out⟩
end
end Go.Proofs.YtklppnknllbfnaaGreat
