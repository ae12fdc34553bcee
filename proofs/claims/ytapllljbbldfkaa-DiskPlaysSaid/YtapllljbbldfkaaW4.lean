/- Walks: Flush. -/
import Derived.Test.YtapllljbbldfkaaW3
namespace Go.Proofs.Ytapllljbbldfkaa
open Go.RowKit Go.Maps
variable {ι : Type} [Bar ι]

/-- 'm[k] = x', its run known as an equation. -/
theorem exec_mapUpdate {P : Program} {ev : Operand → Value} {o : Oper} (t : TypeId) (m k x : Operand) (ho : o.op = .mapUpdate t m k x) {vm vk vx : Value} {w w' : World} (hm : ev m = vm) (hk : ev k = vk) (hx : ev x = vx)
    (hr : (Instr.mapUpdate t vm vk vx).run P w = .ok () w') : (execOp ev o).run P w = .ok .skip w' := by
  unfold execOp
  simp only [ho, Sem.run_bind, Sem.run_pure, Result.andThen_ok, hm, hk, hx, hr]

namespace Dsk
/-- When k loose writes are fast. -/
def part (d : Dsk) (k : Nat) : Dsk := { d with fast := settle d.fast (d.loose.take k) }
theorem part_zero (d : Dsk) : d.part 0 = d := rfl
theorem part_succ (d : Dsk) {k : Nat} (h : k < d.loose.length) : d.part (k + 1) = { d.part k with fast := upd (d.part k).fast d.loose[k].1 d.loose[k].2 } := by
  unfold part
  rw [settle_take _ _ _ h]
theorem flush_part (d : Dsk) (h1 : d.down = false) (h2 : d.act.down = false) : d.flush = { d.act.part d.act.loose.length with loose := [] } := by
  unfold flush part
  rw [h1, act_loose, act_fast]
  simp [h2]
theorem Ok.loose_nil {d : Dsk} (h : d.Ok) : ({ d with loose := [] } : Dsk).Ok := ⟨h.s1, h.s2, h.z1, h.z2, h.len, h.byt, by simp, h.arm0, h.arm1⟩
end Dsk

theorem Byt.len_val {w : World} {p : Addr} {n c : Nat} {l : List Nat} (h : Byt w (.slice (some p) n c) l) : l.length = n := by
  obtain ⟨_, _, _, e, _⟩ := h
  injection e with _ e _
  exact e.symm

theorem BytP.drew {w : World} {v : Value} {l : List Nat} (h : BytP w v l) : BytP w.drew v l := h.grew ⟨rfl, rfl, rfl, Nat.le_refl _, fun _ _ => rfl⟩
theorem Byt.drew {w : World} {v : Value} {l : List Nat} (h : Byt w v l) : Byt w.drew v l := h.grew ⟨rfl, rfl, rfl, Nat.le_refl _, fun _ _ => rfl⟩

theorem DiskAt.fastPut {w : World} {b m : Nat} {vl : Value} {D : Dsk} (h : DiskAt w b m vl D) {x : Int} (h0 : 0 ≤ x) (h1 : x < D.sectors) {v : Value} {l : List Nat} (hv : BytP w v l) (hl : l.length = D.size) :
    ∃ w', (Instr.mapUpdate 61 (.map (some m)) (.int .i64 x) v).run Try.prog w = .ok () w' ∧ DiskAt w' b m vl { D with fast := upd D.fast x l } ∧ Turn [m] w w' := by
  obtain ⟨n, rfl⟩ := Int.eq_ofNat_of_zero_le h0
  obtain ⟨w', hrun, hf, ht⟩ := h.fast.store (x := n) (by omega) h.ok.s2 hv
  have hturn : Turn [m] w w' := (Turn.refl [m] w).mapped ht (by simp)
  have hnb : NoBytes w [m] := fun k hk => h.nobytes k (by simp at hk; subst hk; exact mem_own.2 (.inr (.inl rfl)))
  have hk := h.kinds
  refine ⟨w', hrun, ⟨⟨h.ok.s1, h.ok.s2, h.ok.z1, h.ok.z2, upd_len h.ok.len hl, upd_byt h.ok.byt hv.1.1, h.ok.lose, h.ok.arm0, h.ok.arm1⟩, (hturn.block b h.blk.lt (by simp; exact hk.1)).trans h.blk, hf, h.loose.turn hturn hnb (fun g hg => by simp; exact (hk.2 g hg).2), fun j hj => h.bar j (Nat.le_trans hturn.size hj)⟩, hturn⟩

theorem Loose.at_ {w : World} {vl : Value} {L : List (Int × List Nat)} (h : Loose w vl L) (k : Nat) (hk : k < L.length) :
    ∃ g c p z d, vl = .slice (some ⟨g, 0, none⟩) L.length c ∧ L.length ≤ c ∧ w.cell? ⟨g, k * 2, none⟩ = some (.int .i64 L[k].1) ∧ w.cell? ⟨g, k * 2 + 1, none⟩ = some (.slice (some p) z d) ∧ BytP w (.slice (some p) z d) L[k].2 ∧ z = L[k].2.length := by
  obtain ⟨vs, h1, ho, h2⟩ := h
  obtain ⟨v, e, hb⟩ := h2 k hk
  obtain ⟨p, d, ev, _, _⟩ := hb.1.rd
  have := wcells_get e
  rcases ho.2 with ⟨rfl, h0⟩ | ⟨g, cap, cur, rfl, hb', hh, hnc, _⟩
  · omega
  · have q0 := World.ownsRow.cells ho (g := g) rfl _ _ this.1
    have q1 := World.ownsRow.cells ho (g := g) rfl _ _ this.2
    rw [addr_add] at q0 q1
    dsimp only at q1
    exact ⟨g, cap, p, _, d, rfl, hnc, q0, ev ▸ q1, ev ▸ hb, rfl⟩

set_option maxHeartbeats 4000000 in
theorem Flush_any (b m : Nat) (vl : Value) (D : Dsk) (w : World) (h : DiskAt w b m vl D) (hL : D.loose.length ≤ 1000000000) :
    Calls Try.prog 10 #[.pointer (some ⟨b, 0, none⟩)] w fun e w' => e = .returned (.int .i64 D.flushErr) ∧ ∃ vl', DiskAt w' b m vl' D.flush ∧ Turn (own b m vl) w w' ∧ ∀ g, vl'.ownBlock = some g → vl.ownBlock = some g := by
  obtain ⟨c0, c1, c2, c3, c4, c5, f3, f4, f5⟩ := h.six
  cases hd : D.down with
  | true =>
    have e1 : D.flushErr = 4 := by unfold Dsk.flushErr; simp [hd]
    have e2 : D.flush = D := by unfold Dsk.flush; simp [hd]
    rw [e1, e2]
    rw [hd] at c5
    have H := Lib.hid h
    clear h c0 c1 c2 c3 c4 f3 f4 f5 hL hd e1 e2
    go_enter Try.func10, Try.ntmps10
    go_wp2
    go_ret
    exact ⟨rfl, _, H.out, Turn.refl _ _, fun _ h => h⟩
  | false =>
    rw [hd] at c5
    obtain ⟨z, hz⟩ : ∃ z, z = D.act.down := ⟨_, rfl⟩
    have e1 : D.flushErr = if z then 4 else 0 := by unfold Dsk.flushErr; simp [hd, hz]
    rw [e1]
    have hOkA := h.ok.act
    have HLL := Lib.hid (show D.act.loose.length ≤ 1000000000 by rw [Dsk.act_loose]; exact hL)
    have hact := act_any h
    rw [← hz] at hact
    have HA := Lib.hid hact
    have H0 := Lib.hid h
    have HF := Lib.hid (fun h2 : D.act.down = false => Dsk.flush_part D hd h2)
    have HF2 := Lib.hid (fun h2 : D.act.down = true => (show D.flush = D.act by unfold Dsk.flush; simp [hd, h2]))
    have HZ := Lib.hid hz
    clear e1 hact hL c0 c1 c2 c3 c4 f3 f4 f5 hd h hz
    go_enter Try.func10, Try.ntmps10
    go_wp2_with fail
    refine HA.out.mono ?_
    rintro e w2 ⟨rfl, hd2, ht2⟩
    have HT := Lib.hid ht2
    have HD := Lib.hid hd2
    clear ht2
    cases z with
    | true =>
      clear hd2
      go_wp2
      go_ret
      refine ⟨rfl, _, ?_, HT.out.mono (fun k hk _ => mem_own.2 (.inl (by simpa using hk))), fun _ h => h⟩
      rw [HF2.out HZ.out.symm]
      exact HD.out
    | false =>
      obtain ⟨A, c, rfl, _, _⟩ := hd2.loose.form
      obtain ⟨c0, c1, c2, c3, c4, c5, f3, f4, f5⟩ := hd2.six
      have HOA := Lib.hid hOkA
      clear hd2 c0 c1 c2 c4 c5 f3 f4 f5 hOkA HA
      go_wp2
      go_loopw [22] (fun i wr => ∃ k : Nat, k ≤ D.act.loose.length ∧ i = .int .i64 k ∧ Hid (DiskAt wr b m (.slice A D.act.loose.length c) (D.act.part k) ∧ Turn (own b m (.slice A D.act.loose.length c)) w2 wr)) (fun i _ => D.act.loose.length - (intOf i).toNat)
      case atStart => exact ⟨0, by omega, rfl, HD.out, Turn.refl _ _⟩
      case round =>
        obtain ⟨k, hk, rfl, B⟩ := hrel
        clear HD
        by_cases hlt : k < D.act.loose.length
        · obtain ⟨g, c', p5, z, c5, e', _, hc0, hc1, hb, rz⟩ := B.out.1.loose.at_ k hlt
          injection e' with e1 e2 e3
          subst e1 e3
          have hx := HOA.out.lose _ (List.getElem_mem hlt)
          have hn := Dsk.part_succ D.act hlt
          have hzz : (D.act.part k).loose[k]'hlt = D.act.loose[k] := rfl
          rw [hzz] at hc0 hb rz
          obtain ⟨⟨x, l⟩, hxl⟩ : ∃ q, q = D.act.loose[k] := ⟨_, rfl⟩
          rw [← hxl] at hx hn hc0 hb rz
          have HB := Lib.hid hb
          have HN := Lib.hid hn
          have HX := Lib.hid (And.intro hx.1 (And.intro (show x < ((D.act.part k).sectors : Int) from hx.2.1) (show l.length = (D.act.part k).size from hx.2.2.1)))
          clear hb hn hx hzz hxl rz e2
          simp only at hc0
          have hR : ∀ w', w' = (wr.alloc (.cells #[.int .i64 x, .slice (some p5) z c5] 68)) → DiskAt w' b m (.slice (some ⟨g, 0, none⟩) D.act.loose.length c) (D.act.part k) ∧ Turn (own b m (.slice (some ⟨g, 0, none⟩) D.act.loose.length c)) w2 w' ∧ BytP w' (.slice (some p5) z c5) l ∧ Blk w' wr.heap.size #[.int .i64 x, .slice (some p5) z c5] 68 := by
            rintro w' rfl
            have hg := (Below.refl wr.heap.size wr).alloc (Nat.le_refl _) (.cells #[.int .i64 x, .slice (some p5) z c5] 68)
            exact ⟨B.out.1.grew hg, B.out.2.tail hg, HB.out.grew hg, Blk.new' _ _ _ rfl⟩
          have HRR := Lib.hid hR
          clear hR HB
          go_wp2_with fail
          obtain ⟨w3, hw3⟩ : ∃ w3, w3 = wr.alloc (.cells #[.int .i64 x, .slice (some p5) z c5] 68) := ⟨_, rfl⟩
          rw [← hw3]
          have HR := HRR.out _ hw3
          clear HRR hw3
          obtain ⟨Sa0, Sa0d⟩ : ∃ S : World → Prop, S = fun v : World => DiskAt v b m (.slice (some ⟨g, 0, none⟩) D.act.loose.length c) (D.act.part k) ∧ Turn (own b m (.slice (some ⟨g, 0, none⟩) D.act.loose.length c)) w2 v ∧ BytP v (.slice (some p5) z c5) l ∧ Blk v wr.heap.size #[.int .i64 x, .slice (some p5) z c5] 68 := ⟨_, rfl⟩
          have Sa0t0 : Stands Sa0 := by rw [Sa0d]; exact ((stands_disk _ _ _ _).and ((stands_turn _ _).and ((stands_bytp _ _).and (stands_blk _ _ _))))
          have Sa0u0 : ∀ v, Sa0 v → DiskAt v b m (.slice (some ⟨g, 0, none⟩) D.act.loose.length c) (D.act.part k) ∧ Turn (own b m (.slice (some ⟨g, 0, none⟩) D.act.loose.length c)) w2 v ∧ BytP v (.slice (some p5) z c5) l ∧ Blk v wr.heap.size #[.int .i64 x, .slice (some p5) z c5] 68 := fun v h => by rw [Sa0d] at h; exact h
          have Sa0m0 : ∀ v, (DiskAt v b m (.slice (some ⟨g, 0, none⟩) D.act.loose.length c) (D.act.part k) ∧ Turn (own b m (.slice (some ⟨g, 0, none⟩) D.act.loose.length c)) w2 v ∧ BytP v (.slice (some p5) z c5) l ∧ Blk v wr.heap.size #[.int .i64 x, .slice (some p5) z c5] 68) → Sa0 v := fun v h => by rw [Sa0d]; exact h
          have Sa0u := Lib.hid Sa0u0
          have Sa0m := Lib.hid Sa0m0
          have Sa0t := Lib.hid Sa0t0
          clear Sa0d Sa0u0 Sa0m0 Sa0t0
          refine wp_region_X (S := Sa0) (by kernel_rfl) (Sa0m.out _ ⟨HR.1.drew, HR.2.1.drew, HR.2.2.1.drew, HR.2.2.2.drew⟩) ?_
          clear HR
          refine wpX_take (i := 0) (v := ?_) Sa0t.out rfl rfl (by kernel_rfl) (by kernel_rfl) (by kernel_rfl) (by kernel_rfl) (fun _ _ _ h => h) (SteadyX.value (by rfl) ?_) ?_
          rotate_left
          · (intro w_ hS; go_simp; try with_reducible rfl)
          simp only [List.setIfInBounds_toArray, List.set_cons_zero, List.set_cons_succ]
          refine wpX_take (i := 1) (v := ?_) Sa0t.out rfl rfl (by kernel_rfl) (by kernel_rfl) (by kernel_rfl) (by kernel_rfl) (fun _ _ _ h => h) (SteadyX.value (by rfl) ?_) ?_
          rotate_left
          · (intro w_ hS; obtain ⟨q0, q1, q2, q3⟩ := Sa0u.out _ hS; (have q9 := q0.six); (have q8 := q3.two); go_simp; try with_reducible rfl)
          simp only [List.setIfInBounds_toArray, List.set_cons_zero, List.set_cons_succ]
          refine wpX_take (i := 2) (v := ?_) Sa0t.out rfl rfl (by kernel_rfl) (by kernel_rfl) (by kernel_rfl) (by kernel_rfl) (fun _ _ _ h => h) (SteadyX.value (by rfl) ?_) ?_
          rotate_left
          · (intro w_ hS; go_simp; try with_reducible rfl)
          simp only [List.setIfInBounds_toArray, List.set_cons_zero, List.set_cons_succ]
          refine wpX_take (i := 3) (v := ?_) Sa0t.out rfl rfl (by kernel_rfl) (by kernel_rfl) (by kernel_rfl) (by kernel_rfl) (fun _ _ _ h => h) (SteadyX.value (by rfl) ?_) ?_
          rotate_left
          · (intro w_ hS; obtain ⟨q0, q1, q2, q3⟩ := Sa0u.out _ hS; (have q9 := q0.six); (have q8 := q3.two); go_simp; try with_reducible rfl)
          simp only [List.setIfInBounds_toArray, List.set_cons_zero, List.set_cons_succ]
          refine wpX_take (i := 4) (v := ?_) Sa0t.out rfl rfl (by kernel_rfl) (by kernel_rfl) (by kernel_rfl) (by kernel_rfl) (fun _ _ _ h => h) (SteadyX.value (by rfl) ?_) ?_
          rotate_left
          · (intro w_ hS; go_simp; try with_reducible rfl)
          simp only [List.setIfInBounds_toArray, List.set_cons_zero, List.set_cons_succ]
          refine wpX_take (i := 5) (v := ?_) Sa0t.out rfl rfl (by kernel_rfl) (by kernel_rfl) (by kernel_rfl) (by kernel_rfl) (fun _ _ _ h => h) (SteadyX.value (by rfl) ?_) ?_
          rotate_left
          · (intro w_ hS; go_simp; try with_reducible rfl)
          simp only [List.setIfInBounds_toArray, List.set_cons_zero, List.set_cons_succ]
          refine wpX_take (i := 6) (v := ?_) Sa0t.out rfl rfl (by kernel_rfl) (by kernel_rfl) (by kernel_rfl) (by kernel_rfl) (fun _ _ _ h => h) (SteadyX.value (by rfl) ?_) ?_
          rotate_left
          · (intro w_ hS; obtain ⟨q0, q1, q2, q3⟩ := Sa0u.out _ hS; (have q9 := q0.six); (have q8 := q3.two); go_simp; try with_reducible rfl)
          simp only [List.setIfInBounds_toArray, List.set_cons_zero, List.set_cons_succ]
          refine wpX_take (i := 7) (v := ?_) Sa0t.out rfl rfl (by kernel_rfl) (by kernel_rfl) (by kernel_rfl) (by kernel_rfl) (fun _ _ _ h => h) (SteadyX.value (by rfl) ?_) ?_
          rotate_left
          · (intro w_ hS; go_simp; try with_reducible rfl)
          simp only [List.setIfInBounds_toArray, List.set_cons_zero, List.set_cons_succ]
          refine wpX_take (i := 8) (v := ?_) Sa0t.out rfl rfl (by kernel_rfl) (by kernel_rfl) (by kernel_rfl) (by kernel_rfl) (fun _ _ _ h => h) (SteadyX.value (by rfl) ?_) ?_
          rotate_left
          · (intro w_ hS; obtain ⟨q0, q1, q2, q3⟩ := Sa0u.out _ hS; (have q9 := q0.six); (have q8 := q3.two); go_simp; try with_reducible rfl)
          simp only [List.setIfInBounds_toArray, List.set_cons_zero, List.set_cons_succ]
          refine wpX_one (i := 9) (by kernel_rfl) (fun w_ hS => ?_)
          obtain ⟨q0, q1, q2, q3⟩ := Sa0u.out _ hS
          obtain ⟨w8, hrun, hd8, ht8⟩ := q0.fastPut HX.out.1 HX.out.2.1 q2 HX.out.2.2
          obtain ⟨Sa1, Sa1d⟩ : ∃ S : World → Prop, S = fun v : World => DiskAt v b m (.slice (some ⟨g, 0, none⟩) D.act.loose.length c) (D.act.part (k + 1)) ∧ Turn (own b m (.slice (some ⟨g, 0, none⟩) D.act.loose.length c)) w2 v := ⟨_, rfl⟩
          have Sa1t0 : Stands Sa1 := by rw [Sa1d]; exact ((stands_disk _ _ _ _).and (stands_turn _ _))
          have Sa1u0 : ∀ v, Sa1 v → DiskAt v b m (.slice (some ⟨g, 0, none⟩) D.act.loose.length c) (D.act.part (k + 1)) ∧ Turn (own b m (.slice (some ⟨g, 0, none⟩) D.act.loose.length c)) w2 v := fun v h => by rw [Sa1d] at h; exact h
          have Sa1m0 : ∀ v, (DiskAt v b m (.slice (some ⟨g, 0, none⟩) D.act.loose.length c) (D.act.part (k + 1)) ∧ Turn (own b m (.slice (some ⟨g, 0, none⟩) D.act.loose.length c)) w2 v) → Sa1 v := fun v h => by rw [Sa1d]; exact h
          have Sa1u := Lib.hid Sa1u0
          have Sa1m := Lib.hid Sa1m0
          have Sa1t := Lib.hid Sa1t0
          clear Sa1d Sa1u0 Sa1m0 Sa1t0
          have st_ : Sa1 w8 := Sa1m.out _ ⟨(by rw [HN.out]; exact hd8), q1.trans ht8 (fun j hj _ => by simp at hj; subst hj; exact mem_own.2 (.inr (.inl rfl)))⟩
          refine wpX_store (i := 9) (w' := w8) Sa1 rfl rfl (by rfl) (by exact exec_mapUpdate _ (.tmp 29) (.tmp 32) (.tmp 34) rfl rfl rfl rfl hrun) Sa1t.out (.inl (by kernel_rfl)) st_ ?_
          clear hS st_ hrun hd8 ht8 q0 q1 q2 q3
          clear w_
          refine wpX_done (by kernel_rfl) (fun W hS => ?_) _
          obtain ⟨q0, q1⟩ := Sa1u.out _ hS
          clear hS Sa0u Sa0m Sa0t Sa1u Sa1m Sa1t
          clear Sa0 Sa1

          have BB := Lib.hid (And.intro q0 q1)
          clear q0 q1 B HN HX
          have hkb : (k : Int) ≤ 1000000000 := by have := HLL.out; omega
          go_wp2
          go_round
          case rel => exact ⟨k + 1, by omega, val_int (by simp), BB⟩
          case measure => simp only [intOf]; omega
        · have hke : k = D.act.loose.length := by omega
          have HE := Lib.hid hke
          obtain ⟨c0, c1, c2, c4, c6, c7, f3, f4, f5⟩ := B.out.1.six
          clear c0 c1 c2 c6 c7 f4 f5
          clear hk hke
          go_wp2
          go_ret
          refine ⟨?_, nilv, ?_, ?_, fun g hg => by simp [nilv, Value.ownBlock] at hg⟩
          · rfl
          · rw [HF.out HZ.out.symm, ← HE.out]
            exact B.out.1.push (Loose.nil _) (Dsk.Ok.loose_nil B.out.1.ok)
          · exact ((HT.out.mono (fun k hk _ => mem_own.2 (.inl (by simpa using hk)))).trans B.out.2 (fun _ h _ => h)).set (.inl (mem_own.2 (.inl rfl))) _
end Go.Proofs.Ytapllljbbldfkaa
