/- Walks: the document's disk: Flush. -/
import Derived.Test.YtapllljbbldfkaaW19
namespace Go.Proofs.Ytapllljbbldfkaa
open Go.RowKit Go.Maps

theorem fasts_upd (s : Nat) (f : Int → List Nat) (j : Nat) (l : List Nat) : fasts s (upd f j l) = (fasts s f).set j (.string (str l)) := by
  apply List.ext_getElem?
  intro i
  unfold fasts
  rw [List.getElem?_set]
  by_cases h : i = j
  · subst h
    by_cases hs : i < s <;> simp [hs, upd_self]
  · have h' : ¬ j = i := fun e => h e.symm
    rw [if_neg h']
    by_cases hs : i < s
    · simp [hs]
      rw [upd_other _ _ (by omega)]
    · simp [hs]
theorem flush_eq (D : Dsk) (h1 : D.down = false) (h2 : D.act.down = false) : D.flush = { D.act with fast := settle D.fast D.loose, loose := [] } ∧ D.flushErr = 0 := by
  unfold Dsk.flush Dsk.flushErr
  rw [h1]
  simp [h2]

set_option maxHeartbeats 8000000 in
theorem Flush_ref (D : Dsk) (hD : D.Ok) (FA LA : Option Addr) (fc lc : Nat) (w : World) (hr : Rows w D (.slice FA D.sectors fc) (.slice LA D.loose.length lc)) (hL : D.loose.length ≤ 1000000) :
    Calls Try.prog 19 #[RV D (.slice FA D.sectors fc) (.slice LA D.loose.length lc)] w fun e w' => ∃ fv lv, e = .returned (.tuple #[RV D.flush fv lv, .int .i64 D.flushErr]) ∧ Rows w' D.flush fv lv ∧ Below w.heap.size w w' := by
  obtain ⟨dn, hdn⟩ : ∃ dn, dn = D.down := ⟨_, rfl⟩
  obtain ⟨w1, hw1, hB, hC, hg⟩ := boxes45 w (.int .i64 D.sectors) (.int .i64 D.size) (.slice FA D.sectors fc) (.slice LA D.loose.length lc) (.int .i64 D.armed) (.bool dn)
  have hRV : RV D (.slice FA D.sectors fc) (.slice LA D.loose.length lc) = .agg #[.int .i64 D.sectors, .int .i64 D.size, (.slice FA D.sectors fc), (.slice LA D.loose.length lc), .int .i64 D.armed, .bool dn] := by rw [hdn]; rfl
  have HEA := Lib.hid (early45 (.int .i64 D.sectors) (.int .i64 D.size) (.slice FA D.sectors fc) (.slice LA D.loose.length lc) (.int .i64 D.armed) (.bool dn) hr)
  have hR := hr.grew hg
  have HW1 := Lib.hid hw1
  have HB := Lib.hid hB
  have HC := Lib.hid hC
  have HG := Lib.hid hg
  have HR := Lib.hid hR
  have HL := Lib.hid hL
  have HDN := Lib.hid hdn
  have HOK := Lib.hid hD
  have HRV := Lib.hid hRV
  have HACT := Lib.hid (act_ref D FA LA D.sectors fc D.loose.length lc w1 hD.arm0 hD.arm1)
  rw [hRV]
  cases dn with
  | true =>
    have e1 : D.flushErr = 4 := by unfold Dsk.flushErr; simp [← hdn]
    have e2 : D.flush = D := by unfold Dsk.flush; simp [← hdn]
    rw [e1, e2]
    clear hw1 hB hC hg hR hr hL hdn hD hRV e1 e2 HB HC HG HR HW1 HACT
    go_enter Try.func19, Try.ntmps19
    go_wp2
    exact bodyPost_ret (results_cell6t rfl HEA.out.1 rfl) rfl ⟨_, _, by rw [HRV.out]; rfl, HEA.out.2⟩
  | false =>
    obtain ⟨z, hz⟩ : ∃ z, z = D.act.down := ⟨_, rfl⟩
    have HZ := Lib.hid hz
    have HFE := Lib.hid (show (z = true → D.flush = D.act ∧ D.flushErr = 4) ∧ (z = false → D.flush = { D.act with fast := settle D.fast D.loose, loose := [] } ∧ D.flushErr = 0) from
      ⟨fun h => by unfold Dsk.flush Dsk.flushErr; simp [← hdn, ← hz, h], fun h => flush_eq D hdn.symm (hz ▸ h)⟩)
    obtain ⟨fe, hfe⟩ : ∃ fe, fe = D.flushErr := ⟨_, rfl⟩
    obtain ⟨DF, hDF⟩ : ∃ DF, DF = D.flush := ⟨_, rfl⟩
    rw [← hfe, ← hDF]
    have HFX := Lib.hid (And.intro hfe hDF)
    clear hw1 hB hC hg hR hr hL hdn hD hRV hz HEA hfe hDF
    go_enter Try.func19, Try.ntmps19
    go_wp2_with fail
    rw [← HW1.out, ← HRV.out]
    refine HACT.out.mono ?_
    rintro e w3 ⟨rfl, hb3⟩
    obtain ⟨ac, hac⟩ : ∃ ac, ac = D.act.armed := ⟨_, rfl⟩
    unfold RV
    rw [Dsk.act_sectors, Dsk.act_size, ← hac, ← HZ.out]
    have HAC := Lib.hid hac
    obtain ⟨r30, r31, r32, r33, r34, r35, u30, u31, u32, u33, u34, u35⟩ := (HB.out.grew hb3).six
    obtain ⟨w4, hw4⟩ : ∃ w4, w4 = lay6 w3 w.heap.size (.int .i64 D.sectors) (.int .i64 D.size) (.slice FA D.sectors fc) (.slice LA D.loose.length lc) (.int .i64 ac) (.bool z) := ⟨_, rfl⟩
    have hB4 : Blk w4 w.heap.size #[.int .i64 D.sectors, .int .i64 D.size, (.slice FA D.sectors fc), (.slice LA D.loose.length lc), .int .i64 ac, .bool z] 45 := by rw [hw4]; exact set6 (HB.out.grew hb3) _ _ _ _ _ _
    have ht4 : Turn [w.heap.size] w3 w4 := by rw [hw4]; exact lay6_turn _ _ _ _ _ _ _ _
    have hC4 : Blk w4 (w.heap.size + 1) #[.int .i64 0, .int .i64 0, .slice none 0 0, .slice none 0 0, .int .i64 0, .bool false] 45 := (ht4.block _ (HC.out.grew hb3).lt (by simp)).trans (HC.out.grew hb3)
    have hg4 : Below w.heap.size w w4 := (grow HG.out hb3).trans (ht4.below (grow HG.out hb3).size (by simp))
    have hR4 : Rows w4 D (.slice FA D.sectors fc) (.slice LA D.loose.length lc) := (HR.out.grew hb3).turn ht4 (fun j hj cs t e => by
      simp at hj; subst hj
      have hh := HB.out.grew hb3
      unfold Blk at hh
      rw [hh] at e; cases e; decide)
    have q4 : (((((w3.setCell ⟨w.heap.size, 0, none⟩ (.int .i64 D.sectors)).setCell ⟨w.heap.size, 1, none⟩ (.int .i64 D.size)).setCell ⟨w.heap.size, 2, none⟩ (.slice FA D.sectors fc)).setCell ⟨w.heap.size, 3, none⟩ (.slice LA D.loose.length lc)).setCell ⟨w.heap.size, 4, none⟩ (.int .i64 ac)).setCell ⟨w.heap.size, 5, none⟩ (.bool z) = w4 := hw4.symm
    obtain ⟨s40, s41, s42, s43, s44, s45, v40, v41, v42, v43, v44, v45⟩ := hB4.six
    have hbs : w.heap.size < w4.heap.size := hB4.lt
    cases z with
    | true =>
      have HOUT := Lib.hid (Out.mk' (w := w) hB4 hC4 hg4 (Nat.le_succ _))
      have HRES := Lib.hid ((Out.mk' (w := w) hB4 hC4 hg4 (Nat.le_succ _)).rows hC4 hR4)
      obtain ⟨m0, m1, m2, m3, m4, m5, z0, z1, z2, z3, z4, z5⟩ := hC4.six
      clear hB4 ht4 hC4 hg4 hR4 HB HC HG HR hac hb3 hw4
      go_wp2
      refine bodyPost_ret (results_cell6t rfl HOUT.out.res rfl) rfl ⟨(.slice FA D.sectors fc), (.slice LA D.loose.length lc), ?_, ?_, HOUT.out.low⟩
      · rw [HFX.out.1, HFX.out.2, (HFE.out.1 trivial).1, (HFE.out.1 trivial).2]
        unfold RV
        simp only [Dsk.act_sectors, Dsk.act_size, ← HAC.out, ← HZ.out]
        rfl
      · rw [HFX.out.2, (HFE.out.1 trivial).1]
        refine ⟨?_, ?_⟩
        · show SRow _ _ D.act.sectors D.act.fast
          rw [Dsk.act_sectors, Dsk.act_fast]; exact HRES.out.f
        · show WRow _ _ D.act.loose
          rw [Dsk.act_loose]; exact HRES.out.l
    | false =>
      obtain ⟨A1, c1, w6, happ1, ho1, hb6⟩ := copyS hR4.f (fasts_one _ _) (by have := HOK.out.s2; omega)
      have hB6 := hB4.grew hb6
      obtain ⟨w7, hw7⟩ : ∃ w7, w7 = w6.setCell ⟨w.heap.size, 2, none⟩ (.slice A1 D.sectors c1) := ⟨_, rfl⟩
      have ht7 : Turn [w.heap.size] w6 w7 := by rw [hw7]; exact (Turn.refl [w.heap.size] w6).set (a := ⟨w.heap.size, 2, none⟩) (.inl (by simp)) _
      have hnot : ∀ {v : Value} {t : TypeId} {sz n : Nat} {xs : List Value} {bb : Nat}, w6.ownsRow bb t sz v n xs → t ≠ 45 → ∀ g, v.ownBlock = some g → g ∉ [w.heap.size] := fun hrow ht g hg hm => by
        simp at hm; subst hm
        obtain ⟨cs, e⟩ := row_kind hrow hg
        have hh := hB6
        unfold Blk at hh
        rw [hh] at e; cases e; exact ht rfl
      have HH := Lib.hid (show Blk w7 w.heap.size #[.int .i64 D.sectors, .int .i64 D.size, (.slice A1 D.sectors c1), (.slice LA D.loose.length lc), .int .i64 ac, .bool false] 45 ∧ Blk w7 (w.heap.size + 1) #[.int .i64 0, .int .i64 0, .slice none 0 0, .slice none 0 0, .int .i64 0, .bool false] 45 ∧ w7.ownsRow w.heap.size 9 1 (.slice A1 D.sectors c1) D.sectors (fasts D.sectors (settle D.fast (D.loose.take 0))) ∧ WRow w7 (.slice LA D.loose.length lc) D.loose ∧ Below w.heap.size w w7 from by
        refine ⟨by rw [hw7]; have := hB6.set 2 (.slice A1 D.sectors c1); simpa using this, (ht7.block _ (hC4.grew hb6).lt (by simp)).trans (hC4.grew hb6), row_turn (row_base (Nat.le_of_lt hbs) ho1) ht7 (hnot ho1 (by decide)), row_turn (row_grew hR4.l hb6) ht7 (hnot (row_grew hR4.l hb6) (by decide)), (grow hg4 hb6).trans (ht7.below (grow hg4 hb6).size (by simp))⟩)
      have q7 : w6.setCell ⟨w.heap.size, 2, none⟩ (.slice A1 D.sectors c1) = w7 := hw7.symm
      have k62 : w6.cell? ⟨w.heap.size, 2, none⟩ = some (.slice FA D.sectors fc) := hB6.cell 2
      have f62 := hB6.free 2
      have HA1 := Lib.hid happ1
      clear hB4 ht4 hC4 hg4 hR4 HB HC HG HR hac hb3 hw4 ho1 hb6 hB6 ht7 hnot hw7 happ1
      go_wp2_with (at_builtin; refine Lib.wpList_append_run _ rfl (.tmp 13) (.tmp 15) 42 42 rfl _ _ rfl rfl _ w6 HA1.out ?_)
      clear q4 q7 k62 f62 s40 s41 s42 s43 s44 s45 v40 v41 v42 v43 v44 v45 r30 r31 r32 r33 r34 r35 u30 u31 u32 u33 u34 u35 HA1
      go_loopw [4] (fun i wr => ∃ k : Nat, k ≤ D.loose.length ∧ i = .int .i64 k ∧ Hid (Blk wr w.heap.size #[.int .i64 D.sectors, .int .i64 D.size, (.slice A1 D.sectors c1), (.slice LA D.loose.length lc), .int .i64 ac, .bool false] 45 ∧ Blk wr (w.heap.size + 1) #[.int .i64 0, .int .i64 0, .slice none 0 0, .slice none 0 0, .int .i64 0, .bool false] 45 ∧ wr.ownsRow w.heap.size 9 1 (.slice A1 D.sectors c1) D.sectors (fasts D.sectors (settle D.fast (D.loose.take k))) ∧ WRow wr (.slice LA D.loose.length lc) D.loose ∧ Below w.heap.size w wr)) (fun i _ => D.loose.length - (intOf i).toNat)
      case atStart => exact ⟨0, by omega, rfl, HH⟩
      case round =>
        clear HH
        obtain ⟨k, hk, rfl, B⟩ := hrel
        have hLb : (D.loose.length : Int) ≤ 1000000 := by have := HL.out; omega
        have k3 := B.out.1.cell 3
        by_cases hlt : k < D.loose.length
        · obtain ⟨gL, lc', e, _, hc0, hc1, hgL⟩ := B.out.2.2.2.1.at_ hlt
          injection e with e1 _ e2
          subst e1 e2
          obtain ⟨gF, fc', e, _, hgF⟩ := row_some B.out.2.2.1 (by have := HOK.out.s1; omega)
          injection e with e1 _ e2
          subst e1 e2
          have hx := HOK.out.lose _ (List.getElem_mem hlt)
          have hset := settle_take D.fast D.loose k hlt
          obtain ⟨j, hj⟩ := Int.eq_ofNat_of_zero_le hx.1
          have hx2 := hx.2.1
          have HX0 := Lib.hid (wstrs_get hlt)
          obtain ⟨⟨xx, ll⟩, hxl⟩ : ∃ q, q = D.loose[k] := ⟨_, rfl⟩
          rw [← hxl] at hc0 hc1 hset hj hx2
          simp only at hc0 hc1 hset hj hx2
          subst hj
          obtain ⟨S, hS⟩ : ∃ S, S = str ll := ⟨_, rfl⟩
          rw [← hS] at hc1
          have HX := Lib.hid (show Value.int .i64 (j : Nat) = .int .i64 D.loose[k].1 ∧ Value.string S = .string (str D.loose[k].2) from ⟨by rw [← hxl], by rw [← hxl, hS]⟩)
          have HKL := Lib.hid hlt
          have HJ := Lib.hid (show j < D.sectors by omega)
          have HJB := Lib.hid (show (j : Int) < D.sectors by omega)
          have HSET := Lib.hid (show fasts D.sectors (settle D.fast (D.loose.take (k + 1))) = (fasts D.sectors (settle D.fast (D.loose.take k))).set j (.string S) by rw [hset, hS]; exact fasts_upd _ _ _ _)
          clear hx hset hx2 hS hgL hgF hxl HX0
          go_wp2_with fail
          refine wp_region_H (fun v => v.cell? ⟨w.heap.size, 2, none⟩ = some (.slice (some ⟨gF, 0, none⟩) D.sectors c1) ∧ v.cell? ⟨w.heap.size, 3, none⟩ = some (.slice (some ⟨gL, 0, none⟩) D.loose.length lc) ∧ v.cell? ⟨gL, k * 2, none⟩ = some (.int .i64 (j : Nat)) ∧ v.cell? ⟨gL, k * 2 + 1, none⟩ = some (.string S)) (by kernel_rfl) (fun v0 hv0 => ?_)
          have hS0 : (fun v => v.cell? ⟨w.heap.size, 2, none⟩ = some (.slice (some ⟨gF, 0, none⟩) D.sectors c1) ∧ v.cell? ⟨w.heap.size, 3, none⟩ = some (.slice (some ⟨gL, 0, none⟩) D.loose.length lc) ∧ v.cell? ⟨gL, k * 2, none⟩ = some (.int .i64 (j : Nat)) ∧ v.cell? ⟨gL, k * 2 + 1, none⟩ = some (.string S)) v0 := by subst hv0; exact ⟨B.out.1.cell 2, B.out.1.cell 3, hc0, hc1⟩
          have Y0 : Blk v0 w.heap.size #[.int .i64 D.sectors, .int .i64 D.size, (.slice (some ⟨gF, 0, none⟩) D.sectors c1), (.slice (some ⟨gL, 0, none⟩) D.loose.length lc), .int .i64 ac, .bool false] 45 ∧ Blk v0 (w.heap.size + 1) #[.int .i64 0, .int .i64 0, .slice none 0 0, .slice none 0 0, .int .i64 0, .bool false] 45 ∧ v0.ownsRow w.heap.size 9 1 (.slice (some ⟨gF, 0, none⟩) D.sectors c1) D.sectors (fasts D.sectors (settle D.fast (D.loose.take k))) ∧ WRow v0 (.slice (some ⟨gL, 0, none⟩) D.loose.length lc) D.loose ∧ Below w.heap.size w v0 := by subst hv0; exact ⟨B.out.1.drew, B.out.2.1.drew, row_drew B.out.2.2.1, row_drew B.out.2.2.2.1, below_drew B.out.2.2.2.2⟩
          clear hv0 B hc0 hc1
          have hjs := HJ.out
          have hjb := HJB.out
          refine wpH_take (i := 0) (v := ?_) rfl rfl (by kernel_rfl) (by kernel_rfl) (by kernel_rfl) (fun _ _ _ h => h) (Or.inl ⟨by rfl, ?_⟩) hS0 ?_
          rotate_left
          · (intro w_ hw_; go_simp; try with_reducible rfl)
          simp only [List.setIfInBounds_toArray, List.set_cons_zero, List.set_cons_succ]
          refine wpH_take (i := 1) (v := ?_) rfl rfl (by kernel_rfl) (by kernel_rfl) (by kernel_rfl) (fun _ _ _ h => h) (Or.inl ⟨by rfl, ?_⟩) hS0 ?_
          rotate_left
          · (intro w_ hw_; obtain ⟨q0, q1, q2, q3⟩ := hw_; go_simp; try with_reducible rfl)
          simp only [List.setIfInBounds_toArray, List.set_cons_zero, List.set_cons_succ]
          refine wpH_take (i := 2) (v := ?_) rfl rfl (by kernel_rfl) (by kernel_rfl) (by kernel_rfl) (fun _ _ _ h => h) (Or.inl ⟨by rfl, ?_⟩) hS0 ?_
          rotate_left
          · (intro w_ hw_; go_simp; try with_reducible rfl)
          simp only [List.setIfInBounds_toArray, List.set_cons_zero, List.set_cons_succ]
          refine wpH_take (i := 3) (v := ?_) rfl rfl (by kernel_rfl) (by kernel_rfl) (by kernel_rfl) (fun _ _ _ h => h) (Or.inl ⟨by rfl, ?_⟩) hS0 ?_
          rotate_left
          · (intro w_ hw_; obtain ⟨q0, q1, q2, q3⟩ := hw_; go_simp; try with_reducible rfl)
          simp only [List.setIfInBounds_toArray, List.set_cons_zero, List.set_cons_succ]
          refine wpH_take (i := 4) (v := ?_) rfl rfl (by kernel_rfl) (by kernel_rfl) (by kernel_rfl) (fun _ _ _ h => h) (Or.inl ⟨by rfl, ?_⟩) hS0 ?_
          rotate_left
          · (intro w_ hw_; go_simp; try with_reducible rfl)
          simp only [List.setIfInBounds_toArray, List.set_cons_zero, List.set_cons_succ]
          refine wpH_take (i := 5) (v := ?_) rfl rfl (by kernel_rfl) (by kernel_rfl) (by kernel_rfl) (fun _ _ _ h => h) (Or.inl ⟨by rfl, ?_⟩) hS0 ?_
          rotate_left
          · (intro w_ hw_; go_simp; try with_reducible rfl)
          simp only [List.setIfInBounds_toArray, List.set_cons_zero, List.set_cons_succ]
          refine wpH_take (i := 6) (v := ?_) rfl rfl (by kernel_rfl) (by kernel_rfl) (by kernel_rfl) (fun _ _ _ h => h) (Or.inl ⟨by rfl, ?_⟩) hS0 ?_
          rotate_left
          · (intro w_ hw_; go_simp; try with_reducible rfl)
          simp only [List.setIfInBounds_toArray, List.set_cons_zero, List.set_cons_succ]
          refine wpH_take (i := 7) (v := ?_) rfl rfl (by kernel_rfl) (by kernel_rfl) (by kernel_rfl) (fun _ _ _ h => h) (Or.inl ⟨by rfl, ?_⟩) hS0 ?_
          rotate_left
          · (intro w_ hw_; obtain ⟨q0, q1, q2, q3⟩ := hw_; go_simp; try with_reducible rfl)
          simp only [List.setIfInBounds_toArray, List.set_cons_zero, List.set_cons_succ]
          refine wpH_take (i := 8) (v := ?_) rfl rfl (by kernel_rfl) (by kernel_rfl) (by kernel_rfl) (fun _ _ _ h => h) (Or.inl ⟨by rfl, ?_⟩) hS0 ?_
          rotate_left
          · (intro w_ hw_; go_simp; try with_reducible rfl)
          simp only [List.setIfInBounds_toArray, List.set_cons_zero, List.set_cons_succ]
          refine wpH_take (i := 9) (v := ?_) rfl rfl (by kernel_rfl) (by kernel_rfl) (by kernel_rfl) (fun _ _ _ h => h) (Or.inl ⟨by rfl, ?_⟩) hS0 ?_
          rotate_left
          · (intro w_ hw_; obtain ⟨q0, q1, q2, q3⟩ := hw_; go_simp; try with_reducible rfl)
          simp only [List.setIfInBounds_toArray, List.set_cons_zero, List.set_cons_succ]
          refine wpH_take (i := 10) (v := ?_) rfl rfl (by kernel_rfl) (by kernel_rfl) (by kernel_rfl) (fun _ _ _ h => h) (Or.inl ⟨by rfl, ?_⟩) hS0 ?_
          rotate_left
          · (intro w_ hw_; go_simp; try with_reducible rfl)
          simp only [List.setIfInBounds_toArray, List.set_cons_zero, List.set_cons_succ]
          refine wpH_take (i := 11) (v := ?_) rfl rfl (by kernel_rfl) (by kernel_rfl) (by kernel_rfl) (fun _ _ _ h => h) (Or.inl ⟨by rfl, ?_⟩) hS0 ?_
          rotate_left
          · (intro w_ hw_; go_simp; try with_reducible rfl)
          simp only [List.setIfInBounds_toArray, List.set_cons_zero, List.set_cons_succ]
          refine wpH_take (i := 12) (v := ?_) rfl rfl (by kernel_rfl) (by kernel_rfl) (by kernel_rfl) (fun _ _ _ h => h) (Or.inl ⟨by rfl, ?_⟩) hS0 ?_
          rotate_left
          · (intro w_ hw_; go_simp; try with_reducible rfl)
          simp only [List.setIfInBounds_toArray, List.set_cons_zero, List.set_cons_succ]
          refine wpH_take (i := 13) (v := ?_) rfl rfl (by kernel_rfl) (by kernel_rfl) (by kernel_rfl) (fun _ _ _ h => h) (Or.inl ⟨by rfl, ?_⟩) hS0 ?_
          rotate_left
          · (intro w_ hw_; obtain ⟨q0, q1, q2, q3⟩ := hw_; go_simp; try with_reducible rfl)
          simp only [List.setIfInBounds_toArray, List.set_cons_zero, List.set_cons_succ]
          refine wpH_take (i := 14) (v := ?_) rfl rfl (by kernel_rfl) (by kernel_rfl) (by kernel_rfl) (fun _ _ _ h => h) (Or.inl ⟨by rfl, ?_⟩) hS0 ?_
          rotate_left
          · (intro w_ hw_; go_simp; try with_reducible rfl)
          simp only [List.setIfInBounds_toArray, List.set_cons_zero, List.set_cons_succ]
          have hst := Y0.2.2.1.stored j (.string S)
          have hfz := Y0.2.2.1.frozenAt j
          have hcl := World.ownsRow.cells Y0.2.2.1 (g := gF) rfl j _ (fasts_get _ HJ.out)
          rw [addr_add] at hcl
          have ht : Turn [gF] v0 (v0.setCell ⟨gF, j, none⟩ (.string S)) := (Turn.refl [gF] v0).set (a := ⟨gF, j, none⟩) (.inl (by simp)) _
          have hkF := row_kind Y0.2.2.1 (g := gF) rfl
          have hnB : ∀ (x : Nat) (cs : Array Value), Blk v0 x cs 45 → x ∉ [gF] := fun x cs hx hm => by
            simp at hm
            obtain ⟨cs', e⟩ := hkF
            unfold Blk at hx
            rw [hm] at hx
            rw [hx] at e; cases e
          have hgl : ∀ g, (Value.slice (some ⟨gL, 0, none⟩) D.loose.length lc).ownBlock = some g → g ∉ [gF] := fun g hg hm => by
            simp at hm
            obtain ⟨cs', e⟩ := hkF
            obtain ⟨cs2, e2⟩ := row_kind Y0.2.2.2.1 hg
            rw [hm] at e2
            rw [e] at e2; cases e2
          have hglt := (Y0.2.2.1.lt gF rfl).1
          have hY : Blk (v0.setCell ⟨gF, j, none⟩ (.string S)) w.heap.size #[.int .i64 D.sectors, .int .i64 D.size, (.slice (some ⟨gF, 0, none⟩) D.sectors c1), (.slice (some ⟨gL, 0, none⟩) D.loose.length lc), .int .i64 ac, .bool false] 45 ∧ Blk (v0.setCell ⟨gF, j, none⟩ (.string S)) (w.heap.size + 1) #[.int .i64 0, .int .i64 0, .slice none 0 0, .slice none 0 0, .int .i64 0, .bool false] 45 ∧ (v0.setCell ⟨gF, j, none⟩ (.string S)).ownsRow w.heap.size 9 1 (.slice (some ⟨gF, 0, none⟩) D.sectors c1) D.sectors (fasts D.sectors (settle D.fast (D.loose.take (k + 1)))) ∧ WRow (v0.setCell ⟨gF, j, none⟩ (.string S)) (.slice (some ⟨gL, 0, none⟩) D.loose.length lc) D.loose ∧ Below w.heap.size w (v0.setCell ⟨gF, j, none⟩ (.string S)) :=
            ⟨(ht.block _ Y0.1.lt (hnB _ _ Y0.1)).trans Y0.1, (ht.block _ Y0.2.1.lt (hnB _ _ Y0.2.1)).trans Y0.2.1, by rw [HSET.out]; exact hst.1, row_turn Y0.2.2.2.1 ht hgl, Y0.2.2.2.2.trans (ht.below Y0.2.2.2.2.size (by intro i hi; simp at hi; omega))⟩
          have hcL0 := World.ownsRow.cells hY.2.2.2.1 (g := gL) rfl _ _ (wstrs_get HKL.out).1
          have hcL1 := World.ownsRow.cells hY.2.2.2.1 (g := gL) rfl _ _ (wstrs_get HKL.out).2
          rw [addr_add] at hcL0 hcL1
          have hX := HX.out
          rw [← hX.1] at hcL0
          rw [← hX.2] at hcL1
          have hS1 : (fun v => v.cell? ⟨w.heap.size, 2, none⟩ = some (.slice (some ⟨gF, 0, none⟩) D.sectors c1) ∧ v.cell? ⟨w.heap.size, 3, none⟩ = some (.slice (some ⟨gL, 0, none⟩) D.loose.length lc) ∧ v.cell? ⟨gL, k * 2, none⟩ = some (.int .i64 (j : Nat)) ∧ v.cell? ⟨gL, k * 2 + 1, none⟩ = some (.string S)) (v0.setCell ⟨gF, j, none⟩ (.string S)) := ⟨hY.1.cell 2, hY.1.cell 3, hcL0, hcL1⟩
          clear hS0
          refine wpH_store (i := 15) (w' := (v0.setCell ⟨gF, j, none⟩ (.string S))) (by kernel_rfl) rfl rfl (by rfl) (by go_simp) hS1 ?_
          have HY := Lib.hid hY
          clear hst hfz hcl ht hkF hnB hgl hglt hY hcL0 hcL1 hX Y0 hjs hjb
          clear hS1
          refine wpAnyH_done (by kernel_rfl) ?_ _

          go_wp2
          go_round
          case rel => exact ⟨k + 1, by omega, val_int (by simp), HY⟩
          case measure => simp only [intOf]; omega
        · have hke : k = D.loose.length := by omega
          have hset : settle D.fast (D.loose.take k) = settle D.fast D.loose := by rw [hke, List.take_length]
          have HKE := Lib.hid hset
          obtain ⟨w9, hw9⟩ : ∃ w9, w9 = wr.setCell ⟨w.heap.size, 3, none⟩ (.slice none 0 0) := ⟨_, rfl⟩
          have ht9 : Turn [w.heap.size] wr w9 := by rw [hw9]; exact (Turn.refl [w.heap.size] wr).set (a := ⟨w.heap.size, 3, none⟩) (.inl (by simp)) _
          have hB9 : Blk w9 w.heap.size #[.int .i64 D.sectors, .int .i64 D.size, (.slice A1 D.sectors c1), .slice none 0 0, .int .i64 ac, .bool false] 45 := by rw [hw9]; have := B.out.1.set 3 (.slice none 0 0); simpa using this
          have hC9 : Blk w9 (w.heap.size + 1) #[.int .i64 0, .int .i64 0, .slice none 0 0, .slice none 0 0, .int .i64 0, .bool false] 45 := (ht9.block _ B.out.2.1.lt (by simp)).trans B.out.2.1
          have hg9 : Below w.heap.size w w9 := B.out.2.2.2.2.trans (ht9.below B.out.2.2.2.2.size (by simp))
          have hF9 : w9.ownsRow w.heap.size 9 1 (.slice A1 D.sectors c1) D.sectors (fasts D.sectors (settle D.fast D.loose)) := by
            rw [← hset]
            exact row_turn B.out.2.2.1 ht9 (fun g hg hm => by
              simp at hm; subst hm
              obtain ⟨cs, e⟩ := row_kind B.out.2.2.1 hg
              have hh := B.out.1
              unfold Blk at hh
              rw [hh] at e; cases e)
          have hR9 : Rows w9 { D.act with fast := settle D.fast D.loose, loose := [] } (.slice A1 D.sectors c1) (.slice none 0 0) := by
            refine ⟨?_, World.ownsRow_nil _ _ _ _⟩
            show SRow w9 _ D.act.sectors _
            rw [Dsk.act_sectors]
            exact row_base (Nat.zero_le _) hF9
          have HOUT := Lib.hid (Out.mk' (w := w) hB9 hC9 hg9 (Nat.le_succ _))
          have HRES := Lib.hid ((Out.mk' (w := w) hB9 hC9 hg9 (Nat.le_succ _)).rows hC9 hR9)
          have q9 : wr.setCell ⟨w.heap.size, 3, none⟩ (.slice none 0 0) = w9 := hw9.symm
          obtain ⟨m0, m1, m2, m3, m4, m5, z0, z1, z2, z3, z4, z5⟩ := hC9.six
          obtain ⟨n0, n1, n2, n3, n4, n5, -⟩ := hB9.six
          have f3 := B.out.1.free 3
          clear ht9 hB9 hC9 hg9 hF9 hR9 hset hke hw9
          go_wp2
          refine bodyPost_ret (results_cell6t rfl HOUT.out.res rfl) rfl ⟨(.slice A1 D.sectors c1), .slice none 0 0, ?_, by rw [HFX.out.2, (HFE.out.2 trivial).1]; exact HRES.out, HOUT.out.low⟩
          rw [HFX.out.1, HFX.out.2, (HFE.out.2 trivial).1, (HFE.out.2 trivial).2]
          unfold RV
          simp only [Dsk.act_sectors, Dsk.act_size, ← HAC.out, ← HZ.out]
          rfl
end Go.Proofs.Ytapllljbbldfkaa
