/- Walks: the document's disk: Crash. -/
import Derived.Test.YtapllljbbldfkaaW20
namespace Go.Proofs.Ytapllljbbldfkaa
open Go.RowKit Go.Maps

theorem str_take (l : List Nat) (n : Nat) : (str l).extract 0 n = str (l.take n) := by
  unfold str
  apply ByteArray.ext
  simp [ByteArray.extract, ByteArray.copySlice]
theorem str_drop (l : List Nat) (n : Nat) : (str l).extract n (str l).size = str (l.drop n) := by
  unfold str
  apply ByteArray.ext
  simp [ByteArray.extract, ByteArray.copySlice, ByteArray.size]
  rw [List.take_of_length_le (by simp)]
theorem str_append (a b : List Nat) : str a ++ str b = str (a ++ b) := by
  apply ByteArray.ext
  simp [str]
theorem exec_strTo {ev : Operand → Value} {o : Oper} (x t : Operand) (ho : o.op = .slice 9 x none (some t) none) {l : List Nat} {n : Nat} {w : World} (hx : ev x = .string (str l)) (ht : ev t = .int .i64 (n : Int)) (hn : n ≤ l.length) :
    (execOp ev o).run Try.prog w = .ok (.value (.string (str (l.take n)))) w := by
  unfold execOp
  simp only [ho, Option.map_some, Option.map_none, hx, ht]
  go_simp
  rw [if_pos (by rw [str_size]; exact hn), str_take]
theorem exec_strFrom {ev : Operand → Value} {o : Oper} (x t : Operand) (ho : o.op = .slice 9 x (some t) none none) {l : List Nat} {n : Nat} {w : World} (hx : ev x = .string (str l)) (ht : ev t = .int .i64 (n : Int)) (hn : n ≤ l.length) :
    (execOp ev o).run Try.prog w = .ok (.value (.string (str (l.drop n)))) w := by
  unfold execOp
  simp only [ho, Option.map_some, Option.map_none, hx, ht]
  go_simp
  rw [if_pos (by rw [str_size]; exact hn), str_drop]
theorem exec_strAdd {ev : Operand → Value} {o : Oper} (x y : Operand) (ho : o.op = .binOp .add 9 x y 9) {a b : List Nat} {w : World} (hx : ev x = .string (str a)) (hy : ev y = .string (str b)) (hab : a.length + b.length ≤ 1000000) :
    (execOp ev o).run Try.prog w = .ok (.value (.string (str (a ++ b)))) w := by
  unfold execOp
  simp only [ho, hx, hy]
  go_simp
  rw [if_neg (by rw [str_size, str_size]; omega), str_append]

theorem stands_wrow (v : Value) (L : List (Int × List Nat)) : Stands fun w => WRow w v L := fun _ _ h k => row_grew k h

set_option maxHeartbeats 16000000 in
theorem Crash_ref (D : Dsk) (hD : D.Ok) (FA LA A : Option Addr) (fc lc m cf : Nat) (fs : List Int) (w : World) (hr : Rows w D (.slice FA D.sectors fc) (.slice LA D.loose.length lc)) (hL : D.loose.length ≤ 1000000) (hm : fs.length = m) (hf : IRd w A fs) (hfa : fs ≠ [] → ∀ p, A = some p → p.block < w.heap.size) :
    Calls Try.prog 22 #[RV D (.slice FA D.sectors fc) (.slice LA D.loose.length lc), .slice A m cf] w fun e w' => ∃ fv, e = .returned (RV (D.crash fs) fv (.slice none 0 0)) ∧ Rows w' (D.crash fs) fv (.slice none 0 0) ∧ Below w.heap.size w w' := by
  obtain ⟨dn, hdn⟩ : ∃ dn, dn = D.down := ⟨_, rfl⟩
  obtain ⟨w1, hw1, hB, hC, hg⟩ := boxes45 w (.int .i64 D.sectors) (.int .i64 D.size) (.slice FA D.sectors fc) (.slice LA D.loose.length lc) (.int .i64 D.armed) (.bool dn)
  have hRV : RV D (.slice FA D.sectors fc) (.slice LA D.loose.length lc) = .agg #[.int .i64 D.sectors, .int .i64 D.size, (.slice FA D.sectors fc), (.slice LA D.loose.length lc), .int .i64 D.armed, .bool dn] := by rw [hdn]; rfl
  have hR := hr.grew hg
  rw [hRV]
  have HL := Lib.hid hL
  have HOK := Lib.hid hD
  have HM := Lib.hid (And.intro hm hf)
  have HMA := Lib.hid hfa
  obtain ⟨A1, c1, w6, happ1, ho1, hb6⟩ := copyS hR.f (fasts_one _ _) (by have := HOK.out.s2; omega)
  have hB6 := hB.grew hb6
  obtain ⟨w7, hw7⟩ : ∃ w7, w7 = w6.setCell ⟨w.heap.size, 2, none⟩ (.slice A1 D.sectors c1) := ⟨_, rfl⟩
  have ht7 : Turn [w.heap.size] w6 w7 := by rw [hw7]; exact (Turn.refl [w.heap.size] w6).set (a := ⟨w.heap.size, 2, none⟩) (.inl (by simp)) _
  have hnot : ∀ {v : Value} {t : TypeId} {sz n : Nat} {xs : List Value} {bb : Nat}, w6.ownsRow bb t sz v n xs → t ≠ 45 → ∀ g, v.ownBlock = some g → g ∉ [w.heap.size] := fun hrow ht g hg hm => by
    simp at hm; subst hm
    obtain ⟨cs, e⟩ := row_kind hrow hg
    have hh := hB6
    unfold Blk at hh
    rw [hh] at e; cases e; exact ht rfl
  have HH := Lib.hid (show Blk w7 w.heap.size #[.int .i64 D.sectors, .int .i64 D.size, (.slice A1 D.sectors c1), (.slice LA D.loose.length lc), .int .i64 D.armed, .bool dn] 45 ∧ Blk w7 (w.heap.size + 1) #[.int .i64 0, .int .i64 0, .slice none 0 0, .slice none 0 0, .int .i64 0, .bool false] 45 ∧ w7.ownsRow w.heap.size 9 1 (.slice A1 D.sectors c1) D.sectors (fasts D.sectors (crashed D.size fs D.fast D.loose 0)) ∧ WRow w7 (.slice LA D.loose.length lc) D.loose ∧ Below w.heap.size w w7 from by
    refine ⟨by rw [hw7]; have := hB6.set 2 (.slice A1 D.sectors c1); simpa using this, (ht7.block _ (hC.grew hb6).lt (by simp)).trans (hC.grew hb6), row_turn (row_base hg.size ho1) ht7 (hnot ho1 (by decide)), row_turn (row_grew hR.l hb6) ht7 (hnot (row_grew hR.l hb6) (by decide)), (grow hg hb6).trans (ht7.below (grow hg hb6).size (by simp))⟩)
  have q7 : w6.setCell ⟨w.heap.size, 2, none⟩ (.slice A1 D.sectors c1) = w7 := hw7.symm
  have k62 : w6.cell? ⟨w.heap.size, 2, none⟩ = some (.slice FA D.sectors fc) := hB6.cell 2
  have f62 := hB6.free 2
  rw [hw1] at happ1
  simp only [World.size_alloc] at happ1
  have HA1 := Lib.hid happ1
  clear hB hC hg hR hr hL hdn hD hRV hw1 hm hf hfa ho1 hb6 hB6 ht7 hnot hw7 happ1
  go_enter Try.func22, Try.ntmps22
  go_wp2_with (at_builtin; refine Lib.wpList_append_run _ rfl (.tmp 8) (.tmp 10) 42 42 rfl _ _ rfl rfl _ w6 HA1.out ?_)
  clear q7 k62 f62 HA1
  go_loopw [5] (fun i wr => ∃ k : Nat, k ≤ D.loose.length ∧ i = .int .i64 k ∧ Hid (Blk wr w.heap.size #[.int .i64 D.sectors, .int .i64 D.size, (.slice A1 D.sectors c1), (.slice LA D.loose.length lc), .int .i64 D.armed, .bool dn] 45 ∧ Blk wr (w.heap.size + 1) #[.int .i64 0, .int .i64 0, .slice none 0 0, .slice none 0 0, .int .i64 0, .bool false] 45 ∧ wr.ownsRow w.heap.size 9 1 (.slice A1 D.sectors c1) D.sectors (fasts D.sectors (crashed D.size fs D.fast D.loose k)) ∧ WRow wr (.slice LA D.loose.length lc) D.loose ∧ Below w.heap.size w wr)) (fun i _ => D.loose.length - (intOf i).toNat)
  case atStart => exact ⟨0, by omega, rfl, HH⟩
  case round =>
    clear HH
    obtain ⟨k, hk, rfl, B⟩ := hrel
    have hLb : (D.loose.length : Int) ≤ 1000000 := by have := HL.out; omega
    have k3 := B.out.1.cell 3
    by_cases hlt : k < D.loose.length
    · obtain ⟨gL, lc', e, _, hc0, hc1, hgL⟩ := B.out.2.2.2.1.at_ hlt
      injection e with e1 _ e2
      subst e1 e2
      obtain ⟨gF, fc', e, _, hgF⟩ := row_some B.out.2.2.1 (by have := HOK.out.s1; omega)
      injection e with e1 _ e2
      subst e1 e2
      have hx := HOK.out.lose _ (List.getElem_mem hlt)
      have hset := crashed_step (size := D.size) (fs := fs) (f := D.fast) (L := D.loose) hlt
      obtain ⟨j, hj⟩ := Int.eq_ofNat_of_zero_le hx.1
      obtain ⟨hx1, hx2, hx3, _⟩ := hx
      obtain ⟨⟨xx, l⟩, hxl⟩ : ∃ q, q = D.loose[k] := ⟨_, rfl⟩
      rw [← hxl] at hc0 hc1 hset hj hx2 hx3
      simp only at hc0 hc1 hset hj hx2 hx3
      subst hj
      obtain ⟨cN, hcN⟩ : ∃ cN, cN = cutAt D.size fs k D.loose.length := ⟨_, rfl⟩
      rw [← hcN] at hset
      have HC := Lib.hid (show (k + 1 < D.loose.length → cN = D.size * pick (fs.drop k) 2) ∧ (¬ k + 1 < D.loose.length → cN = pick (fs.drop k) (D.size + 1)) ∧ cN ≤ D.size from
        ⟨fun h => by rw [hcN]; unfold cutAt; rw [if_pos h], fun h => by rw [hcN]; unfold cutAt; rw [if_neg h], by rw [hcN]; exact cutAt_le _ _ _ _⟩)
      have hz2 := HOK.out.z2
      have hz1 := HOK.out.z1
      obtain ⟨c2, hc2⟩ : ∃ c2, c2 = D.size * pick (fs.drop k) 2 := ⟨_, rfl⟩
      have hc2le : c2 ≤ D.size := by
        have := pick_lt (fs.drop k) (n := 2) (by omega)
        rw [hc2]
        calc D.size * pick (fs.drop k) 2 ≤ D.size * 1 := Nat.mul_le_mul_left _ (by omega)
          _ = D.size := by omega
      have HMUL := Lib.hid (show (D.size : Int) * (pick (fs.drop k) 2 : Nat) = (c2 : Int) by rw [hc2, Int.natCast_mul])
      have HWN2 := Lib.hid (show IntKind.i64.wrap (c2 : Int) = c2 by rw [IntWalk.i64_left]; unfold wrap64; omega)
      have HC2 := Lib.hid hc2
      have hszb : (D.size : Int) ≤ 4096 := by omega
      have hszc : (0 : Int) ≤ D.size := by omega
      have HJ := Lib.hid (show j < D.sectors by omega)
      have HJB := Lib.hid (show (j : Int) < D.sectors by omega)
      have HLL := Lib.hid (show l.length = D.size ∧ D.size ≤ 4096 from ⟨hx3, hz2⟩)
      have HFL := Lib.hid (show (crashed D.size fs D.fast D.loose k j).length = D.size from (crashed_ok (P := fun b => b < 256) (fun x => ⟨HOK.out.len x, HOK.out.byt x⟩) (L := D.loose) (fun e he => ⟨(HOK.out.lose e he).2.2.1, (HOK.out.lose e he).2.2.2⟩) k j).1)
      have HSET := Lib.hid (show fasts D.sectors (crashed D.size fs D.fast D.loose (k + 1)) = (fasts D.sectors (crashed D.size fs D.fast D.loose k)).set j (.string (str (l.take cN ++ (crashed D.size fs D.fast D.loose k j).drop cN))) by rw [hset]; exact fasts_upd _ _ _ _)
      have X : ∀ w', w' = wr.alloc (.cells #[.int .i64 (j : Nat), .string (str l)] 78) → (Blk w' w.heap.size #[.int .i64 D.sectors, .int .i64 D.size, (.slice (some ⟨gF, 0, none⟩) D.sectors c1), (.slice (some ⟨gL, 0, none⟩) D.loose.length lc), .int .i64 D.armed, .bool dn] 45 ∧ Blk w' (w.heap.size + 1) #[.int .i64 0, .int .i64 0, .slice none 0 0, .slice none 0 0, .int .i64 0, .bool false] 45 ∧ w'.ownsRow w.heap.size 9 1 (.slice (some ⟨gF, 0, none⟩) D.sectors c1) D.sectors (fasts D.sectors (crashed D.size fs D.fast D.loose k)) ∧ WRow w' (.slice (some ⟨gL, 0, none⟩) D.loose.length lc) D.loose ∧ Below w.heap.size w w') ∧ Blk w' wr.heap.size #[.int .i64 (j : Nat), .string (str l)] 78 := by
        rintro w' rfl
        have hg := (Below.refl wr.heap.size wr).alloc (Nat.le_refl _) (.cells #[.int .i64 (j : Nat), .string (str l)] 78)
        exact ⟨⟨B.out.1.grew hg, B.out.2.1.grew hg, row_grew B.out.2.2.1 hg, row_grew B.out.2.2.2.1 hg, grow B.out.2.2.2.2 hg⟩, Blk.new' _ _ _ rfl⟩
      have HX := Lib.hid X
      clear X hx1 hx2 hx3 hset hxl hcN hz2 hz1 hc2 hc2le hgL hgF B
      go_wp2_with fail
      obtain ⟨w3, hw3⟩ : ∃ w3, w3 = wr.alloc (.cells #[.int .i64 (j : Nat), .string (str l)] 78) := ⟨_, rfl⟩
      rw [← hw3]
      have X3 := HX.out _ hw3
      clear HX hw3 hc0 hc1 k3
      refine wp_region_H (fun v => v.cell? ⟨w.heap.size, 1, none⟩ = some (.int .i64 D.size)) (by kernel_rfl) (fun v0 hv0 => ?_)
      have hS0 : (fun v => v.cell? ⟨w.heap.size, 1, none⟩ = some (.int .i64 D.size)) v0 := by subst hv0; exact X3.1.1.cell 1
      have Y0 : (Blk v0 w.heap.size #[.int .i64 D.sectors, .int .i64 D.size, (.slice (some ⟨gF, 0, none⟩) D.sectors c1), (.slice (some ⟨gL, 0, none⟩) D.loose.length lc), .int .i64 D.armed, .bool dn] 45 ∧ Blk v0 (w.heap.size + 1) #[.int .i64 0, .int .i64 0, .slice none 0 0, .slice none 0 0, .int .i64 0, .bool false] 45 ∧ v0.ownsRow w.heap.size 9 1 (.slice (some ⟨gF, 0, none⟩) D.sectors c1) D.sectors (fasts D.sectors (crashed D.size fs D.fast D.loose k)) ∧ WRow v0 (.slice (some ⟨gL, 0, none⟩) D.loose.length lc) D.loose ∧ Below w.heap.size w v0) ∧ Blk v0 wr.heap.size #[.int .i64 (j : Nat), .string (str l)] 78 := by subst hv0; exact ⟨⟨X3.1.1.drew, X3.1.2.1.drew, row_drew X3.1.2.2.1, row_drew X3.1.2.2.2.1, below_drew X3.1.2.2.2.2⟩, X3.2.drew⟩
      clear hv0 X3
      have hch := choice_ref A fs m cf k 2 2 v0 rfl HM.out.1 (by decide) (by decide) (HM.out.2.below Y0.1.2.2.2.2 HMA.out)
      refine wpH_take (i := 0) (v := ?_) rfl rfl (by kernel_rfl) (by kernel_rfl) (by kernel_rfl) (fun _ _ _ h => h) (Or.inl ⟨by rfl, ?_⟩) hS0 ?_
      rotate_left
      · (intro w_ hw_; go_simp; try with_reducible rfl)
      simp only [List.setIfInBounds_toArray, List.set_cons_zero, List.set_cons_succ]
      refine wpH_take (i := 1) (v := ?_) rfl rfl (by kernel_rfl) (by kernel_rfl) (by kernel_rfl) (fun _ _ _ h => h) (Or.inl ⟨by rfl, ?_⟩) hS0 ?_
      rotate_left
      · (intro w_ hw_; skip; go_simp; try with_reducible rfl)
      simp only [List.setIfInBounds_toArray, List.set_cons_zero, List.set_cons_succ]
      refine wpH_take (i := 2) (v := ?_) rfl rfl (by kernel_rfl) (by kernel_rfl) (by kernel_rfl) (fun _ _ _ h => h) (Or.inl ⟨by rfl, ?_⟩) hS0 ?_
      rotate_left
      · (intro w_ hw_; go_simp; try with_reducible rfl)
      simp only [List.setIfInBounds_toArray, List.set_cons_zero, List.set_cons_succ]
      refine wpH_take (i := 3) (v := ?_) rfl rfl (by kernel_rfl) (by kernel_rfl) (by kernel_rfl) (fun _ _ _ h => h) (Or.inl ⟨by rfl, ?_⟩) hS0 ?_
      rotate_left
      · (intro w_ hw_; go_simp; try with_reducible rfl)
      simp only [List.setIfInBounds_toArray, List.set_cons_zero, List.set_cons_succ]
      refine wpH_call (i := 4) (by kernel_rfl) rfl rfl (by rfl) (hch) (by go_simp) (fun v1 hR => ?_)
      have hS1 : (fun v => v.cell? ⟨w.heap.size, 1, none⟩ = some (.int .i64 D.size)) v1 := by rw [hR]; exact hS0
      clear hS0
      refine ⟨hS1, ?_⟩
      simp only [List.setIfInBounds_toArray, List.set_cons_zero, List.set_cons_succ]
      subst hR
      clear hch
      have hmul := HMUL.out
      have hw2 := HWN2.out
      refine wpH_take (i := 5) (v := ?_) rfl rfl (by kernel_rfl) (by kernel_rfl) (by kernel_rfl) (fun _ _ _ h => h) (Or.inl ⟨by rfl, ?_⟩) hS1 ?_
      rotate_left
      · (intro w_ hw_; go_simp; try with_reducible rfl)
      simp only [List.setIfInBounds_toArray, List.set_cons_zero, List.set_cons_succ]
      refine wpH_take (i := 6) (v := ?_) rfl rfl (by kernel_rfl) (by kernel_rfl) (by kernel_rfl) (fun _ _ _ h => h) (Or.inl ⟨by rfl, ?_⟩) hS1 ?_
      rotate_left
      · (intro w_ hw_; go_simp; try with_reducible rfl)
      simp only [List.setIfInBounds_toArray, List.set_cons_zero, List.set_cons_succ]
      clear hmul hw2
      clear hS1
      refine wpAnyH_done (by kernel_rfl) ?_ _

      obtain ⟨s0, s1, s2, s3, s4, s5, -⟩ := Y0.1.1.six
      by_cases hlast : k + 1 < D.loose.length
      · have hcc : cN = c2 := by rw [HC2.out, HC.out.1 hlast]
        subst hcc
        have hl2 : ¬ (k : Int) = D.loose.length - 1 := by omega
        have hl3 : ((k : Int) == D.loose.length - 1) = false := by simpa using hl2
        have HYY := Lib.hid Y0
        clear Y0 HMUL HWN2 HC2
        go_wp2_with fail
        clear s0 s1 s2 s3 s4 s5 hl2 hl3
        have Y0 := HYY.out
        clear HYY
        obtain ⟨Sc0, Sc0d⟩ : ∃ S : World → Prop, S = fun v : World => Blk v w.heap.size #[.int .i64 D.sectors, .int .i64 D.size, (.slice (some ⟨gF, 0, none⟩) D.sectors c1), (.slice (some ⟨gL, 0, none⟩) D.loose.length lc), .int .i64 D.armed, .bool dn] 45 ∧ Blk v (w.heap.size + 1) #[.int .i64 0, .int .i64 0, .slice none 0 0, .slice none 0 0, .int .i64 0, .bool false] 45 ∧ v.ownsRow w.heap.size 9 1 (.slice (some ⟨gF, 0, none⟩) D.sectors c1) D.sectors (fasts D.sectors (crashed D.size fs D.fast D.loose k)) ∧ WRow v (.slice (some ⟨gL, 0, none⟩) D.loose.length lc) D.loose ∧ Below w.heap.size w v ∧ Blk v wr.heap.size #[.int .i64 (j : Nat), .string (str l)] 78 := ⟨_, rfl⟩
        have Sc0t0 : Stands Sc0 := by rw [Sc0d]; exact ((stands_blk _ _ _).and ((stands_blk _ _ _).and ((stands_row _ _ _ _ _ _).and ((stands_row _ _ _ _ _ _).and ((stands_below _).and (stands_blk _ _ _))))))
        have Sc0u0 : ∀ v, Sc0 v → Blk v w.heap.size #[.int .i64 D.sectors, .int .i64 D.size, (.slice (some ⟨gF, 0, none⟩) D.sectors c1), (.slice (some ⟨gL, 0, none⟩) D.loose.length lc), .int .i64 D.armed, .bool dn] 45 ∧ Blk v (w.heap.size + 1) #[.int .i64 0, .int .i64 0, .slice none 0 0, .slice none 0 0, .int .i64 0, .bool false] 45 ∧ v.ownsRow w.heap.size 9 1 (.slice (some ⟨gF, 0, none⟩) D.sectors c1) D.sectors (fasts D.sectors (crashed D.size fs D.fast D.loose k)) ∧ WRow v (.slice (some ⟨gL, 0, none⟩) D.loose.length lc) D.loose ∧ Below w.heap.size w v ∧ Blk v wr.heap.size #[.int .i64 (j : Nat), .string (str l)] 78 := fun v h => by rw [Sc0d] at h; exact h
        have Sc0m0 : ∀ v, (Blk v w.heap.size #[.int .i64 D.sectors, .int .i64 D.size, (.slice (some ⟨gF, 0, none⟩) D.sectors c1), (.slice (some ⟨gL, 0, none⟩) D.loose.length lc), .int .i64 D.armed, .bool dn] 45 ∧ Blk v (w.heap.size + 1) #[.int .i64 0, .int .i64 0, .slice none 0 0, .slice none 0 0, .int .i64 0, .bool false] 45 ∧ v.ownsRow w.heap.size 9 1 (.slice (some ⟨gF, 0, none⟩) D.sectors c1) D.sectors (fasts D.sectors (crashed D.size fs D.fast D.loose k)) ∧ WRow v (.slice (some ⟨gL, 0, none⟩) D.loose.length lc) D.loose ∧ Below w.heap.size w v ∧ Blk v wr.heap.size #[.int .i64 (j : Nat), .string (str l)] 78) → Sc0 v := fun v h => by rw [Sc0d]; exact h
        have Sc0u := Lib.hid Sc0u0
        have Sc0m := Lib.hid Sc0m0
        have Sc0t := Lib.hid Sc0t0
        clear Sc0d Sc0u0 Sc0m0 Sc0t0
        refine wp_region_X (S := Sc0) (by kernel_rfl) (Sc0m.out _ ⟨Y0.1.1.drew, Y0.1.2.1.drew, row_drew Y0.1.2.2.1, row_drew Y0.1.2.2.2.1, below_drew Y0.1.2.2.2.2, Y0.2.drew⟩) ?_
        clear Y0
        have hjs := HJ.out
        have hjb := HJB.out
        have hfl := HFL.out
        have hll := HLL.out
        have hcn := HC.out.2.2
        refine wpX_take (i := 0) (v := ?_) Sc0t.out rfl rfl (by kernel_rfl) (by kernel_rfl) (by kernel_rfl) (by kernel_rfl) (fun _ _ _ h => h) (SteadyX.value (by rfl) ?_) ?_
        rotate_left
        · (intro w_ hS; go_simp; try with_reducible rfl)
        simp only [List.setIfInBounds_toArray, List.set_cons_zero, List.set_cons_succ]
        refine wpX_take (i := 1) (v := ?_) Sc0t.out rfl rfl (by kernel_rfl) (by kernel_rfl) (by kernel_rfl) (by kernel_rfl) (fun _ _ _ h => h) (SteadyX.value (by rfl) ?_) ?_
        rotate_left
        · (intro w_ hS; obtain ⟨q0, q1, q2, q3, q4, q5⟩ := Sc0u.out _ hS; (have q9 := q0.six); (have q8 := q5.two); (have q7 := World.ownsRow.cells q2 (g := gF) rfl j _ (fasts_get _ HJ.out)); (rw [addr_add] at q7); go_simp; try with_reducible rfl)
        simp only [List.setIfInBounds_toArray, List.set_cons_zero, List.set_cons_succ]
        refine wpX_take (i := 2) (v := ?_) Sc0t.out rfl rfl (by kernel_rfl) (by kernel_rfl) (by kernel_rfl) (by kernel_rfl) (fun _ _ _ h => h) (SteadyX.value (by rfl) ?_) ?_
        rotate_left
        · (intro w_ hS; go_simp; try with_reducible rfl)
        simp only [List.setIfInBounds_toArray, List.set_cons_zero, List.set_cons_succ]
        refine wpX_take (i := 3) (v := ?_) Sc0t.out rfl rfl (by kernel_rfl) (by kernel_rfl) (by kernel_rfl) (by kernel_rfl) (fun _ _ _ h => h) (SteadyX.value (by rfl) ?_) ?_
        rotate_left
        · (intro w_ hS; obtain ⟨q0, q1, q2, q3, q4, q5⟩ := Sc0u.out _ hS; (have q9 := q0.six); (have q8 := q5.two); (have q7 := World.ownsRow.cells q2 (g := gF) rfl j _ (fasts_get _ HJ.out)); (rw [addr_add] at q7); go_simp; try with_reducible rfl)
        simp only [List.setIfInBounds_toArray, List.set_cons_zero, List.set_cons_succ]
        refine wpX_take (i := 4) (v := ?_) Sc0t.out rfl rfl (by kernel_rfl) (by kernel_rfl) (by kernel_rfl) (by kernel_rfl) (fun _ _ _ h => h) (SteadyX.value (by rfl) ?_) ?_
        rotate_left
        · (intro w_ hS; go_simp; try with_reducible rfl)
        simp only [List.setIfInBounds_toArray, List.set_cons_zero, List.set_cons_succ]
        refine wpX_take (i := 5) (v := ?_) Sc0t.out rfl rfl (by kernel_rfl) (by kernel_rfl) (by kernel_rfl) (by kernel_rfl) (fun _ _ _ h => h) (SteadyX.value (by rfl) ?_) ?_
        rotate_left
        · (intro w_ hS; obtain ⟨q0, q1, q2, q3, q4, q5⟩ := Sc0u.out _ hS; (have q9 := q0.six); (have q8 := q5.two); (have q7 := World.ownsRow.cells q2 (g := gF) rfl j _ (fasts_get _ HJ.out)); (rw [addr_add] at q7); go_simp; try with_reducible rfl)
        simp only [List.setIfInBounds_toArray, List.set_cons_zero, List.set_cons_succ]
        refine wpX_take (i := 6) (v := ?_) Sc0t.out rfl rfl (by kernel_rfl) (by kernel_rfl) (by kernel_rfl) (by kernel_rfl) (fun _ _ _ h => h) (SteadyX.value (by rfl) ?_) ?_
        rotate_left
        · (intro w_ hS; go_simp; try with_reducible rfl)
        simp only [List.setIfInBounds_toArray, List.set_cons_zero, List.set_cons_succ]
        refine wpX_take (i := 7) (v := (.string (str (l.take cN)))) Sc0t.out rfl rfl (by kernel_rfl) (by kernel_rfl) (by kernel_rfl) (by kernel_rfl) (fun _ _ _ h => h) (SteadyX.value (by rfl) (fun w_ hS => by obtain ⟨q0, q1, q2, q3, q4, q5⟩ := Sc0u.out _ hS; exact exec_strTo (.tmp 48) (.tmp 49) rfl rfl rfl (by omega))) ?_
        simp only [List.setIfInBounds_toArray, List.set_cons_zero, List.set_cons_succ]
        refine wpX_take (i := 8) (v := ?_) Sc0t.out rfl rfl (by kernel_rfl) (by kernel_rfl) (by kernel_rfl) (by kernel_rfl) (fun _ _ _ h => h) (SteadyX.value (by rfl) ?_) ?_
        rotate_left
        · (intro w_ hS; go_simp; try with_reducible rfl)
        simp only [List.setIfInBounds_toArray, List.set_cons_zero, List.set_cons_succ]
        refine wpX_take (i := 9) (v := ?_) Sc0t.out rfl rfl (by kernel_rfl) (by kernel_rfl) (by kernel_rfl) (by kernel_rfl) (fun _ _ _ h => h) (SteadyX.value (by rfl) ?_) ?_
        rotate_left
        · (intro w_ hS; obtain ⟨q0, q1, q2, q3, q4, q5⟩ := Sc0u.out _ hS; (have q9 := q0.six); (have q8 := q5.two); (have q7 := World.ownsRow.cells q2 (g := gF) rfl j _ (fasts_get _ HJ.out)); (rw [addr_add] at q7); go_simp; try with_reducible rfl)
        simp only [List.setIfInBounds_toArray, List.set_cons_zero, List.set_cons_succ]
        refine wpX_take (i := 10) (v := ?_) Sc0t.out rfl rfl (by kernel_rfl) (by kernel_rfl) (by kernel_rfl) (by kernel_rfl) (fun _ _ _ h => h) (SteadyX.value (by rfl) ?_) ?_
        rotate_left
        · (intro w_ hS; go_simp; try with_reducible rfl)
        simp only [List.setIfInBounds_toArray, List.set_cons_zero, List.set_cons_succ]
        refine wpX_take (i := 11) (v := ?_) Sc0t.out rfl rfl (by kernel_rfl) (by kernel_rfl) (by kernel_rfl) (by kernel_rfl) (fun _ _ _ h => h) (SteadyX.value (by rfl) ?_) ?_
        rotate_left
        · (intro w_ hS; obtain ⟨q0, q1, q2, q3, q4, q5⟩ := Sc0u.out _ hS; (have q9 := q0.six); (have q8 := q5.two); (have q7 := World.ownsRow.cells q2 (g := gF) rfl j _ (fasts_get _ HJ.out)); (rw [addr_add] at q7); go_simp; try with_reducible rfl)
        simp only [List.setIfInBounds_toArray, List.set_cons_zero, List.set_cons_succ]
        refine wpX_take (i := 12) (v := ?_) Sc0t.out rfl rfl (by kernel_rfl) (by kernel_rfl) (by kernel_rfl) (by kernel_rfl) (fun _ _ _ h => h) (SteadyX.value (by rfl) ?_) ?_
        rotate_left
        · (intro w_ hS; go_simp; try with_reducible rfl)
        simp only [List.setIfInBounds_toArray, List.set_cons_zero, List.set_cons_succ]
        refine wpX_take (i := 13) (v := ?_) Sc0t.out rfl rfl (by kernel_rfl) (by kernel_rfl) (by kernel_rfl) (by kernel_rfl) (fun _ _ _ h => h) (SteadyX.value (by rfl) ?_) ?_
        rotate_left
        · (intro w_ hS; obtain ⟨q0, q1, q2, q3, q4, q5⟩ := Sc0u.out _ hS; (have q9 := q0.six); (have q8 := q5.two); (have q7 := World.ownsRow.cells q2 (g := gF) rfl j _ (fasts_get _ HJ.out)); (rw [addr_add] at q7); go_simp; try with_reducible rfl)
        simp only [List.setIfInBounds_toArray, List.set_cons_zero, List.set_cons_succ]
        refine wpX_take (i := 14) (v := ?_) Sc0t.out rfl rfl (by kernel_rfl) (by kernel_rfl) (by kernel_rfl) (by kernel_rfl) (fun _ _ _ h => h) (SteadyX.value (by rfl) ?_) ?_
        rotate_left
        · (intro w_ hS; go_simp; try with_reducible rfl)
        simp only [List.setIfInBounds_toArray, List.set_cons_zero, List.set_cons_succ]
        refine wpX_take (i := 15) (v := (.string (str ((crashed D.size fs D.fast D.loose k j).drop cN)))) Sc0t.out rfl rfl (by kernel_rfl) (by kernel_rfl) (by kernel_rfl) (by kernel_rfl) (fun _ _ _ h => h) (SteadyX.value (by rfl) (fun w_ hS => by obtain ⟨q0, q1, q2, q3, q4, q5⟩ := Sc0u.out _ hS; exact exec_strFrom (.tmp 56) (.tmp 57) rfl rfl rfl (by omega))) ?_
        simp only [List.setIfInBounds_toArray, List.set_cons_zero, List.set_cons_succ]
        refine wpX_take (i := 16) (v := (.string (str (l.take cN ++ (crashed D.size fs D.fast D.loose k j).drop cN)))) Sc0t.out rfl rfl (by kernel_rfl) (by kernel_rfl) (by kernel_rfl) (by kernel_rfl) (fun _ _ _ h => h) (SteadyX.value (by rfl) (fun w_ hS => by obtain ⟨q0, q1, q2, q3, q4, q5⟩ := Sc0u.out _ hS; exact exec_strAdd (.tmp 50) (.tmp 58) rfl rfl rfl (by simp; omega))) ?_
        simp only [List.setIfInBounds_toArray, List.set_cons_zero, List.set_cons_succ]
        refine wpX_take (i := 17) (v := ?_) Sc0t.out rfl rfl (by kernel_rfl) (by kernel_rfl) (by kernel_rfl) (by kernel_rfl) (fun _ _ _ h => h) (SteadyX.value (by rfl) ?_) ?_
        rotate_left
        · (intro w_ hS; go_simp; try with_reducible rfl)
        simp only [List.setIfInBounds_toArray, List.set_cons_zero, List.set_cons_succ]
        refine wpX_one (i := 18) (by kernel_rfl) (fun w_ hS => ?_)
        obtain ⟨q0, q1, q2, q3, q4, q5⟩ := Sc0u.out _ hS
        have hst := q2.stored j (.string (str (l.take cN ++ (crashed D.size fs D.fast D.loose k j).drop cN)))
        have hfz := q2.frozenAt j
        have hcl := World.ownsRow.cells q2 (g := gF) rfl j _ (fasts_get _ HJ.out)
        rw [addr_add] at hcl
        have ht : Turn [gF] w_ (w_.setCell ⟨gF, j, none⟩ (.string (str (l.take cN ++ (crashed D.size fs D.fast D.loose k j).drop cN)))) := (Turn.refl [gF] w_).set (a := ⟨gF, j, none⟩) (.inl (by simp)) _
        have hkF := row_kind q2 (g := gF) rfl
        have hnB : ∀ (x : Nat) (cs : Array Value), Blk w_ x cs 45 → x ∉ [gF] := fun x cs hx hm => by
          simp at hm
          obtain ⟨cs', e⟩ := hkF
          unfold Blk at hx
          rw [hm] at hx
          rw [hx] at e; cases e
        have hgl : ∀ g, (Value.slice (some ⟨gL, 0, none⟩) D.loose.length lc).ownBlock = some g → g ∉ [gF] := fun g hg hm => by
          simp at hm
          obtain ⟨cs', e⟩ := hkF
          obtain ⟨cs2, e2⟩ := row_kind q3 hg
          rw [hm] at e2
          rw [e] at e2; cases e2
        have hglt := (q2.lt gF rfl).1
        obtain ⟨Sc1, Sc1d⟩ : ∃ S : World → Prop, S = fun v : World => Blk v w.heap.size #[.int .i64 D.sectors, .int .i64 D.size, (.slice (some ⟨gF, 0, none⟩) D.sectors c1), (.slice (some ⟨gL, 0, none⟩) D.loose.length lc), .int .i64 D.armed, .bool dn] 45 ∧ Blk v (w.heap.size + 1) #[.int .i64 0, .int .i64 0, .slice none 0 0, .slice none 0 0, .int .i64 0, .bool false] 45 ∧ v.ownsRow w.heap.size 9 1 (.slice (some ⟨gF, 0, none⟩) D.sectors c1) D.sectors (fasts D.sectors (crashed D.size fs D.fast D.loose (k + 1))) ∧ WRow v (.slice (some ⟨gL, 0, none⟩) D.loose.length lc) D.loose ∧ Below w.heap.size w v := ⟨_, rfl⟩
        have Sc1t0 : Stands Sc1 := by rw [Sc1d]; exact ((stands_blk _ _ _).and ((stands_blk _ _ _).and ((stands_row _ _ _ _ _ _).and ((stands_row _ _ _ _ _ _).and (stands_below _)))))
        have Sc1u0 : ∀ v, Sc1 v → Blk v w.heap.size #[.int .i64 D.sectors, .int .i64 D.size, (.slice (some ⟨gF, 0, none⟩) D.sectors c1), (.slice (some ⟨gL, 0, none⟩) D.loose.length lc), .int .i64 D.armed, .bool dn] 45 ∧ Blk v (w.heap.size + 1) #[.int .i64 0, .int .i64 0, .slice none 0 0, .slice none 0 0, .int .i64 0, .bool false] 45 ∧ v.ownsRow w.heap.size 9 1 (.slice (some ⟨gF, 0, none⟩) D.sectors c1) D.sectors (fasts D.sectors (crashed D.size fs D.fast D.loose (k + 1))) ∧ WRow v (.slice (some ⟨gL, 0, none⟩) D.loose.length lc) D.loose ∧ Below w.heap.size w v := fun v h => by rw [Sc1d] at h; exact h
        have Sc1m0 : ∀ v, (Blk v w.heap.size #[.int .i64 D.sectors, .int .i64 D.size, (.slice (some ⟨gF, 0, none⟩) D.sectors c1), (.slice (some ⟨gL, 0, none⟩) D.loose.length lc), .int .i64 D.armed, .bool dn] 45 ∧ Blk v (w.heap.size + 1) #[.int .i64 0, .int .i64 0, .slice none 0 0, .slice none 0 0, .int .i64 0, .bool false] 45 ∧ v.ownsRow w.heap.size 9 1 (.slice (some ⟨gF, 0, none⟩) D.sectors c1) D.sectors (fasts D.sectors (crashed D.size fs D.fast D.loose (k + 1))) ∧ WRow v (.slice (some ⟨gL, 0, none⟩) D.loose.length lc) D.loose ∧ Below w.heap.size w v) → Sc1 v := fun v h => by rw [Sc1d]; exact h
        have Sc1u := Lib.hid Sc1u0
        have Sc1m := Lib.hid Sc1m0
        have Sc1t := Lib.hid Sc1t0
        clear Sc1d Sc1u0 Sc1m0 Sc1t0
        have st_ : Sc1 (w_.setCell ⟨gF, j, none⟩ (.string (str (l.take cN ++ (crashed D.size fs D.fast D.loose k j).drop cN)))) := Sc1m.out _ ⟨(ht.block _ q0.lt (hnB _ _ q0)).trans q0, (ht.block _ q1.lt (hnB _ _ q1)).trans q1, (by rw [HSET.out]; exact hst.1), row_turn q3 ht hgl, q4.trans (ht.below q4.size (by intro i hi; simp at hi; omega))⟩
        refine wpX_store (i := 18) (w' := (w_.setCell ⟨gF, j, none⟩ (.string (str (l.take cN ++ (crashed D.size fs D.fast D.loose k j).drop cN))))) Sc1 rfl rfl (by rfl) (by go_simp) Sc1t.out (.inl (by kernel_rfl)) st_ ?_
        clear hS st_ hst hfz hcl ht hkF hnB hgl hglt q0 q1 q2 q3 q4 q5
        clear w_
        refine wpX_done (by kernel_rfl) (fun W hS => ?_) _
        obtain ⟨q0, q1, q2, q3, q4⟩ := Sc1u.out _ hS
        clear hS Sc0u Sc0m Sc0t Sc1u Sc1m Sc1t
        clear Sc0 Sc1
        have HY := Lib.hid (And.intro q0 (And.intro q1 (And.intro q2 (And.intro q3 q4))))
        clear q0 q1 q2 q3 q4 hjs hjb hfl hll hcn
        go_wp2
        go_round
        case rel => exact ⟨k + 1, by omega, val_int (by simp), HY⟩
        case measure => simp only [intOf]; omega

      · have hl2 : (k : Int) = D.loose.length - 1 := by omega
        have hl3 : ((k : Int) == D.loose.length - 1) = true := by simpa using hl2
        have hll2 : ((D.loose.length : Int) - 1 == D.loose.length - 1) = true := by simp
        have HYY := Lib.hid Y0
        have HLA := Lib.hid hlast
        have hch := choice_ref A fs m cf k ((D.size : Int) + 1) (D.size + 1) v1 (by simp) HM.out.1 (by omega) (by omega) (HM.out.2.below Y0.1.2.2.2.2 HMA.out)
        rw [← HC.out.2.1 hlast] at hch
        have HCH := Lib.hid hch
        have HKI := Lib.hid hl2
        clear Y0 HMUL HWN2 HC2 hch hl2 hlast
        go_wp2_with fail
        refine HCH.out.mono ?_
        rintro e w8 ⟨rfl, hw8⟩
        rw [hw8]
        clear hw8
        go_wp2_with fail
        clear s0 s1 s2 s3 s4 s5 hl3 HCH hll2
        have Y0 := HYY.out
        clear HYY
        obtain ⟨Sc0, Sc0d⟩ : ∃ S : World → Prop, S = fun v : World => Blk v w.heap.size #[.int .i64 D.sectors, .int .i64 D.size, (.slice (some ⟨gF, 0, none⟩) D.sectors c1), (.slice (some ⟨gL, 0, none⟩) D.loose.length lc), .int .i64 D.armed, .bool dn] 45 ∧ Blk v (w.heap.size + 1) #[.int .i64 0, .int .i64 0, .slice none 0 0, .slice none 0 0, .int .i64 0, .bool false] 45 ∧ v.ownsRow w.heap.size 9 1 (.slice (some ⟨gF, 0, none⟩) D.sectors c1) D.sectors (fasts D.sectors (crashed D.size fs D.fast D.loose k)) ∧ WRow v (.slice (some ⟨gL, 0, none⟩) D.loose.length lc) D.loose ∧ Below w.heap.size w v ∧ Blk v wr.heap.size #[.int .i64 (j : Nat), .string (str l)] 78 := ⟨_, rfl⟩
        have Sc0t0 : Stands Sc0 := by rw [Sc0d]; exact ((stands_blk _ _ _).and ((stands_blk _ _ _).and ((stands_row _ _ _ _ _ _).and ((stands_row _ _ _ _ _ _).and ((stands_below _).and (stands_blk _ _ _))))))
        have Sc0u0 : ∀ v, Sc0 v → Blk v w.heap.size #[.int .i64 D.sectors, .int .i64 D.size, (.slice (some ⟨gF, 0, none⟩) D.sectors c1), (.slice (some ⟨gL, 0, none⟩) D.loose.length lc), .int .i64 D.armed, .bool dn] 45 ∧ Blk v (w.heap.size + 1) #[.int .i64 0, .int .i64 0, .slice none 0 0, .slice none 0 0, .int .i64 0, .bool false] 45 ∧ v.ownsRow w.heap.size 9 1 (.slice (some ⟨gF, 0, none⟩) D.sectors c1) D.sectors (fasts D.sectors (crashed D.size fs D.fast D.loose k)) ∧ WRow v (.slice (some ⟨gL, 0, none⟩) D.loose.length lc) D.loose ∧ Below w.heap.size w v ∧ Blk v wr.heap.size #[.int .i64 (j : Nat), .string (str l)] 78 := fun v h => by rw [Sc0d] at h; exact h
        have Sc0m0 : ∀ v, (Blk v w.heap.size #[.int .i64 D.sectors, .int .i64 D.size, (.slice (some ⟨gF, 0, none⟩) D.sectors c1), (.slice (some ⟨gL, 0, none⟩) D.loose.length lc), .int .i64 D.armed, .bool dn] 45 ∧ Blk v (w.heap.size + 1) #[.int .i64 0, .int .i64 0, .slice none 0 0, .slice none 0 0, .int .i64 0, .bool false] 45 ∧ v.ownsRow w.heap.size 9 1 (.slice (some ⟨gF, 0, none⟩) D.sectors c1) D.sectors (fasts D.sectors (crashed D.size fs D.fast D.loose k)) ∧ WRow v (.slice (some ⟨gL, 0, none⟩) D.loose.length lc) D.loose ∧ Below w.heap.size w v ∧ Blk v wr.heap.size #[.int .i64 (j : Nat), .string (str l)] 78) → Sc0 v := fun v h => by rw [Sc0d]; exact h
        have Sc0u := Lib.hid Sc0u0
        have Sc0m := Lib.hid Sc0m0
        have Sc0t := Lib.hid Sc0t0
        clear Sc0d Sc0u0 Sc0m0 Sc0t0
        refine wp_region_X (S := Sc0) (by kernel_rfl) (Sc0m.out _ ⟨Y0.1.1.drew, Y0.1.2.1.drew, row_drew Y0.1.2.2.1, row_drew Y0.1.2.2.2.1, below_drew Y0.1.2.2.2.2, Y0.2.drew⟩) ?_
        clear Y0
        have hjs := HJ.out
        have hjb := HJB.out
        have hfl := HFL.out
        have hll := HLL.out
        have hcn := HC.out.2.2
        refine wpX_take (i := 0) (v := ?_) Sc0t.out rfl rfl (by kernel_rfl) (by kernel_rfl) (by kernel_rfl) (by kernel_rfl) (fun _ _ _ h => h) (SteadyX.value (by rfl) ?_) ?_
        rotate_left
        · (intro w_ hS; go_simp; try with_reducible rfl)
        simp only [List.setIfInBounds_toArray, List.set_cons_zero, List.set_cons_succ]
        refine wpX_take (i := 1) (v := ?_) Sc0t.out rfl rfl (by kernel_rfl) (by kernel_rfl) (by kernel_rfl) (by kernel_rfl) (fun _ _ _ h => h) (SteadyX.value (by rfl) ?_) ?_
        rotate_left
        · (intro w_ hS; obtain ⟨q0, q1, q2, q3, q4, q5⟩ := Sc0u.out _ hS; (have q9 := q0.six); (have q8 := q5.two); (have q7 := World.ownsRow.cells q2 (g := gF) rfl j _ (fasts_get _ HJ.out)); (rw [addr_add] at q7); go_simp; try with_reducible rfl)
        simp only [List.setIfInBounds_toArray, List.set_cons_zero, List.set_cons_succ]
        refine wpX_take (i := 2) (v := ?_) Sc0t.out rfl rfl (by kernel_rfl) (by kernel_rfl) (by kernel_rfl) (by kernel_rfl) (fun _ _ _ h => h) (SteadyX.value (by rfl) ?_) ?_
        rotate_left
        · (intro w_ hS; go_simp; try with_reducible rfl)
        simp only [List.setIfInBounds_toArray, List.set_cons_zero, List.set_cons_succ]
        refine wpX_take (i := 3) (v := ?_) Sc0t.out rfl rfl (by kernel_rfl) (by kernel_rfl) (by kernel_rfl) (by kernel_rfl) (fun _ _ _ h => h) (SteadyX.value (by rfl) ?_) ?_
        rotate_left
        · (intro w_ hS; obtain ⟨q0, q1, q2, q3, q4, q5⟩ := Sc0u.out _ hS; (have q9 := q0.six); (have q8 := q5.two); (have q7 := World.ownsRow.cells q2 (g := gF) rfl j _ (fasts_get _ HJ.out)); (rw [addr_add] at q7); go_simp; try with_reducible rfl)
        simp only [List.setIfInBounds_toArray, List.set_cons_zero, List.set_cons_succ]
        refine wpX_take (i := 4) (v := ?_) Sc0t.out rfl rfl (by kernel_rfl) (by kernel_rfl) (by kernel_rfl) (by kernel_rfl) (fun _ _ _ h => h) (SteadyX.value (by rfl) ?_) ?_
        rotate_left
        · (intro w_ hS; go_simp; try with_reducible rfl)
        simp only [List.setIfInBounds_toArray, List.set_cons_zero, List.set_cons_succ]
        refine wpX_take (i := 5) (v := ?_) Sc0t.out rfl rfl (by kernel_rfl) (by kernel_rfl) (by kernel_rfl) (by kernel_rfl) (fun _ _ _ h => h) (SteadyX.value (by rfl) ?_) ?_
        rotate_left
        · (intro w_ hS; obtain ⟨q0, q1, q2, q3, q4, q5⟩ := Sc0u.out _ hS; (have q9 := q0.six); (have q8 := q5.two); (have q7 := World.ownsRow.cells q2 (g := gF) rfl j _ (fasts_get _ HJ.out)); (rw [addr_add] at q7); go_simp; try with_reducible rfl)
        simp only [List.setIfInBounds_toArray, List.set_cons_zero, List.set_cons_succ]
        refine wpX_take (i := 6) (v := ?_) Sc0t.out rfl rfl (by kernel_rfl) (by kernel_rfl) (by kernel_rfl) (by kernel_rfl) (fun _ _ _ h => h) (SteadyX.value (by rfl) ?_) ?_
        rotate_left
        · (intro w_ hS; go_simp; try with_reducible rfl)
        simp only [List.setIfInBounds_toArray, List.set_cons_zero, List.set_cons_succ]
        refine wpX_take (i := 7) (v := (.string (str (l.take cN)))) Sc0t.out rfl rfl (by kernel_rfl) (by kernel_rfl) (by kernel_rfl) (by kernel_rfl) (fun _ _ _ h => h) (SteadyX.value (by rfl) (fun w_ hS => by obtain ⟨q0, q1, q2, q3, q4, q5⟩ := Sc0u.out _ hS; exact exec_strTo (.tmp 48) (.tmp 49) rfl rfl rfl (by omega))) ?_
        simp only [List.setIfInBounds_toArray, List.set_cons_zero, List.set_cons_succ]
        refine wpX_take (i := 8) (v := ?_) Sc0t.out rfl rfl (by kernel_rfl) (by kernel_rfl) (by kernel_rfl) (by kernel_rfl) (fun _ _ _ h => h) (SteadyX.value (by rfl) ?_) ?_
        rotate_left
        · (intro w_ hS; go_simp; try with_reducible rfl)
        simp only [List.setIfInBounds_toArray, List.set_cons_zero, List.set_cons_succ]
        refine wpX_take (i := 9) (v := ?_) Sc0t.out rfl rfl (by kernel_rfl) (by kernel_rfl) (by kernel_rfl) (by kernel_rfl) (fun _ _ _ h => h) (SteadyX.value (by rfl) ?_) ?_
        rotate_left
        · (intro w_ hS; obtain ⟨q0, q1, q2, q3, q4, q5⟩ := Sc0u.out _ hS; (have q9 := q0.six); (have q8 := q5.two); (have q7 := World.ownsRow.cells q2 (g := gF) rfl j _ (fasts_get _ HJ.out)); (rw [addr_add] at q7); go_simp; try with_reducible rfl)
        simp only [List.setIfInBounds_toArray, List.set_cons_zero, List.set_cons_succ]
        refine wpX_take (i := 10) (v := ?_) Sc0t.out rfl rfl (by kernel_rfl) (by kernel_rfl) (by kernel_rfl) (by kernel_rfl) (fun _ _ _ h => h) (SteadyX.value (by rfl) ?_) ?_
        rotate_left
        · (intro w_ hS; go_simp; try with_reducible rfl)
        simp only [List.setIfInBounds_toArray, List.set_cons_zero, List.set_cons_succ]
        refine wpX_take (i := 11) (v := ?_) Sc0t.out rfl rfl (by kernel_rfl) (by kernel_rfl) (by kernel_rfl) (by kernel_rfl) (fun _ _ _ h => h) (SteadyX.value (by rfl) ?_) ?_
        rotate_left
        · (intro w_ hS; obtain ⟨q0, q1, q2, q3, q4, q5⟩ := Sc0u.out _ hS; (have q9 := q0.six); (have q8 := q5.two); (have q7 := World.ownsRow.cells q2 (g := gF) rfl j _ (fasts_get _ HJ.out)); (rw [addr_add] at q7); go_simp; try with_reducible rfl)
        simp only [List.setIfInBounds_toArray, List.set_cons_zero, List.set_cons_succ]
        refine wpX_take (i := 12) (v := ?_) Sc0t.out rfl rfl (by kernel_rfl) (by kernel_rfl) (by kernel_rfl) (by kernel_rfl) (fun _ _ _ h => h) (SteadyX.value (by rfl) ?_) ?_
        rotate_left
        · (intro w_ hS; go_simp; try with_reducible rfl)
        simp only [List.setIfInBounds_toArray, List.set_cons_zero, List.set_cons_succ]
        refine wpX_take (i := 13) (v := ?_) Sc0t.out rfl rfl (by kernel_rfl) (by kernel_rfl) (by kernel_rfl) (by kernel_rfl) (fun _ _ _ h => h) (SteadyX.value (by rfl) ?_) ?_
        rotate_left
        · (intro w_ hS; obtain ⟨q0, q1, q2, q3, q4, q5⟩ := Sc0u.out _ hS; (have q9 := q0.six); (have q8 := q5.two); (have q7 := World.ownsRow.cells q2 (g := gF) rfl j _ (fasts_get _ HJ.out)); (rw [addr_add] at q7); go_simp; try with_reducible rfl)
        simp only [List.setIfInBounds_toArray, List.set_cons_zero, List.set_cons_succ]
        refine wpX_take (i := 14) (v := ?_) Sc0t.out rfl rfl (by kernel_rfl) (by kernel_rfl) (by kernel_rfl) (by kernel_rfl) (fun _ _ _ h => h) (SteadyX.value (by rfl) ?_) ?_
        rotate_left
        · (intro w_ hS; go_simp; try with_reducible rfl)
        simp only [List.setIfInBounds_toArray, List.set_cons_zero, List.set_cons_succ]
        refine wpX_take (i := 15) (v := (.string (str ((crashed D.size fs D.fast D.loose k j).drop cN)))) Sc0t.out rfl rfl (by kernel_rfl) (by kernel_rfl) (by kernel_rfl) (by kernel_rfl) (fun _ _ _ h => h) (SteadyX.value (by rfl) (fun w_ hS => by obtain ⟨q0, q1, q2, q3, q4, q5⟩ := Sc0u.out _ hS; exact exec_strFrom (.tmp 56) (.tmp 57) rfl rfl rfl (by omega))) ?_
        simp only [List.setIfInBounds_toArray, List.set_cons_zero, List.set_cons_succ]
        refine wpX_take (i := 16) (v := (.string (str (l.take cN ++ (crashed D.size fs D.fast D.loose k j).drop cN)))) Sc0t.out rfl rfl (by kernel_rfl) (by kernel_rfl) (by kernel_rfl) (by kernel_rfl) (fun _ _ _ h => h) (SteadyX.value (by rfl) (fun w_ hS => by obtain ⟨q0, q1, q2, q3, q4, q5⟩ := Sc0u.out _ hS; exact exec_strAdd (.tmp 50) (.tmp 58) rfl rfl rfl (by simp; omega))) ?_
        simp only [List.setIfInBounds_toArray, List.set_cons_zero, List.set_cons_succ]
        refine wpX_take (i := 17) (v := ?_) Sc0t.out rfl rfl (by kernel_rfl) (by kernel_rfl) (by kernel_rfl) (by kernel_rfl) (fun _ _ _ h => h) (SteadyX.value (by rfl) ?_) ?_
        rotate_left
        · (intro w_ hS; go_simp; try with_reducible rfl)
        simp only [List.setIfInBounds_toArray, List.set_cons_zero, List.set_cons_succ]
        refine wpX_one (i := 18) (by kernel_rfl) (fun w_ hS => ?_)
        obtain ⟨q0, q1, q2, q3, q4, q5⟩ := Sc0u.out _ hS
        have hst := q2.stored j (.string (str (l.take cN ++ (crashed D.size fs D.fast D.loose k j).drop cN)))
        have hfz := q2.frozenAt j
        have hcl := World.ownsRow.cells q2 (g := gF) rfl j _ (fasts_get _ HJ.out)
        rw [addr_add] at hcl
        have ht : Turn [gF] w_ (w_.setCell ⟨gF, j, none⟩ (.string (str (l.take cN ++ (crashed D.size fs D.fast D.loose k j).drop cN)))) := (Turn.refl [gF] w_).set (a := ⟨gF, j, none⟩) (.inl (by simp)) _
        have hkF := row_kind q2 (g := gF) rfl
        have hnB : ∀ (x : Nat) (cs : Array Value), Blk w_ x cs 45 → x ∉ [gF] := fun x cs hx hm => by
          simp at hm
          obtain ⟨cs', e⟩ := hkF
          unfold Blk at hx
          rw [hm] at hx
          rw [hx] at e; cases e
        have hgl : ∀ g, (Value.slice (some ⟨gL, 0, none⟩) D.loose.length lc).ownBlock = some g → g ∉ [gF] := fun g hg hm => by
          simp at hm
          obtain ⟨cs', e⟩ := hkF
          obtain ⟨cs2, e2⟩ := row_kind q3 hg
          rw [hm] at e2
          rw [e] at e2; cases e2
        have hglt := (q2.lt gF rfl).1
        obtain ⟨Sc1, Sc1d⟩ : ∃ S : World → Prop, S = fun v : World => Blk v w.heap.size #[.int .i64 D.sectors, .int .i64 D.size, (.slice (some ⟨gF, 0, none⟩) D.sectors c1), (.slice (some ⟨gL, 0, none⟩) D.loose.length lc), .int .i64 D.armed, .bool dn] 45 ∧ Blk v (w.heap.size + 1) #[.int .i64 0, .int .i64 0, .slice none 0 0, .slice none 0 0, .int .i64 0, .bool false] 45 ∧ v.ownsRow w.heap.size 9 1 (.slice (some ⟨gF, 0, none⟩) D.sectors c1) D.sectors (fasts D.sectors (crashed D.size fs D.fast D.loose (k + 1))) ∧ WRow v (.slice (some ⟨gL, 0, none⟩) D.loose.length lc) D.loose ∧ Below w.heap.size w v := ⟨_, rfl⟩
        have Sc1t0 : Stands Sc1 := by rw [Sc1d]; exact ((stands_blk _ _ _).and ((stands_blk _ _ _).and ((stands_row _ _ _ _ _ _).and ((stands_row _ _ _ _ _ _).and (stands_below _)))))
        have Sc1u0 : ∀ v, Sc1 v → Blk v w.heap.size #[.int .i64 D.sectors, .int .i64 D.size, (.slice (some ⟨gF, 0, none⟩) D.sectors c1), (.slice (some ⟨gL, 0, none⟩) D.loose.length lc), .int .i64 D.armed, .bool dn] 45 ∧ Blk v (w.heap.size + 1) #[.int .i64 0, .int .i64 0, .slice none 0 0, .slice none 0 0, .int .i64 0, .bool false] 45 ∧ v.ownsRow w.heap.size 9 1 (.slice (some ⟨gF, 0, none⟩) D.sectors c1) D.sectors (fasts D.sectors (crashed D.size fs D.fast D.loose (k + 1))) ∧ WRow v (.slice (some ⟨gL, 0, none⟩) D.loose.length lc) D.loose ∧ Below w.heap.size w v := fun v h => by rw [Sc1d] at h; exact h
        have Sc1m0 : ∀ v, (Blk v w.heap.size #[.int .i64 D.sectors, .int .i64 D.size, (.slice (some ⟨gF, 0, none⟩) D.sectors c1), (.slice (some ⟨gL, 0, none⟩) D.loose.length lc), .int .i64 D.armed, .bool dn] 45 ∧ Blk v (w.heap.size + 1) #[.int .i64 0, .int .i64 0, .slice none 0 0, .slice none 0 0, .int .i64 0, .bool false] 45 ∧ v.ownsRow w.heap.size 9 1 (.slice (some ⟨gF, 0, none⟩) D.sectors c1) D.sectors (fasts D.sectors (crashed D.size fs D.fast D.loose (k + 1))) ∧ WRow v (.slice (some ⟨gL, 0, none⟩) D.loose.length lc) D.loose ∧ Below w.heap.size w v) → Sc1 v := fun v h => by rw [Sc1d]; exact h
        have Sc1u := Lib.hid Sc1u0
        have Sc1m := Lib.hid Sc1m0
        have Sc1t := Lib.hid Sc1t0
        clear Sc1d Sc1u0 Sc1m0 Sc1t0
        have st_ : Sc1 (w_.setCell ⟨gF, j, none⟩ (.string (str (l.take cN ++ (crashed D.size fs D.fast D.loose k j).drop cN)))) := Sc1m.out _ ⟨(ht.block _ q0.lt (hnB _ _ q0)).trans q0, (ht.block _ q1.lt (hnB _ _ q1)).trans q1, (by rw [HSET.out]; exact hst.1), row_turn q3 ht hgl, q4.trans (ht.below q4.size (by intro i hi; simp at hi; omega))⟩
        refine wpX_store (i := 18) (w' := (w_.setCell ⟨gF, j, none⟩ (.string (str (l.take cN ++ (crashed D.size fs D.fast D.loose k j).drop cN))))) Sc1 rfl rfl (by rfl) (by go_simp) Sc1t.out (.inl (by kernel_rfl)) st_ ?_
        clear hS st_ hst hfz hcl ht hkF hnB hgl hglt q0 q1 q2 q3 q4 q5
        clear w_
        refine wpX_done (by kernel_rfl) (fun W hS => ?_) _
        obtain ⟨q0, q1, q2, q3, q4⟩ := Sc1u.out _ hS
        clear hS Sc0u Sc0m Sc0t Sc1u Sc1m Sc1t
        clear Sc0 Sc1
        have HY := Lib.hid (And.intro q0 (And.intro q1 (And.intro q2 (And.intro q3 q4))))
        clear q0 q1 q2 q3 q4 hjs hjb hfl hll hcn
        go_wp2
        go_round
        case rel => exact ⟨k + 1, by omega, val_int (by simp), HY⟩
        case measure => simp only [intOf]; omega

    · have hke : k = D.loose.length := by omega
      subst hke
      have B1 := set6 B.out.1 (.int .i64 D.sectors) (.int .i64 D.size) (.slice A1 D.sectors c1) (.slice none 0 0) (.int .i64 0) (.bool false)
      obtain ⟨w9, hw9⟩ : ∃ w9, w9 = ((wr.setCell ⟨w.heap.size, 3, none⟩ (.slice none 0 0)).setCell ⟨w.heap.size, 4, none⟩ (.int .i64 0)).setCell ⟨w.heap.size, 5, none⟩ (.bool false) := ⟨_, rfl⟩
      have ht9 : Turn [w.heap.size] wr w9 := by rw [hw9]; exact (((Turn.refl [w.heap.size] wr).set (a := ⟨w.heap.size, 3, none⟩) (.inl (by simp)) _).set (a := ⟨w.heap.size, 4, none⟩) (.inl (by simp)) _).set (a := ⟨w.heap.size, 5, none⟩) (.inl (by simp)) _
      have hB9 : Blk w9 w.heap.size #[.int .i64 D.sectors, .int .i64 D.size, (.slice A1 D.sectors c1), .slice none 0 0, .int .i64 0, .bool false] 45 := by rw [hw9]; have := ((B.out.1.set 3 (.slice none 0 0)).set 4 (.int .i64 0)).set 5 (.bool false); simpa using this
      have hC9 : Blk w9 (w.heap.size + 1) #[.int .i64 0, .int .i64 0, .slice none 0 0, .slice none 0 0, .int .i64 0, .bool false] 45 := (ht9.block _ B.out.2.1.lt (by simp)).trans B.out.2.1
      have hg9 : Below w.heap.size w w9 := B.out.2.2.2.2.trans (ht9.below B.out.2.2.2.2.size (by simp))
      have hR9 : Rows w9 (D.crash fs) (.slice A1 D.sectors c1) (.slice none 0 0) := by
        refine ⟨?_, World.ownsRow_nil _ _ _ _⟩
        exact row_base (Nat.zero_le _) (row_turn B.out.2.2.1 ht9 (fun g hg hm => by
          simp at hm; subst hm
          obtain ⟨cs, e⟩ := row_kind B.out.2.2.1 hg
          have hh := B.out.1
          unfold Blk at hh
          rw [hh] at e; cases e))
      have HOUT := Lib.hid (Out.mk' (w := w) hB9 hC9 hg9 (Nat.le_succ _))
      have HRES := Lib.hid ((Out.mk' (w := w) hB9 hC9 hg9 (Nat.le_succ _)).rows hC9 hR9)
      have q9 : ((wr.setCell ⟨w.heap.size, 3, none⟩ (.slice none 0 0)).setCell ⟨w.heap.size, 4, none⟩ (.int .i64 0)).setCell ⟨w.heap.size, 5, none⟩ (.bool false) = w9 := hw9.symm
      obtain ⟨m0, m1, m2, m3, m4, m5, z0, z1, z2, z3, z4, z5⟩ := hC9.six
      obtain ⟨n0, n1, n2, n3, n4, n5, -⟩ := hB9.six
      obtain ⟨o0, o1, o2, o3, o4, o5, f0, f1, f2, f3, f4, f5⟩ := B.out.1.six
      clear B1 ht9 hB9 hC9 hg9 hR9 hw9
      go_wp2
      exact bodyPost_ret (results_cell6 rfl HOUT.out.res rfl) rfl ⟨(.slice A1 D.sectors c1), rfl, HRES.out, HOUT.out.low⟩
end Go.Proofs.Ytapllljbbldfkaa
