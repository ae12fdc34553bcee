/- One thing that waits is taken out of a row: slices.Delete. Printed by mk_s17.py. -/
import Derived.Test.YtfmdmfiljplkoaaGreatS16
namespace Go.Proofs.YtfmdmfiljplkoaaGreat
open Go.RowKit Go.Maps Go.Shelf
set_option maxRecDepth 8000
set_option linter.unusedSimpArgs false
variable {ι : Type} [Bar ι]
section
variable {w0 v v' : World} {L L' : List Bx} {R R' : List Rx} {M M' : Mem} {S S' : Pl} {D D' : Dsk} {K : Ks}
theorem el164 : Elem 165 164 6 := by
  obtain ⟨i, hi, hz, hs, hb⟩ := info_parts (show (Tryz.prog.info? 164).map (fun i => (i.zero, i.size, i.bytes)) = some (some (.agg #[.int .u64 0, .int .i64 0, .int .i64 0, .int .i64 0, .int .i64 0, .nilIface]), 6, 56) by kernel_rfl)
  exact ⟨Tryz.underlying165, ⟨i, _, hi, hz, hs, by omega, rfl⟩, by decide⟩
def z164 : List Value := [.int .u64 0, .int .i64 0, .int .i64 0, .int .i64 0, .int .i64 0, .nilIface]
theorem run_app_room {w : World} {g i m c c2 : Nat} {a : Addr} {cur : Array Value} (ty : TypeId) (hb : Blk w g cur 164) {news : List Value} (hl : news.length = m * 6) (hn : ∀ j u, news[j]? = some u → w.cell? (a.add j) = some u) (h1 : ∀ u ∈ news, u.oneCell' = true) (hroom : i + m ≤ c) (hc : cur.size = c * 6) :
    (Builtin.append_ #[165, 165] ty #[.slice (some ⟨g, 0, none⟩) i c, .slice (some a) m c2]).run Tryz.prog w = .ok (.slice (some ⟨g, 0, none⟩) (i + m) c) (w.setRow g (splice cur (i * 6) news.toArray)) := by
  obtain ⟨d, z, hi, hz, hs, hby, hzc⟩ := el164.i
  have hfc := run_firstCells_some (P := Tryz.prog) w d.size m a m c2 news (by rw [hs]; exact hl) hn
  have hst := run_storeCells_at Tryz.prog g (i * 6) 164 news 0 cur w hb (by simp; omega) h1
  rw [Nat.add_zero] at hst
  unfold splice
  rw [hs] at hfc
  simp [Builtin.append_, run_underlying Tryz.underlying165, sizeOf, typeInfo, hi, Builtin.lenOf, hroom, hfc, Addr.add_lit, hs] at hst ⊢
  rw [hst]
  rfl
theorem run_clear164 {w : World} {g o c : Nat} {cur : Array Value} (ty : TypeId) (hb : Blk w g cur 164) (ho : o + 6 ≤ cur.size) :
    (Builtin.clear_ #[165] ty #[.slice (some ⟨g, o, none⟩) 1 c]).run Tryz.prog w = .ok (.tuple #[]) (w.setRow g (splice cur o z164.toArray)) := by
  have hst := run_storeCells_at Tryz.prog g o 164 z164 0 cur w hb (by simp [z164]; omega) (by intro u hu; simp [z164] at hu; rcases hu with rfl | rfl | rfl <;> rfl)
  rw [Nat.add_zero] at hst
  unfold splice
  have hzc : (Builtin.zeroCells (#[.int .u64 0, .int .i64 0, .int .i64 0, .int .i64 0, .int .i64 0, .nilIface] : Array Value) 1).toList = z164 := by kernel_rfl
  simp [Builtin.clear_, run_underlying Tryz.underlying165, Tryz.zeroValue164, Value.cells, hzc, hst]
theorem exec_clear {P : Program} {w w' : World} {ev : Operand → Value} {o : Oper} (x : Operand) (t : TypeId) (ho : o.op = .call { callee := .builtin .clear, args := #[x], argTypes := #[t] }) {vx u : Value} (hx : ev x = vx) (hr : (Builtin.clear_ #[t] o.type #[vx]).run P w = .ok u w') : (execOp ev o).run P w = .ok (.value u) w' := by
  unfold execOp
  simp [ho, resolve, invoke, builtin, hx, hr, go_sem]
theorem wpl_clear164 {w : World} {g off c : Nat} {cur : Array Value} {ops : Array Oper} {rest : List Oper} {o : Oper} {a : Act} {Q : Exit → Act → World → Prop} (hb : Hid (Blk w g cur 164)) (x : Operand) (ho : o.op = .call { callee := .builtin .clear, args := #[x], argTypes := #[165] }) (hgd : Want ops o a) (hx : a.eval x = .slice (some ⟨g, off, none⟩) 1 c) (hn : off + 6 ≤ cur.size)
    (k : wpList Tryz.prog ops Q rest (a.put o.dst (.tuple #[])) (w.setRow g (splice cur off z164.toArray))) : WL Tryz.prog ops Q (o :: rest) a w :=
  wpl_run hgd (exec_clear x 165 ho hx (run_clear164 o.type hb.out hn)) k
theorem splice_size {cur cs : Array Value} {o : Nat} (h : o + cs.size ≤ cur.size) : (splice cur o cs).size = cur.size := by
  unfold splice
  simp
  omega
theorem Delete_run {w : World} {g i m c : Nat} {cur : Array Value} (hb : Blk w g cur 164) (hi : i ≤ m) (hnc : m + 1 ≤ c) (hsz : cur.size = c * 6) (hcm : c ≤ maxLen) (h1 : ∀ u ∈ (cur.toList.take ((m + 1) * 6)), u.oneCell' = true) :
    Calls Tryz.prog 102 #[.slice (some ⟨g, 0, none⟩) (m + 1) c, .int .i64 (i : Int), .int .i64 ((i + 1 : Nat) : Int)] w fun e w' => e = .returned (.slice (some ⟨g, 0, none⟩) m c) ∧ Blk w' g (splice (splice cur (i * 6) ((cur.toList.take ((m + 1) * 6)).drop ((i + 1) * 6)).toArray) (m * 6) z164.toArray) 164 ∧ Turn [g] w w' := by
  have HB := Lib.hid hb
  have hcm2 : (c : Int) ≤ 9223372036854775807 := by simp only [maxLen] at hcm; omega
  have a1 : (i : Int) ≤ ((i + 1 : Nat) : Int) := by omega
  have a2 : ((i + 1 : Nat) : Int) ≤ ((m + 1 : Nat) : Int) := by omega
  have a3 : ((m + 1 : Nat) : Int) ≤ (c : Int) := by omega
  have a4 : ¬ i = i + 1 := by omega
  have a5 : (i : Int) ≤ (c : Int) := by omega
  have a6 : ¬ c = m := by omega
  obtain ⟨aa, haa⟩ : ∃ aa : Addr, aa = if c = i + 1 then ⟨g, 0, none⟩ else ⟨g, (i + 1) * 6, none⟩ := ⟨_, rfl⟩
  obtain ⟨news, hnw⟩ : ∃ news, news = (cur.toList.take ((m + 1) * 6)).drop ((i + 1) * 6) := ⟨_, rfl⟩
  have hnl : news.length = (m - i) * 6 := by rw [hnw, List.length_drop, List.length_take, Array.length_toList, hsz]; omega
  have hn1 : ∀ u ∈ news, u.oneCell' = true := fun u hu => h1 u (by rw [hnw] at hu; exact List.mem_of_mem_drop hu)
  have hcell : ∀ (w' : World), Blk w' g cur 164 → ∀ j u, news[j]? = some u → w'.cell? (aa.add j) = some u := by
    intro w' hb' j u hu
    have hj : j < news.length := by
      rcases Nat.lt_or_ge j news.length with h | h
      · exact h
      · rw [List.getElem?_eq_none h] at hu; cases hu
    by_cases hc : c = i + 1
    · omega
    · rw [haa, if_neg hc]
      have e : (⟨g, (i + 1) * 6, none⟩ : Addr).add j = ⟨g, (i + 1) * 6 + j, none⟩ := by unfold Addr.add; split <;> simp_all
      rw [e, hb'.cell]
      rw [hnw, List.getElem?_drop, List.getElem?_take] at hu
      split at hu
      · rw [← Array.getElem?_toList]; exact hu
      · cases hu
  rw [← hnw]
  obtain ⟨cur1, hcur1⟩ : ∃ cur1, cur1 = splice cur (i * 6) news.toArray := ⟨_, rfl⟩
  have hs1 : cur1.size = c * 6 := by rw [hcur1, splice_size (by simp [hnl]; omega), hsz]
  have hap : ∀ (ty : TypeId) (w' : World), Blk w' g cur 164 → (Builtin.append_ #[165, 165] ty #[.slice (some ⟨g, 0, none⟩) i c, .slice (some aa) (m - i) (c - (i + 1))]).run Tryz.prog w' = .ok (.slice (some ⟨g, 0, none⟩) m c) (w'.setRow g cur1) := by
    intro ty w' hb'
    have h := run_app_room (a := aa) (c2 := c - (i + 1)) ty hb' hnl (hcell w' hb') hn1 (show i + (m - i) ≤ c by omega) hsz
    rw [← hcur1, show i + (m - i) = m by omega] at h
    exact h
  rw [← hcur1]
  have HAP := Lib.hid hap
  have HS1 := Lib.hid (And.intro hs1 hnc)
  have HAA := Lib.hid haa
  clear hb h1 hsz hi hnc hcm hnw hnl hn1 hcell hcur1 hap hs1 haa
  go_enter Tryz.func102, Tryz.ntmps102
  go_wp2_with fail
  refine wp_region_H (fun _ : World => True) (by kernel_rfl) (fun u hu => ?_)
  have hS0 : (fun _ : World => True) u := trivial
  have HT := Lib.hid (show Turn [g] w u from by subst hu; exact (Turn.refl [g] w).drew)
  have HBU := Lib.hid (show Blk u g cur 164 from by subst hu; exact HB.out.drew)
  clear hu
  refine wpH_take (i := 0) (v := ?_) rfl rfl (by kernel_rfl) (by kernel_rfl) (by kernel_rfl) (fun _ _ _ h => h) (Or.inl ⟨by rfl, ?_⟩) hS0 ?_
  rotate_left
  · (intro w_ hw_; go_simp; try with_reducible rfl)
  simp only [List.setIfInBounds_toArray, List.set_cons_zero, List.set_cons_succ]
  refine wpH_take (i := 1) (v := ?_) rfl rfl (by kernel_rfl) (by kernel_rfl) (by kernel_rfl) (fun _ _ _ h => h) (Or.inl ⟨by rfl, ?_⟩) hS0 ?_
  rotate_left
  · (intro w_ hw_; go_simp; try with_reducible rfl)
  simp only [List.setIfInBounds_toArray, List.set_cons_zero, List.set_cons_succ]
  refine wpH_take (i := 2) (v := ?_) rfl rfl (by kernel_rfl) (by kernel_rfl) (by kernel_rfl) (fun _ _ _ h => h) (Or.inl ⟨by rfl, ?_⟩) hS0 ?_
  rotate_left
  · (intro w_ hw_; go_simp; try with_reducible rfl)
  simp only [List.setIfInBounds_toArray, List.set_cons_zero, List.set_cons_succ]
  refine wpH_take (i := 3) (v := ?_) rfl rfl (by kernel_rfl) (by kernel_rfl) (by kernel_rfl) (fun _ _ _ h => h) (Or.inl ⟨by rfl, ?_⟩) hS0 ?_
  rotate_left
  · (intro w_ hw_; go_simp; try with_reducible rfl)
  simp only [List.setIfInBounds_toArray, List.set_cons_zero, List.set_cons_succ]
  refine wpH_take (i := 4) (v := ?_) rfl rfl (by kernel_rfl) (by kernel_rfl) (by kernel_rfl) (fun _ _ _ h => h) (Or.inl ⟨by rfl, ?_⟩) hS0 ?_
  rotate_left
  · (intro w_ hw_; go_simp; try with_reducible rfl)
  simp only [List.setIfInBounds_toArray, List.set_cons_zero, List.set_cons_succ]
  refine wpH_take (i := 5) (v := .slice (some aa) (m - i) (c - (i + 1))) rfl rfl (by kernel_rfl) (by kernel_rfl) (by kernel_rfl) (fun _ _ _ h => h) (Or.inl ⟨by rfl, ?_⟩) hS0 ?_
  · (intro w_ hw_; have haa := HAA.out; go_simp; rw [if_pos ⟨by omega, by omega⟩]; by_cases hce : c = i + 1 <;> simp [hce])
  simp only [List.setIfInBounds_toArray, List.set_cons_zero, List.set_cons_succ]
  have hbu := setRow_turn u g cur1 HBU.out
  refine wpH_run (i := 6) (v := .slice (some ⟨g, 0, none⟩) m c) (w' := u.setRow g cur1) (by kernel_rfl) rfl rfl (by rfl) (exec_append (.tmp 22) (.tmp 25) 165 165 rfl rfl rfl (HAP.out 165 u HBU.out)) trivial ?_
  simp only [List.setIfInBounds_toArray, List.set_cons_zero, List.set_cons_succ]
  have HB1 := Lib.hid hbu.1
  have HT1 := Lib.hid (HT.out.trans hbu.2 (fun j hj _ => hj))
  clear hbu HBU HT HAP
  generalize u.setRow g cur1 = u1 at *
  refine wpH_take (i := 7) (v := ?_) rfl rfl (by kernel_rfl) (by kernel_rfl) (by kernel_rfl) (fun _ _ _ h => h) (Or.inl ⟨by rfl, ?_⟩) hS0 ?_
  rotate_left
  · (intro w_ hw_; go_simp; try with_reducible rfl)
  simp only [List.setIfInBounds_toArray, List.set_cons_zero]
  clear hS0
  refine wpAnyH_done (by kernel_rfl) ?_ _
  go_wp2_with (rw [wpl_id]; first
    | (refine wpl_clear164 HB1 _ rfl (by first | exact .inl rfl | exact .inr ⟨_, _, _, _, rfl, rfl, rfl, rfl⟩) rfl (by have h1 := HS1.out.1; have h2 := HS1.out.2; omega) ?_))
  have hb2 := setRow_turn u1 g (splice cur1 (m * 6) z164.toArray) HB1.out
  go_ret
  exact ⟨rfl, hb2.1, HT1.out.trans hb2.2 (fun j hj _ => hj)⟩
theorem Qn.rowturn (h : Qn w0 v L R M S D K) {i : Nat} {r : Rx} (hi : R[i]? = some r) {u : Value} {n' : Nat} {l' : List Value} (hr : v'.ownsRow w0.heap.size r.t r.s u n' l') (hT : Turn r.v.ownBlock.toList v v')
    (ho : u.ownBlock = r.v.ownBlock ∨ u.ownBlock = some v.heap.size) (h5 : r.t ≠ 5) : Qn w0 v' L (R.set i ⟨r.t, r.s, u, n', l'⟩) M S D K := by
  have hm := List.mem_of_getElem? hi
  refine ⟨h.bx.rowput hi hr hT ho, h.at_.turn hT (row_nobytes (h.bx.row_ hi) h5) (fun j hj hx => ?_), h.lo, h.nb, fun q hq g hg2 hm2 => ?_, h.ks.turn hT (h.ks.notrow (h.bx.row_ hi)) fun x hx => (h.ks.at_ x hx).2.2.2⟩
  · rw [Option.mem_toList] at hx
    exact h.nr r hm j hx hj
  · rcases mem_set hq with rfl | ⟨j, _, hq⟩
    · rcases ho with ho | ho
      · rw [ho] at hg2
        exact h.nr r hm g hg2 hm2
      · rw [ho] at hg2
        cases hg2
        have := h.at_.lt _ hm2
        omega
    · exact h.nr q (List.mem_of_getElem? hq) g hg2 hm2
/-- Things as cells. -/
def thC (ts : List Th) : List Value := ts.flatMap fun t => (thA t).toList
theorem thC_cons (t : Th) (ts : List Th) : thC (t :: ts) = (thA t).toList ++ thC ts := rfl
theorem thA_len (t : Th) : (thA t).toList.length = 6 := rfl
theorem thC_length : ∀ ts : List Th, (thC ts).length = ts.length * 6
  | [] => rfl
  | t :: ts => by rw [thC_cons, List.length_append, thA_len, thC_length ts, List.length_cons]; omega
theorem thC_append (a b : List Th) : thC (a ++ b) = thC a ++ thC b := by
  unfold thC
  rw [List.flatMap_append]
theorem thC_take (ts : List Th) (k : Nat) (hk : k ≤ ts.length) : (thC ts).take (k * 6) = thC (ts.take k) := by
  have h := thC_append (ts.take k) (ts.drop k)
  rw [List.take_append_drop] at h
  rw [h, List.take_append_of_le_length (by rw [thC_length, List.length_take]; omega), List.take_of_length_le (by rw [thC_length, List.length_take]; omega)]
theorem thC_drop (ts : List Th) (k : Nat) (hk : k ≤ ts.length) : (thC ts).drop (k * 6) = thC (ts.drop k) := by
  have h := thC_append (ts.take k) (ts.drop k)
  rw [List.take_append_drop] at h
  have hl : (thC (ts.take k)).length = k * 6 := by rw [thC_length, List.length_take]; omega
  rw [h, ← hl, List.drop_left]
theorem thC_at (ts : List Th) (k : Nat) (hk : k < ts.length) : ((thC ts).drop (k * 6)).take 6 = (thA ts[k]).toList := by
  rw [thC_drop ts k (by omega), List.drop_eq_getElem_cons hk, thC_cons, List.take_append_of_le_length (by rw [thA_len]; omega), List.take_of_length_le (by rw [thA_len]; omega)]
theorem thC_one (ts : List Th) : ∀ u ∈ thC ts, u.oneCell' = true := by
  intro u hu
  obtain ⟨t, _, hu⟩ := List.mem_flatMap.1 hu
  simp [thA] at hu
  rcases hu with rfl | rfl | rfl | rfl | rfl | rfl <;> rfl
theorem thC_erase (ts : List Th) (i : Nat) (hi : i < ts.length) : (thC ts).take (i * 6) ++ (thC ts).drop ((i + 1) * 6) = thC (ts.eraseIdx i) := by
  rw [thC_take ts i (by omega), thC_drop ts (i + 1) (by omega), ← thC_append, List.eraseIdx_eq_take_drop_succ]
theorem splice_del {cur : Array Value} {i m c : Nat} {xs z : List Value} (hx : cur.toList.take ((m + 1) * 6) = xs) (hsz : cur.size = c * 6) (hi : i ≤ m) (hnc : m + 1 ≤ c) :
    (splice (splice cur (i * 6) (xs.drop ((i + 1) * 6)).toArray) (m * 6) z.toArray).toList.take (m * 6) = xs.take (i * 6) ++ xs.drop ((i + 1) * 6) := by
  have hl : xs.length = (m + 1) * 6 := by rw [← hx, List.length_take, Array.length_toList, hsz]; omega
  have hc : cur.toList.take (i * 6) = xs.take (i * 6) := by rw [← hx, List.take_take, Nat.min_eq_left (by omega)]
  have h1 : (splice cur (i * 6) (xs.drop ((i + 1) * 6)).toArray).toList.take (m * 6) = xs.take (i * 6) ++ xs.drop ((i + 1) * 6) := by
    unfold splice
    rw [hc]
    simp only [List.toList_toArray]
    rw [List.take_append_of_le_length (by simp; omega), List.take_of_length_le (by simp; omega)]
  have hsz2 : (splice cur (i * 6) (xs.drop ((i + 1) * 6)).toArray).size = cur.size := splice_size (by simp; omega)
  have h2 : ∀ X : Array Value, m * 6 ≤ X.size → (splice X (m * 6) z.toArray).toList.take (m * 6) = X.toList.take (m * 6) := by
    intro X hX
    unfold splice
    simp only [List.toList_toArray, List.append_assoc]
    rw [List.take_append_of_le_length (by simp; omega), List.take_of_length_le (by simp; omega)]
  rw [h2 _ (by rw [hsz2, hsz]; omega), h1]
theorem Delete_q (h : Qn w0 v L R M S D K) {j g i c : Nat} {ts : List Th} (hj : R[j]? = some ⟨164, 6, .slice (some ⟨g, 0, none⟩) ts.length c, ts.length, thC ts⟩) (hi : i < ts.length) :
    Calls Tryz.prog 102 #[.slice (some ⟨g, 0, none⟩) ts.length c, .int .i64 (i : Int), .int .i64 ((i + 1 : Nat) : Int)] v fun e v' => e = .returned (.slice (some ⟨g, 0, none⟩) (ts.eraseIdx i).length c) ∧
      Qn w0 v' L (R.set j ⟨164, 6, .slice (some ⟨g, 0, none⟩) (ts.eraseIdx i).length c, (ts.eraseIdx i).length, thC (ts.eraseIdx i)⟩) M S D K := by
  have hr := h.bx.row_ hj
  dsimp only at hr
  obtain ⟨m, hm⟩ : ∃ m, ts.length = m + 1 := ⟨ts.length - 1, by omega⟩
  have hel : (ts.eraseIdx i).length = m := by rw [List.length_eraseIdx_of_lt hi]; omega
  rcases hr.2 with ⟨e, _⟩ | ⟨g', c', cur, e, hb, hg, hnc, hcm, hsz, htk⟩
  · cases e
  · injection e with e1 e2 e3
    injection e1 with e1
    injection e1 with e1
    subst e1 e3
    rw [hm] at htk hnc ⊢
    have hrun := Delete_run (w := v) (cur := cur) (i := i) (m := m) hg (by omega) hnc hsz hcm (by rw [htk]; exact thC_one ts)
    rw [htk] at hrun
    refine hrun.mono ?_
    rintro e v' ⟨rfl, hbk, hT⟩
    rw [hel]
    refine ⟨rfl, h.rowturn hj ?_ hT (.inl rfl) (by show (164 : Nat) ≠ 5; decide)⟩
    refine ⟨by show (thC (ts.eraseIdx i)).length = _; rw [thC_length, hel], .inr ⟨g, c, _, rfl, hb, hbk, by omega, hcm, ?_, ?_⟩⟩
    · have hl : (thC ts).length = (m + 1) * 6 := by rw [thC_length, hm]
      rw [splice_size, splice_size, hsz]
      · simp; omega
      · rw [splice_size]
        · simp [z164]; omega
        · simp; omega
    · rw [splice_del htk hsz (by omega) hnc, thC_erase ts i hi]
end
end Go.Proofs.YtfmdmfiljplkoaaGreat
