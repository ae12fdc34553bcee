/- Walks: the document's pool: Give, Write, Take. Printed by mk_re.py. -/
import Derived.Test.YtklppnknllbfnaaGreatRd
namespace Go.Proofs.YtklppnknllbfnaaGreat
open Go.RowKit Go.Maps
set_option maxRecDepth 8000
set_option linter.unusedSimpArgs false
section
variable {P : Program} {ops : Array Oper} {rest : List Oper} {o : Oper} {a : Act} {Q : Exit → Act → World → Prop} {w0 w : World} {L : List Bx} {R : List Rx}
/-- A row's cell is written. -/
theorem wpl_rs (H : Hid (Bxs w0 w L R)) (j : Nat) {r : Rx} (hj : R[j]? = some r) (hd : o.dst = none) (t : TypeId) (x y : Operand) (ho : o.op = .store t x y) (hgd : Want ops o a) {g c k : Nat} (hv : r.v = .slice (some ⟨g, 0, none⟩) r.n c) (hx : a.eval x = .pointer (some ⟨g, k, none⟩)) {v : Value} (hy : a.eval y = v)
  (hz : ∀ w, (Go.sizeOf t).run P w = .ok 1 w) (h1 : v.oneCell' = true) (hk : k < r.n * r.s)
  (kk : ∀ w', Hid (Bxs w0 w' L (R.set j { r with l := r.l.set k v })) → wpList P ops Q rest a w') : WL P ops Q (o :: rest) a w := by
 have hr := H.out.row_ hj
 rw [hv] at hr
 obtain ⟨cs, hb⟩ := row_kind hr rfl
 have hb : Blk w g cs r.t := hb
 have hc := World.ownsRow.cellAt hr k hk
 have hlt : k < r.l.length := by have := hr.1; omega
 rw [List.getElem?_eq_getElem hlt, hb.cell] at hc
 have hsz := (Array.getElem?_eq_some_iff.1 hc).1
 exact wpl_skip hgd hd (exec_store t x y ho hx hy (run_store_one (hz w) hb hsz h1)) (kk _ (Lib.hid (H.out.rowset hj hv k v)))
end
theorem strs_set (ls : List (List Nat)) (k : Nat) (l : List Nat) : (strs ls).set k (.string (str l)) = strs (ls.set k l) := by unfold strs; rw [List.map_set]
theorem str_dash (ls : List (List Nat)) (k : Nat) : (strs ls).set k (.string ⟨#[45]⟩) = strs (ls.set k dash) := by rw [dash_str, strs_set]
theorem setLt {ls : List (List Nat)} {k : Nat} {l : List Nat} (h : ∀ x ∈ ls, ∀ b ∈ x, b < 256) (hl : ∀ b ∈ l, b < 256) : ∀ x ∈ ls.set k l, ∀ b ∈ x, b < 256 := by
 intro x hx
 rcases List.mem_or_eq_of_mem_set hx with h1 | rfl
 ·exact h x h1
 ·exact hl
theorem has_at {s : Rs} {page : Int} (h : s.has page = true) : ∃ k : Nat, page = k ∧ k < s.loads.length := by
 unfold Rs.has at h
 simp at h
 exact ⟨page.toNat, by omega, by omega⟩
theorem mark_len (R : Rp) (k : Nat) : (R.mark k).ch.length ≤ R.ch.length + 1 := by
 unfold Rp.mark
 dsimp only
 split
 ·omega
 ·simp
set_option maxHeartbeats 4000000 in
theorem Give_ref {w : World} {m : Rm} {R : Rp} (page : Int) (h : RpAt w m R) (hs : R.now.loads.length ≤ 1000 ∧ R.now.free.length ≤ 1000 ∧ R.ch.length ≤ 1000) :
  Calls Tryz.prog 23 #[.agg (pc m R), .int .i64 page] w fun e w' => ∃ m', e = .returned (.tuple #[.agg (pc m' (R.give page).2), .int .i64 (R.give page).1]) ∧ RpAt w' m' (R.give page).2 ∧ Fresh w.heap.size m m' ∧ Below w.heap.size w w' := by
 have H := Lib.hid (Bxs.start w)
 have HW := Lib.hid h
 obtain ⟨A1, c1, A2, c2, A3, c3, A4, c4, A5, c5, rfl⟩ := h.shape
 have HT := Lib.hid (fun w' (k : Below w.heap.size w w') => Taken_ref page (HW.out.low k).nl HW.out.bn)
 have HC := Lib.hid (fun w' (k : Below w.heap.size w w') => copied_ref R.now.roots (HW.out.nl.low k) (HW.out.nf.low k) HW.out.sn.1 HW.out.sn.2.1)
 have HS := Lib.hid hs
 clear h hs
 unfold Rp.give
 cases hh : R.now.has page with
 | false =>
  rw [if_pos rfl]
  rw [hh] at HT
  clear hh HC
  go_enter Tryz.func23, Tryz.ntmps23
  go_wp2_with (rw [wpl_id]; first
   | (refine wpl_box H _ _ rfl (wnt rfl) rfl (fun b1 w' H2 => ?_); clear H; have H := H2; clear H2)
   | (refine wpl_new H _ rfl (wnt rfl) Tryz.zeroValue48 (cs := z48) rfl (fun b2 w' H2 => ?_); clear H; have H := H2; clear H2)
   | (refine wpl_lda H 1 rfl _ _ rfl (wnt rfl) (by exact rfl) Tryz.isAgg48 Tryz.sizeOf48 (by kernel_rfl) (whole_take (by kernel_rfl)) ?_))
  refine (HT.out _ H.out.low).mono ?_
  rintro e w1 ⟨rfl, hb⟩
  have H2 := Lib.hid (H.out.grew hb); clear H hb; have H := H2; clear H2
  go_wp2_with (rw [wpl_id]; first
   | (refine wpl_lda H 1 rfl _ _ rfl (wnt rfl) (by exact rfl) Tryz.isAgg48 Tryz.sizeOf48 (by kernel_rfl) (whole_take (by kernel_rfl)) ?_)
   | (refine wpl_sta H 0 rfl rfl _ _ _ rfl (wnt rfl) (by exact rfl) (by exact rfl) Tryz.sizeOf48 (by kernel_rfl) (by kernel_rfl) (by kernel_rfl) (splice_whole (n := 25) (by kernel_rfl) (by kernel_rfl)) (fun w' H2 => ?_); simp only [List.set_cons_succ, List.set_cons_zero] at H2; clear H; have H := H2; clear H2))
  exact bodyPost_ret (res_cell1 rfl rfl (H.out.at_ (i := 0) rfl) (Tryz.isAgg48 _) (Tryz.sizeOf48 _) rfl) rfl ⟨_, rfl, HW.out.low H.out.low, Fresh.refl, H.out.low⟩
 | true =>
  rw [if_neg (by simp)]
  rw [hh] at HT
  obtain ⟨k, rfl, hk⟩ := has_at hh
  rw [Int.toNat_natCast]
  have hk' : (k : Int) < R.now.loads.length := by omega
  have HK := Lib.hid hk
  clear hh hk
  go_enter Tryz.func23, Tryz.ntmps23
  go_wp2_with (rw [wpl_id]; first
   | (refine wpl_box H _ _ rfl (wnt rfl) rfl (fun b1 w' H2 => ?_); clear H; have H := H2; clear H2)
   | (refine wpl_new H _ rfl (wnt rfl) Tryz.zeroValue48 (cs := z48) rfl (fun b2 w' H2 => ?_); clear H; have H := H2; clear H2)
   | (refine wpl_lda H 1 rfl _ _ rfl (wnt rfl) (by exact rfl) Tryz.isAgg48 Tryz.sizeOf48 (by kernel_rfl) (whole_take (by kernel_rfl)) ?_))
  refine (HT.out _ H.out.low).mono ?_
  rintro e w1 ⟨rfl, hb⟩
  have H2 := Lib.hid (H.out.grew hb); clear H hb; have H := H2; clear H2
  go_wp2_with (rw [wpl_id]; first
   | (refine wpl_lda H 1 rfl _ _ rfl (wnt rfl) (by exact rfl) Tryz.isAgg46 Tryz.sizeOf46 (by kernel_rfl) (cs := sc (.slice A1 R.now.loads.length c1) (.slice A2 R.now.free.length c2) R.now.roots) rfl ?_))
  refine (HC.out _ H.out.low).mono ?_
  rintro e w2 ⟨lv, fv, rfl, hr1, hr2, hb⟩
  obtain ⟨g, d1, rfl⟩ := row_shape hr1 (by have := HK.out; omega)
  obtain ⟨B2, d2, rfl⟩ := slice_shape hr2
  have H2 := Lib.hid (H.out.own2 hb hr1 hr2 (by decide)); clear H hr1 hr2 hb; have H := H2; clear H2
  have hkk := HK.out
  go_wp2_with (rw [wpl_id]; first
   | (refine wpl_new H _ rfl (wnt rfl) Tryz.zeroValue46 (cs := z46) rfl (fun b3 w' H2 => ?_); clear H; have H := H2; clear H2)
   | (refine wpl_sta H 0 rfl rfl _ _ _ rfl (wnt rfl) (by exact rfl) (by exact rfl) Tryz.sizeOf46 (by kernel_rfl) (by kernel_rfl) (by kernel_rfl) (splice_whole (n := 10) (by kernel_rfl) (by kernel_rfl)) (fun w' H2 => ?_); simp only [List.set_cons_succ, List.set_cons_zero] at H2; clear H; have H := H2; clear H2)
   | (refine wpl_ld H 0 rfl _ _ rfl (wnt rfl) (by exact rfl) (notAgg _ (by decide)) (by exact rfl) ?_)
   | (refine wpl_rs H 0 rfl rfl _ _ _ rfl (wnt rfl) rfl (by exact rfl) (by (conv => lhs; whnf) <;> exact rfl) (oneSize _ (by decide)) rfl (by rw [Nat.mul_one]; exact HK.out) (fun w' H2 => ?_); simp only [List.set_cons_succ, List.set_cons_zero] at H2; clear H; have H := H2; clear H2)
   | (refine wpl_lit1 el3 H _ rfl (wnt rfl) (by (conv => lhs; whnf) <;> exact rfl) (.inr ⟨_, rfl⟩) (fun b w' H2 => ?_); clear H; have H := H2; clear H2)
   | (refine wpl_app el3 H 2 rfl _ _ rfl (wnt rfl) rfl rfl (H.out.row_ (i := 0) rfl) (by simp [Value.oneCell']) (by have := HS.out; dsimp only; omega) (rfl) rfl (fun A c w' H2 => ?_); simp only [List.set_cons_succ, List.set_cons_zero] at H2; clear H; have H := H2; clear H2)
   | (refine wpl_st H 0 rfl rfl _ _ _ rfl (wnt rfl) (by exact rfl) (by (conv => lhs; whnf) <;> exact rfl) (oneSize _ (by decide)) rfl (by kernel_rfl) rfl (fun w' H2 => ?_); simp only [List.set_cons_succ, List.set_cons_zero] at H2; clear H; have H := H2; clear H2)
   | (refine wpl_lda H 0 rfl _ _ rfl (wnt rfl) (by exact rfl) Tryz.isAgg46 Tryz.sizeOf46 (by kernel_rfl) (whole_take (by kernel_rfl)) ?_)
   | (refine wpl_sta H 2 rfl rfl _ _ _ rfl (wnt rfl) (by exact rfl) (by exact rfl) Tryz.sizeOf46 (by kernel_rfl) (by kernel_rfl) (by kernel_rfl) rfl (fun w' H2 => ?_); simp only [List.set_cons_succ, List.set_cons_zero] at H2; clear H; have H := H2; clear H2)
   | (refine wpl_st H 2 rfl rfl _ _ _ rfl (wnt rfl) (by exact rfl) (by (conv => lhs; whnf) <;> exact rfl) (oneSize _ (by decide)) rfl (by kernel_rfl) rfl (fun w' H2 => ?_); simp only [List.set_cons_succ, List.set_cons_zero] at H2; clear H; have H := H2; clear H2)
   | (refine wpl_lda H 2 rfl _ _ rfl (wnt rfl) (by exact rfl) Tryz.isAgg48 Tryz.sizeOf48 (by kernel_rfl) (whole_take (by kernel_rfl)) ?_))
  have hn1 : RowS w' (.slice (some ⟨g, 0, none⟩) R.now.loads.length d1) (R.now.loads.set k dash) := by
   have hr := row_base0 (H.out.row_ (i := 1) rfl)
   dsimp only at hr
   rw [str_dash] at hr
   unfold RowS
   rw [List.length_set]
   exact hr
  have hn2 : RowI w' (.slice A (R.now.free.length + 1) c) (R.now.free ++ [k]) := by
   have hr := row_base0 (H.out.row_ (i := 2) rfl)
   unfold RowI
   rw [List.length_append, List.map_append]
   exact hr
  have HR1 := Lib.hid (show RpAt w' ⟨.slice (some ⟨g, 0, none⟩) R.now.loads.length d1, .slice A (R.now.free.length + 1) c, .slice A3 R.was.loads.length c3, .slice A4 R.was.free.length c4, .slice A5 R.ch.length c5⟩ ({ R with now := { R.now with loads := R.now.loads.set k dash, free := R.now.free ++ [k] }, moved := true } : Rp) from ⟨setLt HW.out.bn dash_lt, HW.out.bw, ⟨by show (R.now.loads.set k dash).length ≤ _; rw [List.length_set]; exact HW.out.sn.1, by show (R.now.free ++ [k]).length ≤ _; rw [List.length_append]; have := HS.out; simp; omega, HW.out.sn.2.2.1, HW.out.sn.2.2.2.1, HW.out.sn.2.2.2.2⟩, hn1, hn2, HW.out.wl.low H.out.low, HW.out.wf.low H.out.low, HW.out.cv.low H.out.low⟩)
  clear hn1 hn2
  refine (changed_ref (m := ⟨.slice (some ⟨g, 0, none⟩) R.now.loads.length d1, .slice A (R.now.free.length + 1) c, .slice A3 R.was.loads.length c3, .slice A4 R.was.free.length c4, .slice A5 R.ch.length c5⟩) (R := ({ R with now := { R.now with loads := R.now.loads.set k dash, free := R.now.free ++ [k] }, moved := true } : Rp)) k HR1.out).mono ?_
  rintro e w3 ⟨cv', rfl, hcv, hfv, hb⟩
  have HFR := Lib.hid (Fresh.with_cv (m := ⟨.slice A1 R.now.loads.length c1, .slice A2 R.now.free.length c2, .slice A3 R.was.loads.length c3, .slice A4 R.was.free.length c4, .slice A5 R.ch.length c5⟩) (m' := ⟨.slice (some ⟨g, 0, none⟩) R.now.loads.length d1, .slice A (R.now.free.length + 1) c, .slice A3 R.was.loads.length c3, .slice A4 R.was.free.length c4, .slice A5 R.ch.length c5⟩) (Fresh.mk5 (FreshV.row (H.out.row_ (i := 1) rfl)) (FreshV.row (H.out.row_ (i := 2) rfl)) FreshV.wl FreshV.wf FreshV.cv) H.out.low.size hfv)
  clear hfv
  obtain ⟨B3, d3, rfl⟩ := slice_shape hcv
  have hR := HR1.out.low hb
  have HR2 := Lib.hid (show RpAt w3 { (⟨.slice (some ⟨g, 0, none⟩) R.now.loads.length d1, .slice A (R.now.free.length + 1) c, .slice A3 R.was.loads.length c3, .slice A4 R.was.free.length c4, .slice A5 R.ch.length c5⟩ : Rm) with cv := .slice B3 (Rp.mark ({ R with now := { R.now with loads := R.now.loads.set k dash, free := R.now.free ++ [k] }, moved := true } : Rp) k).ch.length d3 } (Rp.mark ({ R with now := { R.now with loads := R.now.loads.set k dash, free := R.now.free ++ [k] }, moved := true } : Rp) k) from ⟨hR.bn, hR.bw, ⟨hR.sn.1, hR.sn.2.1, hR.sn.2.2.1, hR.sn.2.2.2.1, by have h9 : (Rp.mark ({ R with now := { R.now with loads := R.now.loads.set k dash, free := R.now.free ++ [k] }, moved := true } : Rp) k).ch.length ≤ R.ch.length + 1 := mark_len ({ R with now := { R.now with loads := R.now.loads.set k dash, free := R.now.free ++ [k] }, moved := true } : Rp) k; have := HS.out; omega⟩, hR.nl, hR.nf, hR.wl, hR.wf, hcv⟩)
  have H2 := Lib.hid (H.out.grew hb); clear H hb hcv hR HR1; have H := H2; clear H2
  have HB2 := Lib.hid (H.out.at_ (i := 1) rfl)
  go_wp2_with (rw [wpl_id]; first
   | (refine wpl_staT H 1 rfl rfl _ _ _ rfl (wnt rfl) (by exact rfl) (by exact rfl) Tryz.sizeOf48 (by kernel_rfl) (by kernel_rfl) (by kernel_rfl) (splice_whole (n := 25) (by kernel_rfl) (by kernel_rfl)) (fun w' H2 HT2 => ?_); simp only [List.set_cons_succ, List.set_cons_zero] at H2; clear H; have H := H2; clear H2))
  exact bodyPost_ret (res_cell1 rfl rfl (H.out.at_ (i := 1) rfl) (Tryz.isAgg48 _) (Tryz.sizeOf48 _) rfl) rfl ⟨_, rfl, HR2.out.put HB2.out HT2.out, HFR.out, H.out.low⟩
end Go.Proofs.YtklppnknllbfnaaGreat
