/- A pool and a tree that are made; a tree of one leaf in hand. Printed by mk_s19.py. What the chapter's example says: awake. Printed by mk_s20.py. A tree that is not there: the walk of RtreeNil. Printed by mk_s21.py. -/
import Derived.Test.YtfmdmfiljplkoaaGreatS18
namespace Go.Proofs.YtfmdmfiljplkoaaGreat
open Go.RowKit Go.Maps Go.Shelf
set_option maxRecDepth 8000
set_option linter.unusedSimpArgs false
section
variable {w0 v v' : World} {L L' : List Bx} {R R' : List Rx} {M M' : Mem} {S S' : Pl} {D D' : Dsk} {K : Ks}
theorem fresh_ok {rows : List (List (Int × List Nat))} {lv : Nat} {es : List En} (hi : InvR S D rows) (h : (S.take D).2.1 = 0) (he : ∀ e ∈ es, e.Ok) (hlv : lv < 256) (hle : 3 + 40 * es.length ≤ D.rm) : (S.freshP D (nodeL lv es)).2.1 = 0 := by
  obtain ⟨k, e, _, _, h3, _, h5⟩ := take_new hi h
  unfold Pl.freshP
  rw [if_pos h, e]
  exact (write_node h5 (page := k) (by rw [h3]; simp) he hlv hle).1
theorem spot_any (x y : Int) (w : World) : Calls Tryz.prog 39 #[.int .i64 x, .int .i64 y] w fun e w' => e = .returned (.agg #[.int .i64 x, .int .i64 y, .int .i64 x, .int .i64 y]) ∧ Below w.heap.size w w' := by
  have H := Lib.hid (Bxs.start w)
  go_enter Tryz.func39, Tryz.ntmps39
  go_wp2_with (rw [wpl_id]; first
    | (refine wpl_new H _ rfl (by first | exact .inl rfl | exact .inr ⟨_, _, _, _, rfl, rfl, rfl, rfl⟩) Tryz.zeroValue33 rfl (fun b w' H2 => ?_); simp only [Value.cells] at H2; clear H; have H := H2; clear H2)
    | (refine wpl_sta H 0 rfl rfl _ _ _ rfl (by first | exact .inl rfl | exact .inr ⟨_, _, _, _, rfl, rfl, rfl, rfl⟩) (by exact rfl) (by exact rfl) Tryz.sizeOf33 (by kernel_rfl) (by kernel_rfl) (by kernel_rfl) (splice_whole (n := 4) (by kernel_rfl) (by kernel_rfl)) (fun w' H2 => ?_); simp only [List.set_cons_succ, List.set_cons_zero] at H2; clear H; have H := H2; clear H2))
  exact bodyPost_ret (res_cell rfl rfl (H.out.at_ (i := 0) rfl) (Tryz.isAgg33 _) (Tryz.sizeOf33 _) rfl) rfl ⟨rfl, H.out.low⟩
theorem plane_any (w : World) : Calls Tryz.prog 12 #[] w fun e w' => e = .returned (.agg #[.int .i64 (-1800000000), .int .i64 (-900000000), .int .i64 1800000000, .int .i64 900000000]) ∧ Below w.heap.size w w' := by
  have H := Lib.hid (Bxs.start w)
  go_enter Tryz.func12, Tryz.ntmps12
  go_wp2_with (rw [wpl_id]; first
    | (refine wpl_new H _ rfl (by first | exact .inl rfl | exact .inr ⟨_, _, _, _, rfl, rfl, rfl, rfl⟩) Tryz.zeroValue33 rfl (fun b w' H2 => ?_); simp only [Value.cells] at H2; clear H; have H := H2; clear H2)
    | (refine wpl_sta H 0 rfl rfl _ _ _ rfl (by first | exact .inl rfl | exact .inr ⟨_, _, _, _, rfl, rfl, rfl, rfl⟩) (by exact rfl) (by exact rfl) Tryz.sizeOf33 (by kernel_rfl) (by kernel_rfl) (by kernel_rfl) (splice_whole (n := 4) (by kernel_rfl) (by kernel_rfl)) (fun w' H2 => ?_); simp only [List.set_cons_succ, List.set_cons_zero] at H2; clear H; have H := H2; clear H2))
  exact bodyPost_ret (res_cell rfl rfl (H.out.at_ (i := 0) rfl) (Tryz.isAgg33 _) (Tryz.sizeOf33 _) rfl) rfl ⟨rfl, H.out.low⟩
/-- A tree of one leaf, in hand. -/
def Lf (w0 v : World) (tp root : Nat) (es : List En) (D : Dsk) (R : List Rx) : Prop := ∃ M S, Qn w0 v [⟨tp, #[.pointer (some ⟨M.p, 0, none⟩), .int .i64 (root : Nat)], 79⟩] R M S D ∧ (∃ rows, InvR S D rows) ∧ NodeP S D root 0 es
theorem made_q (n : Nat) (h1 : 24 ≤ n) (h2 : n ≤ 1000000) (w : World) : Calls Tryz.prog 8 #[.int .i64 (n : Nat)] w fun e w' => ∃ b tp root D M, e = .returned (.tuple #[.pointer (some ⟨b, 0, none⟩), .pointer (some ⟨M, 0, none⟩), .pointer (some ⟨tp, 0, none⟩)]) ∧ Lf w w' tp root [] D [] := by
  have hcl : Cln (Dsk.new n 512) 0 := Cln.new h1 (by omega) (by decide) (by decide)
  have hcalm : Calm (Dsk.new n 512) := ⟨rfl, rfl⟩
  obtain ⟨_, _, _, b4, b5, _⟩ := formed_is hcl hcalm (by decide)
  have HCL := Lib.hid (And.intro hcl hcalm)
  obtain ⟨D1, hD1⟩ : ∃ D1, D1 = formed (Dsk.new n 512) := ⟨_, rfl⟩
  obtain ⟨S0, hS0⟩ : ∃ S0, S0 = (Pl.laid (Dsk.new n 512) 0).begun 1 := ⟨_, rfl⟩
  have hsec : D1.sectors = n := by rw [hD1]; exact b4
  have hn0 : S0.now = ⟨1, [], R8.zero⟩ := by rw [hS0]; rfl
  have hfi : S0.first = 2 + (n - 2) / 4 := by rw [hS0]; rfl
  have htk : (S0.take D1).2.1 = 0 := by
    unfold Pl.take
    have hp : ¬ S0.pages D1 ≤ S0.now.next := by
      unfold Pl.pages
      rw [hsec, hfi, hn0]
      show ¬ n - (2 + (n - 2) / 4) ≤ 1
      omega
    rw [hn0] at hp ⊢
    rw [if_neg (by simp [Sta.top]), if_neg hp]
  have HTK := Lib.hid htk
  have HDS := Lib.hid (And.intro hD1 hS0)
  have hb1 : (1 : Int) ≤ n := by omega
  have hb2 : (n : Int) ≤ 1048576 := by omega
  clear hcl hcalm b4 b5 hsec hn0 hfi htk h1 h2
  go_enter Tryz.func8, Tryz.ntmps8
  go_wp2_with fail
  refine (New_dk w n 512 (fun _ _ => trivial) (Below.refl _ _) hb1 hb2 (by decide) (by decide)).mono ?_
  rintro e w1 ⟨b, m, rfl, hk, -⟩
  have HK := Lib.hid hk
  clear hk
  go_wp2_with fail
  refine (Format_lp HK.out HCL.out.1 HCL.out.2 (by decide)).mono ?_
  rintro e w2 ⟨M, rfl, hk, _, hb, _⟩
  have hk : Lp w w2 M ((Pl.laid (Dsk.new n 512) 0).begun 1) (formed (Dsk.new n 512)) := hk
  rw [← HDS.out.1, ← HDS.out.2] at hk
  have HI := Lib.hid hk.inv
  have HF := Lib.hid (show (S0.freshP D1 (nodeL 0 [])).2.1 = 0 by
    obtain ⟨rows, hi⟩ := hk.inv
    exact fresh_ok hi HTK.out (by simp) (by decide) (by have := hi.rm; simp; omega))
  have HQ := Lib.hid (Qn.base hk)
  clear hk hb HK HCL
  go_wp2_with fail
  refine (Make_ok HQ.out HI.out HF.out).mono ?_
  rintro e w3 ⟨tp, M', rfl, hh, hq, hin⟩
  obtain ⟨rows, hi⟩ := HI.out
  obtain ⟨k, ek, _, _, _, hnp, _⟩ := fresh_node hi HF.out (by simp) (by decide) (by have := hi.rm; simp; omega)
  rw [ek, ← hh.p] at hq
  have hmp := hh.p
  have HL := Lib.hid (show Lf w w3 tp k [] D1 [] from ⟨M', _, hq, hin, hnp⟩)
  clear hh hq hin hi ek hnp HQ HI HF hmp
  go_wp2
  refine bodyPost_ret (v := .tuple #[.pointer (some ⟨b, 0, none⟩), .pointer (some ⟨M.p, 0, none⟩), .pointer (some ⟨tp, 0, none⟩)]) ?_ rfl ⟨b, tp, k, D1, M.p, rfl, HL.out⟩
  simp [results, Tryz.results8, go_sem]
theorem Lf.grew {tp root : Nat} {es : List En} (h : Lf w0 v tp root es D R) (k : Below v.heap.size v v') : Lf w0 v' tp root es D R := by
  obtain ⟨M, S, hq, hi, hn⟩ := h
  exact ⟨M, S, hq.grew k, hi, hn⟩
theorem Lf.most {w0 v : World} {tp root : Nat} {es : List En} {D : Dsk} {R : List Rx} (h : Lf w0 v tp root es D R) : 11 ≤ D.most := by
  obtain ⟨M, S, _, ⟨rows, hi⟩, _⟩ := h
  have := hi.rm
  unfold Dsk.most
  omega
theorem Put_lf {tp root : Nat} {es : List En} (h : Lf w0 v tp root es D R) {x : En} (hx : x.Ok) (hr : rightF x.b x.of = 0) (hm : es.length < D.most) (hno : ∀ e ∈ es, ¬ e.Is x) :
    Calls Tryz.prog 9 #[.pointer (some ⟨tp, 0, none⟩), .agg #[.int .i64 x.b.x0, .int .i64 x.b.y0, .int .i64 x.b.x1, .int .i64 x.b.y1, .int .i64 x.of]] v fun e v' => e = .returned (.int .i64 0) ∧ Lf w0 v' tp root (es ++ [x]) D R := by
  obtain ⟨M, S, hq, hi, hn⟩ := h
  refine (Put_leaf hq hi (i := 0) rfl hn hx hr hm hno).mono ?_
  rintro e v' ⟨rfl, M', S', hh, hn', _, _, hq', hi'⟩
  rw [← hh.p] at hq'
  exact ⟨rfl, M', S', hq', hi', hn'⟩
theorem Near_lf {tp root : Nat} {es : List En} (h : Lf w0 v tp root es D R) {p : Geo.Pt} (hp : Geo.May p) {most : Nat} (hm : 1 ≤ most) (hm2 : most ≤ 1000000) {rs : List En} (hrs : nearL most (rowsOf p es) = rs) {n : Nat} (hn : rs.length = n) :
    Calls Tryz.prog 13 #[.pointer (some ⟨tp, 0, none⟩), Geo.pt p, .int .i64 (most : Nat)] v fun e v' => ∃ A c, e = .returned (.tuple #[.slice A n c, .int .i64 0]) ∧ Lf w0 v' tp root es D (⟨35, 5, .slice A n c, n, itC rs⟩ :: R) := by
  obtain ⟨M, S, hq, hi, hnp⟩ := h
  have hc := Near_leaf hq hi (i := 0) rfl hnp hp hm hm2
  rw [hrs, hn] at hc
  refine hc.mono ?_
  rintro e v' ⟨A, c, S', rfl, hs, hq', hi'⟩
  exact ⟨A, c, rfl, M, S', hq', hi', hnp.same hs⟩
theorem Window_lf {tp root : Nat} {es : List En} (h : Lf w0 v tp root es D R) {r : Geo.Rc} (hr : Geo.MayR r) {x : En} (h1 : over r es = [x]) :
    Calls Tryz.prog 11 #[.pointer (some ⟨tp, 0, none⟩), Geo.rc r] v fun e v' => ∃ A c, e = .returned (.tuple #[.slice A 1 c, .int .i64 0]) ∧ Lf w0 v' tp root es D (⟨35, 5, .slice A 1 c, 1, itC [x]⟩ :: R) := by
  obtain ⟨M, S, hq, hi, hnp⟩ := h
  refine (Window_leaf hq hi (i := 0) rfl hnp hr h1).mono ?_
  rintro e v' ⟨A, c, S', rfl, hs, hq', hi'⟩
  exact ⟨A, c, rfl, M, S', hq', hi', hnp.same hs⟩
end
end Go.Proofs.YtfmdmfiljplkoaaGreat
namespace Go.Proofs.YtfmdmfiljplkoaaGreat
open Go.RowKit Go.Maps Go.Shelf
set_option maxRecDepth 8000
set_option linter.unusedSimpArgs false
section
variable {w0 v v' : World} {L L' : List Bx} {R R' : List Rx} {M M' : Mem} {S S' : Pl} {D D' : Dsk} {K : Ks}
def ax1 : En := ⟨⟨0, 0, 0, 0⟩, 1⟩
def ax2 : En := ⟨⟨5, 5, 5, 5⟩, 2⟩
def ax3 : En := ⟨⟨9, 9, 9, 9⟩, 3⟩
theorem ax_ok : ax1.Ok ∧ ax2.Ok ∧ ax3.Ok := by
  refine ⟨?_, ?_, ?_⟩ <;> constructor <;> (unfold I64; decide)
theorem ax_near : nearL 2 (rowsOf ⟨6, 6⟩ [ax1, ax2, ax3]) = [ax2, ax3] := by kernel_rfl
theorem ax_over : over ⟨4, 4, 9, 8⟩ [ax1, ax2, ax3] = [ax2] := by kernel_rfl
theorem ax_right : rightF ax1.b ax1.of = 0 ∧ rightF ax2.b ax2.of = 0 ∧ rightF ax3.b ax3.of = 0 := by decide
set_option maxHeartbeats 4000000 in
theorem awake_any (w : World) : Calls Tryz.prog 10 #[] w fun e w' => e = .returned (.bool true) ∧ Below w.heap.size w w' := by
  go_enter Tryz.func10, Tryz.ntmps10
  go_wp2_with fail
  refine (made_q 40 (by decide) (by decide) w).mono ?_
  rintro e w1 ⟨b, tp, root, D, mp, rfl, hl⟩
  have HL := Lib.hid hl
  have HM := Lib.hid hl.most
  clear hl
  go_wp2_with fail
  refine (spot_any 0 0 _).mono ?_
  rintro e w2 ⟨rfl, hb⟩
  have HL2 := Lib.hid (HL.out.grew hb)
  clear hb HL
  have HL := HL2
  clear HL2
  go_wp2_with fail
  refine (Put_lf (x := ax1) HL.out ax_ok.1 ax_right.1 (by have := HM.out; simp; omega) (by simp [En.Is, ax1, ax2, ax3])).mono ?_
  rintro e w3 ⟨rfl, hl⟩
  have HL2 := Lib.hid (show Lf w w3 tp root [ax1] D [] from hl)
  clear hl HL
  have HL := HL2
  clear HL2
  go_wp2_with fail
  refine (spot_any 5 5 _).mono ?_
  rintro e w2 ⟨rfl, hb⟩
  have HL2 := Lib.hid (HL.out.grew hb)
  clear hb HL
  have HL := HL2
  clear HL2
  go_wp2_with fail
  refine (Put_lf (x := ax2) HL.out ax_ok.2.1 ax_right.2.1 (by have := HM.out; simp; omega) (by simp [En.Is, ax1, ax2, ax3])).mono ?_
  rintro e w3 ⟨rfl, hl⟩
  have HL2 := Lib.hid (show Lf w w3 tp root [ax1, ax2] D [] from hl)
  clear hl HL
  have HL := HL2
  clear HL2
  go_wp2_with fail
  refine (spot_any 9 9 _).mono ?_
  rintro e w2 ⟨rfl, hb⟩
  have HL2 := Lib.hid (HL.out.grew hb)
  clear hb HL
  have HL := HL2
  clear HL2
  go_wp2_with fail
  refine (Put_lf (x := ax3) HL.out ax_ok.2.2 ax_right.2.2 (by have := HM.out; simp; omega) (by simp [En.Is, ax1, ax2, ax3])).mono ?_
  rintro e w3 ⟨rfl, hl⟩
  have HL2 := Lib.hid (show Lf w w3 tp root [ax1, ax2, ax3] D [] from hl)
  clear hl HL
  have HL := HL2
  clear HL2
  go_wp2_with fail
  refine (Near_lf HL.out (p := ⟨6, 6⟩) (by decide) (most := 2) (by decide) (by decide) ax_near (n := 2) rfl).mono ?_
  rintro e w4 ⟨A, c, rfl, hl⟩
  have HL2 := Lib.hid hl
  clear hl HL
  have HL := HL2
  clear HL2
  go_wp2_with fail
  refine (Window_lf HL.out (r := ⟨4, 4, 9, 8⟩) (by decide) ax_over).mono ?_
  rintro e w5 ⟨A2, c2, rfl, hl⟩
  obtain ⟨M, S, hq, _, _⟩ := hl
  obtain ⟨g1, d1, e1⟩ := row_shape (hq.bx.row_ (i := 1) rfl) (by show 0 < 2; decide)
  obtain ⟨g2, d2, e2⟩ := row_shape (hq.bx.row_ (i := 0) rfl) (by show 0 < 1; decide)
  dsimp only at e1 e2
  injection e1 with e1 _ e3
  injection e2 with e2 _ e4
  subst e1 e2
  have HQ := Lib.hid hq
  clear hq HL HM e3 e4
  go_wp2_with (rw [wpl_id]; first
    | (refine wpl_rld (Lib.hid HQ.out.bx) 1 rfl 3 _ rfl (by first | exact .inl rfl | exact .inr ⟨_, _, _, _, rfl, rfl, rfl, rfl⟩) (g := g1) (off := 4) (by exact rfl) rfl Tryz.isAgg3 rfl ?_)
    | (refine wpl_rld (Lib.hid HQ.out.bx) 1 rfl 3 _ rfl (by first | exact .inl rfl | exact .inr ⟨_, _, _, _, rfl, rfl, rfl, rfl⟩) (g := g1) (off := 9) (by exact rfl) rfl Tryz.isAgg3 rfl ?_)
    | (refine wpl_rld (Lib.hid HQ.out.bx) 0 rfl 3 _ rfl (by first | exact .inl rfl | exact .inr ⟨_, _, _, _, rfl, rfl, rfl, rfl⟩) (g := g2) (off := 4) (by exact rfl) rfl Tryz.isAgg3 rfl ?_))
  go_ret
  exact ⟨rfl, HQ.out.low⟩
end
end Go.Proofs.YtfmdmfiljplkoaaGreat
namespace Go.Proofs.YtfmdmfiljplkoaaGreat
open Go.RowKit Go.Maps Go.Shelf
set_option maxRecDepth 8000
set_option linter.unusedSimpArgs false
section
variable {w0 v v' : World} {L L' : List Bx} {R R' : List Rx} {M M' : Mem} {S S' : Pl} {D D' : Dsk} {K : Ks}
set_option maxHeartbeats 4000000 in
theorem Nil_any (root : Int) (w : World) : Calls Tryz.prog 5 #[.int .i64 root] w fun e w' => e = .returned (.bool true) ∧ Below w.heap.size w w' := by
  have hcl : Cln (Dsk.new 40 512) 0 := Cln.new (by decide) (by decide) (by decide) (by decide)
  have hcalm : Calm (Dsk.new 40 512) := ⟨rfl, rfl⟩
  have HCL := Lib.hid (And.intro hcl hcalm)
  have HB := Lib.hid (Below.refl w.heap.size w)
  clear hcl hcalm
  go_enter Tryz.func5, Tryz.ntmps5
  go_wp2_with fail
  refine (Make_nil _).mono ?_
  rintro e w1 ⟨rfl, hw⟩
  have hw2 := hw.symm
  clear hw
  subst hw2
  go_wp2_with fail
  refine (TOpen_nil _ _).mono ?_
  rintro e w1 ⟨rfl, hw⟩
  have hw2 := hw.symm
  clear hw
  subst hw2
  go_wp2_with fail
  refine (plane_any _).mono ?_
  rintro e w1 ⟨rfl, hb⟩
  have HB2 := Lib.hid (grow HB.out hb)
  clear hb HB
  have HB := HB2
  clear HB2
  go_wp2_with fail
  refine (Window_nil _).mono ?_
  rintro e w1 ⟨rfl, hb⟩
  have HB2 := Lib.hid (grow HB.out hb)
  clear hb HB
  have HB := HB2
  clear HB2
  go_wp2_with fail
  refine (Near_nil _ _).mono ?_
  rintro e w1 ⟨rfl, hb⟩
  have HB2 := Lib.hid (grow HB.out hb)
  clear hb HB
  have HB := HB2
  clear HB2
  go_wp2_with fail
  refine (Height_nil _).mono ?_
  rintro e w1 ⟨rfl, hw⟩
  have hw2 := hw.symm
  clear hw
  subst hw2
  go_wp2_with fail
  refine (New_dk w 40 512 (fun _ _ => trivial) HB.out (by decide) (by decide) (by decide) (by decide)).mono ?_
  rintro e w2 ⟨b, m, rfl, hk, -⟩
  have HK := Lib.hid hk
  clear hk HB
  go_wp2_with fail
  refine (Format_lp HK.out HCL.out.1 HCL.out.2 (by decide)).mono ?_
  rintro e w3 ⟨M, rfl, hk, _, hb, _⟩
  have HL := Lib.hid hk
  have HB := Lib.hid hk.low
  clear hk hb HK HCL
  go_wp2_with fail
  refine (Open_no HL.out root (by unfold Sta.taken; show (decide (0 < root) && decide (root < ((1 : Nat) : Int)) && _) = false; by_cases h : 0 < root <;> simp [h]; omega)).mono ?_
  rintro e w4 ⟨rfl, rfl⟩
  clear HL
  go_wp2_with fail
  refine (Put_nil _).mono ?_
  rintro e w1 ⟨rfl, hb⟩
  have HB2 := Lib.hid (grow HB.out hb)
  clear hb HB
  have HB := HB2
  clear HB2
  go_wp2_with fail
  refine (Drop_nil _).mono ?_
  rintro e w1 ⟨rfl, hb⟩
  have HB2 := Lib.hid (grow HB.out hb)
  clear hb HB
  have HB := HB2
  clear HB2
  go_wp2_with fail
  refine (TFree_nil _).mono ?_
  rintro e w1 ⟨rfl, hw⟩
  have hw2 := hw.symm
  clear hw
  subst hw2
  go_wp2_with fail
  refine (Root_nil _).mono ?_
  rintro e w1 ⟨rfl, hw⟩
  have hw2 := hw.symm
  clear hw
  subst hw2
  go_wp2_with fail
  refine (awake_any _).mono ?_
  rintro e w1 ⟨rfl, hb⟩
  have HB2 := Lib.hid (grow HB.out hb)
  clear hb HB
  have HB := HB2
  clear HB2
  go_wp2
  go_ret
  exact ⟨rfl, HB.out⟩
end
end Go.Proofs.YtfmdmfiljplkoaaGreat
