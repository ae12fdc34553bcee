/- What overlaps a rect in a leaf: look; a row of one item sorted. Printed by mk_s13.py. A row of one item sorted. Printed by mk_s14.py. The window of a leaf, where it tells one item: Window. Printed by mk_s15.py. -/
import Derived.Test.YtfmdmfiljplkoaaGreatS12
namespace Go.Proofs.YtfmdmfiljplkoaaGreat
open Go.RowKit Go.Maps Go.Shelf
set_option maxRecDepth 8000
set_option linter.unusedSimpArgs false
variable {ι : Type} [Bar ι]
section
variable {w0 v v' : World} {L L' : List Bx} {R R' : List Rx} {M M' : Mem} {S S' : Pl} {D D' : Dsk} {K : Ks}
/-- Items as cells. -/
def itC (es : List En) : List Value := es.flatMap fun e => [.int .i64 e.b.x0, .int .i64 e.b.y0, .int .i64 e.b.x1, .int .i64 e.b.y1, .int .i64 e.of]
theorem itC_snoc (es : List En) (e : En) : itC es ++ [.int .i64 e.b.x0, .int .i64 e.b.y0, .int .i64 e.b.x1, .int .i64 e.b.y1, .int .i64 e.of] = itC (es ++ [e]) := by
  unfold itC
  rw [List.flatMap_append]
  rfl
def over (r : Geo.Rc) (es : List En) : List En := es.filter fun e => Geo.OverF e.b r
theorem over_take {r : Geo.Rc} {es : List En} {k : Nat} (hk : k < es.length) {e : En} (he : e = es[k]) : over r (es.take (k + 1)) = over r (es.take k) ++ if Geo.OverF e.b r then [e] else [] := by
  unfold over
  rw [List.take_add_one, List.getElem?_eq_getElem hk, Option.toList_some, List.filter_append, ← he]
  congr 1
  cases h : Geo.OverF e.b r <;> simp [h]
set_option maxHeartbeats 4000000 in
theorem look_leaf {b7 b6 b3 b2 tp root i c : Nat} {FF : Array Value} {r : Geo.Rc} {A : Option Addr} {js : List En} (h : Qn w0 v (⟨b7, FF, 87⟩ :: ⟨b6, #[.slice A js.length c], 39⟩ :: ⟨b3, #[.int .i64 r.x0, .int .i64 r.y0, .int .i64 r.x1, .int .i64 r.y1], 33⟩ :: ⟨b2, #[.pointer (some ⟨tp, 0, none⟩)], 27⟩ :: L) (⟨35, 5, .slice A js.length c, js.length, itC js⟩ :: R) M S D K) (hi : ∃ rows, InvR S D rows) (ht : L[i]? = some ⟨tp, #[.pointer (some ⟨M.p, 0, none⟩), .int .i64 (root : Nat)], 79⟩) {page : Nat} {es : List En} (hn : NodeP S D page 0 es) (hjs : js.length ≤ 1000000) :
    Calls Tryz.prog 40 #[.int .i64 page, .pointer (some ⟨b2, 0, none⟩), .pointer (some ⟨b3, 0, none⟩), .pointer (some ⟨b6, 0, none⟩), .pointer (some ⟨b7, 0, none⟩)] v fun e v' => e = .returned (.int .i64 0) ∧ ∃ A' c' S', SameBut S S' ∧
      Qn w0 v' (⟨b7, FF, 87⟩ :: ⟨b6, #[.slice A' (js ++ over r es).length c'], 39⟩ :: ⟨b3, #[.int .i64 r.x0, .int .i64 r.y0, .int .i64 r.x1, .int .i64 r.y1], 33⟩ :: ⟨b2, #[.pointer (some ⟨tp, 0, none⟩)], 27⟩ :: L) (⟨35, 5, .slice A' (js ++ over r es).length c', (js ++ over r es).length, itC (js ++ over r es)⟩ :: R) M S' D K ∧ ∃ rows, InvR S' D rows := by
  have HQ := Lib.hid h
  have HI := Lib.hid hi
  have HT := Lib.hid ht
  have HN := Lib.hid hn
  have HJ := Lib.hid hjs
  have hbn := hn.2.2.2.2
  obtain ⟨rs, hrs⟩ : ∃ rs, rs = js ++ over r es := ⟨_, rfl⟩
  rw [← hrs]
  have HRS := Lib.hid hrs
  clear h hi ht hn hjs hrs
  go_enter Tryz.func40, Tryz.ntmps40
  go_wp2_with (rw [wpl_id]; first
    | (refine wpl_ld (Lib.hid HQ.out.bx) 3 rfl _ _ rfl (by first | exact .inl rfl | exact .inr ⟨_, _, _, _, rfl, rfl, rfl, rfl⟩) (by exact rfl) Tryz.isAgg27 rfl ?_)
    | (refine wpl_lda (Lib.hid HQ.out.bx) (i + 4) HT.out _ _ rfl (by first | exact .inl rfl | exact .inr ⟨_, _, _, _, rfl, rfl, rfl, rfl⟩) (by exact rfl) Tryz.isAgg77 Tryz.sizeOf77 (by kernel_rfl) (cs := #[.pointer (some ⟨M.p, 0, none⟩)]) rfl ?_))
  refine (node_q HQ.out HI.out HN.out).mono ?_
  rintro e w1 ⟨pn, B, d, S1, rfl, hs, hq, hin⟩
  obtain ⟨n, hn0⟩ : ∃ n, n = es.length := ⟨_, rfl⟩
  rw [← hn0] at hq
  have HNN := Lib.hid hn0
  have HBN := Lib.hid (show n ≤ 2000000 by omega)
  have HB2 := Lib.hid hbn
  have HS := Lib.hid hs
  have HIN := Lib.hid hin
  have HQ2 := Lib.hid hq
  clear hs hin hq hn0 HI HT HN hbn
  clear HQ
  have HQ := HQ2
  clear HQ2
  go_wp2_with (rw [wpl_id]; first
    | (refine wpl_ld (Lib.hid HQ.out.bx) 0 rfl _ _ rfl (by first | exact .inl rfl | exact .inr ⟨_, _, _, _, rfl, rfl, rfl, rfl⟩) (by exact rfl) Tryz.isAgg91 rfl ?_))
  go_loopw [31] (fun iv wr => ∃ (k : Nat) (A' : Option Addr) (c' : Nat) (ls : List En), k ≤ n ∧ iv = .int .i64 (k : Int) ∧ Hid (ls = js ++ over r (es.take k)) ∧ Hid (Qn w0 wr (⟨pn, #[.int .i64 (0 : Nat), .slice B n d], 93⟩ :: ⟨b7, FF, 87⟩ :: ⟨b6, #[.slice A' ls.length c'], 39⟩ :: ⟨b3, #[.int .i64 r.x0, .int .i64 r.y0, .int .i64 r.x1, .int .i64 r.y1], 33⟩ :: ⟨b2, #[.pointer (some ⟨tp, 0, none⟩)], 27⟩ :: L) (⟨84, 5, .slice B n d, n, cellsE 0 es⟩ :: ⟨35, 5, .slice A' ls.length c', ls.length, itC ls⟩ :: R) M S1 D K)) (fun iv _ => n - (intOf iv).toNat)
  case atStart => exact ⟨0, A, c, js, by omega, rfl, Lib.hid (by simp [over]), HQ⟩
  case round =>
    clear HQ
    obtain ⟨k, A', c', ls, hk, rfl, HLS, HQ⟩ := hrel
    by_cases hlt : k < n
    · have hlt' : (k : Int) < n := by omega
      have hkl : k < es.length := by rw [← HNN.out]; exact hlt
      have hnd : NodeIn wr pn 0 B d es := HQ.out.bx.node (i := 0) (j := 0) (by rw [HNN.out]; rfl) (by rw [HNN.out]; rfl)
      obtain ⟨q, rfl, hqb, hqc⟩ := hnd.ents (by intro e; rw [e] at hkl; simp at hkl)
      obtain ⟨c0, c1, c2, c3, c4⟩ := hqc k hkl
      obtain ⟨e, he⟩ : ∃ e, e = es[k] := ⟨_, rfl⟩
      rw [← he] at c0 c1 c2 c3 c4
      have hov := over_take (r := r) hkl he
      have HOV := Lib.hid hov
      change wr.cell? _ = some (Value.iface 82 _) at c4
      have hll : ls.length ≤ 1100000 := by
        rw [HLS.out, List.length_append]
        have h1 : (over r (es.take k)).length ≤ (es.take k).length := List.length_filter_le _ _
        have h2 := HJ.out
        have h3 := HB2.out
        rw [List.length_take] at h1
        omega
      have HLL := Lib.hid hll
      clear hqc hqb he hnd hov hll
      go_wp2_with (rw [wpl_id]; first
        | (refine wpln_new HQ 84 rfl (by first | exact .inl rfl | exact .inr ⟨_, _, _, _, rfl, rfl, rfl, rfl⟩) Tryz.zeroValue84 rfl (fun be w' H2 => ?_); simp only [Value.cells] at H2; clear HQ; have HQ := H2; clear H2)
        | (refine wpln_sta HQ 0 rfl rfl _ _ _ rfl (by first | exact .inl rfl | exact .inr ⟨_, _, _, _, rfl, rfl, rfl, rfl⟩) (by exact rfl) (by exact rfl) Tryz.sizeOf84 (by kernel_rfl) (by kernel_rfl) (by kernel_rfl) rfl (splice_whole (n := 5) (by kernel_rfl) (by kernel_rfl)) (fun w' H2 => ?_); simp only [List.set_cons_succ, List.set_cons_zero] at H2; clear HQ; have HQ := H2; clear H2)
        | (refine wpl_lda (Lib.hid HQ.out.bx) 0 rfl _ _ rfl (by first | exact .inl rfl | exact .inr ⟨_, _, _, _, rfl, rfl, rfl, rfl⟩) (by exact rfl) Tryz.isAgg33 Tryz.sizeOf33 (by kernel_rfl) (cs := #[.int .i64 e.b.x0, .int .i64 e.b.y0, .int .i64 e.b.x1, .int .i64 e.b.y1]) rfl ?_)
        | (refine wpl_lda (Lib.hid HQ.out.bx) 4 rfl _ _ rfl (by first | exact .inl rfl | exact .inr ⟨_, _, _, _, rfl, rfl, rfl, rfl⟩) (by exact rfl) Tryz.isAgg33 Tryz.sizeOf33 (by kernel_rfl) (cs := #[.int .i64 r.x0, .int .i64 r.y0, .int .i64 r.x1, .int .i64 r.y1]) rfl ?_))
      refine (Geo.Over_any e.b r _).mono ?_
      rintro _ w2 ⟨rfl, hb⟩
      have HQ2 := Lib.hid (HQ.out.grew hb)
      clear hb c0 c1 c2 c3 c4
      clear HQ
      have HQ := HQ2
      clear HQ2
      cases hov : Geo.OverF e.b r with
      | false =>
        have HO2 := Lib.hid hov
        clear hov
        go_wp2_with fail
        exact ⟨⟨k + 1, A', c', ls, hlt, rd_num hlt HBN.out, Lib.hid (by rw [HOV.out, HO2.out, HLS.out]; simp), Lib.hid (HQ.out.sub (List.Sublist.cons _ (List.Sublist.refl _)) (List.Sublist.refl _))⟩, rd_meas hlt HBN.out⟩
      | true =>
        have HO2 := Lib.hid hov
        clear hov
        have Y1 := ta_is (.int .i64 e.of)
        have Y2 := ta_not (.int .i64 e.of)
        go_wp2_with (rw [wpl_id]; first
          | (refine wpl_ld (Lib.hid HQ.out.bx) 0 rfl _ _ rfl (by first | exact .inl rfl | exact .inr ⟨_, _, _, _, rfl, rfl, rfl, rfl⟩) (by exact rfl) Tryz.isAgg20 rfl ?_)
          | (refine wpl_ld (Lib.hid HQ.out.bx) 3 rfl _ _ rfl (by first | exact .inl rfl | exact .inr ⟨_, _, _, _, rfl, rfl, rfl, rfl⟩) (by exact rfl) Tryz.isAgg39 rfl ?_)
          | (refine wpl_lda (Lib.hid HQ.out.bx) 0 rfl _ _ rfl (by first | exact .inl rfl | exact .inr ⟨_, _, _, _, rfl, rfl, rfl, rfl⟩) (by exact rfl) Tryz.isAgg33 Tryz.sizeOf33 (by kernel_rfl) (cs := #[.int .i64 e.b.x0, .int .i64 e.b.y0, .int .i64 e.b.x1, .int .i64 e.b.y1]) rfl ?_)
          | (refine wpln_lit HQ 39 35 _ rfl (by first | exact .inl rfl | exact .inr ⟨_, _, _, _, rfl, rfl, rfl, rfl⟩) (by exact rfl) (run_lit35 _ _ _ _ _) rfl (fun bl w' H2 => ?_); simp only [List.cons_append] at H2; clear HQ; have HQ := H2; clear H2)
          | (refine wpln_app el35 HQ 2 rfl _ _ rfl (by first | exact .inl rfl | exact .inr ⟨_, _, _, _, rfl, rfl, rfl, rfl⟩) rfl rfl (HQ.out.bx.row_ (i := 0) rfl) (by simp [Value.oneCell']) (by have := HLL.out; omega) (by decide) (rfl) rfl (fun Aa ca w' H2 => ?_); simp only [List.set_cons_succ, List.set_cons_zero] at H2; clear HQ; have HQ := H2; clear H2)
          | (refine wpln_st HQ 3 rfl rfl _ _ _ rfl (by first | exact .inl rfl | exact .inr ⟨_, _, _, _, rfl, rfl, rfl, rfl⟩) (by exact rfl) (by (conv => lhs; whnf) <;> exact rfl) Tryz.sizeOf39 rfl (by kernel_rfl) rfl rfl (fun w' H2 => ?_); simp only [List.set_cons_succ, List.set_cons_zero, List.setIfInBounds_toArray] at H2; clear HQ; have HQ := H2; clear H2))
        obtain ⟨l2, hl2⟩ : ∃ l2, l2 = ls ++ [e] := ⟨_, rfl⟩
        have hq := HQ.out.sub (List.Sublist.cons _ (List.Sublist.refl _)) (List.Sublist.cons _ (List.Sublist.refl _))
        rw [show ls.length + 1 = l2.length by rw [hl2]; simp, itC_snoc, ← hl2] at hq
        exact ⟨⟨k + 1, _, _, l2, hlt, rd_num hlt HBN.out, Lib.hid (by rw [HOV.out, HO2.out, hl2, HLS.out]; simp), Lib.hid hq⟩, rd_meas hlt HBN.out⟩
    · obtain rfl : k = n := by omega
      have hnt : ¬ (k : Int) < k := by omega
      have hls : ls = rs := by rw [HRS.out, HLS.out, HNN.out, List.take_length]
      rw [hls] at HQ
      have HQ2 := Lib.hid HQ.out
      clear HLS hls
      clear HQ
      have HQ := HQ2
      clear HQ2
      go_wp2_with fail
      go_ret
      exact ⟨rfl, A', c', S1, HS.out, HQ.out.sub (List.Sublist.cons _ (List.Sublist.refl _)) (List.Sublist.cons _ (List.Sublist.refl _)), HIN.out⟩
end
end Go.Proofs.YtfmdmfiljplkoaaGreat
namespace Go.Proofs.YtfmdmfiljplkoaaGreat
open Go.RowKit Go.Maps Go.Shelf
set_option maxRecDepth 8000
set_option linter.unusedSimpArgs false
variable {ι : Type} [Bar ι]
section
variable {w0 v v' : World} {L L' : List Bx} {R R' : List Rx} {M M' : Mem} {S S' : Pl} {D D' : Dsk} {K : Ks}
theorem run_lit35_0 (w : World) : (Instr.buildSlice 39 0 #[]).run Tryz.prog w = .ok (.slice (some ⟨w.heap.size, 0, none⟩) 0 0) (w.alloc (.cells #[] 35)) := by
  obtain ⟨i, z, hi, _⟩ := el35.i
  exact run_lit Tryz.underlying39 hi
section
variable {ops : Array Oper} {rest : List Oper} {o : Oper} {a : Act} {Q : Exit → Act → World → Prop}
theorem wpln_lit0 (H : Hid (Qn w0 v L R M S D K)) (ho : o.op = .buildSlice 39 0 #[]) (hgd : Want ops o a)
    (k : ∀ b w', Hid (Qn w0 w' L (⟨35, 5, .slice (some ⟨b, 0, none⟩) 0 0, 0, []⟩ :: R) M S D K) → wpList Tryz.prog ops Q rest (a.put o.dst (.slice (some ⟨b, 0, none⟩) 0 0)) w') : WL Tryz.prog ops Q (o :: rest) a v := by
  refine wpl_run hgd (exec_lit ho (ps := #[]) (by simp) (run_lit35_0 v)) (k _ _ (Lib.hid (H.out.own ((Below.refl _ v).alloc (Nat.le_refl _) _) ?_)))
  exact World.ownsRow_lit v #[] 0 (Nat.le_refl _) (by simp [maxLen]) rfl
end
theorem Clone35 (h : Qn w0 v L R M S D K) {j g n c : Nat} {xs : List Value} (hj : R[j]? = some ⟨35, 5, .slice (some ⟨g, 0, none⟩) n c, n, xs⟩) (h1 : ∀ u ∈ xs, u.oneCell' = true) (hb : n ≤ 1000000) :
    Calls Tryz.prog 95 #[.slice (some ⟨g, 0, none⟩) n c] v fun e v' => ∃ A' c', e = .returned (.slice A' n c') ∧ Qn w0 v' L (⟨35, 5, .slice A' n c', n, xs⟩ :: R) M S D K := by
  have HQ := Lib.hid h
  have HJ := Lib.hid hj
  have H1 := Lib.hid h1
  have HB := Lib.hid hb
  have Y0 : ∀ w : World, (binOp .eql 39 (.slice (some ⟨g, 0, none⟩) n c) (.slice none 0 0)).run Tryz.prog w = .ok (.bool false) w := fun w => Lib.run_eql_slice_nil w 39 35 (some ⟨g, 0, none⟩) n c 0 0 Tryz.underlying39
  clear h hj h1 hb
  go_enter Tryz.func95, Tryz.ntmps95
  go_wp2_with (rw [wpl_id]; first
    | (refine wpln_lit0 HQ rfl (by first | exact .inl rfl | exact .inr ⟨_, _, _, _, rfl, rfl, rfl, rfl⟩) (fun b w' H2 => ?_); clear HQ; have HQ := H2; clear H2)
    | (refine wpln_app el35 HQ 0 rfl _ _ rfl (by first | exact .inl rfl | exact .inr ⟨_, _, _, _, rfl, rfl, rfl, rfl⟩) rfl rfl (HQ.out.bx.row_ (i := j + 1) HJ.out) (H1.out) (by have := HB.out; omega) (by decide) (Nat.zero_add _) rfl (fun Aa ca w' H2 => ?_); simp only [List.set_cons_succ, List.set_cons_zero] at H2; clear HQ; have HQ := H2; clear H2))
  go_ret
  exact ⟨_, _, rfl, HQ.out⟩
theorem insertion_one (A : Option Addr) (c : Nat) (f : Value) (w : World) : Calls Tryz.prog 199 #[.slice A 1 c, .int .i64 0, .int .i64 1, f] w fun e w' => e = .returned (.tuple #[]) ∧ w' = w := by
  go_enter Tryz.func199, Tryz.ntmps199
  go_wp2
  go_loopw [8] (fun iv wr => iv = .int .i64 1 ∧ wr = w) (fun _ _ => 0)
  case atStart => exact ⟨rfl, rfl⟩
  case round =>
    obtain ⟨rfl, rfl⟩ := hrel
    go_wp2
    exact bodyPost_end (results_none rfl _ _ _) rfl ⟨rfl, rfl⟩
theorem stable_one (A : Option Addr) (c : Nat) (f : Value) (w : World) : Calls Tryz.prog 156 #[.slice A 1 c, .int .i64 1, f] w fun e w' => e = .returned (.tuple #[]) ∧ w' = w := by
  have HI := Lib.hid (insertion_one A c f w)
  go_enter Tryz.func156, Tryz.ntmps156
  go_wp2
  go_loopw [7, 8] (fun x y wr => x = .int .i64 0 ∧ y = .int .i64 20 ∧ wr = w) (fun _ _ _ => 0)
  case atStart => exact ⟨rfl, rfl, rfl⟩
  case round =>
    obtain ⟨rfl, rfl, rfl⟩ := hrel
    go_wp2_with fail
    refine HI.out.mono ?_
    rintro e w1 ⟨rfl, rfl⟩
    go_wp2
    go_loopw [6, 7, 8] (fun z x y wr => z = .int .i64 20 ∧ wr = w1) (fun _ _ _ _ => 0)
    case atStart => exact ⟨rfl, rfl⟩
    case round =>
      obtain ⟨rfl, rfl⟩ := hrel
      go_wp2_with fail
      exact bodyPost_end (results_none rfl _ _ _) rfl ⟨rfl, rfl⟩
theorem stable96_one (A : Option Addr) (c : Nat) (f : Value) (w : World) : Calls Tryz.prog 96 #[.slice A 1 c, f] w fun e w' => e = .returned (.tuple #[]) ∧ w' = w := by
  have HI := Lib.hid (stable_one A c f w)
  go_enter Tryz.func96, Tryz.ntmps96
  go_wp2_with fail
  refine HI.out.mono ?_
  rintro e w1 ⟨rfl, rfl⟩
  go_wp2
  exact bodyPost_end (results_none rfl _ _ _) rfl ⟨rfl, rfl⟩
theorem sorted_one (h : Qn w0 v L R M S D K) {j g c : Nat} {xs : List Value} (hj : R[j]? = some ⟨35, 5, .slice (some ⟨g, 0, none⟩) 1 c, 1, xs⟩) (h1 : ∀ u ∈ xs, u.oneCell' = true) (f : Value) :
    Calls Tryz.prog 43 #[.slice (some ⟨g, 0, none⟩) 1 c, f] v fun e v' => ∃ A' c', e = .returned (.slice A' 1 c') ∧ Qn w0 v' L (⟨35, 5, .slice A' 1 c', 1, xs⟩ :: R) M S D K := by
  have HC := Lib.hid (Clone35 h hj h1 (by omega))
  clear h hj h1
  go_enter Tryz.func43, Tryz.ntmps43
  go_wp2_with fail
  refine HC.out.mono ?_
  rintro e w1 ⟨A', c', rfl, hq⟩
  have HQ := Lib.hid hq
  clear hq
  go_wp2_with fail
  refine (stable96_one A' c' f _).mono ?_
  rintro e w2 ⟨rfl, rfl⟩
  go_wp2
  go_ret
  exact ⟨_, _, rfl, HQ.out⟩
end
end Go.Proofs.YtfmdmfiljplkoaaGreat
namespace Go.Proofs.YtfmdmfiljplkoaaGreat
open Go.RowKit Go.Maps Go.Shelf
set_option maxRecDepth 8000
set_option linter.unusedSimpArgs false
variable {ι : Type} [Bar ι]
section
variable {w0 v v' : World} {L L' : List Bx} {R R' : List Rx} {M M' : Mem} {S S' : Pl} {D D' : Dsk} {K : Ks}
set_option maxHeartbeats 4000000 in
theorem Window_leaf (h : Qn w0 v L R M S D K) (hi : ∃ rows, InvR S D rows) {tp root i : Nat} (ht : L[i]? = some ⟨tp, #[.pointer (some ⟨M.p, 0, none⟩), .int .i64 (root : Nat)], 79⟩) {es : List En} (hn : NodeP S D root 0 es) {r : Geo.Rc} (hr : Geo.MayR r) {x : En} (h1 : over r es = [x]) :
    Calls Tryz.prog 11 #[.pointer (some ⟨tp, 0, none⟩), Geo.rc r] v fun e v' => ∃ A c S', e = .returned (.tuple #[.slice A 1 c, .int .i64 0]) ∧ SameBut S S' ∧ Qn w0 v' L (⟨35, 5, .slice A 1 c, 1, itC [x]⟩ :: R) M S' D K ∧ ∃ rows, InvR S' D rows := by
  have HQ := Lib.hid h
  have HI := Lib.hid hi
  have HT := Lib.hid ht
  have HN := Lib.hid hn
  have hmr := Geo.MayR_any r
  rw [decide_eq_true hr] at hmr
  have HR := Lib.hid hmr
  have HO := Lib.hid h1
  clear h hi ht hn hr hmr h1
  go_enter Tryz.func11, Tryz.ntmps11
  go_wp2_with (rw [wpl_id]; first
    | (refine wpln_boxv HQ 27 _ rfl (by first | exact .inl rfl | exact .inr ⟨_, _, _, _, rfl, rfl, rfl, rfl⟩) rfl rfl (fun b2 w' H2 => ?_); clear HQ; have HQ := H2; clear H2)
    | (refine wpln_box HQ 33 _ rfl (by first | exact .inl rfl | exact .inr ⟨_, _, _, _, rfl, rfl, rfl, rfl⟩) rfl (fun b3 w' H2 => ?_); clear HQ; have HQ := H2; clear H2)
    | (refine wpl_ld (Lib.hid HQ.out.bx) 1 rfl _ _ rfl (by first | exact .inl rfl | exact .inr ⟨_, _, _, _, rfl, rfl, rfl, rfl⟩) (by exact rfl) Tryz.isAgg27 rfl ?_)
    | (refine wpl_lda (Lib.hid HQ.out.bx) 0 rfl _ _ rfl (by first | exact .inl rfl | exact .inr ⟨_, _, _, _, rfl, rfl, rfl, rfl⟩) (by exact rfl) Tryz.isAgg33 Tryz.sizeOf33 (by kernel_rfl) (cs := #[.int .i64 r.x0, .int .i64 r.y0, .int .i64 r.x1, .int .i64 r.y1]) rfl ?_))
  refine (HR.out _).mono ?_
  rintro e w1 ⟨rfl, hb⟩
  have HQ2 := Lib.hid (HQ.out.grew hb)
  clear hb
  clear HQ
  have HQ := HQ2
  clear HQ2
  go_wp2_with (rw [wpl_id]; first
    | (refine wpln_new HQ 39 rfl (by first | exact .inl rfl | exact .inr ⟨_, _, _, _, rfl, rfl, rfl, rfl⟩) Tryz.zeroValue39 rfl (fun b6 w' H2 => ?_); simp only [Value.cells] at H2; clear HQ; have HQ := H2; clear H2)
    | (refine wpln_new HQ 87 rfl (by first | exact .inl rfl | exact .inr ⟨_, _, _, _, rfl, rfl, rfl, rfl⟩) Tryz.zeroValue87 rfl (fun b7 w' H2 => ?_); simp only [Value.cells] at H2; clear HQ; have HQ := H2; clear H2)
    | (refine wpln_st HQ 0 rfl rfl _ _ _ rfl (by first | exact .inl rfl | exact .inr ⟨_, _, _, _, rfl, rfl, rfl, rfl⟩) (by exact rfl) (by (conv => lhs; whnf) <;> exact rfl) Tryz.sizeOf87 rfl (by kernel_rfl) rfl rfl (fun w' H2 => ?_); simp only [List.set_cons_succ, List.set_cons_zero, List.setIfInBounds_toArray] at H2; clear HQ; have HQ := H2; clear H2))
  refine wp_region_H (fun v => Blk v b7 #[.func (.func 40) #[] #[.pointer (some ⟨b2, 0, none⟩), .pointer (some ⟨b3, 0, none⟩), .pointer (some ⟨b6, 0, none⟩), .pointer (some ⟨b7, 0, none⟩)]] 87 ∧ Blk v b2 #[.pointer (some ⟨tp, 0, none⟩)] 27 ∧ Blk v tp #[.pointer (some ⟨M.p, 0, none⟩), .int .i64 (root : Nat)] 79) (by kernel_rfl) (fun u hu => ?_)
  have hS0 : (fun v => Blk v b7 #[.func (.func 40) #[] #[.pointer (some ⟨b2, 0, none⟩), .pointer (some ⟨b3, 0, none⟩), .pointer (some ⟨b6, 0, none⟩), .pointer (some ⟨b7, 0, none⟩)]] 87 ∧ Blk v b2 #[.pointer (some ⟨tp, 0, none⟩)] 27 ∧ Blk v tp #[.pointer (some ⟨M.p, 0, none⟩), .int .i64 (root : Nat)] 79) u := by subst hu; exact ⟨(HQ.out.bx.at_ (i := 0) rfl).drew, (HQ.out.bx.at_ (i := 3) rfl).drew, (HQ.out.bx.at_ (i := i + 4) HT.out).drew⟩
  have HQ0 := Lib.hid ((show Qn w0 u (⟨b7, #[.func (.func 40) #[] #[.pointer (some ⟨b2, 0, none⟩), .pointer (some ⟨b3, 0, none⟩), .pointer (some ⟨b6, 0, none⟩), .pointer (some ⟨b7, 0, none⟩)]], 87⟩ :: ⟨b6, #[.slice none ([] : List En).length 0], 39⟩ :: ⟨b3, #[.int .i64 r.x0, .int .i64 r.y0, .int .i64 r.x1, .int .i64 r.y1], 33⟩ :: ⟨b2, #[.pointer (some ⟨tp, 0, none⟩)], 27⟩ :: L) R M S D K from by subst hu; exact HQ.out.grew ⟨rfl, rfl, rfl, Nat.le_refl _, fun _ _ => rfl⟩).nilrow 35 5)
  clear hu HQ
  refine wpH_take (i := 0) (v := ?_) rfl rfl (by kernel_rfl) (by kernel_rfl) (by kernel_rfl) (fun _ _ _ h => h) (Or.inl ⟨by rfl, ?_⟩) hS0 ?_
  rotate_left
  · (intro w_ hw_; obtain ⟨q1, q2, q3⟩ := hw_; have q1 := q1.one; have q2 := q2.one; have q3 := q3.two; go_simp; try with_reducible rfl)
  simp only [List.setIfInBounds_toArray, List.set_cons_zero, List.set_cons_succ]
  refine wpH_take (i := 1) (v := ?_) rfl rfl (by kernel_rfl) (by kernel_rfl) (by kernel_rfl) (fun _ _ _ h => h) (Or.inl ⟨by rfl, ?_⟩) hS0 ?_
  rotate_left
  · (intro w_ hw_; obtain ⟨q1, q2, q3⟩ := hw_; have q1 := q1.one; have q2 := q2.one; have q3 := q3.two; go_simp; try with_reducible rfl)
  simp only [List.setIfInBounds_toArray, List.set_cons_zero, List.set_cons_succ]
  refine wpH_take (i := 2) (v := ?_) rfl rfl (by kernel_rfl) (by kernel_rfl) (by kernel_rfl) (fun _ _ _ h => h) (Or.inl ⟨by rfl, ?_⟩) hS0 ?_
  rotate_left
  · (intro w_ hw_; obtain ⟨q1, q2, q3⟩ := hw_; have q1 := q1.one; have q2 := q2.one; have q3 := q3.two; go_simp; try with_reducible rfl)
  simp only [List.setIfInBounds_toArray, List.set_cons_zero, List.set_cons_succ]
  refine wpH_take (i := 3) (v := ?_) rfl rfl (by kernel_rfl) (by kernel_rfl) (by kernel_rfl) (fun _ _ _ h => h) (Or.inl ⟨by rfl, ?_⟩) hS0 ?_
  rotate_left
  · (intro w_ hw_; go_simp; try with_reducible rfl)
  simp only [List.setIfInBounds_toArray, List.set_cons_zero, List.set_cons_succ]
  refine wpH_take (i := 4) (v := ?_) rfl rfl (by kernel_rfl) (by kernel_rfl) (by kernel_rfl) (fun _ _ _ h => h) (Or.inl ⟨by rfl, ?_⟩) hS0 ?_
  rotate_left
  · (intro w_ hw_; obtain ⟨q1, q2, q3⟩ := hw_; have q1 := q1.one; have q2 := q2.one; have q3 := q3.two; go_simp; try with_reducible rfl)
  simp only [List.setIfInBounds_toArray, List.set_cons_zero, List.set_cons_succ]
  refine wpH_callv (i := 5) (by kernel_rfl) rfl rfl (by rfl) (int_tup (look_leaf (js := []) HQ0.out HI.out HT.out HN.out (by simp))) (by go_simp) ?_
  rintro _ v2 ⟨rfl, A', c', S1, hs, hq, hin⟩
  have hS1 : (fun v => Blk v b7 #[.func (.func 40) #[] #[.pointer (some ⟨b2, 0, none⟩), .pointer (some ⟨b3, 0, none⟩), .pointer (some ⟨b6, 0, none⟩), .pointer (some ⟨b7, 0, none⟩)]] 87 ∧ Blk v b2 #[.pointer (some ⟨tp, 0, none⟩)] 27 ∧ Blk v tp #[.pointer (some ⟨M.p, 0, none⟩), .int .i64 (root : Nat)] 79) v2 := ⟨hq.bx.at_ (i := 0) rfl, hq.bx.at_ (i := 3) rfl, hq.bx.at_ (i := i + 4) HT.out⟩
  clear hS0
  refine ⟨hS1, ?_⟩
  simp only [List.setIfInBounds_toArray, List.set_cons_zero, List.set_cons_succ]
  rw [HO.out] at hq
  have HS := Lib.hid hs
  have HIN := Lib.hid hin
  have HQ := Lib.hid hq
  clear hs hin hq HQ0 HI
  refine wpH_take (i := 6) (v := ?_) rfl rfl (by kernel_rfl) (by kernel_rfl) (by kernel_rfl) (fun _ _ _ h => h) (Or.inl ⟨by rfl, ?_⟩) hS1 ?_
  rotate_left
  · (intro w_ hw_; go_simp; try with_reducible rfl)
  simp only [List.setIfInBounds_toArray, List.set_cons_zero, List.set_cons_succ]
  clear hS1
  refine wpAnyH_done (by kernel_rfl) ?_ _
  obtain ⟨g, c2, ea⟩ := row_shape (HQ.out.bx.row_ (i := 0) rfl) (by show 0 < 1; decide)
  dsimp only at ea
  injection ea with e1 e2 e3
  subst e1 e3
  have HQ2 := Lib.hid (show Qn w0 v2 (⟨b7, #[.func (.func 40) #[] #[.pointer (some ⟨b2, 0, none⟩), .pointer (some ⟨b3, 0, none⟩), .pointer (some ⟨b6, 0, none⟩), .pointer (some ⟨b7, 0, none⟩)]], 87⟩ :: ⟨b6, #[.slice (some ⟨g, 0, none⟩) 1 c'], 39⟩ :: ⟨b3, #[.int .i64 r.x0, .int .i64 r.y0, .int .i64 r.x1, .int .i64 r.y1], 33⟩ :: ⟨b2, #[.pointer (some ⟨tp, 0, none⟩)], 27⟩ :: L) (⟨35, 5, .slice (some ⟨g, 0, none⟩) 1 c', 1, itC [x]⟩ :: R) M S1 D K from HQ.out)
  clear HQ
  have HQ := HQ2
  clear HQ2
  go_wp2_with (rw [wpl_id]; first
    | (refine wpl_ld (Lib.hid HQ.out.bx) 1 rfl _ _ rfl (by first | exact .inl rfl | exact .inr ⟨_, _, _, _, rfl, rfl, rfl, rfl⟩) (by exact rfl) Tryz.isAgg39 rfl ?_))
  refine (sorted_one HQ.out (j := 0) rfl (by intro u hu; simp [itC] at hu; rcases hu with rfl | rfl | rfl | rfl | rfl <;> rfl) _).mono ?_
  rintro e w3 ⟨A2, c2, rfl, hq⟩
  have HQ2 := Lib.hid hq
  clear hq
  clear HQ
  have HQ := HQ2
  clear HQ2
  go_wp2
  go_ret2
  exact ⟨A2, c2, S1, rfl, HS.out, HQ.out.sub (List.Sublist.cons _ (List.Sublist.cons _ (List.Sublist.cons _ (List.Sublist.cons _ (List.Sublist.refl _))))) (List.Sublist.cons_cons _ (List.Sublist.cons _ (List.Sublist.refl _))), HIN.out⟩
end
end Go.Proofs.YtfmdmfiljplkoaaGreat
