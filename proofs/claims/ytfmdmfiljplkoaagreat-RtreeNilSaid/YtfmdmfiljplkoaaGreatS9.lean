/- The way to an item in a leaf, when it is not there; the way to a leaf. Printed by mk_s9.py. -/
import Derived.Test.YtfmdmfiljplkoaaGreatS8
namespace Go.Proofs.YtfmdmfiljplkoaaGreat
open Go.RowKit Go.Maps Go.Shelf
set_option maxRecDepth 8000
set_option linter.unusedSimpArgs false
variable {ι : Type} [Bar ι]
section
variable {w0 v v' : World} {L L' : List Bx} {R R' : List Rx} {M M' : Mem} {S S' : Pl} {D D' : Dsk} {K : Ks}
theorem rd_num {k n : Nat} (h : k < n) (hn : n ≤ 2000000) : Value.int .i64 (wrap64 ((k : Int) + 1)) = .int .i64 ((k + 1 : Nat) : Int) := by
  congr 1
  unfold wrap64
  omega
theorem rd_meas {k n : Nat} (h : k < n) (hn : n ≤ 2000000) : n - (intOf (.int .i64 (wrap64 ((k : Int) + 1)))).toNat < n - (intOf (.int .i64 (k : Int))).toNat := by
  rw [rd_num h hn]
  simp [intOf]
  omega
/-- Is an entry an item? -/
def En.Is (e x : En) : Prop := e.b = x.b ∧ e.of = x.of
theorem not_is {e x : En} (h : ¬ e.Is x) : (e.b.x0 == x.b.x0 && (e.b.y0 == x.b.y0 && (e.b.x1 == x.b.x1 && e.b.y1 == x.b.y1))) = false ∨ (e.of == x.of) = false := by
  obtain ⟨⟨a, b, c, d⟩, f⟩ := e
  obtain ⟨⟨a', b', c', d'⟩, f'⟩ := x
  unfold En.Is at h
  by_cases h2 : f = f'
  · left
    simp only [Geo.Rc.mk.injEq] at h
    simp
    omega
  · right
    simpa using h2
set_option maxHeartbeats 2000000 in
theorem find_leaf (h : Qn w0 v L R M S D K) (hi : ∃ rows, InvR S D rows) {tp root i : Nat} (ht : L[i]? = some ⟨tp, #[.pointer (some ⟨M.p, 0, none⟩), .int .i64 (root : Nat)], 79⟩) {page : Nat} {es : List En} (hn : NodeP S D page 0 es) {x : En} (hno : ∀ e ∈ es, ¬ e.Is x) :
    Calls Tryz.prog 36 #[.pointer (some ⟨tp, 0, none⟩), .int .i64 page, .agg #[.int .i64 x.b.x0, .int .i64 x.b.y0, .int .i64 x.b.x1, .int .i64 x.b.y1, .int .i64 x.of]] v fun e v' => e = .returned (.tuple #[.slice none 0 0, .int .i64 0]) ∧ ∃ S', SameBut S S' ∧ Qn w0 v' L R M S' D K ∧ ∃ rows, InvR S' D rows := by
  have HQ := Lib.hid h
  have HI := Lib.hid hi
  have HT := Lib.hid ht
  have HN := Lib.hid hn
  have HNO := Lib.hid hno
  have hbn := hn.2.2.2.2
  clear h hi ht hn hno
  go_enter Tryz.func36, Tryz.ntmps36
  go_wp2_with (rw [wpl_id]; first
    | (refine wpln_box HQ 35 _ rfl (by first | exact .inl rfl | exact .inr ⟨_, _, _, _, rfl, rfl, rfl, rfl⟩) rfl (fun bx w' H2 => ?_); clear HQ; have HQ := H2; clear H2)
    | (refine wpl_lda (Lib.hid HQ.out.bx) (i + 1) HT.out _ _ rfl (by first | exact .inl rfl | exact .inr ⟨_, _, _, _, rfl, rfl, rfl, rfl⟩) (by exact rfl) Tryz.isAgg77 Tryz.sizeOf77 (by kernel_rfl) (cs := #[.pointer (some ⟨M.p, 0, none⟩)]) rfl ?_))
  refine (node_q HQ.out HI.out HN.out).mono ?_
  rintro e w1 ⟨pn, A, c, S1, rfl, hs, hq, hin⟩
  obtain ⟨n, hn0⟩ : ∃ n, n = es.length := ⟨_, rfl⟩
  rw [← hn0] at hq
  have HNN := Lib.hid hn0
  have HBN := Lib.hid (show n ≤ 2000000 by omega)
  have HS := Lib.hid hs
  have HIN := Lib.hid hin
  have HQ2 := Lib.hid hq
  clear hs hin hq hn0 HI HT HN hbn
  clear HQ
  have HQ := HQ2
  clear HQ2
  go_wp2_with (rw [wpl_id]; first
    | (refine wpl_ld (Lib.hid HQ.out.bx) 0 rfl _ _ rfl (by first | exact .inl rfl | exact .inr ⟨_, _, _, _, rfl, rfl, rfl, rfl⟩) (by exact rfl) Tryz.isAgg91 rfl ?_))
  go_loopw [33] (fun iv wr => ∃ k : Nat, k ≤ n ∧ iv = .int .i64 (k : Int) ∧ Hid (Qn w0 wr (⟨pn, #[.int .i64 (0 : Nat), .slice A n c], 93⟩ :: ⟨bx, #[.int .i64 x.b.x0, .int .i64 x.b.y0, .int .i64 x.b.x1, .int .i64 x.b.y1, .int .i64 x.of], 35⟩ :: L) (⟨84, 5, .slice A n c, n, cellsE 0 es⟩ :: R) M S1 D K)) (fun iv _ => n - (intOf iv).toNat)
  case atStart => exact ⟨0, by omega, rfl, HQ⟩
  case round =>
    clear HQ
    obtain ⟨k, hk, rfl, HQ⟩ := hrel
    by_cases hlt : k < n
    · have hlt' : (k : Int) < n := by omega
      have hkl : k < es.length := by rw [← HNN.out]; exact hlt
      have hnd : NodeIn wr pn 0 A c es := HQ.out.bx.node (i := 0) (j := 0) (by rw [HNN.out]; rfl) (by rw [HNN.out]; rfl)
      obtain ⟨q, rfl, hqb, hqc⟩ := hnd.ents (by intro e; rw [e] at hkl; simp at hkl)
      obtain ⟨c0, c1, c2, c3, c4⟩ := hqc k hkl
      obtain ⟨e, he⟩ : ∃ e, e = es[k] := ⟨_, rfl⟩
      rw [← he] at c0 c1 c2 c3 c4
      have hne : ¬ e.Is x := HNO.out e (by rw [he]; exact List.getElem_mem hkl)
      have HNE := Lib.hid (not_is hne)
      clear hqc hqb he hnd hne
      change wr.cell? _ = some (Value.iface 82 _) at c4
      have Y1 := ta_is (.int .i64 e.of)
      have Y2 := ta_not (.int .i64 e.of)
      go_wp2_with (rw [wpl_id]; first
        | (refine wpln_new HQ 84 rfl (by first | exact .inl rfl | exact .inr ⟨_, _, _, _, rfl, rfl, rfl, rfl⟩) Tryz.zeroValue84 rfl (fun be w' H2 => ?_); simp only [Value.cells] at H2; clear HQ; have HQ := H2; clear H2)
        | (refine wpln_sta HQ 0 rfl rfl _ _ _ rfl (by first | exact .inl rfl | exact .inr ⟨_, _, _, _, rfl, rfl, rfl, rfl⟩) (by exact rfl) (by exact rfl) Tryz.sizeOf84 (by kernel_rfl) (by kernel_rfl) (by kernel_rfl) rfl (splice_whole (n := 5) (by kernel_rfl) (by kernel_rfl)) (fun w' H2 => ?_); simp only [List.set_cons_succ, List.set_cons_zero] at H2; clear HQ; have HQ := H2; clear H2)
        | (refine wpl_ld (Lib.hid HQ.out.bx) 0 rfl _ _ rfl (by first | exact .inl rfl | exact .inr ⟨_, _, _, _, rfl, rfl, rfl, rfl⟩) (by exact rfl) Tryz.isAgg20 rfl ?_)
        | (refine wpl_lda (Lib.hid HQ.out.bx) 0 rfl _ _ rfl (by first | exact .inl rfl | exact .inr ⟨_, _, _, _, rfl, rfl, rfl, rfl⟩) (by exact rfl) Tryz.isAgg33 Tryz.sizeOf33 (by kernel_rfl) (cs := #[.int .i64 e.b.x0, .int .i64 e.b.y0, .int .i64 e.b.x1, .int .i64 e.b.y1]) rfl ?_)
        | (refine wpl_lda (Lib.hid HQ.out.bx) 2 rfl _ _ rfl (by first | exact .inl rfl | exact .inr ⟨_, _, _, _, rfl, rfl, rfl, rfl⟩) (by exact rfl) Tryz.isAgg33 Tryz.sizeOf33 (by kernel_rfl) (cs := #[.int .i64 x.b.x0, .int .i64 x.b.y0, .int .i64 x.b.x1, .int .i64 x.b.y1]) rfl ?_)
        | (refine wpl_ld (Lib.hid HQ.out.bx) 2 rfl _ _ rfl (by first | exact .inl rfl | exact .inr ⟨_, _, _, _, rfl, rfl, rfl, rfl⟩) (by exact rfl) Tryz.isAgg3 rfl ?_))
      all_goals first
        | exact ⟨⟨k + 1, hlt, rd_num hlt HBN.out, Lib.hid (HQ.out.sub (List.Sublist.cons _ (List.Sublist.refl _)) (List.Sublist.refl _))⟩, rd_meas hlt HBN.out⟩
        | (exfalso
           rcases HNE.out with h | h <;> simp_all)
    · obtain rfl : k = n := by omega
      have hnt : ¬ (k : Int) < k := by omega
      go_wp2_with fail
      go_ret2
      exact ⟨rfl, S1, HS.out, HQ.out.sub (List.Sublist.cons _ (List.Sublist.cons _ (List.Sublist.refl _))) (List.Sublist.cons _ (List.Sublist.refl _)), HIN.out⟩
set_option maxHeartbeats 2000000 in
theorem way_leaf (h : Qn w0 v L R M S D K) (hi : ∃ rows, InvR S D rows) {tp root i : Nat} (ht : L[i]? = some ⟨tp, #[.pointer (some ⟨M.p, 0, none⟩), .int .i64 (root : Nat)], 79⟩) {es : List En} (hn : NodeP S D root 0 es) (b : Geo.Rc) :
    Calls Tryz.prog 84 #[.pointer (some ⟨tp, 0, none⟩), Geo.rc b, .int .i64 0] v fun e v' => ∃ pn A c wg wc S', e = .returned (.tuple #[.slice (some ⟨wg, 0, none⟩) 1 wc, .int .i64 0]) ∧ SameBut S S' ∧
      Qn w0 v' (⟨pn, #[.int .i64 (0 : Nat), .slice A es.length c], 93⟩ :: L) (⟨147, 3, .slice (some ⟨wg, 0, none⟩) 1 wc, 1, [.int .i64 (root : Nat), .pointer (some ⟨pn, 0, none⟩), .int .i64 0]⟩ :: ⟨84, 5, .slice A es.length c, es.length, cellsE 0 es⟩ :: R) M S' D K ∧ ∃ rows, InvR S' D rows := by
  have HQ := Lib.hid h
  have HI := Lib.hid hi
  have HT := Lib.hid ht
  have HN := Lib.hid hn
  clear h hi ht hn
  go_enter Tryz.func84, Tryz.ntmps84
  go_wp2_with (rw [wpl_id]; first
    | (refine wpln_box HQ 33 _ rfl (by first | exact .inl rfl | exact .inr ⟨_, _, _, _, rfl, rfl, rfl, rfl⟩) rfl (fun bx w' H2 => ?_); clear HQ; have HQ := H2; clear H2)
    | (refine wpl_ld (Lib.hid HQ.out.bx) (i + 1) HT.out _ _ rfl (by first | exact .inl rfl | exact .inr ⟨_, _, _, _, rfl, rfl, rfl, rfl⟩) (by exact rfl) Tryz.isAgg3 rfl ?_))
  go_loopw [8, 9, 17] (fun o p iv wr => o = .slice none 0 0 ∧ p = .int .i64 (root : Nat) ∧ iv = .int .i64 0 ∧ Hid (Qn w0 wr (⟨bx, #[.int .i64 b.x0, .int .i64 b.y0, .int .i64 b.x1, .int .i64 b.y1], 33⟩ :: L) R M S D K)) (fun _ _ _ _ => 0)
  case atStart => exact ⟨rfl, rfl, rfl, HQ⟩
  case round =>
    clear HQ
    obtain ⟨rfl, rfl, rfl, HQ⟩ := hrel
    go_wp2_with (rw [wpl_id]; first
      | (refine wpl_lda (Lib.hid HQ.out.bx) (i + 1) HT.out _ _ rfl (by first | exact .inl rfl | exact .inr ⟨_, _, _, _, rfl, rfl, rfl, rfl⟩) (by exact rfl) Tryz.isAgg77 Tryz.sizeOf77 (by kernel_rfl) (cs := #[.pointer (some ⟨M.p, 0, none⟩)]) rfl ?_))
    refine (node_q HQ.out HI.out HN.out).mono ?_
    rintro e w1 ⟨pn, A, c, S1, rfl, hs, hq, hin⟩
    have HS := Lib.hid hs
    have HIN := Lib.hid hin
    have HQ2 := Lib.hid (hq.nilrow 147 3)
    clear hs hin hq HI HT HN
    clear HQ
    have HQ := HQ2
    clear HQ2
    go_wp2_with (rw [wpl_id]; first
      | (refine wpl_ld (Lib.hid HQ.out.bx) 0 rfl _ _ rfl (by first | exact .inl rfl | exact .inr ⟨_, _, _, _, rfl, rfl, rfl, rfl⟩) (by exact rfl) Tryz.isAgg3 rfl ?_)
      | (refine wpln_lit HQ 73 147 _ rfl (by first | exact .inl rfl | exact .inr ⟨_, _, _, _, rfl, rfl, rfl, rfl⟩) (by exact rfl) (run_lit147 _ _ _) rfl (fun bl w' H2 => ?_); simp only [List.cons_append] at H2; clear HQ; have HQ := H2; clear H2)
      | (refine wpln_app el147 HQ 1 rfl _ _ rfl (by first | exact .inl rfl | exact .inr ⟨_, _, _, _, rfl, rfl, rfl, rfl⟩) rfl rfl (HQ.out.bx.row_ (i := 0) rfl) (by simp [Value.oneCell']) (by omega) (by decide) (rfl) rfl (fun Aa ca w' H2 => ?_); simp only [List.set_cons_succ, List.set_cons_zero] at H2; clear HQ; have HQ := H2; clear H2))
    obtain ⟨wg, wc, e⟩ := row_shape (HQ.out.bx.row_ (i := 1) rfl) (Nat.succ_pos _)
    dsimp only at e
    injection e with e1 e2 e3
    subst e1 e3
    go_ret2
    exact ⟨pn, A, c, wg, _, S1, rfl, HS.out, HQ.out.sub (List.Sublist.cons_cons _ (List.Sublist.cons _ (List.Sublist.refl _))) (List.Sublist.cons _ (List.Sublist.refl _)), HIN.out⟩
end
end Go.Proofs.YtfmdmfiljplkoaaGreat
