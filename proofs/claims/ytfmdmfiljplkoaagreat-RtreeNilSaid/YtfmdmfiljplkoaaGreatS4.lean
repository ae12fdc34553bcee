/- A tree's pages: how many entries a node has at most; keep, fresh; why an item may not be put in. Printed by mk_s4.py. -/
import Derived.Test.YtfmdmfiljplkoaaGreatS3
namespace Go.Proofs.YtfmdmfiljplkoaaGreat
open Go.RowKit Go.Maps
set_option maxRecDepth 8000
set_option linter.unusedSimpArgs false
variable {ι : Type} [Bar ι]
section
variable {w0 v v' : World} {L : List Bx} {R : List Rx} {M : Mem} {S : Pl} {D : Dsk} {K : Ks}
def Dsk.most (D : Dsk) : Nat := (D.rm - 3) / 40
theorem most_q (h : Lp w0 v M S D) : Calls Tryz.prog 85 #[.agg #[.pointer (some ⟨M.p, 0, none⟩)]] v fun e v' => e = .returned (.int .i64 (D.most : Nat)) ∧ Below v.heap.size v v' := by
  have H := Lib.hid (Bxs.start v)
  have HL := Lib.hid (fun (v' : World) (k : Below v.heap.size v v') => h.grew k)
  obtain ⟨rows, hi⟩ := h.inv
  have hz := rm_size hi.cl.ok hi.cl.z
  have hz2 := hi.cl.ok.z2
  have hz3 := hi.cl.z
  have e1 : IntKind.i64.wrap ((D.rm : Int) - 3) = ((D.rm - 3 : Nat) : Int) := by rw [IntKind.wrap_i64]; omega
  have e2 : ((D.rm - 3 : Nat) : Int).tdiv 40 = ((D.most : Nat) : Int) := by unfold Dsk.most; rw [Int.tdiv_eq_ediv_of_nonneg (by omega)]; omega
  have e3 : IntKind.i64.wrap ((D.most : Nat) : Int) = ((D.most : Nat) : Int) := by rw [IntKind.wrap_i64]; unfold Dsk.most; omega
  clear h hi hz hz2 hz3
  go_enter Tryz.func85, Tryz.ntmps85
  go_wp2_with (rw [wpl_id]; first
    | (refine wpl_box H 77 _ rfl (by first | exact .inl rfl | exact .inr ⟨_, _, _, _, rfl, rfl, rfl, rfl⟩) rfl (fun b3 w' H2 => ?_); clear H; have H := H2; clear H2)
    | (refine wpl_ld H 0 rfl _ _ rfl (by first | exact .inl rfl | exact .inr ⟨_, _, _, _, rfl, rfl, rfl, rfl⟩) (by exact rfl) Tryz.isAgg26 rfl ?_))
  refine (Room_lp (HL.out _ H.out.low)).mono ?_
  rintro e w1 ⟨rfl, rfl⟩
  go_wp2
  go_ret
  exact ⟨rfl, H.out.low⟩
theorem int_tup {f : FuncId} {args : Array Value} {v : World} {n : Int} {P : World → Prop} (h : Calls Tryz.prog f args v fun e w' => e = .returned (.int .i64 n) ∧ P w') : Calls Tryz.prog f args v fun e w' => ∃ u, e = .returned u ∧ u = .int .i64 n ∧ P w' :=
  h.mono fun _ _ ⟨h1, h2⟩ => ⟨_, h1, rfl, h2⟩
theorem load_tup {f : FuncId} {args : Array Value} {v : World} {n : Nat} {P : Option Addr → Nat → World → Prop} (h : Calls Tryz.prog f args v fun e w' => ∃ A c, e = .returned (.slice A n c) ∧ P A c w') : Calls Tryz.prog f args v fun e w' => ∃ u, e = .returned u ∧ ∃ A c, u = .slice A n c ∧ P A c w' :=
  h.mono fun _ _ ⟨A, c, h1, h2⟩ => ⟨_, h1, A, c, rfl, h2⟩
theorem nodeL_byte (lv : Nat) (es : List En) : ∀ b ∈ nodeL lv es, b < 256 := by
  intro b hb
  unfold nodeL headN at hb
  rcases List.mem_append.1 hb with hb | hb
  · simp at hb
    omega
  · obtain ⟨e, _, hb⟩ := List.mem_flatMap.1 hb
    unfold entL at hb
    simp only [List.mem_append] at hb
    rcases hb with (((hb | hb) | hb) | hb) | hb <;> exact lebZ_lt _ _ b hb
theorem own_rd {w : World} {bs n c : Nat} {A : Option Addr} {l : List Nat} (hl : ∀ b ∈ l, b < 256) (h : w.ownsRow bs 5 1 (.slice A n c) n (cells l)) : Rd w w.heap.size A l := by
  have h1 := h.1
  have hn : l.length = n := by simpa [cells] using h1
  subst hn
  obtain ⟨A2, c2, e, hr⟩ := Own.form (⟨hl, h⟩ : Own w bs (.slice A l.length c) l)
  injection e with e1 _ _
  subst e1
  exact hr
set_option maxHeartbeats 2000000 in
theorem keep_q {p lv : Nat} {A : Option Addr} {c : Nat} {es : List En} {i j : Nat} (h : Qn w0 v L R M S D K) (hi : ∃ rows, InvR S D rows) (hn : L[i]? = some ⟨p, #[.int .i64 (lv : Nat), .slice A es.length c], 93⟩) (hj : R[j]? = some ⟨84, 5, .slice A es.length c, es.length, cellsE lv es⟩) (hlv : lv ≤ 1000) (hle : es.length ≤ 20000) (page : Int) :
    Calls Tryz.prog 92 #[.agg #[.pointer (some ⟨M.p, 0, none⟩)], .int .i64 page, .pointer (some ⟨p, 0, none⟩)] v fun e v' => e = .returned (.int .i64 (S.write D page (nodeL lv es)).1) ∧ Qn w0 v' L R M (S.write D page (nodeL lv es)).2 D K ∧ ∃ rows, InvR (S.write D page (nodeL lv es)).2 D rows := by
  have HQ := Lib.hid h
  have HI := Lib.hid hi
  have HN := Lib.hid (And.intro hn hj)
  have HB := Lib.hid (And.intro hlv hle)
  clear h hi hn hj hlv hle
  go_enter Tryz.func92, Tryz.ntmps92
  go_wp2_with (rw [wpl_id]; first
    | (refine wpln_box HQ 77 _ rfl (by first | exact .inl rfl | exact .inr ⟨_, _, _, _, rfl, rfl, rfl, rfl⟩) rfl (fun b3 w' H2 => ?_); clear HQ; have HQ := H2; clear H2))
  refine wp_region_H (fun v => Blk v b3 #[.pointer (some ⟨M.p, 0, none⟩)] 77) (by kernel_rfl) (fun v0 hv0 => ?_)
  have hS0 : (fun v => Blk v b3 #[.pointer (some ⟨M.p, 0, none⟩)] 77) v0 := by subst hv0; exact (HQ.out.bx.at_ (i := 0) rfl).drew
  have HQ0 := Lib.hid (show Qn w0 v0 (⟨b3, #[.pointer (some ⟨M.p, 0, none⟩)], 77⟩ :: L) R M S D K from by subst hv0; exact HQ.out.grew ⟨rfl, rfl, rfl, Nat.le_refl _, fun _ _ => rfl⟩)
  clear hv0 HQ
  refine wpH_take (i := 0) (v := ?_) rfl rfl (by kernel_rfl) (by kernel_rfl) (by kernel_rfl) (fun _ _ _ h => h) (Or.inl ⟨by rfl, ?_⟩) hS0 ?_
  rotate_left
  · (intro w_ hw_; go_simp; try with_reducible rfl)
  simp only [List.setIfInBounds_toArray, List.set_cons_zero, List.set_cons_succ]
  refine wpH_take (i := 1) (v := ?_) rfl rfl (by kernel_rfl) (by kernel_rfl) (by kernel_rfl) (fun _ _ _ h => h) (Or.inl ⟨by rfl, ?_⟩) hS0 ?_
  rotate_left
  · (intro w_ hw_; have q := hw_.one; go_simp; try with_reducible rfl)
  simp only [List.setIfInBounds_toArray, List.set_cons_zero, List.set_cons_succ]
  refine wpH_take (i := 2) (v := ?_) rfl rfl (by kernel_rfl) (by kernel_rfl) (by kernel_rfl) (fun _ _ _ h => h) (Or.inl ⟨by rfl, ?_⟩) hS0 ?_
  rotate_left
  · (intro w_ hw_; go_simp; try with_reducible rfl)
  simp only [List.setIfInBounds_toArray, List.set_cons_zero, List.set_cons_succ]
  refine wpH_take (i := 3) (v := ?_) rfl rfl (by kernel_rfl) (by kernel_rfl) (by kernel_rfl) (fun _ _ _ h => h) (Or.inl ⟨by rfl, ?_⟩) hS0 ?_
  rotate_left
  · (intro w_ hw_; go_simp; try with_reducible rfl)
  simp only [List.setIfInBounds_toArray, List.set_cons_zero, List.set_cons_succ]
  refine wpH_callv (i := 4) (by kernel_rfl) rfl rfl (by rfl) (load_tup (nload_any (HQ0.out.bx.node (i := i + 1) HN.out.1 HN.out.2) HB.out.1 HB.out.2)) (by go_simp) ?_
  rintro _ v1 ⟨A2, c2, rfl, hrd, hb1⟩
  have hS1 : (fun v => Blk v b3 #[.pointer (some ⟨M.p, 0, none⟩)] 77) v1 := hS0.grew hb1
  clear hS0
  refine ⟨hS1, ?_⟩
  simp only [List.setIfInBounds_toArray, List.set_cons_zero, List.set_cons_succ]
  have HQ1 := Lib.hid (HQ0.out.grew hb1)
  have hwr := Write_lp (HQ1.out.lp HI.out) page (A := A2) (n := (nodeL lv es).length) (c := c2) (l := nodeL lv es) rfl (own_rd (nodeL_byte lv es) hrd)
  clear hrd hb1 HQ0
  refine wpH_callv (i := 5) (by kernel_rfl) rfl rfl (by rfl) (int_tup hwr) (by go_simp) ?_
  rintro _ v2 ⟨rfl, hk2, hst⟩
  have hS2 : (fun v => Blk v b3 #[.pointer (some ⟨M.p, 0, none⟩)] 77) v2 := (HQ1.out.step hk2 hst).bx.at_ (i := 0) rfl
  clear hS1
  refine ⟨hS2, ?_⟩
  simp only [List.setIfInBounds_toArray, List.set_cons_zero, List.set_cons_succ]
  have HQ := Lib.hid (HQ1.out.step hk2 hst)
  have HIN := Lib.hid hk2.inv
  clear hk2 hst hwr HQ1
  refine wpH_take (i := 6) (v := ?_) rfl rfl (by kernel_rfl) (by kernel_rfl) (by kernel_rfl) (fun _ _ _ h => h) (Or.inl ⟨by rfl, ?_⟩) hS2 ?_
  rotate_left
  · (intro w_ hw_; go_simp; try with_reducible rfl)
  simp only [List.setIfInBounds_toArray, List.set_cons_zero, List.set_cons_succ]
  clear hS2
  refine wpAnyH_done (by kernel_rfl) ?_ _
  go_wp2
  go_ret
  exact ⟨rfl, HQ.out.sub (List.Sublist.cons _ (List.Sublist.refl _)) (List.Sublist.refl _), HIN.out⟩
def Pl.freshP (S : Pl) (D : Dsk) (l : List Nat) : Int × Int × Pl :=
  if (S.take D).2.1 = 0 then ((S.take D).1, ((S.take D).2.2.write D (S.take D).1 l).1, ((S.take D).2.2.write D (S.take D).1 l).2) else (0, (S.take D).2.1, (S.take D).2.2)
set_option maxHeartbeats 2000000 in
theorem fresh_q {p lv : Nat} {A : Option Addr} {c : Nat} {es : List En} {i j : Nat} (h : Qn w0 v L R M S D K) (hi : ∃ rows, InvR S D rows) (hn : L[i]? = some ⟨p, #[.int .i64 (lv : Nat), .slice A es.length c], 93⟩) (hj : R[j]? = some ⟨84, 5, .slice A es.length c, es.length, cellsE lv es⟩) (hlv : lv ≤ 1000) (hle : es.length ≤ 20000) :
    Calls Tryz.prog 52 #[.agg #[.pointer (some ⟨M.p, 0, none⟩)], .pointer (some ⟨p, 0, none⟩)] v fun e v' => ∃ M', e = .returned (.tuple #[.int .i64 (S.freshP D (nodeL lv es)).1, .int .i64 (S.freshP D (nodeL lv es)).2.1]) ∧ Hand M M' ∧ Qn w0 v' L R M' (S.freshP D (nodeL lv es)).2.2 D K ∧ ∃ rows, InvR (S.freshP D (nodeL lv es)).2.2 D rows := by
  have HQ := Lib.hid h
  have HI := Lib.hid hi
  have HN := Lib.hid (And.intro hn hj)
  have HB := Lib.hid (And.intro hlv hle)
  clear h hi hn hj hlv hle
  unfold Pl.freshP
  have ht : ∀ u, Lp w0 u M S D → _ := fun u hu => Take_lp (v := u) hu
  obtain ⟨tk, htk⟩ : ∃ tk, tk = S.take D := ⟨_, rfl⟩
  rw [← htk] at ht ⊢
  clear htk
  obtain ⟨pg, er, S2⟩ := tk
  dsimp only at ht ⊢
  have HT := Lib.hid ht
  clear ht
  by_cases he : er = 0
  · subst he
    rw [if_pos rfl]
    go_enter Tryz.func52, Tryz.ntmps52
    go_wp2_with (rw [wpl_id]; first
      | (refine wpln_box HQ 77 _ rfl (by first | exact .inl rfl | exact .inr ⟨_, _, _, _, rfl, rfl, rfl, rfl⟩) rfl (fun b3 w' H2 => ?_); clear HQ; have HQ := H2; clear H2)
      | (refine wpl_ld (Lib.hid HQ.out.bx) 0 rfl _ _ rfl (by first | exact .inl rfl | exact .inr ⟨_, _, _, _, rfl, rfl, rfl, rfl⟩) (by exact rfl) Tryz.isAgg26 rfl ?_))
    refine (HT.out _ (HQ.out.lp HI.out)).mono ?_
    rintro e w1 ⟨M2, rfl, hh, hk2, hst⟩
    have HQ2 := Lib.hid (HQ.out.step hk2 hst)
    have HIN := Lib.hid hk2.inv
    have HH := Lib.hid hh
    clear hk2 hst HI hh HT
    clear HQ
    have HQ := HQ2
    clear HQ2
    have hkp := keep_q (i := i + 1) (j := j) HQ.out HIN.out HN.out.1 HN.out.2 HB.out.1 HB.out.2 pg
    rw [HH.out.p] at hkp
    have HK := Lib.hid hkp
    clear hkp
    go_wp2_with (rw [wpl_id]; first
      | (refine wpl_lda (Lib.hid HQ.out.bx) 0 rfl _ _ rfl (by first | exact .inl rfl | exact .inr ⟨_, _, _, _, rfl, rfl, rfl, rfl⟩) (by exact rfl) Tryz.isAgg77 Tryz.sizeOf77 (by kernel_rfl) (whole_take (by kernel_rfl)) ?_))
    refine HK.out.mono ?_
    rintro e w2 ⟨rfl, hq, hin⟩
    have HQ2 := Lib.hid hq
    have HI2 := Lib.hid hin
    clear hq hin HK
    go_wp2
    refine bodyPost_ret (v := .tuple #[.int .i64 pg, .int .i64 (S2.write D pg (nodeL lv es)).1]) ?_ rfl ⟨M2, rfl, HH.out, HQ2.out.sub (List.Sublist.cons _ (List.Sublist.refl _)) (List.Sublist.refl _), HI2.out⟩
    simp [results, Tryz.results52, go_sem]
  · rw [if_neg he]
    have hne : (er == (0 : Int)) = false := by simpa using he
    go_enter Tryz.func52, Tryz.ntmps52
    go_wp2_with (rw [wpl_id]; first
      | (refine wpln_box HQ 77 _ rfl (by first | exact .inl rfl | exact .inr ⟨_, _, _, _, rfl, rfl, rfl, rfl⟩) rfl (fun b3 w' H2 => ?_); clear HQ; have HQ := H2; clear H2)
      | (refine wpl_ld (Lib.hid HQ.out.bx) 0 rfl _ _ rfl (by first | exact .inl rfl | exact .inr ⟨_, _, _, _, rfl, rfl, rfl, rfl⟩) (by exact rfl) Tryz.isAgg26 rfl ?_))
    refine (HT.out _ (HQ.out.lp HI.out)).mono ?_
    rintro e w1 ⟨M2, rfl, hh, hk2, hst⟩
    have HQ2 := Lib.hid (HQ.out.step hk2 hst)
    have HIN := Lib.hid hk2.inv
    have HH := Lib.hid hh
    clear hk2 hst HI hh HT
    clear HQ
    have HQ := HQ2
    clear HQ2
    go_wp2_with fail
    refine bodyPost_ret (v := .tuple #[.int .i64 0, .int .i64 er]) ?_ rfl ⟨M2, rfl, HH.out, HQ.out.sub (List.Sublist.cons _ (List.Sublist.refl _)) (List.Sublist.refl _), HIN.out⟩
    simp [results, Tryz.results52, go_sem]
def rightF (r : Geo.Rc) (row : Int) : Int := if ¬ Geo.MayR r then 15 else if row < 0 ∨ 9007199254740992 < row then 2 else 0
theorem rright_any (r : Geo.Rc) (row : Int) (w : World) : Calls Tryz.prog 35 #[.agg #[.int .i64 r.x0, .int .i64 r.y0, .int .i64 r.x1, .int .i64 r.y1, .int .i64 row]] w fun e w' => e = .returned (.int .i64 (rightF r row)) ∧ Below w.heap.size w w' := by
  have H := Lib.hid (Bxs.start w)
  unfold rightF
  have hm := Geo.MayR_any r
  by_cases hr : Geo.MayR r
  · rw [decide_eq_true hr] at hm
    have HM := Lib.hid hm
    rw [if_neg (by simpa using hr)]
    clear hm hr
    by_cases h0 : row < 0
    · rw [if_pos (.inl h0)]
      go_enter Tryz.func35, Tryz.ntmps35
      go_wp2_with (rw [wpl_id]; first
        | (refine wpl_box H 35 _ rfl (by first | exact .inl rfl | exact .inr ⟨_, _, _, _, rfl, rfl, rfl, rfl⟩) rfl (fun b3 w' H2 => ?_); clear H; have H := H2; clear H2)
        | (refine wpl_lda H 0 rfl _ _ rfl (by first | exact .inl rfl | exact .inr ⟨_, _, _, _, rfl, rfl, rfl, rfl⟩) (by exact rfl) Tryz.isAgg33 Tryz.sizeOf33 (by kernel_rfl) (cs := #[.int .i64 r.x0, .int .i64 r.y0, .int .i64 r.x1, .int .i64 r.y1]) rfl ?_))
      refine (HM.out _).mono ?_
      rintro e w1 ⟨rfl, hb⟩
      have H2 := Lib.hid (H.out.grew hb); clear H hb; have H := H2; clear H2
      go_wp2_with (rw [wpl_id]; first
        | (refine wpl_ld H 0 rfl _ _ rfl (by first | exact .inl rfl | exact .inr ⟨_, _, _, _, rfl, rfl, rfl, rfl⟩) (by exact rfl) Tryz.isAgg3 rfl ?_))
      go_ret
      exact ⟨rfl, H.out.low⟩
    · by_cases h1 : 9007199254740992 < row
      · rw [if_pos (.inr h1)]
        have q0 : decide (row < 0) = false := decide_eq_false h0
        go_enter Tryz.func35, Tryz.ntmps35
        go_wp2_with (rw [wpl_id]; first
          | (refine wpl_box H 35 _ rfl (by first | exact .inl rfl | exact .inr ⟨_, _, _, _, rfl, rfl, rfl, rfl⟩) rfl (fun b3 w' H2 => ?_); clear H; have H := H2; clear H2)
          | (refine wpl_lda H 0 rfl _ _ rfl (by first | exact .inl rfl | exact .inr ⟨_, _, _, _, rfl, rfl, rfl, rfl⟩) (by exact rfl) Tryz.isAgg33 Tryz.sizeOf33 (by kernel_rfl) (cs := #[.int .i64 r.x0, .int .i64 r.y0, .int .i64 r.x1, .int .i64 r.y1]) rfl ?_))
        refine (HM.out _).mono ?_
        rintro e w1 ⟨rfl, hb⟩
        have H2 := Lib.hid (H.out.grew hb); clear H hb; have H := H2; clear H2
        go_wp2_with (rw [wpl_id]; first
          | (refine wpl_ld H 0 rfl _ _ rfl (by first | exact .inl rfl | exact .inr ⟨_, _, _, _, rfl, rfl, rfl, rfl⟩) (by exact rfl) Tryz.isAgg3 rfl ?_))
        go_ret
        exact ⟨rfl, H.out.low⟩
      · rw [if_neg (by omega)]
        have q0 : decide (row < 0) = false := decide_eq_false h0
        go_enter Tryz.func35, Tryz.ntmps35
        go_wp2_with (rw [wpl_id]; first
          | (refine wpl_box H 35 _ rfl (by first | exact .inl rfl | exact .inr ⟨_, _, _, _, rfl, rfl, rfl, rfl⟩) rfl (fun b3 w' H2 => ?_); clear H; have H := H2; clear H2)
          | (refine wpl_lda H 0 rfl _ _ rfl (by first | exact .inl rfl | exact .inr ⟨_, _, _, _, rfl, rfl, rfl, rfl⟩) (by exact rfl) Tryz.isAgg33 Tryz.sizeOf33 (by kernel_rfl) (cs := #[.int .i64 r.x0, .int .i64 r.y0, .int .i64 r.x1, .int .i64 r.y1]) rfl ?_))
        refine (HM.out _).mono ?_
        rintro e w1 ⟨rfl, hb⟩
        have H2 := Lib.hid (H.out.grew hb); clear H hb; have H := H2; clear H2
        go_wp2_with (rw [wpl_id]; first
          | (refine wpl_ld H 0 rfl _ _ rfl (by first | exact .inl rfl | exact .inr ⟨_, _, _, _, rfl, rfl, rfl, rfl⟩) (by exact rfl) Tryz.isAgg3 rfl ?_))
        go_ret
        exact ⟨rfl, H.out.low⟩
  · rw [decide_eq_false hr] at hm
    have HM := Lib.hid hm
    rw [if_pos hr]
    clear hm hr
    go_enter Tryz.func35, Tryz.ntmps35
    go_wp2_with (rw [wpl_id]; first
      | (refine wpl_box H 35 _ rfl (by first | exact .inl rfl | exact .inr ⟨_, _, _, _, rfl, rfl, rfl, rfl⟩) rfl (fun b3 w' H2 => ?_); clear H; have H := H2; clear H2)
      | (refine wpl_lda H 0 rfl _ _ rfl (by first | exact .inl rfl | exact .inr ⟨_, _, _, _, rfl, rfl, rfl, rfl⟩) (by exact rfl) Tryz.isAgg33 Tryz.sizeOf33 (by kernel_rfl) (cs := #[.int .i64 r.x0, .int .i64 r.y0, .int .i64 r.x1, .int .i64 r.y1]) rfl ?_))
    refine (HM.out _).mono ?_
    rintro e w1 ⟨rfl, hb⟩
    have H2 := Lib.hid (H.out.grew hb); clear H hb; have H := H2; clear H2
    go_wp2
    go_ret
    exact ⟨rfl, H.out.low⟩
def calmE (er : Int) : Bool := decide (er = 0 ∨ er = 7 ∨ er = 8 ∨ er = 1 ∨ er = 15 ∨ er = 2)
set_option maxHeartbeats 2000000 in
theorem back_q (h : Qn w0 v L R M S D K) (hi : ∃ rows, InvR S D rows) (er : Int) :
    Calls Tryz.prog 37 #[.agg #[.pointer (some ⟨M.p, 0, none⟩)], .int .i64 er] v fun e v' => ∃ M', e = .returned (.int .i64 er) ∧ Hand M M' ∧ Qn w0 v' L R M' (if calmE er = true then S else S.backed) D K ∧ ∃ rows, InvR (if calmE er = true then S else S.backed) D rows := by
  have HQ := Lib.hid h
  have HI := Lib.hid hi
  clear h hi
  by_cases h0 : er = 0
  · subst h0
    rw [if_pos (by rfl)]
    go_enter Tryz.func37, Tryz.ntmps37
    go_wp2_with (rw [wpl_id]; first
      | (refine wpln_box HQ 77 _ rfl (by first | exact .inl rfl | exact .inr ⟨_, _, _, _, rfl, rfl, rfl, rfl⟩) rfl (fun b3 w' H2 => ?_); clear HQ; have HQ := H2; clear H2))
    go_ret
    exact ⟨M, rfl, rfl, HQ.out.sub (List.Sublist.cons _ (List.Sublist.refl _)) (List.Sublist.refl _), HI.out⟩
  by_cases h7 : er = 7
  · subst h7
    rw [if_pos (by rfl)]
    go_enter Tryz.func37, Tryz.ntmps37
    go_wp2_with (rw [wpl_id]; first
      | (refine wpln_box HQ 77 _ rfl (by first | exact .inl rfl | exact .inr ⟨_, _, _, _, rfl, rfl, rfl, rfl⟩) rfl (fun b3 w' H2 => ?_); clear HQ; have HQ := H2; clear H2))
    go_ret
    exact ⟨M, rfl, rfl, HQ.out.sub (List.Sublist.cons _ (List.Sublist.refl _)) (List.Sublist.refl _), HI.out⟩
  by_cases h8 : er = 8
  · subst h8
    rw [if_pos (by rfl)]
    go_enter Tryz.func37, Tryz.ntmps37
    go_wp2_with (rw [wpl_id]; first
      | (refine wpln_box HQ 77 _ rfl (by first | exact .inl rfl | exact .inr ⟨_, _, _, _, rfl, rfl, rfl, rfl⟩) rfl (fun b3 w' H2 => ?_); clear HQ; have HQ := H2; clear H2))
    go_ret
    exact ⟨M, rfl, rfl, HQ.out.sub (List.Sublist.cons _ (List.Sublist.refl _)) (List.Sublist.refl _), HI.out⟩
  by_cases h1 : er = 1
  · subst h1
    rw [if_pos (by rfl)]
    go_enter Tryz.func37, Tryz.ntmps37
    go_wp2_with (rw [wpl_id]; first
      | (refine wpln_box HQ 77 _ rfl (by first | exact .inl rfl | exact .inr ⟨_, _, _, _, rfl, rfl, rfl, rfl⟩) rfl (fun b3 w' H2 => ?_); clear HQ; have HQ := H2; clear H2))
    go_ret
    exact ⟨M, rfl, rfl, HQ.out.sub (List.Sublist.cons _ (List.Sublist.refl _)) (List.Sublist.refl _), HI.out⟩
  by_cases h15 : er = 15
  · subst h15
    rw [if_pos (by rfl)]
    go_enter Tryz.func37, Tryz.ntmps37
    go_wp2_with (rw [wpl_id]; first
      | (refine wpln_box HQ 77 _ rfl (by first | exact .inl rfl | exact .inr ⟨_, _, _, _, rfl, rfl, rfl, rfl⟩) rfl (fun b3 w' H2 => ?_); clear HQ; have HQ := H2; clear H2))
    go_ret
    exact ⟨M, rfl, rfl, HQ.out.sub (List.Sublist.cons _ (List.Sublist.refl _)) (List.Sublist.refl _), HI.out⟩
  by_cases h2 : er = 2
  · subst h2
    rw [if_pos (by rfl)]
    go_enter Tryz.func37, Tryz.ntmps37
    go_wp2_with (rw [wpl_id]; first
      | (refine wpln_box HQ 77 _ rfl (by first | exact .inl rfl | exact .inr ⟨_, _, _, _, rfl, rfl, rfl, rfl⟩) rfl (fun b3 w' H2 => ?_); clear HQ; have HQ := H2; clear H2))
    go_ret
    exact ⟨M, rfl, rfl, HQ.out.sub (List.Sublist.cons _ (List.Sublist.refl _)) (List.Sublist.refl _), HI.out⟩
  rw [if_neg (by unfold calmE; simp; omega)]
  have q0 : (er == (0 : Int)) = false := by simpa using h0
  have q7 : (er == (7 : Int)) = false := by simpa using h7
  have q8 : (er == (8 : Int)) = false := by simpa using h8
  have q1 : (er == (1 : Int)) = false := by simpa using h1
  have q15 : (er == (15 : Int)) = false := by simpa using h15
  have q2 : (er == (2 : Int)) = false := by simpa using h2
  go_enter Tryz.func37, Tryz.ntmps37
  go_wp2_with (rw [wpl_id]; first
    | (refine wpln_box HQ 77 _ rfl (by first | exact .inl rfl | exact .inr ⟨_, _, _, _, rfl, rfl, rfl, rfl⟩) rfl (fun b3 w' H2 => ?_); clear HQ; have HQ := H2; clear H2)
    | (refine wpl_ld (Lib.hid HQ.out.bx) 0 rfl _ _ rfl (by first | exact .inl rfl | exact .inr ⟨_, _, _, _, rfl, rfl, rfl, rfl⟩) (by exact rfl) Tryz.isAgg26 rfl ?_))
  refine (Back_lp (HQ.out.lp HI.out)).mono ?_
  rintro e w1 ⟨M2, rfl, hh, hk2, hst⟩
  have HQ2 := Lib.hid (HQ.out.step hk2 hst)
  have HIN := Lib.hid hk2.inv
  have HH := Lib.hid hh
  clear hk2 hst HI hh
  clear HQ
  have HQ := HQ2
  clear HQ2
  go_wp2
  go_ret
  exact ⟨M2, rfl, HH.out, HQ.out.sub (List.Sublist.cons _ (List.Sublist.refl _)) (List.Sublist.refl _), HIN.out⟩
end
end Go.Proofs.YtfmdmfiljplkoaaGreat
