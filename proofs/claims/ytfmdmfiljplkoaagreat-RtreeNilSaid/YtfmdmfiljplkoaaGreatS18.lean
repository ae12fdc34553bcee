/- The nearest items of a leaf: nearest, Near. Printed by mk_s18.py. -/
import Derived.Test.YtfmdmfiljplkoaaGreatS17
namespace Go.Proofs.YtfmdmfiljplkoaaGreat
open Go.RowKit Go.Maps Go.Shelf
set_option maxRecDepth 8000
set_option linter.unusedSimpArgs false
attribute [local go_sem] Oper.semAt_some
variable {ι : Type} [Bar ι]
section
variable {w0 v v' : World} {L L' : List Bx} {R R' : List Rx} {M M' : Mem} {S S' : Pl} {D D' : Dsk} {K : Ks}
def thZ : Th := ⟨0, false, ⟨⟨0, 0, 0, 0⟩, 0⟩⟩
def getT (ts : List Th) (k : Nat) : Th := ts.getD k thZ
def bestTo (ts : List Th) : Nat → Nat
  | 0 => 0
  | k + 1 => if befF (getT ts k) (getT ts (bestTo ts k)) then k else bestTo ts k
def best (ts : List Th) : Nat := bestTo ts ts.length
def nearL : Nat → List Th → List En
  | 0, _ => []
  | k + 1, ts => if ts.length = 0 then [] else (getT ts (best ts)).e :: nearL k (ts.eraseIdx (best ts))
def rowsOf (p : Geo.Pt) (es : List En) : List Th := es.map fun e => ⟨Geo.NearF e.b p, true, e⟩
theorem getT_at {ts : List Th} {k : Nat} (hk : k < ts.length) : getT ts k = ts[k] := by
  unfold getT
  rw [List.getD_eq_getElem?_getD, List.getElem?_eq_getElem hk]
  rfl
theorem bestTo_lt (ts : List Th) (h0 : 0 < ts.length) : ∀ k, k ≤ ts.length → bestTo ts k < ts.length
  | 0, _ => h0
  | k + 1, hk => by
    unfold bestTo
    split
    · omega
    · exact bestTo_lt ts h0 k (by omega)
theorem nearL_nil (k : Nat) : nearL k [] = [] := by
  cases k with
  | zero => rfl
  | succ k => rfl
theorem erase_rows {ts : List Th} (h : ∀ t ∈ ts, t.row = true) (i : Nat) : ∀ t ∈ ts.eraseIdx i, t.row = true := fun t ht => h t (List.mem_of_mem_eraseIdx ht)
theorem rows_true (p : Geo.Pt) (es : List En) : ∀ t ∈ rowsOf p es, t.row = true := by
  intro t ht
  obtain ⟨e, _, rfl⟩ := List.mem_map.1 ht
  rfl
def nmeas (N : Nat) : Value → Value → Nat
  | .slice _ n _, .pointer _ => n
  | _, _ => N + 1
theorem Qn.stands (w0 : World) (L : List Bx) (R : List Rx) (M : Mem) (S : Pl) (D : Dsk) (K : Ks) : Stands fun v => Qn w0 v L R M S D K := fun _ _ k h => h.grew k
theorem run_lit164 (c0 c1 c2 c3 c4 c5 : Value) (w : World) : (Instr.buildSlice 165 1 #[(0, .agg #[c0, c1, c2, c3, c4, c5])]).run Tryz.prog w = .ok (.slice (some ⟨w.heap.size, 0, none⟩) 1 1) (w.alloc (.cells #[c0, c1, c2, c3, c4, c5] 164)) := by
  simp [Instr.buildSlice, run_underlying Tryz.underlying165, Tryz.sizeOf164, Tryz.zeroValue164, go_sem, Instr.fill, Value.cells]
theorem load_th (h : Qn w0 v L R M S D K) {j g c k : Nat} {ts : List Th} (hj : R[j]? = some ⟨164, 6, .slice (some ⟨g, 0, none⟩) ts.length c, ts.length, thC ts⟩) (hk : k < ts.length) :
    (Instr.loadAt 164 (.pointer (some ⟨g, k * 6, none⟩))).run Tryz.prog v = .ok (.agg (thA (getT ts k))) v := by
  have hl := run_load_row (Tryz.isAgg164 v) (Tryz.sizeOf164 v) (h.bx.row_ hj) rfl (show k * 6 + 6 ≤ ts.length * 6 by omega)
  dsimp only at hl
  rw [thC_at ts k hk, ← getT_at hk] at hl
  exact hl
def th0 (root : Nat) : Th := ⟨0, false, ⟨⟨0, 0, 0, 0⟩, root⟩⟩
theorem near_step {ts : List Th} {out rs : List En} {most bb : Nat} {e0 : En} (h : rs = out ++ nearL (most - out.length) ts) (hlt : out.length < most) (h0 : ts.length ≠ 0) (hb : bb = best ts) (ht : (getT ts bb).e = e0) : rs = (out ++ [e0]) ++ nearL (most - (out ++ [e0]).length) (ts.eraseIdx bb) := by
  obtain ⟨k, hk⟩ : ∃ k, most - out.length = k + 1 := ⟨most - out.length - 1, by omega⟩
  rw [hk] at h
  have e : most - (out ++ [e0]).length = k := by rw [List.length_append, List.length_singleton]; omega
  rw [e, h]
  show out ++ (if ts.length = 0 then [] else (getT ts (best ts)).e :: nearL k (ts.eraseIdx (best ts))) = _
  rw [if_neg h0, ← hb, ht, List.append_assoc]
  rfl
theorem nmeas_lt {N k c : Nat} {A A' : Option Addr} {q : Option Addr} {ts : List Th} {bb : Nat} (hb : bb < ts.length) (hk : k = ts.length) : nmeas N (.slice A' (ts.eraseIdx bb).length c) (.pointer q) < nmeas N (.slice A k c) (.pointer q) := by
  show (ts.eraseIdx bb).length < k
  rw [List.length_eraseIdx_of_lt hb]
  omega
theorem node_tup {f : FuncId} {args : Array Value} {v : World} {P : Nat → Option Addr → Nat → Pl → World → Prop} (h : Calls Tryz.prog f args v fun e w' => ∃ pn A c S', e = .returned (.tuple #[.pointer (some ⟨pn, 0, none⟩), .int .i64 0]) ∧ P pn A c S' w') : Calls Tryz.prog f args v fun e w' => ∃ u, e = .returned u ∧ ∃ pn A c S', u = .tuple #[.pointer (some ⟨pn, 0, none⟩), .int .i64 0] ∧ P pn A c S' w' :=
  h.mono fun _ _ ⟨pn, A, c, S', h1, h2⟩ => ⟨_, h1, pn, A, c, S', rfl, h2⟩
theorem u64_tup {f : FuncId} {args : Array Value} {v : World} {n : Int} {P : World → Prop} (h : Calls Tryz.prog f args v fun e w' => e = .returned (.int .u64 n) ∧ P w') : Calls Tryz.prog f args v fun e w' => ∃ u, e = .returned u ∧ u = .int .u64 n ∧ P w' :=
  h.mono fun _ _ ⟨h1, h2⟩ => ⟨_, h1, rfl, h2⟩
theorem rowsOf_take {p : Geo.Pt} {es : List En} {k : Nat} (hk : k < es.length) {e : En} (he : e = es[k]) : rowsOf p (es.take k) ++ [⟨Geo.NearF e.b p, true, e⟩] = rowsOf p (es.take (k + 1)) := by
  unfold rowsOf
  rw [List.take_add_one, List.getElem?_eq_getElem hk, Option.toList_some, List.map_append, ← he]
  rfl
theorem nmeas_first {N n k c c' : Nat} {A A' : Option Addr} {q : Option Addr} (h : n ≤ N) : nmeas N (.slice A' n c') (.pointer q) < nmeas N (.slice A k c) undef := by
  show n < N + 1
  omega
theorem nearest_q (h : Qn w0 v L R M S D K) (tp b9 : Nat) (p : Geo.Pt) : Calls Tryz.prog 45 #[.pointer (some ⟨tp, 0, none⟩), Geo.pt p, .pointer (some ⟨b9, 0, none⟩)] v fun e v' => ∃ n3 n4 n5, e = .returned (.func (.func 100) #[] #[.pointer (some ⟨n3, 0, none⟩), .pointer (some ⟨n5, 0, none⟩), .pointer (some ⟨n4, 0, none⟩)]) ∧
    Qn w0 v' (⟨n5, #[.pointer (some ⟨b9, 0, none⟩)], 102⟩ :: ⟨n4, #[.int .i64 p.x, .int .i64 p.y], 24⟩ :: ⟨n3, #[.pointer (some ⟨tp, 0, none⟩)], 27⟩ :: L) R M S D K := by
  have HQ := Lib.hid h
  clear h
  go_enter Tryz.func45, Tryz.ntmps45
  go_wp2_with (rw [wpl_id]; first
    | (refine wpln_boxv HQ 27 _ rfl (by first | exact .inl rfl | exact .inr ⟨_, _, _, _, rfl, rfl, rfl, rfl⟩) rfl rfl (fun n3 w' H2 => ?_); clear HQ; have HQ := H2; clear H2)
    | (refine wpln_box HQ 24 _ rfl (by first | exact .inl rfl | exact .inr ⟨_, _, _, _, rfl, rfl, rfl, rfl⟩) rfl (fun n4 w' H2 => ?_); clear HQ; have HQ := H2; clear H2)
    | (refine wpln_boxv HQ 102 _ rfl (by first | exact .inl rfl | exact .inr ⟨_, _, _, _, rfl, rfl, rfl, rfl⟩) rfl rfl (fun n5 w' H2 => ?_); clear HQ; have HQ := H2; clear H2))
  go_ret
  exact ⟨n3, n4, n5, rfl, HQ.out⟩
set_option maxHeartbeats 8000000 in
theorem Near_leaf (h : Qn w0 v L R M S D K) (hi : ∃ rows, InvR S D rows) {tp root i : Nat} (ht : L[i]? = some ⟨tp, #[.pointer (some ⟨M.p, 0, none⟩), .int .i64 (root : Nat)], 79⟩) {es : List En} (hn : NodeP S D root 0 es) {p : Geo.Pt} (hp : Geo.May p) {most : Nat} (hm : 1 ≤ most) (hm2 : most ≤ 1000000) :
    Calls Tryz.prog 13 #[.pointer (some ⟨tp, 0, none⟩), Geo.pt p, .int .i64 (most : Nat)] v fun e v' => ∃ A c S', e = .returned (.tuple #[.slice A (nearL most (rowsOf p es)).length c, .int .i64 0]) ∧ SameBut S S' ∧
      Qn w0 v' L (⟨35, 5, .slice A (nearL most (rowsOf p es)).length c, (nearL most (rowsOf p es)).length, itC (nearL most (rowsOf p es))⟩ :: R) M S' D K ∧ ∃ rows, InvR S' D rows := by
  have HQ := Lib.hid h
  have HI := Lib.hid hi
  have HT := Lib.hid ht
  have HN := Lib.hid hn
  have hmp := Geo.May_any p
  rw [decide_eq_true hp] at hmp
  have HP := Lib.hid hmp
  have HM := Lib.hid (And.intro hm hm2)
  have hm3 : ¬ (most : Int) < 1 := by omega
  obtain ⟨rs, hrs⟩ : ∃ rs, rs = nearL most (rowsOf p es) := ⟨_, rfl⟩
  rw [← hrs]
  have HRS := Lib.hid hrs
  clear h hi ht hn hp hmp hm hm2 hrs
  refine (callsIn_wide (n := 5)).1 ?_
  refine callsIn_of_wp_marks Tryz.func13 rfl trivial ?_
  simp only [Tryz.ntmps13, List.size_toArray, List.length_cons, List.length_nil, Nat.reduceAdd, Nat.reduceSub, Array.replicate_succ, Array.replicate_zero, List.push_toArray, List.append_toArray, List.nil_append, List.cons_append]
  refine wpIn_wide.2 ?_
  go_wp2_with (rw [wpl_id]; first
    | (refine wpln_box HQ 24 _ rfl (by first | exact .inl rfl | exact .inr ⟨_, _, _, _, rfl, rfl, rfl, rfl⟩) rfl (fun b4 w' H2 => ?_); clear HQ; have HQ := H2; clear H2)
    | (refine wpln_boxv HQ 3 _ rfl (by first | exact .inl rfl | exact .inr ⟨_, _, _, _, rfl, rfl, rfl, rfl⟩) rfl (cs := #[.int .i64 (most : Nat)]) rfl (fun b5 w' H2 => ?_); clear HQ; have HQ := H2; clear H2)
    | (refine wpl_lda (Lib.hid HQ.out.bx) 1 rfl _ _ rfl (by first | exact .inl rfl | exact .inr ⟨_, _, _, _, rfl, rfl, rfl, rfl⟩) (by exact rfl) Tryz.isAgg24 Tryz.sizeOf24 (by kernel_rfl) (cs := #[.int .i64 p.x, .int .i64 p.y]) rfl ?_))
  refine (HP.out _).mono ?_
  rintro e w1 ⟨rfl, hb⟩
  have HQ2 := Lib.hid (HQ.out.grew hb)
  clear hb
  clear HQ
  have HQ := HQ2
  clear HQ2
  go_wp2_with (rw [wpl_id]; first
    | (refine wpl_ld (Lib.hid HQ.out.bx) 0 rfl _ _ rfl (by first | exact .inl rfl | exact .inr ⟨_, _, _, _, rfl, rfl, rfl, rfl⟩) (by exact rfl) Tryz.isAgg3 rfl ?_)
    | (refine wpln_new HQ 39 rfl (by first | exact .inl rfl | exact .inr ⟨_, _, _, _, rfl, rfl, rfl, rfl⟩) Tryz.zeroValue39 rfl (fun b8 w' H2 => ?_); simp only [Value.cells] at H2; clear HQ; have HQ := H2; clear H2)
    | (refine wpln_new HQ 30 rfl (by first | exact .inl rfl | exact .inr ⟨_, _, _, _, rfl, rfl, rfl, rfl⟩) Tryz.zeroValue30 rfl (fun b9 w' H2 => ?_); simp only [Value.cells] at H2; clear HQ; have HQ := H2; clear H2)
    | (refine wpln_st HQ 0 rfl rfl _ _ _ rfl (by first | exact .inl rfl | exact .inr ⟨_, _, _, _, rfl, rfl, rfl, rfl⟩) (by exact rfl) (by (conv => lhs; whnf) <;> exact rfl) Tryz.sizeOf30 rfl (by kernel_rfl) rfl rfl (fun w' H2 => ?_); simp only [List.set_cons_succ, List.set_cons_zero, List.setIfInBounds_toArray] at H2; clear HQ; have HQ := H2; clear H2)
    | (refine wpl_lda (Lib.hid HQ.out.bx) 3 rfl _ _ rfl (by first | exact .inl rfl | exact .inr ⟨_, _, _, _, rfl, rfl, rfl, rfl⟩) (by exact rfl) Tryz.isAgg24 Tryz.sizeOf24 (by kernel_rfl) (cs := #[.int .i64 p.x, .int .i64 p.y]) rfl ?_))
  refine (nearest_q HQ.out tp b9 p).mono ?_
  rintro e w2 ⟨n3, n4, n5, rfl, hq⟩
  have HQ2 := Lib.hid (hq.nilrow 35 5)
  clear hq
  clear HQ
  have HQ := HQ2
  clear HQ2
  go_wp2_with fail
  refine (wpIn_wide (n := 5)).1 ?_
  refine wpIn_range rfl (by decide) (gf := 100) (lb := #[.pointer (some ⟨n3, 0, none⟩), .pointer (some ⟨n5, 0, none⟩), .pointer (some ⟨n4, 0, none⟩)]) rfl trivial (enters_of Tryz.func100 (by kernel_rfl) rfl) ?_
  intro fn hfn W1 hb1 hz1 hD hL
  generalize hrec : recOf fn _ _ _ _ _ = rec at hL ⊢
  have HREC := Lib.hid hrec
  clear hrec
  have HQ2 := Lib.hid (HQ.out.entered hb1 hD hL)
  clear hD hL hb1 hz1
  clear HQ
  have HQ := HQ2
  clear HQ2
  generalize w2.heap.size = d at *
  refine callsIn_of_wp Tryz.func100 rfl trivial ?_
  simp only [Tryz.ntmps100, List.size_toArray, List.length_cons, List.length_nil, Nat.reduceAdd, Nat.reduceSub, Array.replicate_succ, Array.replicate_zero, List.push_toArray, List.append_toArray, List.nil_append, List.cons_append]
  gi_wp2_with (rw [wpli_id]; first
    | (refine wpqi_ld HQ 2 rfl _ _ rfl (by first | exact .inl rfl | exact .inr ⟨_, _, _, _, rfl, rfl, rfl, rfl⟩) (by exact rfl) Tryz.isAgg27 rfl ?_)
    | (refine wpqi_ld HQ (i + 7) HT.out _ _ rfl (by first | exact .inl rfl | exact .inr ⟨_, _, _, _, rfl, rfl, rfl, rfl⟩) (by exact rfl) Tryz.isAgg3 rfl ?_)
    | (refine wpqi_lit HQ 165 164 _ rfl (by first | exact .inl rfl | exact .inr ⟨_, _, _, _, rfl, rfl, rfl, rfl⟩) (by exact rfl) (run_lit164 _ _ _ _ _ _) rfl (fun bl w' H2 => ?_); simp only [List.cons_append] at H2; clear HQ; have HQ := H2; clear H2))
  gi_loopw [5, 11] (fun wv nv wr => ∃ (ts : List Th) (A : Option Addr) (c : Nat) (out : List En) (Ao : Option Addr) (co : Nat) (S1 : Pl), wv = .slice A ts.length c ∧ Hid (SameBut S S1 ∧ Qn w0 wr (⟨n5, #[.pointer (some ⟨b9, 0, none⟩)], 102⟩ :: ⟨n4, #[.int .i64 p.x, .int .i64 p.y], 24⟩ :: ⟨n3, #[.pointer (some ⟨tp, 0, none⟩)], 27⟩ :: ⟨b9, #[.int .i64 0], 30⟩ :: ⟨b8, #[.slice Ao out.length co], 39⟩ :: ⟨b5, #[.int .i64 (most : Nat)], 3⟩ :: ⟨b4, #[.int .i64 p.x, .int .i64 p.y], 24⟩ :: L) (⟨164, 6, .slice A ts.length c, ts.length, thC ts⟩ :: ⟨35, 5, .slice Ao out.length co, out.length, itC out⟩ :: R) M S1 D ((d + 1, .loop (rec .ready none)) :: (d, .deferred (some [])) :: K) ∧ ∃ rows, InvR S1 D rows) ∧ out.length < most ∧ ((nv = undef ∧ Hid (ts = [th0 root] ∧ out = [])) ∨ ∃ q, nv = .pointer q ∧ Hid ((∀ t ∈ ts, t.row = true) ∧ ts.length ≤ es.length ∧ rs = out ++ nearL (most - out.length) ts))) (fun wv nv _ => nmeas es.length wv nv)
  case atStart =>
    refine ⟨[th0 root], _, _, [], none, 0, S, rfl, Lib.hid ⟨SameBut.refl S, HQ.out, HI.out⟩, by have := HM.out.1; simp; omega, .inl ⟨rfl, Lib.hid ⟨rfl, rfl⟩⟩⟩
  case round =>
    clear HQ HI
    obtain ⟨ts, A, c, out, Ao, co, S1, rfl, HB, hlt, hst⟩ := hrel
    have HS := Lib.hid HB.out.1
    have HQ := Lib.hid HB.out.2.1
    have HI := Lib.hid HB.out.2.2
    clear HB
    obtain ⟨n, hn⟩ : ∃ n, n = ts.length := ⟨_, rfl⟩
    have HNB := Lib.hid (show n ≤ 2000000 by
      have h1 := HN.out.2.2.2.2
      rcases hst with ⟨_, HA⟩ | ⟨q, _, HA⟩
      · have h2 := HA.out.1; rw [h2] at hn; simp at hn; omega
      · have h2 := HA.out.2.1; omega)
    by_cases h0 : n = 0
    · rcases hst with ⟨rfl, HA⟩ | ⟨q, rfl, HA⟩
      · exfalso
        have h1 := HA.out.1
        rw [h1] at hn
        simp at hn
        omega
      · have h1 : ts = [] := List.eq_nil_of_length_eq_zero (by omega)
        have h2 := HA.out.2.2
        rw [h1, nearL_nil, List.append_nil] at h2
        subst h1
        rw [← h2] at HQ
        have HQ2 := Lib.hid HQ.out
        clear h2 hn
        clear HQ
        have HQ := HQ2
        clear HQ2
        gi_wp2
        go_end0
        refine ⟨⟨_, rfl⟩, Or.inl ⟨HQ.out.kat (i := 0) rfl, ?_⟩⟩
        intro W6 hT6
        have HQ2 := Lib.hid ((HQ.out.turned (i := 0) rfl (p := .loop (rec .exhausted none)) (by intro _ _ _ e; cases e) (by exact hT6)))
        clear hT6
        clear HQ
        have HQ := HQ2
        clear HQ2
        go_wp2_with (rw [wpl_id]; first
          | (refine wpl_ld (Lib.hid HQ.out.bx) 3 rfl _ _ rfl (by first | exact .inl rfl | exact .inr ⟨_, _, _, _, rfl, rfl, rfl, rfl⟩) (by exact rfl) Tryz.isAgg30 rfl ?_)
          | (refine wpl_ld (Lib.hid HQ.out.bx) 4 rfl _ _ rfl (by first | exact .inl rfl | exact .inr ⟨_, _, _, _, rfl, rfl, rfl, rfl⟩) (by exact rfl) Tryz.isAgg39 rfl ?_))
        have kd := HQ.out.kat (i := 1) rfl
        have hp := Turned.put (.deferred none) kd
        have hq := HQ.out.turned (i := 1) rfl (p := .deferred none) (by intro _ _ _ e; cases e) hp
        refine ⟨by simp, .inl ⟨_, _, rfl, run_takeDeferred kd, ?_⟩⟩
        refine ⟨_, results_tmp2 rfl _ _ _, _, _, S1, rfl, HS.out, ?_, HI.out⟩
        exact hq.subk (List.Sublist.cons _ (List.Sublist.cons _ (List.Sublist.cons _ (List.Sublist.cons _ (List.Sublist.cons _ (List.Sublist.cons _ (List.Sublist.cons _ (List.Sublist.refl _)))))))) (List.Sublist.cons _ (List.Sublist.refl _)) (List.Sublist.cons _ (List.Sublist.cons _ (List.Sublist.refl _)))
    · obtain ⟨g, c2, ea⟩ := row_shape (HQ.out.bx.row_ (i := 0) rfl) (show 0 < ts.length by omega)
      dsimp only at ea
      injection ea with e1 e2 e3
      subst e1 e3
      have hn0 : (0 : Int) < (n : Int) := by omega
      rw [← hn]
      have HNN := Lib.hid hn
      have HLT := Lib.hid hlt
      clear e2 hlt hn
      have HQ2 := Lib.hid (show Qn w0 wr (⟨n5, #[.pointer (some ⟨b9, 0, none⟩)], 102⟩ :: ⟨n4, #[.int .i64 p.x, .int .i64 p.y], 24⟩ :: ⟨n3, #[.pointer (some ⟨tp, 0, none⟩)], 27⟩ :: ⟨b9, #[.int .i64 0], 30⟩ :: ⟨b8, #[.slice Ao out.length co], 39⟩ :: ⟨b5, #[.int .i64 (most : Nat)], 3⟩ :: ⟨b4, #[.int .i64 p.x, .int .i64 p.y], 24⟩ :: L) (⟨164, 6, .slice (some ⟨g, 0, none⟩) ts.length c, ts.length, thC ts⟩ :: ⟨35, 5, .slice Ao out.length co, out.length, itC out⟩ :: R) M S1 D ((d + 1, .loop (rec .ready none)) :: (d, .deferred (some [])) :: K) from HQ.out)
      clear HQ
      have HQ := HQ2
      clear HQ2
      gi_wp2_with fail
      gi_loopw [6, 29] (fun bv iv wr => ∃ k : Nat, k ≤ n ∧ iv = .int .i64 (k : Int) ∧ bv = .int .i64 (bestTo ts k : Nat) ∧ Hid (Qn w0 wr (⟨n5, #[.pointer (some ⟨b9, 0, none⟩)], 102⟩ :: ⟨n4, #[.int .i64 p.x, .int .i64 p.y], 24⟩ :: ⟨n3, #[.pointer (some ⟨tp, 0, none⟩)], 27⟩ :: ⟨b9, #[.int .i64 0], 30⟩ :: ⟨b8, #[.slice Ao out.length co], 39⟩ :: ⟨b5, #[.int .i64 (most : Nat)], 3⟩ :: ⟨b4, #[.int .i64 p.x, .int .i64 p.y], 24⟩ :: L) (⟨164, 6, .slice (some ⟨g, 0, none⟩) ts.length c, ts.length, thC ts⟩ :: ⟨35, 5, .slice Ao out.length co, out.length, itC out⟩ :: R) M S1 D ((d + 1, .loop (rec .ready none)) :: (d, .deferred (some [])) :: K))) (fun _ iv _ => n - (intOf iv).toNat)
      case atStart => exact ⟨0, by omega, rfl, rfl, HQ⟩
      case round =>
        clear HQ
        obtain ⟨k, hk, rfl, rfl, HQ⟩ := hrel
        by_cases hlt : k < n
        · have hlt' : (k : Int) < n := by omega
          have hkl : k < ts.length := by rw [← HNN.out]; exact hlt
          obtain ⟨bk, hbk⟩ : ∃ bk, bk = bestTo ts k := ⟨_, rfl⟩
          have hbl : bk < ts.length := by rw [hbk]; exact bestTo_lt ts (by omega) k (by omega)
          have hbl' : (bk : Int) < (n : Int) := by rw [HNN.out]; omega
          rw [← hbk]
          have HBK := Lib.hid (And.intro hbk (And.intro hkl hbl))
          clear hbk hkl hbl
          gi_wp2_with fail
          refine wpIn_wide.2 (region_cut ?_)
          obtain ⟨Si0, Si0d⟩ : ∃ S : World → Prop, S = fun v : World => Qn w0 v (⟨n5, #[.pointer (some ⟨b9, 0, none⟩)], 102⟩ :: ⟨n4, #[.int .i64 p.x, .int .i64 p.y], 24⟩ :: ⟨n3, #[.pointer (some ⟨tp, 0, none⟩)], 27⟩ :: ⟨b9, #[.int .i64 0], 30⟩ :: ⟨b8, #[.slice Ao out.length co], 39⟩ :: ⟨b5, #[.int .i64 (most : Nat)], 3⟩ :: ⟨b4, #[.int .i64 p.x, .int .i64 p.y], 24⟩ :: L) (⟨164, 6, .slice (some ⟨g, 0, none⟩) ts.length c, ts.length, thC ts⟩ :: ⟨35, 5, .slice Ao out.length co, out.length, itC out⟩ :: R) M S1 D ((d + 1, .loop (rec .ready none)) :: (d, .deferred (some [])) :: K) := ⟨_, rfl⟩
          have Si0t0 : Stands Si0 := by rw [Si0d]; exact (Qn.stands _ _ _ _ _ _ _)
          have Si0u0 : ∀ v, Si0 v → Qn w0 v (⟨n5, #[.pointer (some ⟨b9, 0, none⟩)], 102⟩ :: ⟨n4, #[.int .i64 p.x, .int .i64 p.y], 24⟩ :: ⟨n3, #[.pointer (some ⟨tp, 0, none⟩)], 27⟩ :: ⟨b9, #[.int .i64 0], 30⟩ :: ⟨b8, #[.slice Ao out.length co], 39⟩ :: ⟨b5, #[.int .i64 (most : Nat)], 3⟩ :: ⟨b4, #[.int .i64 p.x, .int .i64 p.y], 24⟩ :: L) (⟨164, 6, .slice (some ⟨g, 0, none⟩) ts.length c, ts.length, thC ts⟩ :: ⟨35, 5, .slice Ao out.length co, out.length, itC out⟩ :: R) M S1 D ((d + 1, .loop (rec .ready none)) :: (d, .deferred (some [])) :: K) := fun v h => by rw [Si0d] at h; exact h
          have Si0m0 : ∀ v, (Qn w0 v (⟨n5, #[.pointer (some ⟨b9, 0, none⟩)], 102⟩ :: ⟨n4, #[.int .i64 p.x, .int .i64 p.y], 24⟩ :: ⟨n3, #[.pointer (some ⟨tp, 0, none⟩)], 27⟩ :: ⟨b9, #[.int .i64 0], 30⟩ :: ⟨b8, #[.slice Ao out.length co], 39⟩ :: ⟨b5, #[.int .i64 (most : Nat)], 3⟩ :: ⟨b4, #[.int .i64 p.x, .int .i64 p.y], 24⟩ :: L) (⟨164, 6, .slice (some ⟨g, 0, none⟩) ts.length c, ts.length, thC ts⟩ :: ⟨35, 5, .slice Ao out.length co, out.length, itC out⟩ :: R) M S1 D ((d + 1, .loop (rec .ready none)) :: (d, .deferred (some [])) :: K)) → Si0 v := fun v h => by rw [Si0d]; exact h
          have Si0u := Lib.hid Si0u0
          have Si0m := Lib.hid Si0m0
          have Si0t := Lib.hid Si0t0
          clear Si0d Si0u0 Si0m0 Si0t0
          refine wp_region_X (S := Si0) (by kernel_rfl) (Si0m.out _ (HQ.out.grew ⟨rfl, rfl, rfl, Nat.le_refl _, fun _ _ => rfl⟩)) ?_
          refine wpX_take (i := 0) (v := ?_) Si0t.out rfl rfl (by kernel_rfl) (by kernel_rfl) (by kernel_rfl) (by kernel_rfl) (fun _ _ _ h => h) (SteadyX.value (by rfl) ?_) ?_
          rotate_left
          · (intro w_ hS; go_simp; try with_reducible rfl)
          simp only [List.setIfInBounds_toArray, List.set_cons_zero, List.set_cons_succ]
          refine wpX_take (i := 1) (v := ?_) Si0t.out rfl rfl (by kernel_rfl) (by kernel_rfl) (by kernel_rfl) (by kernel_rfl) (fun _ _ _ h => h) (SteadyX.value (by rfl) ?_) ?_
          rotate_left
          · (intro w_ hS; go_simp; try with_reducible rfl)
          simp only [List.setIfInBounds_toArray, List.set_cons_zero, List.set_cons_succ]
          refine wpX_take (i := 2) (v := ?_) Si0t.out rfl rfl (by kernel_rfl) (by kernel_rfl) (by kernel_rfl) (by kernel_rfl) (fun _ _ _ h => h) (SteadyX.value (by rfl) ?_) ?_
          rotate_left
          · (intro w_ hS; go_simp; try with_reducible rfl)
          simp only [List.setIfInBounds_toArray, List.set_cons_zero, List.set_cons_succ]
          refine wpX_take (i := 3) (v := .agg (thA (getT ts k))) Si0t.out rfl rfl (by kernel_rfl) (by kernel_rfl) (by kernel_rfl) (by kernel_rfl) (fun _ _ _ h => h) (SteadyX.value (by rfl) (fun w_ hS => by have q0 := Si0u.out _ hS; exact exec_load 164 (.tmp 34) rfl rfl (load_th q0 (j := 0) rfl HBK.out.2.1))) ?_
          simp only [List.setIfInBounds_toArray, List.set_cons_zero, List.set_cons_succ]
          refine wpX_take (i := 4) (v := ?_) Si0t.out rfl rfl (by kernel_rfl) (by kernel_rfl) (by kernel_rfl) (by kernel_rfl) (fun _ _ _ h => h) (SteadyX.value (by rfl) ?_) ?_
          rotate_left
          · (intro w_ hS; go_simp; try with_reducible rfl)
          simp only [List.setIfInBounds_toArray, List.set_cons_zero, List.set_cons_succ]
          refine wpX_take (i := 5) (v := ?_) Si0t.out rfl rfl (by kernel_rfl) (by kernel_rfl) (by kernel_rfl) (by kernel_rfl) (fun _ _ _ h => h) (SteadyX.value (by rfl) ?_) ?_
          rotate_left
          · (intro w_ hS; go_simp; try with_reducible rfl)
          simp only [List.setIfInBounds_toArray, List.set_cons_zero, List.set_cons_succ]
          refine wpX_take (i := 6) (v := ?_) Si0t.out rfl rfl (by kernel_rfl) (by kernel_rfl) (by kernel_rfl) (by kernel_rfl) (fun _ _ _ h => h) (SteadyX.value (by rfl) ?_) ?_
          rotate_left
          · (intro w_ hS; go_simp; try with_reducible rfl)
          simp only [List.setIfInBounds_toArray, List.set_cons_zero, List.set_cons_succ]
          refine wpX_take (i := 7) (v := .agg (thA (getT ts bk))) Si0t.out rfl rfl (by kernel_rfl) (by kernel_rfl) (by kernel_rfl) (by kernel_rfl) (fun _ _ _ h => h) (SteadyX.value (by rfl) (fun w_ hS => by have q0 := Si0u.out _ hS; exact exec_load 164 (.tmp 38) rfl rfl (load_th q0 (j := 0) rfl HBK.out.2.2))) ?_
          simp only [List.setIfInBounds_toArray, List.set_cons_zero, List.set_cons_succ]
          refine wpX_take (i := 8) Si0t.out rfl rfl (by kernel_rfl) (by kernel_rfl) (by kernel_rfl) (by kernel_rfl) (fun _ _ _ h => h) (SteadyX.call (by rfl) (fun w_ hS => before_any (getT ts k) (getT ts bk) w_) (fun w_ hS => by (go_simp))) ?_
          simp only [List.setIfInBounds_toArray, List.set_cons_zero, List.set_cons_succ]
          refine wpX_done (by kernel_rfl) (fun W hS => ?_) _
          have q0 := Si0u.out _ hS
          clear hS Si0u Si0m Si0t
          clear Si0
          dsimp only [onlyN]
          clear HQ
          have HQ := Lib.hid q0
          clear q0
          cases hbf : befF (getT ts k) (getT ts bk) with
          | true =>
            gi_wp2
            go_roundw
            case rel => exact ⟨k + 1, hlt, rd_num hlt (HNB.out), by congr 2; unfold bestTo; rw [← HBK.out.1, hbf]; rfl, HQ⟩
            case measure => exact rd_meas hlt HNB.out
          | false =>
            gi_wp2
            go_roundw
            case rel => exact ⟨k + 1, hlt, rd_num hlt (HNB.out), by congr 2; unfold bestTo; rw [← HBK.out.1, hbf]; rfl, HQ⟩
            case measure => exact rd_meas hlt HNB.out
        · obtain rfl : k = n := by omega
          have hnt : ¬ (k : Int) < (k : Int) := by omega
          obtain ⟨bb, hbb⟩ : ∃ bb, bb = bestTo ts k := ⟨_, rfl⟩
          have hbl : bb < ts.length := by rw [hbb]; exact bestTo_lt ts (by have := HNN.out; omega) k (by have := HNN.out; omega)
          have hbl' : (bb : Int) < (k : Int) := by rw [HNN.out]; omega
          rw [← hbb]
          have HBB := Lib.hid (And.intro (show bb = best ts from by rw [hbb, HNN.out]; rfl) hbl)
          clear hbb hbl
          rcases hst with ⟨rfl, HA⟩ | ⟨q, rfl, HA⟩
          · have hg : getT ts bb = th0 root := by
              have h1 := HBB.out.2
              rw [HA.out.1] at h1 ⊢
              simp at h1
              rw [h1]
              rfl
            obtain ⟨nr, e0, hth⟩ : ∃ nr e0, th0 root = ⟨nr, false, e0⟩ := ⟨_, _, rfl⟩
            have hcs : (((thC ts).drop (bb * 6)).take 6).toArray = #[.int .u64 0, .int .i64 0, .int .i64 0, .int .i64 0, .int .i64 0, .iface 96 (.int .i64 (root : Nat))] := by
              rw [thC_at ts bb HBB.out.2, ← getT_at HBB.out.2]
              rw [hg]; rfl
            have HCS := Lib.hid hcs
            clear hg
            clear hcs hth
            have Y1 := ta_not (.int .i64 (root : Nat))
            gi_wp2_with (rw [wpli_id]; first
              | (refine wpqi_rlda HQ 0 rfl 164 _ rfl (by first | exact .inl rfl | exact .inr ⟨_, _, _, _, rfl, rfl, rfl, rfl⟩) (off := bb * 6) (by exact rfl) rfl Tryz.isAgg164 Tryz.sizeOf164 (by show bb * 6 + 6 ≤ ts.length * 6; have := HBB.out.2; omega) (cs := #[.int .u64 0, .int .i64 0, .int .i64 0, .int .i64 0, .int .i64 0, .iface 96 (.int .i64 (root : Nat))]) HCS.out ?_)
              | (refine wpqi_new HQ 164 rfl (by first | exact .inl rfl | exact .inr ⟨_, _, _, _, rfl, rfl, rfl, rfl⟩) Tryz.zeroValue164 rfl (fun b0 w' H2 => ?_); simp only [Value.cells] at H2; clear HQ; have HQ := H2; clear H2)
              | (refine wpqi_sta HQ 0 rfl rfl _ _ _ rfl (by first | exact .inl rfl | exact .inr ⟨_, _, _, _, rfl, rfl, rfl, rfl⟩) (by exact rfl) (by exact rfl) Tryz.sizeOf164 (by kernel_rfl) (by kernel_rfl) (by kernel_rfl) rfl (splice_whole (n := 6) (by kernel_rfl) (by kernel_rfl)) (fun w' H2 => ?_); simp only [List.set_cons_succ, List.set_cons_zero] at H2; clear HQ; have HQ := H2; clear H2))
            refine ⟨trivial, callsIn_wide.2 ?_⟩
            rw [rd_num (k := bb) (n := k) (by have := HBB.out.2; have := HNN.out; omega) HNB.out]
            have hd := Delete_q HQ.out (j := 0) (i := bb) rfl HBB.out.2
            rw [← HNN.out] at hd
            have hee : ts.eraseIdx bb = [] := by
              have h1 := HBB.out.2
              rw [HA.out.1] at h1 ⊢
              simp at h1
              rw [h1]
              rfl
            rw [hee] at hd
            refine hd.mono ?_
            rintro e w3 ⟨rfl, hq⟩
            clear hd hee
            simp only [List.set_cons_zero] at hq
            have HQ2 := Lib.hid hq
            clear hq
            clear HQ
            have HQ := HQ2
            clear HQ2
            gi_wp2_with (rw [wpli_id]; first
              | (refine wpqi_ld HQ 0 rfl _ _ rfl (by first | exact .inl rfl | exact .inr ⟨_, _, _, _, rfl, rfl, rfl, rfl⟩) (by exact rfl) Tryz.isAgg20 rfl ?_))
            refine wpIn_wide.2 (region_cut ?_)
            refine wp_region_H (fun v => Blk v n3 #[.pointer (some ⟨tp, 0, none⟩)] 27 ∧ Blk v tp #[.pointer (some ⟨M.p, 0, none⟩), .int .i64 (root : Nat)] 79 ∧ v.cell? ⟨b0, 5, none⟩ = some (.iface 96 (.int .i64 (root : Nat)))) (by kernel_rfl) (fun u hu => ?_)
            have hS0 : (fun v => Blk v n3 #[.pointer (some ⟨tp, 0, none⟩)] 27 ∧ Blk v tp #[.pointer (some ⟨M.p, 0, none⟩), .int .i64 (root : Nat)] 79 ∧ v.cell? ⟨b0, 5, none⟩ = some (.iface 96 (.int .i64 (root : Nat)))) u := by subst hu; exact ⟨(HQ.out.bx.at_ (i := 3) rfl).drew, (HQ.out.bx.at_ (i := i + 8) HT.out).drew, (HQ.out.bx.at_ (i := 0) rfl).cell 5⟩
            have HQ0 := Lib.hid (show Qn w0 u (⟨b0, #[.int .u64 0, .int .i64 0, .int .i64 0, .int .i64 0, .int .i64 0, .iface 96 (.int .i64 (root : Nat))], 164⟩ :: ⟨n5, #[.pointer (some ⟨b9, 0, none⟩)], 102⟩ :: ⟨n4, #[.int .i64 p.x, .int .i64 p.y], 24⟩ :: ⟨n3, #[.pointer (some ⟨tp, 0, none⟩)], 27⟩ :: ⟨b9, #[.int .i64 0], 30⟩ :: ⟨b8, #[.slice Ao out.length co], 39⟩ :: ⟨b5, #[.int .i64 (most : Nat)], 3⟩ :: ⟨b4, #[.int .i64 p.x, .int .i64 p.y], 24⟩ :: L) (⟨164, 6, .slice (some ⟨g, 0, none⟩) ([] : List Th).length c, ([] : List Th).length, thC []⟩ :: ⟨35, 5, .slice Ao out.length co, out.length, itC out⟩ :: R) M S1 D ((d + 1, .loop (rec .ready none)) :: (d, .deferred (some [])) :: K) from by subst hu; exact HQ.out.grew ⟨rfl, rfl, rfl, Nat.le_refl _, fun _ _ => rfl⟩)
            clear hu HQ Y1
            have Y3 := Lib.hid (ta_child (.int .i64 (root : Nat)))
            refine wpH_take (i := 0) (v := ?_) rfl rfl (by kernel_rfl) (by kernel_rfl) (by kernel_rfl) (fun _ _ _ h => h) (Or.inl ⟨by rfl, ?_⟩) hS0 ?_
            rotate_left
            · (intro w_ hw_; obtain ⟨q1, q2, q3⟩ := hw_; have q1 := q1.one; have q2 := q2.two; go_simp; try with_reducible rfl)
            simp only [List.setIfInBounds_toArray, List.set_cons_zero, List.set_cons_succ]
            refine wpH_take (i := 1) (v := ?_) rfl rfl (by kernel_rfl) (by kernel_rfl) (by kernel_rfl) (fun _ _ _ h => h) (Or.inl ⟨by rfl, ?_⟩) hS0 ?_
            rotate_left
            · (intro w_ hw_; obtain ⟨q1, q2, q3⟩ := hw_; have q1 := q1.one; have q2 := q2.two; go_simp; try with_reducible rfl)
            simp only [List.setIfInBounds_toArray, List.set_cons_zero, List.set_cons_succ]
            refine wpH_take (i := 2) (v := ?_) rfl rfl (by kernel_rfl) (by kernel_rfl) (by kernel_rfl) (fun _ _ _ h => h) (Or.inl ⟨by rfl, ?_⟩) hS0 ?_
            rotate_left
            · (intro w_ hw_; go_simp; try with_reducible rfl)
            simp only [List.setIfInBounds_toArray, List.set_cons_zero, List.set_cons_succ]
            refine wpH_take (i := 3) (v := ?_) rfl rfl (by kernel_rfl) (by kernel_rfl) (by kernel_rfl) (fun _ _ _ h => h) (Or.inl ⟨by rfl, ?_⟩) hS0 ?_
            rotate_left
            · (intro w_ hw_; obtain ⟨q1, q2, q3⟩ := hw_; have q1 := q1.one; have q2 := q2.two; go_simp; try with_reducible rfl)
            simp only [List.setIfInBounds_toArray, List.set_cons_zero, List.set_cons_succ]
            refine wpH_take (i := 4) (v := ?_) rfl rfl (by kernel_rfl) (by kernel_rfl) (by kernel_rfl) (fun _ _ _ h => h) (Or.inl ⟨by rfl, ?_⟩) hS0 ?_
            rotate_left
            · (intro w_ hw_; go_simp; try with_reducible rfl)
            simp only [List.setIfInBounds_toArray, List.set_cons_zero, List.set_cons_succ]
            refine wpH_take (i := 5) (v := ?_) rfl rfl (by kernel_rfl) (by kernel_rfl) (by kernel_rfl) (fun _ _ _ h => h) (Or.inl ⟨by rfl, ?_⟩) hS0 ?_
            rotate_left
            · (intro w_ hw_; go_simp; try with_reducible rfl)
            simp only [List.setIfInBounds_toArray, List.set_cons_zero, List.set_cons_succ]
            refine wpH_take (i := 6) (v := ?_) rfl rfl (by kernel_rfl) (by kernel_rfl) (by kernel_rfl) (fun _ _ _ h => h) (Or.inl ⟨by rfl, ?_⟩) hS0 ?_
            rotate_left
            · (intro w_ hw_; obtain ⟨q1, q2, q3⟩ := hw_; have q1 := q1.one; have q2 := q2.two; go_simp; try with_reducible rfl)
            simp only [List.setIfInBounds_toArray, List.set_cons_zero, List.set_cons_succ]
            refine wpH_take (i := 7) (v := .int .i64 (root : Nat)) rfl rfl (by kernel_rfl) (by kernel_rfl) (by kernel_rfl) (fun _ _ _ h => h) (Or.inl ⟨by rfl, ?_⟩) hS0 ?_
            · (have Y4 := Y3.out; go_simp; try exact Y4 _)
            simp only [List.setIfInBounds_toArray, List.set_cons_zero, List.set_cons_succ]
            refine wpH_callv (i := 8) (by kernel_rfl) rfl rfl (by rfl) (node_tup (node_q HQ0.out HI.out (HN.out.same HS.out))) (by go_simp) ?_
            rintro _ v2 ⟨pn, B, c3, S2, rfl, hs, hq, hin⟩
            have hS1 : (fun v => Blk v n3 #[.pointer (some ⟨tp, 0, none⟩)] 27 ∧ Blk v tp #[.pointer (some ⟨M.p, 0, none⟩), .int .i64 (root : Nat)] 79 ∧ v.cell? ⟨b0, 5, none⟩ = some (.iface 96 (.int .i64 (root : Nat)))) v2 := ⟨hq.bx.at_ (i := 4) rfl, hq.bx.at_ (i := i + 9) HT.out, (hq.bx.at_ (i := 1) rfl).cell 5⟩
            clear hS0
            refine ⟨hS1, ?_⟩
            simp only [List.setIfInBounds_toArray, List.set_cons_zero, List.set_cons_succ]
            have HS2 := Lib.hid hs
            have HI2 := Lib.hid hin
            obtain ⟨m, hm0⟩ : ∃ m, m = es.length := ⟨_, rfl⟩
            rw [← hm0] at hq
            have HMM := Lib.hid hm0
            have HQ := Lib.hid hq
            clear hs hin hq hm0 HQ0 HI Y3
            refine wpH_take (i := 9) (v := ?_) rfl rfl (by kernel_rfl) (by kernel_rfl) (by kernel_rfl) (fun _ _ _ h => h) (Or.inl ⟨by rfl, ?_⟩) hS1 ?_
            rotate_left
            · (intro w_ hw_; go_simp; try with_reducible rfl)
            simp only [List.setIfInBounds_toArray, List.set_cons_zero, List.set_cons_succ]
            refine wpH_take (i := 10) (v := ?_) rfl rfl (by kernel_rfl) (by kernel_rfl) (by kernel_rfl) (fun _ _ _ h => h) (Or.inl ⟨by rfl, ?_⟩) hS1 ?_
            rotate_left
            · (intro w_ hw_; go_simp; try with_reducible rfl)
            simp only [List.setIfInBounds_toArray, List.set_cons_zero, List.set_cons_succ]
            refine wpH_take (i := 11) (v := ?_) rfl rfl (by kernel_rfl) (by kernel_rfl) (by kernel_rfl) (fun _ _ _ h => h) (Or.inl ⟨by rfl, ?_⟩) hS1 ?_
            rotate_left
            · (intro w_ hw_; go_simp; try with_reducible rfl)
            simp only [List.setIfInBounds_toArray, List.set_cons_zero, List.set_cons_succ]
            refine wpH_take (i := 12) (v := ?_) rfl rfl (by kernel_rfl) (by kernel_rfl) (by kernel_rfl) (fun _ _ _ h => h) (Or.inl ⟨by rfl, ?_⟩) hS1 ?_
            rotate_left
            · (intro w_ hw_; go_simp; try with_reducible rfl)
            simp only [List.setIfInBounds_toArray, List.set_cons_zero, List.set_cons_succ]
            refine wpH_take (i := 13) (v := ?_) rfl rfl (by kernel_rfl) (by kernel_rfl) (by kernel_rfl) (fun _ _ _ h => h) (Or.inl ⟨by rfl, ?_⟩) hS1 ?_
            rotate_left
            · (intro w_ hw_; go_simp; try with_reducible rfl)
            simp only [List.setIfInBounds_toArray, List.set_cons_zero, List.set_cons_succ]
            clear hS1
            refine wpAnyH_done (by kernel_rfl) ?_ _
            dsimp only [onlyN]
            gi_wp2_with (rw [wpli_id]; first
              | (refine wpqi_ld HQ 0 rfl _ _ rfl (by first | exact .inl rfl | exact .inr ⟨_, _, _, _, rfl, rfl, rfl, rfl⟩) (by exact rfl) Tryz.isAgg91 rfl ?_))
            gi_loopw [5, 90] (fun wv iv wr => ∃ (k : Nat) (A' : Option Addr) (c' : Nat), k ≤ m ∧ iv = .int .i64 (k : Int) ∧ wv = .slice A' (rowsOf p (es.take k)).length c' ∧ Hid (Qn w0 wr (⟨pn, #[.int .i64 (0 : Nat), .slice B m c3], 93⟩ :: ⟨b0, #[.int .u64 0, .int .i64 0, .int .i64 0, .int .i64 0, .int .i64 0, .iface 96 (.int .i64 (root : Nat))], 164⟩ :: ⟨n5, #[.pointer (some ⟨b9, 0, none⟩)], 102⟩ :: ⟨n4, #[.int .i64 p.x, .int .i64 p.y], 24⟩ :: ⟨n3, #[.pointer (some ⟨tp, 0, none⟩)], 27⟩ :: ⟨b9, #[.int .i64 0], 30⟩ :: ⟨b8, #[.slice Ao out.length co], 39⟩ :: ⟨b5, #[.int .i64 (most : Nat)], 3⟩ :: ⟨b4, #[.int .i64 p.x, .int .i64 p.y], 24⟩ :: L) (⟨84, 5, .slice B m c3, m, cellsE 0 es⟩ :: ⟨164, 6, .slice A' (rowsOf p (es.take k)).length c', (rowsOf p (es.take k)).length, thC (rowsOf p (es.take k))⟩ :: ⟨35, 5, .slice Ao out.length co, out.length, itC out⟩ :: R) M S2 D ((d + 1, .loop (rec .ready none)) :: (d, .deferred (some [])) :: K))) (fun _ iv _ => m - (intOf iv).toNat)
            case atStart => exact ⟨0, some ⟨g, 0, none⟩, c, by omega, rfl, rfl, HQ⟩
            case round =>
              clear HQ
              obtain ⟨k2, A', c', hk2, rfl, rfl, HQ⟩ := hrel
              have HMB := Lib.hid (show m ≤ 2000000 by have h1 := HN.out.2.2.2.2; have h2 := HMM.out; omega)
              by_cases hlt2 : k2 < m
              · have hlt3 : (k2 : Int) < (m : Int) := by omega
                have hkl : k2 < es.length := by rw [← HMM.out]; exact hlt2
                have hnd : NodeIn wr pn 0 B c3 es := HQ.out.bx.node (i := 0) (j := 0) (by rw [HMM.out]; rfl) (by rw [HMM.out]; rfl)
                obtain ⟨q, rfl, hqb, hqc⟩ := hnd.ents (by intro e; rw [e] at hkl; simp at hkl)
                obtain ⟨c0, c1, c2, c4, c5⟩ := hqc k2 hkl
                obtain ⟨e, he⟩ : ∃ e, e = es[k2] := ⟨_, rfl⟩
                rw [← he] at c0 c1 c2 c4 c5
                have HRT := Lib.hid (rowsOf_take (p := p) hkl he)
                change wr.cell? _ = some (Value.iface 82 _) at c5
                obtain ⟨wk, hwk⟩ : ∃ wk, wk = rowsOf p (es.take k2) := ⟨_, rfl⟩
                rw [← hwk] at HQ HRT ⊢
                have hwl : wk.length ≤ 100000 := by
                  rw [hwk]
                  unfold rowsOf
                  rw [List.length_map, List.length_take]
                  have := HN.out.2.2.2.2
                  omega
                have HWL := Lib.hid hwl
                clear hqc hqb he hnd hkl hwk hwl
                gi_wp2_with (rw [wpli_id]; first
                  | (refine wpqi_new HQ 84 rfl (by first | exact .inl rfl | exact .inr ⟨_, _, _, _, rfl, rfl, rfl, rfl⟩) Tryz.zeroValue84 rfl (fun be w' H2 => ?_); simp only [Value.cells] at H2; clear HQ; have HQ := H2; clear H2)
                  | (refine wpqi_sta HQ 0 rfl rfl _ _ _ rfl (by first | exact .inl rfl | exact .inr ⟨_, _, _, _, rfl, rfl, rfl, rfl⟩) (by exact rfl) (by exact rfl) Tryz.sizeOf84 (by kernel_rfl) (by kernel_rfl) (by kernel_rfl) rfl (splice_whole (n := 5) (by kernel_rfl) (by kernel_rfl)) (fun w' H2 => ?_); simp only [List.set_cons_succ, List.set_cons_zero] at H2; clear HQ; have HQ := H2; clear H2))
                clear c0 c1 c2 c4 c5
                refine wpIn_wide.2 (region_cut ?_)
                refine wp_region_H (fun v => Blk v be #[.int .i64 e.b.x0, .int .i64 e.b.y0, .int .i64 e.b.x1, .int .i64 e.b.y1, .iface 82 (.int .i64 e.of)] 84 ∧ Blk v n4 #[.int .i64 p.x, .int .i64 p.y] 24) (by kernel_rfl) (fun u hu => ?_)
                have hS0 : (fun v => Blk v be #[.int .i64 e.b.x0, .int .i64 e.b.y0, .int .i64 e.b.x1, .int .i64 e.b.y1, .iface 82 (.int .i64 e.of)] 84 ∧ Blk v n4 #[.int .i64 p.x, .int .i64 p.y] 24) u := by subst hu; exact ⟨(HQ.out.bx.at_ (i := 0) rfl).drew, (HQ.out.bx.at_ (i := 4) rfl).drew⟩
                have HQ0 := Lib.hid (show Qn w0 u (⟨be, #[.int .i64 e.b.x0, .int .i64 e.b.y0, .int .i64 e.b.x1, .int .i64 e.b.y1, .iface 82 (.int .i64 e.of)], 84⟩ :: ⟨pn, #[.int .i64 (0 : Nat), .slice (some q) m c3], 93⟩ :: ⟨b0, #[.int .u64 0, .int .i64 0, .int .i64 0, .int .i64 0, .int .i64 0, .iface 96 (.int .i64 (root : Nat))], 164⟩ :: ⟨n5, #[.pointer (some ⟨b9, 0, none⟩)], 102⟩ :: ⟨n4, #[.int .i64 p.x, .int .i64 p.y], 24⟩ :: ⟨n3, #[.pointer (some ⟨tp, 0, none⟩)], 27⟩ :: ⟨b9, #[.int .i64 0], 30⟩ :: ⟨b8, #[.slice Ao out.length co], 39⟩ :: ⟨b5, #[.int .i64 (most : Nat)], 3⟩ :: ⟨b4, #[.int .i64 p.x, .int .i64 p.y], 24⟩ :: L) (⟨84, 5, .slice (some q) m c3, m, cellsE 0 es⟩ :: ⟨164, 6, .slice A' wk.length c', wk.length, thC wk⟩ :: ⟨35, 5, .slice Ao out.length co, out.length, itC out⟩ :: R) M S2 D ((d + 1, .loop (rec .ready none)) :: (d, .deferred (some [])) :: K) from by subst hu; exact HQ.out.grew ⟨rfl, rfl, rfl, Nat.le_refl _, fun _ _ => rfl⟩)
                clear hu HQ
                refine wpH_take (i := 0) (v := ?_) rfl rfl (by kernel_rfl) (by kernel_rfl) (by kernel_rfl) (fun _ _ _ h => h) (Or.inl ⟨by rfl, ?_⟩) hS0 ?_
                rotate_left
                · (intro w_ hw_; go_simp; try with_reducible rfl)
                simp only [List.setIfInBounds_toArray, List.set_cons_zero, List.set_cons_succ]
                refine wpH_take (i := 1) (v := ?_) rfl rfl (by kernel_rfl) (by kernel_rfl) (by kernel_rfl) (fun _ _ _ h => h) (Or.inl ⟨by rfl, ?_⟩) hS0 ?_
                rotate_left
                · (intro w_ hw_; go_simp; try with_reducible rfl)
                simp only [List.setIfInBounds_toArray, List.set_cons_zero, List.set_cons_succ]
                refine wpH_take (i := 2) (v := .agg #[.int .i64 e.b.x0, .int .i64 e.b.y0, .int .i64 e.b.x1, .int .i64 e.b.y1]) rfl rfl (by kernel_rfl) (by kernel_rfl) (by kernel_rfl) (fun _ _ _ h => h) (Or.inl ⟨by rfl, ?_⟩) hS0 ?_
                · (intro w_ hw_; exact exec_load 33 (.tmp 95) rfl rfl (run_load_agg (Tryz.isAgg33 _) (Tryz.sizeOf33 _) hw_.1 (by simp)))
                simp only [List.setIfInBounds_toArray, List.set_cons_zero, List.set_cons_succ]
                refine wpH_take (i := 3) (v := .agg #[.int .i64 p.x, .int .i64 p.y]) rfl rfl (by kernel_rfl) (by kernel_rfl) (by kernel_rfl) (fun _ _ _ h => h) (Or.inl ⟨by rfl, ?_⟩) hS0 ?_
                · (intro w_ hw_; exact exec_load 24 (.tmp 3) rfl rfl (run_load_agg (Tryz.isAgg24 _) (Tryz.sizeOf24 _) hw_.2 (by simp)))
                simp only [List.setIfInBounds_toArray, List.set_cons_zero, List.set_cons_succ]
                refine wpH_take (i := 5) (v := .agg #[.int .i64 e.b.x0, .int .i64 e.b.y0, .int .i64 e.b.x1, .int .i64 e.b.y1, .iface 82 (.int .i64 e.of)]) rfl rfl (by kernel_rfl) (by kernel_rfl) (by kernel_rfl) (fun _ _ _ h => h) (Or.inl ⟨by rfl, ?_⟩) hS0 ?_
                · (intro w_ hw_; exact exec_load 84 (.tmp 14) rfl rfl (run_load_agg (Tryz.isAgg84 _) (Tryz.sizeOf84 _) hw_.1 (by simp)))
                simp only [List.setIfInBounds_toArray, List.set_cons_zero, List.set_cons_succ]
                refine wpH_callv (i := 4) (by kernel_rfl) rfl rfl (by rfl) (u64_tup (Geo.Near_any e.b p u)) (by go_simp) ?_
                rintro _ u1 ⟨rfl, hb⟩
                have hS1 : (fun v => Blk v be #[.int .i64 e.b.x0, .int .i64 e.b.y0, .int .i64 e.b.x1, .int .i64 e.b.y1, .iface 82 (.int .i64 e.of)] 84 ∧ Blk v n4 #[.int .i64 p.x, .int .i64 p.y] 24) u1 := ⟨hS0.1.grew hb, hS0.2.grew hb⟩
                clear hS0
                refine ⟨hS1, ?_⟩
                simp only [List.setIfInBounds_toArray, List.set_cons_zero, List.set_cons_succ]
                have HQ1 := Lib.hid (HQ0.out.grew hb)
                clear hb HQ0
                refine wpH_take (i := 6) (v := .agg #[.int .u64 (Geo.NearF e.b p), .int .i64 e.b.x0, .int .i64 e.b.y0, .int .i64 e.b.x1, .int .i64 e.b.y1, .iface 82 (.int .i64 e.of)]) rfl rfl (by kernel_rfl) (by kernel_rfl) (by kernel_rfl) (fun _ _ _ h => h) (Or.inl ⟨by rfl, ?_⟩) hS1 ?_
                · (go_simp; try with_reducible rfl)
                simp only [List.setIfInBounds_toArray, List.set_cons_zero, List.set_cons_succ]
                have hbl := (Below.refl u1.heap.size u1).alloc (Nat.le_refl _) (.cells #[.int .u64 (Geo.NearF e.b p), .int .i64 e.b.x0, .int .i64 e.b.y0, .int .i64 e.b.x1, .int .i64 e.b.y1, .iface 82 (.int .i64 e.of)] 164)
                have hlit : (u1.alloc (.cells #[.int .u64 (Geo.NearF e.b p), .int .i64 e.b.x0, .int .i64 e.b.y0, .int .i64 e.b.x1, .int .i64 e.b.y1, .iface 82 (.int .i64 e.of)] 164)).ownsRow u1.heap.size 164 6 (.slice (some ⟨u1.heap.size, 0, none⟩) 1 1) 1 (#[.int .u64 (Geo.NearF e.b p), .int .i64 e.b.x0, .int .i64 e.b.y0, .int .i64 e.b.x1, .int .i64 e.b.y1, .iface 82 (.int .i64 e.of)] : Array Value).toList := World.ownsRow_lit u1 #[.int .u64 (Geo.NearF e.b p), .int .i64 e.b.x0, .int .i64 e.b.y0, .int .i64 e.b.x1, .int .i64 e.b.y1, .iface 82 (.int .i64 e.of)] 1 (Nat.le_refl _) (by simp [maxLen]) rfl
                have HQ2 := Lib.hid (HQ1.out.grew hbl)
                obtain ⟨A2, c6, u2, hap, hps⟩ := run_appQ el164 165 HQ2.out 1 rfl hlit (by intro x hx; simp at hx; rcases hx with rfl | rfl | rfl | rfl | rfl | rfl <;> rfl) (by have := HWL.out; omega) (by decide)
                have hS2 : (fun v => Blk v be #[.int .i64 e.b.x0, .int .i64 e.b.y0, .int .i64 e.b.x1, .int .i64 e.b.y1, .iface 82 (.int .i64 e.of)] 84 ∧ Blk v n4 #[.int .i64 p.x, .int .i64 p.y] 24) (u1.alloc (.cells #[.int .u64 (Geo.NearF e.b p), .int .i64 e.b.x0, .int .i64 e.b.y0, .int .i64 e.b.x1, .int .i64 e.b.y1, .iface 82 (.int .i64 e.of)] 164)) := ⟨HQ2.out.bx.at_ (i := 0) rfl, HQ2.out.bx.at_ (i := 4) rfl⟩
                refine wpH_run (i := 7) (v := .slice (some ⟨u1.heap.size, 0, none⟩) 1 1) (w' := u1.alloc (.cells #[.int .u64 (Geo.NearF e.b p), .int .i64 e.b.x0, .int .i64 e.b.y0, .int .i64 e.b.x1, .int .i64 e.b.y1, .iface 82 (.int .i64 e.of)] 164)) (by kernel_rfl) rfl rfl (by rfl) (exec_lit rfl (ps := #[(0, .agg #[.int .u64 (Geo.NearF e.b p), .int .i64 e.b.x0, .int .i64 e.b.y0, .int .i64 e.b.x1, .int .i64 e.b.y1, .iface 82 (.int .i64 e.of)])]) (by simp only [List.map_toArray, List.map_cons, List.map_nil]; rfl) (run_lit164 _ _ _ _ _ _ u1)) hS2 ?_
                simp only [List.setIfInBounds_toArray, List.set_cons_zero, List.set_cons_succ]
                have hS3 : (fun v => Blk v be #[.int .i64 e.b.x0, .int .i64 e.b.y0, .int .i64 e.b.x1, .int .i64 e.b.y1, .iface 82 (.int .i64 e.of)] 84 ∧ Blk v n4 #[.int .i64 p.x, .int .i64 p.y] 24) u2 := ⟨hps.bx.at_ (i := 0) rfl, hps.bx.at_ (i := 4) rfl⟩
                refine wpH_run (i := 8) (v := .slice A2 (wk.length + 1) c6) (w' := u2) (by kernel_rfl) rfl rfl (by rfl) (exec_append (.tmp 94) (.tmp 101) 165 165 rfl rfl rfl hap) hS3 ?_
                simp only [List.setIfInBounds_toArray, List.set_cons_zero, List.set_cons_succ]
                have HQ := Lib.hid hps
                clear hps hap hbl hlit hS2 hS1 HQ1 HQ2
                refine wpH_take (i := 9) (v := ?_) rfl rfl (by kernel_rfl) (by kernel_rfl) (by kernel_rfl) (fun _ _ _ h => h) (Or.inl ⟨by rfl, ?_⟩) hS3 ?_
                rotate_left
                · (intro w_ hw_; go_simp; try with_reducible rfl)
                simp only [List.setIfInBounds_toArray, List.set_cons_zero, List.set_cons_succ]
                clear hS3
                refine wpAnyH_done (by kernel_rfl) ?_ _
                dsimp only [onlyN]
                gi_wp2
                obtain ⟨wk2, hwk2⟩ : ∃ wk2, wk2 = rowsOf p (es.take (k2 + 1)) := ⟨_, rfl⟩
                have hrt := HRT.out
                rw [← hwk2] at hrt
                have hl2 : wk.length + 1 = wk2.length := by rw [← hrt]; simp
                have hq := HQ.out.sub (List.Sublist.cons _ (List.Sublist.refl _)) (List.Sublist.refl _)
                have hc2 : thC wk ++ (#[.int .u64 (Geo.NearF e.b p), .int .i64 e.b.x0, .int .i64 e.b.y0, .int .i64 e.b.x1, .int .i64 e.b.y1, .iface 82 (.int .i64 e.of)] : Array Value).toList = thC wk2 := by rw [← hrt, thC_append]; rfl
                simp only [List.set_cons_succ, List.set_cons_zero] at hq
                rw [hl2, hc2] at hq
                rw [hl2]
                go_roundw
                case rel => exact ⟨k2 + 1, A2, c6, hlt2, rd_num hlt2 HMB.out, by rw [hwk2], Lib.hid (by rw [← hwk2]; exact hq)⟩
                case measure => exact rd_meas hlt2 HMB.out
              · obtain rfl : k2 = m := by omega
                have hnt : ¬ (k2 : Int) < k2 := by omega
                have hwf : rowsOf p (es.take k2) = rowsOf p es := by rw [HMM.out, List.take_length]
                rw [hwf] at HQ ⊢
                obtain ⟨wk, hwk⟩ : ∃ wk, wk = rowsOf p es := ⟨_, rfl⟩
                rw [← hwk] at HQ ⊢
                have HWK := Lib.hid hwk
                clear hwf hwk
                gi_wp2
                go_roundw
                case rel => exact ⟨wk, A', c', out, Ao, co, S2, rfl, Lib.hid ⟨HS.out.trans HS2.out, HQ.out.sub (List.Sublist.cons _ (List.Sublist.cons _ (List.Sublist.refl _))) (List.Sublist.cons _ (List.Sublist.refl _)), HI2.out⟩, HLT.out, .inr ⟨_, rfl, Lib.hid ⟨by rw [HWK.out]; exact rows_true p es, by rw [HWK.out]; simp [rowsOf], by rw [HA.out.2, HWK.out, HRS.out]; rfl⟩⟩⟩
                case measure => exact nmeas_first (by rw [HWK.out]; simp [rowsOf])
          · obtain ⟨nr, br, e0, hth⟩ : ∃ nr br e0, getT ts bb = ⟨nr, br, e0⟩ := ⟨_, _, _, rfl⟩
            obtain rfl : br = true := by
              have h1 := HA.out.1 (getT ts bb) (by rw [getT_at HBB.out.2]; exact List.getElem_mem HBB.out.2)
              rw [hth] at h1
              exact h1
            have hcs : (((thC ts).drop (bb * 6)).take 6).toArray = #[.int .u64 nr, .int .i64 e0.b.x0, .int .i64 e0.b.y0, .int .i64 e0.b.x1, .int .i64 e0.b.y1, .iface 82 (.int .i64 e0.of)] := by
              rw [thC_at ts bb HBB.out.2, ← getT_at HBB.out.2]
              rw [hth]; rfl
            have HCS := Lib.hid hcs
            have HTH := Lib.hid hth
            clear hcs hth
            have Y1 := ta_is (.int .i64 e0.of)
            gi_wp2_with (rw [wpli_id]; first
              | (refine wpqi_rlda HQ 0 rfl 164 _ rfl (by first | exact .inl rfl | exact .inr ⟨_, _, _, _, rfl, rfl, rfl, rfl⟩) (off := bb * 6) (by exact rfl) rfl Tryz.isAgg164 Tryz.sizeOf164 (by show bb * 6 + 6 ≤ ts.length * 6; have := HBB.out.2; omega) (cs := #[.int .u64 nr, .int .i64 e0.b.x0, .int .i64 e0.b.y0, .int .i64 e0.b.x1, .int .i64 e0.b.y1, .iface 82 (.int .i64 e0.of)]) HCS.out ?_)
              | (refine wpqi_new HQ 164 rfl (by first | exact .inl rfl | exact .inr ⟨_, _, _, _, rfl, rfl, rfl, rfl⟩) Tryz.zeroValue164 rfl (fun b0 w' H2 => ?_); simp only [Value.cells] at H2; clear HQ; have HQ := H2; clear H2)
              | (refine wpqi_sta HQ 0 rfl rfl _ _ _ rfl (by first | exact .inl rfl | exact .inr ⟨_, _, _, _, rfl, rfl, rfl, rfl⟩) (by exact rfl) (by exact rfl) Tryz.sizeOf164 (by kernel_rfl) (by kernel_rfl) (by kernel_rfl) rfl (splice_whole (n := 6) (by kernel_rfl) (by kernel_rfl)) (fun w' H2 => ?_); simp only [List.set_cons_succ, List.set_cons_zero] at H2; clear HQ; have HQ := H2; clear H2))
            refine ⟨trivial, callsIn_wide.2 ?_⟩
            rw [rd_num (k := bb) (n := k) (by have := HBB.out.2; have := HNN.out; omega) HNB.out]
            have hd := Delete_q HQ.out (j := 0) (i := bb) rfl HBB.out.2
            rw [← HNN.out] at hd
            refine hd.mono ?_
            rintro e w3 ⟨rfl, hq⟩
            clear hd
            simp only [List.set_cons_zero] at hq
            have HQ2 := Lib.hid hq
            clear hq
            clear HQ
            have HQ := HQ2
            clear HQ2
            gi_wp2_with (rw [wpli_id]; first
              | (refine wpqi_ld HQ 0 rfl _ _ rfl (by first | exact .inl rfl | exact .inr ⟨_, _, _, _, rfl, rfl, rfl, rfl⟩) (by exact rfl) Tryz.isAgg20 rfl ?_)
              | (refine wpqi_lda HQ 0 rfl _ _ rfl (by first | exact .inl rfl | exact .inr ⟨_, _, _, _, rfl, rfl, rfl, rfl⟩) (by exact rfl) Tryz.isAgg33 Tryz.sizeOf33 (by kernel_rfl) (cs := #[.int .i64 e0.b.x0, .int .i64 e0.b.y0, .int .i64 e0.b.x1, .int .i64 e0.b.y1]) rfl ?_))
            refine upon_yield (by intro h; cases h) ?_
            have dL := HQ.out.kat (i := 0) rfl
            rw [← HREC.out] at dL
            refine yield_of trivial dL rfl ?_
            clear dL
            gi_wp2_with fail
            have hq := HQ.out.push #[.int .i64 e0.b.x0, .int .i64 e0.b.y0, .int .i64 e0.b.x1, .int .i64 e0.b.y1, .int .i64 e0.of] 35
            generalize w3.heap.size = bx at *
            generalize w3.alloc (.cells #[.int .i64 e0.b.x0, .int .i64 e0.b.y0, .int .i64 e0.b.x1, .int .i64 e0.b.y1, .int .i64 e0.of] 35) = w4 at *
            have HQ2 := Lib.hid hq
            clear hq
            clear HQ
            have HQ := HQ2
            clear HQ2
            refine ⟨by rw [HREC.out]; exact HQ.out.kat (i := 0) rfl, ?_⟩
            intro W3 hT3
            have HQ2 := Lib.hid ((HQ.out.turned (i := 0) rfl (p := .loop (rec .busy none)) (by intro _ _ _ e; cases e) (by rw [HREC.out] at hT3; exact hT3)))
            clear hT3
            clear HQ
            have HQ := HQ2
            clear HQ2
            by_cases hend : out.length + 1 = most
            · have hbe : ((out.length : Int) + 1 == (most : Int)) = true := by simp; omega
              gi_wp2_with (rw [wpli_id]; first
                | (refine wpqi_ld HQ 6 rfl _ _ rfl (by first | exact .inl rfl | exact .inr ⟨_, _, _, _, rfl, rfl, rfl, rfl⟩) (by exact rfl) Tryz.isAgg39 rfl ?_)
                | (refine wpqi_lda HQ 0 rfl _ _ rfl (by first | exact .inl rfl | exact .inr ⟨_, _, _, _, rfl, rfl, rfl, rfl⟩) (by exact rfl) Tryz.isAgg35 Tryz.sizeOf35 (by kernel_rfl) (cs := #[.int .i64 e0.b.x0, .int .i64 e0.b.y0, .int .i64 e0.b.x1, .int .i64 e0.b.y1, .int .i64 e0.of]) rfl ?_)
                | (refine wpqi_lit HQ 39 35 _ rfl (by first | exact .inl rfl | exact .inr ⟨_, _, _, _, rfl, rfl, rfl, rfl⟩) (by exact rfl) (run_lit35 _ _ _ _ _) rfl (fun bl w' H2 => ?_); simp only [List.cons_append] at H2; clear HQ; have HQ := H2; clear H2)
                | (refine wpqi_app el35 HQ 2 rfl _ _ rfl (by first | exact .inl rfl | exact .inr ⟨_, _, _, _, rfl, rfl, rfl, rfl⟩) rfl rfl (HQ.out.bx.row_ (i := 0) rfl) (by simp [Value.oneCell']) (by have := HLT.out; have := HM.out.2; omega) (by decide) (rfl) rfl (fun Aa ca w' H2 => ?_); simp only [List.set_cons_succ, List.set_cons_zero] at H2; clear HQ; have HQ := H2; clear H2)
                | (refine wpqi_st HQ 6 rfl rfl _ _ _ rfl (by first | exact .inl rfl | exact .inr ⟨_, _, _, _, rfl, rfl, rfl, rfl⟩) (by exact rfl) (by (conv => lhs; whnf) <;> exact rfl) Tryz.sizeOf39 rfl (by kernel_rfl) rfl rfl (fun w' H2 => ?_); simp only [List.set_cons_succ, List.set_cons_zero, List.setIfInBounds_toArray] at H2; clear HQ; have HQ := H2; clear H2)
                | (refine wpqi_ld HQ 7 rfl _ _ rfl (by first | exact .inl rfl | exact .inr ⟨_, _, _, _, rfl, rfl, rfl, rfl⟩) (by exact rfl) Tryz.isAgg3 rfl ?_))
              obtain ⟨o2, ho2⟩ : ∃ o2, o2 = out ++ [e0] := ⟨_, rfl⟩
              have hq := HQ.out.sub (List.Sublist.cons _ (List.Sublist.cons _ (List.Sublist.refl _))) (List.Sublist.cons _ (List.Sublist.refl _))
              rw [show out.length + 1 = o2.length by rw [ho2]; simp, itC_snoc, ← ho2] at hq
              have hns := near_step HA.out.2.2 HLT.out (by have := HNN.out; omega) HBB.out.1 (show (getT ts bb).e = e0 by rw [HTH.out])
              rw [← ho2] at hns
              have hor : o2 = rs := by
                have h1 : most - o2.length = 0 := by rw [ho2, List.length_append, List.length_singleton]; omega
                rw [h1] at hns
                exact (hns.trans (List.append_nil _)).symm
              rw [hor] at hq
              have HQ2 := Lib.hid hq
              clear hq hns hor ho2
              clear HQ
              have HQ := HQ2
              clear HQ2
              gi_wp2_with fail
              refine ⟨by rw [HREC.out]; exact HQ.out.kat (i := 0) rfl, ?_⟩
              intro W5 hT5
              have HQ2 := Lib.hid ((HQ.out.turned (i := 0) rfl (p := .loop (rec .done (some (.exit 0)))) (by intro _ _ _ e; cases e) (by rw [HREC.out] at hT5; exact hT5)))
              clear hT5
              clear HQ
              have HQ := HQ2
              clear HQ2
              gi_wp2
              refine bodyPost_ret (results_none rfl _ _ _) rfl ⟨⟨_, rfl⟩, Or.inr ⟨_, HQ.out.kat (i := 0) rfl, ?_⟩⟩
              intro W6 hT6
              have HQ2 := Lib.hid ((HQ.out.turned (i := 0) rfl (p := .loop (rec .exhausted (some (.exit 0)))) (by intro _ _ _ e; cases e) (by exact hT6)))
              clear hT6
              clear HQ
              have HQ := HQ2
              clear HQ2
              refine wpIn_wide.2 ?_
              go_wp2_with (rw [wpl_id]; first
                | (refine wpl_ld (Lib.hid HQ.out.bx) 3 rfl _ _ rfl (by first | exact .inl rfl | exact .inr ⟨_, _, _, _, rfl, rfl, rfl, rfl⟩) (by exact rfl) Tryz.isAgg30 rfl ?_)
                | (refine wpl_ld (Lib.hid HQ.out.bx) 4 rfl _ _ rfl (by first | exact .inl rfl | exact .inr ⟨_, _, _, _, rfl, rfl, rfl, rfl⟩) (by exact rfl) Tryz.isAgg39 rfl ?_))
              have kd := HQ.out.kat (i := 1) rfl
              have hp := Turned.put (.deferred none) kd
              have hq := HQ.out.turned (i := 1) rfl (p := .deferred none) (by intro _ _ _ e; cases e) hp
              refine ⟨by simp, .inl ⟨_, _, rfl, run_takeDeferred kd, ?_⟩⟩
              refine ⟨_, results_tmp2 rfl _ _ _, _, _, S1, rfl, HS.out, ?_, HI.out⟩
              exact hq.subk (List.Sublist.cons _ (List.Sublist.cons _ (List.Sublist.cons _ (List.Sublist.cons _ (List.Sublist.cons _ (List.Sublist.cons _ (List.Sublist.cons _ (List.Sublist.refl _)))))))) (List.Sublist.cons _ (List.Sublist.refl _)) (List.Sublist.cons _ (List.Sublist.cons _ (List.Sublist.refl _)))
            · have hbe : ((out.length : Int) + 1 == (most : Int)) = false := by simp; omega
              gi_wp2_with (rw [wpli_id]; first
                | (refine wpqi_ld HQ 6 rfl _ _ rfl (by first | exact .inl rfl | exact .inr ⟨_, _, _, _, rfl, rfl, rfl, rfl⟩) (by exact rfl) Tryz.isAgg39 rfl ?_)
                | (refine wpqi_lda HQ 0 rfl _ _ rfl (by first | exact .inl rfl | exact .inr ⟨_, _, _, _, rfl, rfl, rfl, rfl⟩) (by exact rfl) Tryz.isAgg35 Tryz.sizeOf35 (by kernel_rfl) (cs := #[.int .i64 e0.b.x0, .int .i64 e0.b.y0, .int .i64 e0.b.x1, .int .i64 e0.b.y1, .int .i64 e0.of]) rfl ?_)
                | (refine wpqi_lit HQ 39 35 _ rfl (by first | exact .inl rfl | exact .inr ⟨_, _, _, _, rfl, rfl, rfl, rfl⟩) (by exact rfl) (run_lit35 _ _ _ _ _) rfl (fun bl w' H2 => ?_); simp only [List.cons_append] at H2; clear HQ; have HQ := H2; clear H2)
                | (refine wpqi_app el35 HQ 2 rfl _ _ rfl (by first | exact .inl rfl | exact .inr ⟨_, _, _, _, rfl, rfl, rfl, rfl⟩) rfl rfl (HQ.out.bx.row_ (i := 0) rfl) (by simp [Value.oneCell']) (by have := HLT.out; have := HM.out.2; omega) (by decide) (rfl) rfl (fun Aa ca w' H2 => ?_); simp only [List.set_cons_succ, List.set_cons_zero] at H2; clear HQ; have HQ := H2; clear H2)
                | (refine wpqi_st HQ 6 rfl rfl _ _ _ rfl (by first | exact .inl rfl | exact .inr ⟨_, _, _, _, rfl, rfl, rfl, rfl⟩) (by exact rfl) (by (conv => lhs; whnf) <;> exact rfl) Tryz.sizeOf39 rfl (by kernel_rfl) rfl rfl (fun w' H2 => ?_); simp only [List.set_cons_succ, List.set_cons_zero, List.setIfInBounds_toArray] at H2; clear HQ; have HQ := H2; clear H2)
                | (refine wpqi_ld HQ 7 rfl _ _ rfl (by first | exact .inl rfl | exact .inr ⟨_, _, _, _, rfl, rfl, rfl, rfl⟩) (by exact rfl) Tryz.isAgg3 rfl ?_))
              obtain ⟨o2, ho2⟩ : ∃ o2, o2 = out ++ [e0] := ⟨_, rfl⟩
              have hq := HQ.out.sub (List.Sublist.cons _ (List.Sublist.cons _ (List.Sublist.refl _))) (List.Sublist.cons _ (List.Sublist.refl _))
              rw [show out.length + 1 = o2.length by rw [ho2]; simp, itC_snoc, ← ho2] at hq
              have hns := near_step HA.out.2.2 HLT.out (by have := HNN.out; omega) HBB.out.1 (show (getT ts bb).e = e0 by rw [HTH.out])
              rw [← ho2] at hns
              have hlt2 : o2.length < most := by rw [ho2, List.length_append, List.length_singleton]; have := HLT.out; omega
              have HQ2 := Lib.hid hq
              have HNS := Lib.hid hns
              clear hq hns ho2
              clear HQ
              have HQ := HQ2
              clear HQ2
              refine ⟨(HQ.out.kat (i := 0) rfl).trans (congrArg (fun r => some (Obj.loop (r .busy none))) HREC.out.symm), ?_⟩
              intro W5 hT5
              have HQ2 := Lib.hid ((HQ.out.turned (i := 0) rfl (p := .loop (rec .ready none)) (by intro _ _ _ e; cases e) (Eq.mp (congrArg (fun r => Turned (d + 1) (Obj.loop (r .ready none)) _ W5) HREC.out) hT5)))
              clear hT5
              clear HQ
              have HQ := HQ2
              clear HQ2
              gi_wp2
              go_roundw
              case rel => exact ⟨ts.eraseIdx bb, some ⟨g, 0, none⟩, c, o2, _, _, S1, rfl, Lib.hid ⟨HS.out, HQ.out, HI.out⟩, hlt2, .inr ⟨q, rfl, Lib.hid ⟨erase_rows HA.out.1 bb, by rw [List.length_eraseIdx_of_lt HBB.out.2]; have := HA.out.2.1; omega, HNS.out⟩⟩⟩
              case measure => exact nmeas_lt HBB.out.2 HNN.out
end
end Go.Proofs.YtfmdmfiljplkoaaGreat
