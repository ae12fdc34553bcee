/- Walks: the program's Words. -/
import Derived.Test.YtmdmejfcknaokaaDoorW9
import Derived.Test.YtmdmejfcknaokaaDoorW7
import Derived.Test.YtmdmejfcknaokaaDoorW10
import Derived.Test.YtmdmejfcknaokaaDoorFreeIn
import Derived.Stop.RegionWithIn
import Derived.BigFrameIn
namespace Go.Proofs.YtmdmejfcknaokaaDoor
open Go.RowKit Go.Shelf
attribute [local go_sem] Oper.semAt_some

theorem signs_any (s : ByteArray) (w : World) :
    Calls Tryd.prog 24 #[.string s] w fun e w' => e = .returned (.func (.func 34) #[] #[.pointer (some ⟨w.heap.size, 0, none⟩)]) ∧ w' = w.alloc (.cells #[.string s] 9) := by
  go_enter Tryd.func24, Tryd.ntmps24
  go_wp2
  go_ret
  exact ⟨rfl, rfl⟩

theorem fold_decode (s : ByteArray) (i : Nat) : fold ((Utf8.decode s i).1 : Int) = fold (signR s i).1 := by
  rcases (sign_decode s i).2 with h | ⟨h, h2⟩
  · rw [h]
  · rw [h, h2]; decide +kernel
/-- The sign at a place, read by a range, and what it becomes, hidden. -/
theorem at_next (s : ByteArray) (i : Nat) (hi : i < s.size) (k : Nat) (wr : World) (hit : wr.heap[k]? = some (.stringIter s i)) : ∃ (c n : Nat) (f : List Nat), 1 ≤ n ∧ i + n ≤ s.size ∧ (f.length : Int) ≤ 4 ∧ (c : Int) ≤ 2147483647 ∧ Hid (toks s i = (i, f) :: toks s (i + n)) ∧
    (∀ ty, (Instr.next (.pointer (some ⟨k, 0, none⟩)) true ty).run Tryd.prog wr = .ok (.tuple #[.bool true, .int .i64 i, .int .i32 c]) (wr.iterAt k s (i + n))) ∧ Hid (∀ w, Calls Tryd.prog 8 #[.int .i32 c] w fun e w' => e = .returned (.string (str f)) ∧ Below w.heap.size w w') :=
  ⟨(Utf8.decode s i).1, (signR s i).2, fold (signR s i).1, (sign_pos s i).1, sign_end s i hi, by have := fold_len (signR s i).1; omega, by have := decode_le s i; omega, Lib.hid (toks_lt s i hi), (fun ty => by rw [← (sign_decode s i).1]; exact Lib.run_next_any_at wr k s i ty hit hi), Lib.hid fun w => by rw [← fold_decode]; exact Fold_any _ w⟩

set_option maxRecDepth 20000 in
set_option maxHeartbeats 4000000 in
theorem Words_any (s : ByteArray) (hs : (s.size : Int) ≤ 100000) (w : World) : Calls Tryd.prog 14 #[.string s] w (IsWords 33 w.heap.size w (wordsL s)) := by
  refine (callsIn_wide (n := 5)).1 ?_
  refine callsIn_of_wp_marks Tryd.func14 rfl trivial ?_
  simp only [Tryd.ntmps14, List.size_toArray, List.length_cons, List.length_nil, Nat.reduceAdd, Nat.reduceSub, Array.replicate_succ, Array.replicate_zero, List.push_toArray, List.append_toArray, List.nil_append, List.cons_append]
  gi_wp2_with fail
  refine ⟨trivial, callsIn_wide.2 ((signs_any s _).mono ?_)⟩
  rintro e w2 ⟨rfl, rfl⟩
  gi_wp2_with fail
  refine wpIn_range rfl (by decide) (gf := 34) (lb := #[.pointer (some ⟨w.heap.size + 4, 0, none⟩)]) rfl trivial (enters_of Tryd.func34 (by kernel_rfl) rfl) ?_
  intro fn hfn W1 hb1 hz1 hD hL
  simp only [World.size_alloc, Nat.add_assoc, Nat.reduceAdd] at hD hL hz1 ⊢
  generalize hrec : recOf fn _ _ _ _ _ = rec at hL ⊢
  have HRC := Lib.hid hrec
  clear hrec
  have hS0 : ∀ W2, Below W1.heap.size W1 W2 → W2.heap[w.heap.size + 7]? = some (.stringIter s 0) → St w w.heap.size s (rec .ready none) 0 (.slice none 0 0) (.slice none 0 0) [] (-1) false [] W2 := by
    intro W2 hb2 hit
    have b0 := Blk.new w #[Value.slice none 0 0] 28
    have b1 := Blk.new' (b := w.heap.size + 1) (w.alloc (.cells #[Value.slice none 0 0] 28)) #[Value.pointer none, Value.slice none 0 0] 50 (by simp)
    have b2 := Blk.new' (b := w.heap.size + 2) ((w.alloc (.cells #[Value.slice none 0 0] 28)).alloc (.cells #[Value.pointer none, Value.slice none 0 0] 50)) #[Value.int .i64 (-1)] 3 (by simp)
    have b3 := Blk.new' (b := w.heap.size + 3) (((w.alloc (.cells #[Value.slice none 0 0] 28)).alloc (.cells #[Value.pointer none, Value.slice none 0 0] 50)).alloc (.cells #[Value.int .i64 (-1)] 3)) #[Value.bool false] 4 (by simp)
    have b4 := Blk.new' (b := w.heap.size + 4) ((((w.alloc (.cells #[Value.slice none 0 0] 28)).alloc (.cells #[Value.pointer none, Value.slice none 0 0] 50)).alloc (.cells #[Value.int .i64 (-1)] 3)).alloc (.cells #[Value.bool false] 4)) #[Value.string s] 9 (by simp)
    have c0 := ((((b0.alloc _).alloc _).alloc _).alloc _).grew hb1
    have c1 := (((b1.alloc _).alloc _).alloc _).grew hb1
    have c2 := ((b2.alloc _).alloc _).grew hb1
    have c3 := (b3.alloc _).grew hb1
    have c4 := b4.grew hb1
    have lD := lt_of_block hD
    have lL := lt_of_block hL
    refine ⟨c0.grew hb2, OwnW.none_ _ _ _, F_new (by omega) (c1.grew hb2), c2.grew hb2, c3.grew hb2, c4.grew hb2, (hb2.block _ lD).trans hD, (hb2.block _ lL).trans hL, hit, ?_⟩
    exact grow (grow (grow_alloc (grow_alloc (grow_alloc (grow_alloc (grow_alloc (Below.refl _ w) _) _) _) _) _) hb1) hb2
  have ht : W1.cell? ⟨w.heap.size + 4, 0, none⟩ = some (.string s) := by
    have b4 := Blk.new' (b := w.heap.size + 4) ((((w.alloc (.cells #[Value.slice none 0 0] 28)).alloc (.cells #[Value.pointer none, Value.slice none 0 0] 50)).alloc (.cells #[Value.int .i64 (-1)] 3)).alloc (.cells #[Value.bool false] 4)) #[Value.string s] 9 (by simp)
    exact (b4.grew hb1).cell 0
  have HS0 := Lib.hid hS0
  have HZ := Lib.hid hz1
  clear hS0 hL hD hb1 hz1
  generalize w.heap.size = B at *
  have yld : ∀ (i p : Nat) (f : List Nat) (vo : Value) (l : List Wd) (st : WSt) (W : World) (R : Ending → World → Prop), (i : Int) ≤ 100000 → (f.length : Int) ≤ 4 → l.length ≤ 100001 → OkW st → St w B s (rec .ready none) p vo vo l (frW st) (cuW st) (tW st) W →
      (∀ W' vo', St w B s (rec .ready none) p vo' vo' (l ++ emitW i f st) (frW (nextW i f st)) (cuW (nextW i f st)) (tW (nextW i f st)) W' → R (.returned (.bool true)) W') →
      YieldAt Fence.wide 3 Tryd.prog (B + 6) #[.int .i64 i, .string (str f)] W R := by
    intro i p f vo l st W R hi hf hl hok hS hR
    have HR := Lib.hid hR
    have hL := hS.lp
    rw [← HRC.out] at hL
    refine yield_of trivial hL rfl ?_
    have HE := Lib.hid (str_none f)
    have HS := Lib.hid hS
    have HLW := Lib.hid hL
    clear hS hR hL
    gi_wp2_with fail
    refine ⟨HLW.out, ?_⟩
    intro W3 hT
    rw [HRC.out] at hT
    have S3 := HS.out.turned hT
    have HS3 := Lib.hid S3
    clear hT S3 HS HLW
    have cfr := HS3.out.fr.one
    have ccu := HS3.out.cut.one
    by_cases hf0 : f = []
    · have e1 : (str f).toList.isEmpty = true := by rw [HE.out, decide_eq_true hf0]
      subst hf0
      rcases st with _ | ⟨a, t, c⟩
      · simp only [frW, cuW] at cfr ccu
        gi_wp2_with fail
        refine ⟨by rw [HRC.out]; exact HS3.out.lp, ?_⟩
        intro W9 hT9
        rw [HRC.out] at hT9
        exact HR.out W9 vo (by simp only [emitW, nextW, if_true, List.append_nil]; exact HS3.out.turned hT9)
      · simp only [frW, cuW] at cfr ccu
        have hne : t ≠ [] := hok.1
        have hub : ub t ≠ [] := by unfold ub; simpa using hne
        have ha0 : (0 : Int) ≤ a := by omega
        have HNE := Lib.hid hne
        have HUB := Lib.hid hub
        clear hne hub hok
        gi_wp2_with fail
        have hst : Stands (fun v => St w B s (rec .busy none) p vo vo l a c t v) := fun _ _ hb h => h.grew hb
        refine wpIn_region_X (S := fun v => St w B s (rec .busy none) p vo vo l a c t v) (by kernel_rfl) (by kernel_rfl) (by rintro ⟨_, _, h⟩; exact h) (by have := HS3.out.drew; simp only [frW, cuW, tW] at this; exact this) ?_
        refine wpX_take (i := 0) (v := ?_) hst rfl rfl (by kernel_rfl) (by kernel_rfl) (by kernel_rfl) (by kernel_rfl) (fun _ _ _ h => h) (SteadyX.value (by rfl) ?_) ?_
        rotate_left
        · (intro w_ hS; have q := St.out hS; have q := q.one; go_simp; try with_reducible rfl)
        simp only [List.setIfInBounds_toArray, List.set_cons_zero, List.set_cons_succ]
        refine wpX_take (i := 2) (v := ?_) hst rfl rfl (by kernel_rfl) (by kernel_rfl) (by kernel_rfl) (by kernel_rfl) (fun _ _ _ h => h) (SteadyX.value (by rfl) ?_) ?_
        rotate_left
        · (intro w_ hS; have q := St.fr hS; have q := q.one; go_simp; try with_reducible rfl)
        simp only [List.setIfInBounds_toArray, List.set_cons_zero, List.set_cons_succ]
        refine wpX_take (i := 3) (v := ?_) hst rfl rfl (by kernel_rfl) (by kernel_rfl) (by kernel_rfl) (by kernel_rfl) (fun _ _ _ h => h) (SteadyX.value (by rfl) ?_) ?_
        rotate_left
        · (intro w_ hS; go_simp; try with_reducible rfl)
        simp only [List.setIfInBounds_toArray, List.set_cons_zero, List.set_cons_succ]
        refine wpX_one (i := 1) (by kernel_rfl) (fun w_ hS => ?_)
        refine wpX_call (i := 1) (R := fun v w' => v = .string (str t) ∧ St w B s (rec .busy none) p vo vo l a c t w') rfl rfl (by rfl) ((String_k B (B + 1) (ub t) w_ (St.now hS) HUB.out).mono (fun e w' h => ⟨_, h.1, rfl, St.built hS h.2.1 h.2.2.1 h.2.2.2⟩)) (by go_simp; try rfl) ?_
        clear hS
        rintro v_ w4 ⟨rfl, hS⟩
        refine ⟨_, hst, .inr fun _ h => h, hS, ?_⟩
        clear hS w4
        simp only [List.setIfInBounds_toArray, List.set_cons_zero, List.set_cons_succ]
        refine wpX_take (i := 4) (v := ?_) hst rfl rfl (by kernel_rfl) (by kernel_rfl) (by kernel_rfl) (by kernel_rfl) (fun _ _ _ h => h) (SteadyX.value (by rfl) ?_) ?_
        rotate_left
        · (intro w_ hS; go_simp; try with_reducible rfl)
        simp only [List.setIfInBounds_toArray, List.set_cons_zero, List.set_cons_succ]
        refine wpX_one (i := 5) (by kernel_rfl) (fun w_ hS => ?_)
        have hst2 : Stands (fun v => St w B s (rec .busy none) p vo vo l a c t v ∧ Blk v w_.heap.size #[.string (str t), .int .i64 (a : Int), .int .i64 (i : Int)] 33) := fun _ _ hb h => ⟨h.1.grew hb, h.2.grew hb⟩
        refine wpX_run (i := 5) (v := .slice (some ⟨w_.heap.size, 0, none⟩) 1 1) (w' := w_.alloc (.cells #[.string (str t), .int .i64 (a : Int), .int .i64 (i : Int)] 33)) _ rfl rfl (by rfl) (by go_simp) hst2 (.inr fun _ h => h.1) ⟨St.grew hS ((Below.refl _ w_).alloc (Nat.le_refl _) _), Blk.new _ _ _⟩ ?_
        clear hst hS
        obtain ⟨R9, hR9⟩ : ∃ R9, R9 = w_.heap.size := ⟨_, rfl⟩
        rw [← hR9] at hst2 ⊢
        clear hR9 w_
        simp only [List.setIfInBounds_toArray, List.set_cons_zero, List.set_cons_succ]
        refine wpX_one (i := 6) (by kernel_rfl) (fun w_ hS => ?_)
        obtain ⟨v5, w5, hrun, hown, hgr⟩ := run_pushK words_type (St.row hS.1) t a i hS.2 (St.lt hS.1) (by omega)
        obtain ⟨A5, n5, c5, rfl⟩ : ∃ A n c, v5 = .slice A n c := by
          obtain ⟨A, c, h, _⟩ := hown.form
          exact ⟨_, _, _, h⟩
        have hst3 : Stands (fun v => St w B s (rec .busy none) p vo (.slice A5 n5 c5) (l ++ [(t, a, i)]) a c t v) := fun _ _ hb h => h.grew hb
        refine wpX_run (i := 6) (v := (.slice A5 n5 c5)) (w' := w5) _ rfl rfl (by rfl) (exec_append (.tmp 20) (.tmp 25) 28 28 rfl rfl rfl hrun) hst3 (.inl (by kernel_rfl)) (St.app hS.1 hgr hown) ?_
        clear hst2 hS hrun hown hgr w5 w_
        simp only [List.setIfInBounds_toArray, List.set_cons_zero, List.set_cons_succ]
        refine wpX_one (i := 7) (by kernel_rfl) (fun w_ hS => ?_)
        have hst4 : Stands (fun v => St w B s (rec .busy none) p (.slice A5 n5 c5) (.slice A5 n5 c5) (l ++ [(t, a, i)]) a c t v) := fun _ _ hb h => h.grew hb
        have q0 := St.out hS
        have q := q0.one
        refine wpX_store (i := 7) (w' := w_.setCell ⟨B, 0, none⟩ (.slice A5 n5 c5)) _ rfl rfl (by rfl) (by go_simp) hst4 (.inl (by kernel_rfl)) (St.setOut hS (.slice A5 n5 c5)) ?_
        clear q q0 hS hst3
        clear w_
        refine wpX_done (by kernel_rfl) (fun w6 hS => ?_) _
        have HS6 := Lib.hid hS
        clear hS hst4 cfr ccu
        gi_wp2_with fail
        refine ⟨trivial, callsIn_wide.2 ((Reset_k B (B + 1) _ _ HS6.out.now).mono ?_)⟩
        rintro e w7 ⟨rfl, hf7, hb7, hk7⟩
        have S7 := HS6.out.built (t' := []) hf7 hb7 hk7
        have HS7 := Lib.hid S7
        clear S7 hf7 hb7 hk7 HS6
        have cfr := HS7.out.fr.one
        have ccu := HS7.out.cut.one
        gi_wp2
        have S8 := (HS7.out.setFr (-1)).setCut false
        refine ⟨by rw [HRC.out]; exact S8.lp, ?_⟩
        intro W9 hT9
        rw [HRC.out] at hT9
        exact HR.out W9 (.slice A5 n5 c5) (by simp only [emitW, nextW, if_true, frW, cuW, tW]; exact S8.turned hT9)
    · have e1 : (str f).toList.isEmpty = false := by rw [HE.out, decide_eq_false hf0]
      have HF0 := Lib.hid hf0
      have hz2 := str_size f
      clear hf0
      rcases st with _ | ⟨a, t, c⟩
      · simp only [frW, cuW] at cfr ccu
        have S4 := HS3.out.setFr i
        simp only [cuW, tW] at S4
        have HS4 := Lib.hid S4
        clear S4
        have LEN := Len_f B (B + 1) _ _ HS4.out.now
        rw [cells_len] at LEN
        have HLEN := Lib.hid LEN
        clear LEN
        have ccu := HS4.out.cut.one
        gi_wp2_with fail
        refine ⟨trivial, callsIn_wide.2 (HLEN.out.mono ?_)⟩
        rintro e w5 ⟨rfl, hw5⟩
        obtain rfl := hw5
        clear HLEN
        have hd : decide ((32 : Int) < (f.length : Int)) = false := decide_eq_false (by omega)
        have HNX : Hid (nextW i f (none) = some (i, ([] : List Nat) ++ f, false)) := Lib.hid (by
          have : ¬ 32 < ([] : List Nat).length + f.length := by simp; omega
          simp [nextW, HF0.out, putW, cutW, (show ¬ 32 < f.length by omega)])
        have HEM : Hid (emitW i f (none) = []) := Lib.hid (by simp [emitW])
        have S5 := HS4.out.setCut false
        have HWS := Lib.hid (fun W' (h : St w B s (rec .busy none) p vo vo l i false ([] : List Nat) W') => WriteString_k B (B + 1) _ (str f) W' h.now (by rw [cells_len, str_size]; have h32 : ([] : List Nat).length ≤ 32 := (by simp); omega) h.lt)
        have HS5 := Lib.hid S5
        clear S5
        gi_wp2_with fail
        refine ⟨trivial, callsIn_wide.2 ((HWS.out _ HS5.out).mono ?_)⟩
        rintro e w6 ⟨rfl, hf6, hb6, hk6⟩
        rw [cells_append] at hf6
        have S6 := HS5.out.built hf6 hb6 hk6
        clear hf6 hb6 hk6 HWS
        gi_wp2
        refine ⟨by rw [HRC.out]; exact S6.lp, ?_⟩
        intro W9 hT9
        rw [HRC.out] at hT9
        exact HR.out W9 vo (by rw [HNX.out, HEM.out, List.append_nil]; simp only [frW, cuW, tW]; exact S6.turned hT9)


      · simp only [frW, cuW] at cfr ccu
        have S4 := HS3.out
        simp only [frW, cuW, tW] at S4
        have HS4 := Lib.hid S4
        clear S4
        have ha0 : ¬ (a : Int) < 0 := by omega
        have htl : (t.length : Int) ≤ 32 := by have := hok.2; omega
        cases c with
        | true =>
          have HNX : Hid (nextW i f (some (a, t, true)) = some (a, t, true)) := Lib.hid (by simp [nextW, HF0.out, putW, cutW])
          have HEM : Hid (emitW i f (some (a, t, true)) = []) := Lib.hid (by simp [emitW, HF0.out])
          have ccu := HS4.out.cut.one
          gi_wp2_with fail
          refine ⟨trivial, ?_⟩
          gi_wp2
          have S6 := HS4.out.setCut true
          refine ⟨by rw [HRC.out]; exact S6.lp, ?_⟩
          intro W9 hT9
          rw [HRC.out] at hT9
          exact HR.out W9 vo (by rw [HNX.out, HEM.out, List.append_nil]; simp only [frW, cuW, tW]; exact S6.turned hT9)
        | false =>
          have LEN := Len_f B (B + 1) _ _ HS4.out.now
          rw [cells_len] at LEN
          have HLEN := Lib.hid LEN
          clear LEN
          have ccu := HS4.out.cut.one
          gi_wp2_with fail
          refine ⟨trivial, callsIn_wide.2 (HLEN.out.mono ?_)⟩
          rintro e w5 ⟨rfl, hw5⟩
          obtain rfl := hw5
          clear HLEN
          by_cases hgt : (32 : Int) < (t.length : Int) + f.length
          · have hd : decide ((32 : Int) < (t.length : Int) + f.length) = true := decide_eq_true hgt
            have HNX : Hid (nextW i f (some (a, t, false)) = some (a, t, true)) := Lib.hid (by
              have : 32 < t.length + f.length := by omega
              simp [nextW, HF0.out, putW, cutW, this])
            have HEM : Hid (emitW i f (some (a, t, false)) = []) := Lib.hid (by simp [emitW, HF0.out])
            clear hgt
            gi_wp2
            have S6 := HS4.out.setCut true
            refine ⟨by rw [HRC.out]; exact S6.lp, ?_⟩
            intro W9 hT9
            rw [HRC.out] at hT9
            exact HR.out W9 vo (by rw [HNX.out, HEM.out, List.append_nil]; simp only [frW, cuW, tW]; exact S6.turned hT9)
          · have hd : decide ((32 : Int) < (t.length : Int) + f.length) = false := decide_eq_false (by omega)
            have HNX : Hid (nextW i f (some (a, t, false)) = some (a, t ++ f, false)) := Lib.hid (by
              have : ¬ 32 < t.length + f.length := by omega
              simp [nextW, HF0.out, putW, cutW, this])
            have HEM : Hid (emitW i f (some (a, t, false)) = []) := Lib.hid (by simp [emitW, HF0.out])
            have S5 := HS4.out.setCut false
            have HWS := Lib.hid (fun W' (h : St w B s (rec .busy none) p vo vo l a false t W') => WriteString_k B (B + 1) _ (str f) W' h.now (by rw [cells_len, str_size]; have h32 : t.length ≤ 32 := (by have := hok.2; simpa using this); omega) h.lt)
            have HS5 := Lib.hid S5
            clear hgt S5
            gi_wp2_with fail
            refine ⟨trivial, callsIn_wide.2 ((HWS.out _ HS5.out).mono ?_)⟩
            rintro e w6 ⟨rfl, hf6, hb6, hk6⟩
            rw [cells_append] at hf6
            have S6 := HS5.out.built hf6 hb6 hk6
            clear hf6 hb6 hk6 HWS
            gi_wp2
            refine ⟨by rw [HRC.out]; exact S6.lp, ?_⟩
            intro W9 hT9
            rw [HRC.out] at hT9
            exact HR.out W9 vo (by rw [HNX.out, HEM.out, List.append_nil]; simp only [frW, cuW, tW]; exact S6.turned hT9)



  have YLD := Lib.hid yld
  clear yld
  have HWL := Lib.hid (words_len s)
  refine callsIn_of_wp Tryd.func34 rfl trivial ?_
  simp only [Tryd.ntmps34, List.size_toArray, List.length_cons, List.length_nil, Nat.reduceAdd, Nat.reduceSub, Array.replicate_succ, Array.replicate_zero, List.push_toArray, List.append_toArray, List.nil_append, List.cons_append]
  gi_wp2_with fail
  have hS1 := HS0.out (W1.iter s 0) ((Below.refl _ W1).alloc (Nat.le_refl _) _) (by rw [← HZ.out]; exact World.iter_heap W1 s 0)
  have HS1 := Lib.hid hS1
  rw [HZ.out]
  generalize W1.iter s 0 = W2 at *
  clear hS1 HS0 HZ ht W1
  gi_loopw [3, 4] (fun _ _ wr => ∃ (pos : Nat) (vo : Value) (l : List Wd) (st : WSt), pos ≤ s.size ∧ Hid (St w B s (rec .ready none) pos vo vo l (frW st) (cuW st) (tW st) wr ∧ OkW st ∧ l ++ wm (toks s pos) st = wordsL s)) (fun _ _ wr => s.size - wr.iterPos (B + 7))
  case atStart => exact ⟨0, .slice none 0 0, [], none, by omega, Lib.hid ⟨HS1.out, trivial, rfl⟩⟩
  case round =>
    clear HS1
    obtain ⟨pos, vo, l, st, hpos, HX⟩ := hrel
    have hll : l.length ≤ 100001 := by
      have h1 := congrArg List.length HX.out.2.2
      have h2 := HWL.out
      simp at h1
      omega
    have hp0 := iterPos_of HX.out.1.it
    have HP0 := Lib.hid hp0
    clear hp0
    by_cases hlt : pos < s.size
    · obtain ⟨c, n, f, hpos1, hend, hfl, hcb, HT, hnx, HF⟩ := at_next s pos hlt (B + 7) wr HX.out.1.it
      have S2 := HX.out.1.iter (pos + n)
      obtain ⟨W5, hW5⟩ : ∃ W5, wr.iterAt (B + 7) s (pos + n) = W5 := ⟨_, rfl⟩
      rw [hW5] at hnx S2
      have HS2 := Lib.hid S2
      clear S2 hW5
      gi_wp2_with fail
      refine ⟨trivial, callsIn_wide.2 ((HF.out _).mono ?_)⟩
      rintro e W6 ⟨rfl, hb6⟩
      have HS6 := Lib.hid (HS2.out.grew hb6)
      clear hb6 HS2 hnx
      gi_wp2_with fail
      refine upon_yield (fun _ => by decide) ?_
      refine YLD.out pos (pos + n) f vo l st W6 _ (by omega) hfl hll HX.out.2.1 HS6.out ?_
      intro W7 vo7 S7
      have hfl2 : f.length ≤ 32 := by omega
      have HS7 := Lib.hid (show St w B s (rec .ready none) (pos + n) vo7 vo7 (l ++ emitW pos f st) (frW (nextW pos f st)) (cuW (nextW pos f st)) (tW (nextW pos f st)) W7 ∧ OkW (nextW pos f st) ∧ (l ++ emitW pos f st) ++ wm (toks s (pos + n)) (nextW pos f st) = wordsL s from
        ⟨S7, HX.out.2.1.next hfl2, by rw [List.append_assoc, ← wm_step, ← HT.out]; exact HX.out.2.2⟩)
      have hp7 := iterPos_of S7.it
      have HP7 := Lib.hid hp7
      clear S7 HS6 hp7 hfl2
      gi_wp2
      go_roundw
      case rel => exact ⟨pos + n, vo7, _, _, hend, HS7⟩
      case measure => rw [HP7.out, HP0.out]; omega
    · have hnx : ∀ ty, (Instr.next (.pointer (some ⟨B + 7, 0, none⟩)) true ty).run Tryd.prog wr = _ := fun ty => Lib.run_next_end_at wr (B + 7) s pos ty HX.out.1.it hlt
      have htx := HX.out.1.txt.one
      have hps : pos = s.size := by omega
      have hw0 : wm ([] : List (Nat × List Nat)) (nextW s.size [] st) = [] := by rcases nextW s.size [] st with _ | ⟨a, t, c⟩ <;> rfl
      have hres : l ++ emitW s.size [] st = wordsL s := by
        have h := HX.out.2.2
        rw [toks_end s pos hlt, wm_step, hw0, List.append_nil] at h
        exact h
      have HRES := Lib.hid hres
      clear hres hw0 hps
      gi_wp2_with fail
      refine upon_yield (fun _ => by decide) ?_
      refine YLD.out s.size pos [] vo l st wr _ hs (by simp) hll HX.out.2.1 HX.out.1 ?_
      intro W7 vo7 S7
      have HS7 := Lib.hid S7
      clear S7 htx hnx
      gi_wp2
      go_end0
      refine ⟨⟨_, rfl⟩, Or.inl ⟨HS7.out.lp, ?_⟩⟩
      intro W8 hT
      have HS8 := Lib.hid (HS7.out.turned hT)
      clear hT HS7 YLD HX
      have fo := HS8.out.out.one
      gi_wp2
      have hT := Turned.put (.deferred none) HS8.out.d
      refine ⟨by simp, .inl ⟨_, _, rfl, run_takeDeferred HS8.out.d, ?_⟩⟩
      refine ⟨vo7, results_tmp (t := 2) rfl _ _ _, vo7, rfl, ?_, HS8.out.bel.trans (hT.below (by omega))⟩
      rw [← HRES.out]
      exact HS8.out.row.same (Same.turned hT) (fun k c fz hk => notCells HS8.out.d (fun _ _ e => by cases e) hk)
end Go.Proofs.YtmdmejfcknaokaaDoor
