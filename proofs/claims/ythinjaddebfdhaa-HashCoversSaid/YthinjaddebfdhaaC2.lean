/- Walk: Cover. -/
import Derived.Test.YthinjaddebfdhaaC1
import Derived.Test.YthinjaddebfdhaaRange
import Derived.Stop.RegionWithIn
import Derived.BigFrameIn
import Derived.Lib.AppendZeros
import Derived.Lib.SmallJoins
namespace Go.Proofs.Ythinjaddebfdhaa
open Go.RowKit Go.Shelf
attribute [local go_sem] Oper.semAt_some
set_option maxRecDepth 20000

theorem wpListIn_append_run {F : Fence} {n : Nat} {P : Program} {w : World} {ops : Array Oper} {rest : List Oper} {o : Oper} {a : Act} {Q : Exit → Act → World → Prop} (hg : o.guard = none) (s x : Operand) (t : TypeId)
    (hop : o.op = Op.call { callee := Callee.builtin Builtin.append, args := #[s, x], argTypes := #[t, t] }) (vs vx : Value) (hs : a.eval s = vs) (hx : a.eval x = vx) (v' : Value) (w' : World)
    (hrun : (Builtin.append_ #[t, t] o.type #[vs, vx]).run P w = .ok v' w') (hK : wpListIn F n P ops Q rest (a.put o.dst v') w') : wpListIn F n P ops Q (o :: rest) a w := by
  refine wpListIn_plain hg fun K hK' => ?_
  unfold Oper.wpIn
  refine ⟨?_, ?_⟩
  · simp [Oper.about, hop, resolve, Target.leads, Sem.run_pure]
  · rw [Oper.semAt_plain F _ _ (by rw [hop]; intro c hc'; cases hc')]
    simp [execOp, hop, resolve, invoke, builtin, hs, hx, hrun, Result.andThen]
    exact hK' _ _ hK

theorem cells_fn (x0 x1 y0 y1 : Nat) (w : World) :
    Calls Try.prog 25 #[.agg #[.int .u64 x0, .int .u64 x1, .int .u64 y0, .int .u64 y1]] w fun e w' =>
      e = .returned (.func (.func 37) #[] #[.pointer (some ⟨w.heap.size, 0, none⟩)]) ∧ w' = w.alloc (.cells #[.int .u64 x0, .int .u64 x1, .int .u64 y0, .int .u64 y1] 53) := by
  go_enter Try.func25, Try.ntmps25
  go_wp2
  go_ret
  exact ⟨rfl, rfl⟩

/-- What stands while the cells are gone through. -/
structure St (w0 : World) (B C P D : Nat) (rec : Loop) (x0 x1 y0 y1 : Nat) (v : Value) (l : List Nat) (W : World) : Prop where
  box : Blk W C #[v] 56
  row : OwnU W B v l
  span : Blk W P #[.int .u64 x0, .int .u64 x1, .int .u64 y0, .int .u64 y1] 53
  dfr : W.heap[D]? = some (.deferred (some []))
  lp : W.heap[D + 1]? = some (.loop rec)
  grew : Below w0.heap.size w0 W
  lt : C < P ∧ P < D ∧ D + 2 ≤ B ∧ B ≤ W.heap.size ∧ w0.heap.size ≤ C

section
variable {w0 W W' : World} {B C P D : Nat} {rec rec' : Loop} {x0 x1 y0 y1 : Nat} {v : Value} {l : List Nat}
theorem St.below (h : St w0 B C P D rec x0 x1 y0 y1 v l W) (hb : Below W.heap.size W W') : St w0 B C P D rec x0 x1 y0 y1 v l W' := by
  obtain ⟨h1, h2, h3, h4, h5, h6, h7⟩ := h
  have lD := lt_of_block h4
  have lL := lt_of_block h5
  exact ⟨h1.grew hb, h2.below hb, h3.grew hb, (hb.block _ lD).trans h4, (hb.block _ lL).trans h5, grow h6 hb, h7.1, h7.2.1, h7.2.2.1, Nat.le_trans h7.2.2.2.1 hb.size, h7.2.2.2.2⟩
theorem St.appended {v' : Value} {l' : List Nat} (h : St w0 B C P D rec x0 x1 y0 y1 v l W) (hb : Below B W W') (ho : OwnU W' B v' l') : St w0 B C P D rec x0 x1 y0 y1 v' l' (W'.setCell ⟨C, 0, none⟩ v') := by
  obtain ⟨h1, h2, h3, h4, h5, h6, h7, h8, h9, h10, h11⟩ := h
  have b1 := (h1.below hb (by omega)).set 0 v'
  refine ⟨b1, ho.set (a := ⟨C, 0, none⟩) (by show C < B; omega) v', (h3.below hb (by omega)).other (a := ⟨C, 0, none⟩) (by show P ≠ C; omega) v', heap_setCell ((hb.block _ (by omega)).trans h4) (by omega) 0 v', heap_setCell ((hb.block _ (by omega)).trans h5) (by omega) 0 v', (h6.trans (hb.mono (by omega))).setCell (p := ⟨C, 0, none⟩) h11 v', h7, h8, h9, ?_, h11⟩
  rw [World.size_setCell]; exact Nat.le_trans h10 hb.size
theorem St.turned (h : St w0 B C P D rec x0 x1 y0 y1 v l W) (hT : Turned (D + 1) (.loop rec') W W') : St w0 B C P D rec' x0 x1 y0 y1 v l W' := by
  obtain ⟨h1, h2, h3, h4, h5, h6, h7, h8, h9, h10, h11⟩ := h
  have hl := lt_of_block h5
  have hsz := hT.size
  refine ⟨h1.turned h5 hT, ?_, h3.turned h5 hT, (hT.same _ (by omega)).trans h4, hT.at_, h6.trans (hT.below (by omega)), h7, h8, h9, by omega, h11⟩
  refine h2.kept (row := some (D + 1)) ⟨hT.os, hT.tape, hT.output, Nat.le_of_eq hsz.symm, fun k _ hk => hT.same k (fun e => hk (by rw [e]))⟩ ?_
  right
  intro e
  have := h2.low _ e
  omega
end

theorem push_len (S : Nat) (out : List M.Rg) (c : Nat) : (M.pushR S out c).length ≤ out.length + 1 := by
  unfold M.pushR
  split
  · simp
  · simp
theorem fold_len (S : Nat) : ∀ (cs : List Nat) (out : List M.Rg), (cs.foldl (M.pushR S) out).length ≤ out.length + cs.length
  | [], _ => by simp
  | c :: cs, out => by
    have h1 := fold_len S cs (M.pushR S out c)
    have h2 := push_len S out c
    simp only [List.foldl_cons, List.length_cons]
    omega
theorem OwnR.last {e : TypeId} {w : World} {base g c n : Nat} {init : List M.Rg} {lo hi : Nat} (h : OwnR e w base (.slice (some ⟨g, 0, none⟩) n c) (init ++ [(lo, hi)])) :
    n = init.length + 1 ∧ w.cell? ⟨g, init.length * 2 + 1, none⟩ = some (.int .u64 hi) ∧ w.frozen? ⟨g, init.length * 2 + 1, none⟩ = false := by
  have hn : n = init.length + 1 := by
    rcases h.form with ⟨h0, _⟩ | ⟨g', c', h0, _⟩
    · cases h0
    · have := h0; simp at this; exact this.2.1
  refine ⟨hn, ?_⟩
  have h2 : OwnR e w base (.slice (some ⟨g, 0, none⟩) (init ++ [(lo, hi)]).length c) (init ++ [(lo, hi)]) := by
    have e1 : (init ++ [(lo, hi)]).length = n := by rw [hn]; simp
    rw [e1]; exact h
  have h3 := h2.get (k := init.length) (by simp)
  simpa using h3.2
theorem joins_eq (S : Nat) (init : List M.Rg) (rl rh x lo : Nat) (hlo : lo = x * S) :
    (IntKind.u64.wrap ((rh : Int) + 1) == (lo : Int)) = M.joins S (init ++ [(rl, rh)]) x := by
  unfold M.joins
  rw [List.getLast?_concat, Bool.eq_iff_iff, IntKind.wrap_u64, hlo]
  simp only [beq_iff_eq]
  omega
theorem shl_low (x d : Nat) (hd : d ≤ 32) (hx : x < 4 ^ d) :
    IntKind.u64.wrap ((x : Int) * 2 ^ (2 * (32 - d))) = ((x * 4 ^ (32 - d) : Nat) : Int) ∧
    IntKind.u64.wrap (((x * 4 ^ (32 - d) : Nat) : Int) + IntKind.u64.wrap (IntKind.u64.wrap (2 ^ (2 * (32 - d))) - 1)) = ((x * 4 ^ (32 - d) + (4 ^ (32 - d) - 1) : Nat) : Int) ∧
    (x + 1) * 4 ^ (32 - d) ≤ 18446744073709551616 := by
  have e : (2 : Int) ^ (2 * (32 - d)) = ((4 ^ (32 - d) : Nat) : Int) := by rw [Int.pow_mul]; simp
  have h1 : 4 ^ d * 4 ^ (32 - d) = 18446744073709551616 := by
    rw [← Nat.pow_add, show d + (32 - d) = 32 by omega]
  have h2 : (x + 1) * 4 ^ (32 - d) ≤ 4 ^ d * 4 ^ (32 - d) := Nat.mul_le_mul_right _ hx
  have h3 : 4 ^ (32 - d) ≤ 4 ^ 32 := Nat.pow_le_pow_right (by decide) (by omega)
  have h4 : 0 < 4 ^ (32 - d) := Nat.pow_pos (by decide)
  rw [e]
  rw [h1] at h2
  generalize 4 ^ (32 - d) = S at *
  rw [Nat.succ_mul] at h2 ⊢
  have h5 : (x : Int) * (S : Int) = ((x * S : Nat) : Int) := by simp
  rw [h5]
  generalize x * S = p at *
  refine ⟨?_, ?_, h2⟩
  · rw [IntKind.wrap_u64]; omega
  · simp only [IntKind.wrap_u64]
    have h6 : (4 : Nat) ^ 32 = 18446744073709551616 := by decide
    omega

set_option maxHeartbeats 8000000 in
theorem Cover_road (a b c e : Int) (m : Nat) (h : mayR4 a b c e) (hm : 1 ≤ m) (hm2 : m ≤ 64) (w : World) :
    Calls Try.prog 14 #[.agg #[.int .i64 a, .int .i64 b, .int .i64 c, .int .i64 e], .int .i64 m] w fun r w' =>
      ∃ v, r = .returned v ∧ OwnR 40 w' w.heap.size v (coverL a b c e m) ∧ Below w.heap.size w w' := by
  have hmay : ∀ w, Calls Try.prog 16 #[.agg #[.int .i64 a, .int .i64 b, .int .i64 c, .int .i64 e]] w fun r w' => r = .returned (.bool true) ∧ Below w.heap.size w w' := fun w => by
    have := MayRect_any a b c e w
    rwa [mayR_iff.2 h] at this
  have hat := fun (d : Nat) (hd : (d : Int) ≤ 32) w => at_nat h d hd w
  have hfew := fun (d : Nat) w => few_nat h m d (by omega) w
  have hf0 := fw_zero h m hm
  have hD : coverD a b c e m = dep (fw a b c e m) 32 := rfl
  have HAT := Lib.hid hat
  have HMAY := Lib.hid hmay
  have HFEW := Lib.hid hfew
  have HF0 := Lib.hid hf0
  have HD := Lib.hid hD
  have H4 := Lib.hid h
  have m1 : (1 : Int) ≤ m := by omega
  have m2 : (m : Int) ≤ 64 := by omega
  have n1 : decide ((m : Int) < 1) = false := by simp; omega
  have n2 : decide ((64 : Int) < m) = false := by simp; omega
  clear hat hmay hfew hf0 hD h hm hm2
  refine (callsIn_wide (n := 5)).1 ?_
  refine callsIn_of_wp_marks Try.func14 rfl trivial ?_
  simp only [Try.ntmps14, List.size_toArray, List.length_cons, List.length_nil, Nat.reduceAdd, Nat.reduceSub, Array.replicate_succ, Array.replicate_zero, List.push_toArray, List.append_toArray, List.nil_append, List.cons_append]
  gi_wp2_with fail
  refine ⟨trivial, callsIn_wide.2 ((HMAY.out _).mono ?_)⟩
  rintro r w1 ⟨rfl, hb1⟩
  have kr := (Blk.new w #[.int .i64 a, .int .i64 b, .int .i64 c, .int .i64 e] 34).grew hb1
  have g1 := grow (grow_alloc (Below.refl w.heap.size w) (.cells #[.int .i64 a, .int .i64 b, .int .i64 c, .int .i64 e] 34)) hb1
  have HKR := Lib.hid kr
  have HG1 := Lib.hid g1
  clear kr g1 hb1
  gi_wp2_with fail
  gi_loopw [5] (fun i wr => ∃ d : Nat, i = .int .i64 d ∧ (d : Int) ≤ 32 ∧ Hid (dep (fw a b c e m) d = coverD a b c e m) ∧ Hid (Blk wr w.heap.size #[.int .i64 a, .int .i64 b, .int .i64 c, .int .i64 e] 34) ∧ Hid (Below w.heap.size w wr)) (fun i _ => (intOf i).toNat)
  case atStart => exact ⟨32, rfl, by omega, Lib.hid HD.out.symm, HKR, HG1⟩
  case round =>
    clear HKR HG1
    obtain ⟨d, rfl, hd, HDD, HK, HB⟩ := hrel
    have hk := HK.out.four
    gi_wp2_with fail
    refine ⟨trivial, callsIn_wide.2 ((HAT.out d hd _).mono ?_)⟩
    rintro r w2 ⟨rfl, hb2⟩
    have HK2 := Lib.hid (HK.out.grew hb2)
    have HB2 := Lib.hid (grow HB.out hb2)
    clear hb2 HK HB hk
    gi_wp2_with fail
    refine ⟨trivial, callsIn_wide.2 ((HFEW.out d _).mono ?_)⟩
    rintro r w3 ⟨rfl, hb3⟩
    have HK3 := Lib.hid (HK2.out.grew hb3)
    have HB3 := Lib.hid (grow HB2.out hb3)
    clear hb3 HK2 HB2
    cases hf : fw a b c e m d with
    | false =>
      obtain ⟨k, rfl⟩ : ∃ k, d = k + 1 := by
        cases d with
        | zero => rw [HF0.out] at hf; cases hf
        | succ k => exact ⟨k, rfl⟩
      have HDK := Lib.hid ((dep_no hf).symm.trans HDD.out)
      clear hf HDD
      gi_wp2
      go_roundw
      case rel => exact ⟨k, by go_num, by omega, HDK, HK3, HB3⟩
      case measure => simp [intOf]
    | true =>
      have hdd := (dep_yes hf).symm.trans HDD.out
      subst hdd
      have hne : (cellsAt a b c e (coverD a b c e m)).length ≤ m ∧ 1 ≤ (cellsAt a b c e (coverD a b c e m)).length := cells_few H4.out _ hf
      have HNE := Lib.hid hne
      clear hf HDD hne HD
      obtain ⟨d, hdn⟩ : ∃ d, d = coverD a b c e m := ⟨_, rfl⟩
      have HDN := Lib.hid hdn
      rw [← hdn] at hd HNE ⊢
      clear hdn
      have hd0 : (0 : Int) ≤ 32 - (d : Int) := by omega
      have hk := (HK3.out.alloc (.cells #[Value.slice none 0 0] 56)).four
      gi_wp2_with fail
      refine ⟨trivial, callsIn_wide.2 ((HAT.out d hd _).mono ?_)⟩
      rintro r w4 ⟨rfl, hb4⟩
      have kb := (Blk.new w3 #[Value.slice none 0 0] 56).grew hb4
      have g4 := grow (grow_alloc HB3.out (.cells #[Value.slice none 0 0] 56)) hb4
      have zb : w.heap.size ≤ w3.heap.size := HB3.out.size
      have zc : w3.heap.size + 1 ≤ w4.heap.size := by have := hb4.size; simpa using this
      obtain ⟨C, hC⟩ : ∃ C, C = w3.heap.size := ⟨_, rfl⟩
      rw [← hC] at kb zb zc ⊢
      clear hb4 HK3 HB3 hC hk
      obtain ⟨x0, hx0⟩ : ∃ x0, x0 = xc a d := ⟨_, rfl⟩
      obtain ⟨x1, hx1⟩ : ∃ x1, x1 = xc c d := ⟨_, rfl⟩
      obtain ⟨y0, hy0⟩ : ∃ y0, y0 = yc b d := ⟨_, rfl⟩
      obtain ⟨y1, hy1⟩ : ∃ y1, y1 = yc e d := ⟨_, rfl⟩
      have HCE : Hid (cellsAt a b c e d = M.cellsL 32 y0 (y1 + 1 - y0) x0 (x1 + 1 - x0)) := Lib.hid (by rw [hx0, hx1, hy0, hy1]; rfl)
      obtain ⟨h41, h42, h43, h44, h45, h46⟩ := H4.out
      have hx01 : x0 ≤ x1 := by rw [hx0, hx1]; exact xc_mono d h42
      have hy01 : y0 ≤ y1 := by rw [hy0, hy1]; exact yc_mono d h45
      have hx1b : (x1 : Int) ≤ 3600000000 := by rw [hx1]; exact xc_le c d h43
      have hy1b : (y1 : Int) ≤ 3600000000 := by rw [hy1]; exact yc_le e d h46
      rw [← hx0, ← hx1, ← hy0, ← hy1]
      clear hx0 hx1 hy0 hy1 h41 h42 h43 h44 h45 h46
      have HKB := Lib.hid kb
      have HG4 := Lib.hid g4
      clear kb g4
      gi_wp2_with fail
      refine ⟨trivial, callsIn_wide.2 ((cells_fn x0 x1 y0 y1 _).mono ?_)⟩
      rintro r w5 ⟨rfl, rfl⟩
      gi_wp2_with fail
      refine wpIn_range rfl (by decide) (gf := 37) (lb := #[.pointer (some ⟨w4.heap.size, 0, none⟩)]) rfl trivial (enters_of Try.func37 (by kernel_rfl) rfl) ?_
      intro fn hfn W1 hb1 hz1 hDf hL
      simp only [World.size_alloc, Nat.add_assoc, Nat.reduceAdd] at hDf hL hz1 ⊢
      generalize hrec : recOf fn _ _ _ _ _ = rec at hL ⊢
      have HRC := Lib.hid hrec
      clear hrec
      obtain ⟨P, hP⟩ : ∃ P, P = w4.heap.size := ⟨_, rfl⟩
      have hS0 : St w (P + 3) C P (P + 1) (rec .ready none) x0 x1 y0 y1 (.slice none 0 0) [] W1 := by
        have ks := (Blk.new w4 #[.int .u64 x0, .int .u64 x1, .int .u64 y0, .int .u64 y1] 53).grew hb1
        rw [← hP] at ks hDf hL hz1
        exact ⟨(HKB.out.alloc _).grew hb1, OwnU.none_ _ _, ks, hDf, hL, grow (grow_alloc HG4.out _) hb1, by omega, by omega, by omega, by omega, zb⟩
      rw [← hP]
      have HS0 := Lib.hid hS0
      have HP := Lib.hid hP
      clear hS0 hL hDf hb1 hz1 HKB HG4 zc hP
      have yld : ∀ (x : Nat) (v : Value) (l : List Nat) (W : World) (R : Ending → World → Prop), l.length ≤ 100000 → St w (P + 3) C P (P + 1) (rec .ready none) x0 x1 y0 y1 v l W →
          (∀ W' v', St w (P + 3) C P (P + 1) (rec .ready none) x0 x1 y0 y1 v' (l ++ [x]) W' → R (.returned (.bool true)) W') → YieldAt Fence.wide 3 Try.prog (P + 2) #[.int .u64 x] W R := by
        intro x v l W R hl hS hR
        have HR := Lib.hid hR
        have hL := hS.lp
        rw [← HRC.out] at hL
        refine yield_of trivial hL rfl ?_
        have HS := Lib.hid hS
        have HLW := Lib.hid hL
        clear hS hR hL HS0
        gi_wp2_with fail
        refine ⟨HLW.out, ?_⟩
        intro W3 hT
        rw [HRC.out] at hT
        have S3 := HS.out.turned hT
        have cb := S3.box.one
        have S4 := S3.below (grow_alloc (Below.refl W3.heap.size W3) (.cells #[.int .u64 x] 24))
        obtain ⟨v', w5, hrun, ho, hbl⟩ := run_pushU 56 S4.row W3.heap.size x (Blk.new W3 #[.int .u64 x] 24) S4.lt.2.2.2.1 hl
        obtain ⟨g', c', rfl⟩ : ∃ g' c', v' = .slice (some ⟨g', 0, none⟩) (l.length + 1) c' := by
          rcases ho.form with ⟨_, h0⟩ | ⟨g', c', h0, _⟩
          · simp at h0
          · exact ⟨g', c', by rw [h0]; simp⟩
        have S6 := S4.appended hbl ho
        have cb5 := (S4.box.below hbl (by have := S4.lt; omega)).one
        have HS6 := Lib.hid S6
        have RUN := Lib.hid hrun
        clear hT S3 S4 ho hbl hrun HS HLW S6
        gi_wp2_with (gi_at_builtin; refine wpListIn_append_run rfl (.tmp 43) (.tmp 45) 56 rfl _ _ rfl rfl _ w5 RUN.out ?_)
        refine ⟨by rw [HRC.out]; exact HS6.out.lp, ?_⟩
        intro W9 hT9
        rw [HRC.out] at hT9
        exact HR.out W9 _ (HS6.out.turned hT9)
      have YLD := Lib.hid yld
      clear yld
      have hlen : (cellsAt a b c e d).length ≤ 64 := by have := HNE.out.1; omega
      rw [HCE.out] at hlen
      have HLEN := Lib.hid hlen
      clear hlen
      refine callsIn_of_wp Try.func37 rfl trivial ?_
      simp only [Try.ntmps37, List.size_toArray, List.length_cons, List.length_nil, Nat.reduceAdd, Nat.reduceSub, Array.replicate_succ, Array.replicate_zero, List.push_toArray, List.append_toArray, List.nil_append, List.cons_append]
      have cs := HS0.out.span.four
      gi_wp2_with fail
      gi_loopw [3] (fun s3 wr => ∃ (x : Nat) (v : Value) (l : List Nat), s3 = .int .u64 x ∧ x0 ≤ x ∧ x ≤ x1 + 1 ∧ Hid (St w (P + 3) C P (P + 1) (rec .ready none) x0 x1 y0 y1 v l wr ∧ l ++ M.cellsL 32 y0 (y1 + 1 - y0) x (x1 + 1 - x) = M.cellsL 32 y0 (y1 + 1 - y0) x0 (x1 + 1 - x0))) (fun s3 _ => x1 + 1 - (intOf s3).toNat)
      case atStart => exact ⟨x0, _, _, rfl, by omega, by omega, Lib.hid ⟨HS0.out, rfl⟩⟩
      case round =>
        clear HS0 cs
        obtain ⟨x, v, l, rfl, hxa, hxb, HX⟩ := hrel
        have cs := HX.out.1.span.four
        by_cases hx : x ≤ x1
        · have hx2 : decide ((x : Int) ≤ (x1 : Int)) = true := by simp; omega
          gi_wp2_with fail
          gi_loopw [4] (fun s4 wr => ∃ (y : Nat) (v : Value) (l : List Nat), s4 = .int .u64 y ∧ y0 ≤ y ∧ y ≤ y1 + 1 ∧ Hid (St w (P + 3) C P (P + 1) (rec .ready none) x0 x1 y0 y1 v l wr ∧ l ++ (M.colL 32 x y (y1 + 1 - y) ++ M.cellsL 32 y0 (y1 + 1 - y0) (x + 1) (x1 - x)) = M.cellsL 32 y0 (y1 + 1 - y0) x0 (x1 + 1 - x0))) (fun s4 _ => y1 + 1 - (intOf s4).toNat)
          case atStart =>
            refine ⟨y0, v, l, rfl, by omega, by omega, Lib.hid ⟨HX.out.1, ?_⟩⟩
            have e1 : x1 + 1 - x = (x1 - x) + 1 := by omega
            rw [← HX.out.2, e1]
            rfl
          case round =>
            clear HX cs
            obtain ⟨y, v, l, rfl, hya, hyb, HY⟩ := hrel
            have cs := HY.out.1.span.four
            by_cases hy : y ≤ y1
            · have hy2 : decide ((y : Int) ≤ (y1 : Int)) = true := by simp; omega
              have hll : l.length ≤ 100000 := by
                have h1 := congrArg List.length HY.out.2
                have h2 := HLEN.out
                rw [← h1] at h2
                simp at h2
                omega
              have HCO := Lib.hid (fun w => code_any (x : Int) (y : Int) (by omega) (by omega) (by omega) (by omega) w)
              gi_wp2_with fail
              refine ⟨trivial, callsIn_wide.2 ((HCO.out _).mono ?_)⟩
              rintro r w6 ⟨rfl, hb6⟩
              have HS6 := Lib.hid (HY.out.1.below hb6)
              clear hb6
              gi_wp2_with fail
              refine upon_yield (fun _ => by decide) ?_
              refine YLD.out (2 * M.spr 32 x + M.spr 32 y) v l w6 _ hll HS6.out ?_
              intro W7 v7 S7
              have HS7 := Lib.hid (show St w (P + 3) C P (P + 1) (rec .ready none) x0 x1 y0 y1 v7 (l ++ [2 * M.spr 32 x + M.spr 32 y]) W7 ∧ (l ++ [2 * M.spr 32 x + M.spr 32 y]) ++ (M.colL 32 x (y + 1) (y1 + 1 - (y + 1)) ++ M.cellsL 32 y0 (y1 + 1 - y0) (x + 1) (x1 - x)) = M.cellsL 32 y0 (y1 + 1 - y0) x0 (x1 + 1 - x0) from by
                refine ⟨S7, ?_⟩
                have e1 : y1 + 1 - y = (y1 + 1 - (y + 1)) + 1 := by omega
                rw [← HY.out.2, e1]
                simp [M.colL, M.cod])
              clear S7 HS6
              gi_wp2
              go_roundw
              case rel => exact ⟨y + 1, v7, _, by go_num, by omega, by omega, HS7⟩
              case measure => simp [intOf]; omega
            · have hy2 : decide ((y : Int) ≤ (y1 : Int)) = false := by simp; omega
              obtain rfl : y = y1 + 1 := by omega
              have HY2 := Lib.hid (show St w (P + 3) C P (P + 1) (rec .ready none) x0 x1 y0 y1 v l wr ∧ l ++ M.cellsL 32 y0 (y1 + 1 - y0) (x + 1) (x1 + 1 - (x + 1)) = M.cellsL 32 y0 (y1 + 1 - y0) x0 (x1 + 1 - x0) from by
                refine ⟨HY.out.1, ?_⟩
                have e1 : x1 + 1 - (x + 1) = x1 - x := by omega
                rw [← HY.out.2, e1]
                simp [M.colL])
              clear HY
              gi_wp2
              go_roundw
              case rel => exact ⟨x + 1, v, l, by go_num, by omega, by omega, HY2⟩
              case measure => simp [intOf]; omega
        · have hx2 : decide ((x : Int) ≤ (x1 : Int)) = false := by simp; omega
          obtain rfl : x = x1 + 1 := by omega
          have hfin := HX.out.2
          rw [Nat.sub_self] at hfin
          have hfin2 : l = cellsAt a b c e d := by rw [HCE.out, ← hfin]; simp [M.cellsL]
          subst hfin2
          have HS := Lib.hid HX.out.1
          clear hfin HX YLD HLEN hx hxa hxb
          have hne : cellsAt a b c e d ≠ [] := by intro h0; have h1 := HNE.out.2; rw [h0] at h1; simp at h1
          obtain ⟨g, cc, rfl, hg1, hg2⟩ : ∃ g cc, v = .slice (some ⟨g, 0, none⟩) (cellsAt a b c e d).length cc ∧ P + 3 ≤ g ∧ g < wr.heap.size := by
            rcases HS.out.row.form with ⟨_, h0⟩ | h0
            · exact absurd h0 hne
            · exact h0
          obtain ⟨n, hn⟩ : ∃ n, n = (cellsAt a b c e d).length := ⟨_, rfl⟩
          have hnb : (n : Int) ≤ 64 := by have := HNE.out.1; omega
          have HN := Lib.hid hn
          have HNE2 := Lib.hid hne
          have HS2 := Lib.hid (show St w (P + 3) C P (P + 1) (rec .ready none) x0 x1 y0 y1 (.slice (some ⟨g, 0, none⟩) n cc) (cellsAt a b c e d) wr by rw [hn]; exact HS.out)
          clear hn hne HS
          gi_wp2_with fail
          clear cs
          go_end0
          refine ⟨⟨_, rfl⟩, Or.inl ⟨HS2.out.lp, ?_⟩⟩
          intro W8 hT
          have S8 := HS2.out.turned hT
          have hg3 : g < W8.heap.size := by rw [hT.size]; exact hg2
          have fo := S8.box.one
          have HSO := Lib.hid (Sort_own S8.row HNE2.out (by rw [← HN.out]; omega))
          have HS8 := Lib.hid S8
          clear hT S8 HS2 hg2
          gi_wp2_with fail
          refine ⟨trivial, callsIn_wide.2 (HSO.out.mono ?_)⟩
          rintro r w9 ⟨rfl, ho9, hb9⟩
          clear HSO
          have l9 := HS8.out.lt
          have hCP : C < P := l9.1
          have k9 := (HS8.out.box.below hb9 (by omega))
          have d9 : w9.heap[P + 1]? = some (.deferred (some [])) := (hb9.block _ (by omega)).trans HS8.out.dfr
          have g9 : Below w.heap.size w w9 := HS8.out.grew.trans (hb9.mono (by omega))
          have hg9 : g < w9.heap.size := Nat.lt_of_lt_of_le hg3 hb9.size
          have z9 : P + 3 ≤ w9.heap.size := Nat.le_trans l9.2.2.2.1 hb9.size
          obtain ⟨cs, hcs⟩ : ∃ cs, cs = M.srt (cellsAt a b c e d) := ⟨_, rfl⟩
          rw [← hcs] at ho9
          have hnl : n = cs.length := by rw [hcs, HN.out]; exact ((M.srt_perm _).length_eq).symm
          have HGET : Hid (∀ k (hk : k < cs.length), w9.cell? ⟨g, k, none⟩ = some (.int .u64 (cs[k] : Nat))) := Lib.hid (fun k hk => by rw [hnl] at ho9; exact ho9.get hk)
          have HCS := Lib.hid hcs
          have HNL := Lib.hid hnl
          have HK9 := Lib.hid (And.intro d9 g9)
          have fo9 := k9.one
          clear ho9 hb9 HS8 l9 k9 d9 g9 hcs hnl fo hg3
          gi_wp2_with fail
          gi_loopw [9, 51] (fun vo i wr2 => ∃ k : Nat, i = .int .i64 k ∧ k ≤ n ∧ Hid (OwnR 40 wr2 w9.heap.size vo ((cs.take k).foldl (M.pushR (4 ^ (32 - d))) []) ∧ Below w9.heap.size w9 wr2)) (fun _ i _ => n - (intOf i).toNat)
          case atStart => exact ⟨0, rfl, by omega, Lib.hid ⟨OwnR.none_ _ _, Below.refl _ _⟩⟩
          case round =>
            obtain ⟨k, rfl, hk, HX⟩ := hrel
            by_cases hlt : k < n
            · have hkl : k < cs.length := by rw [← HNL.out]; exact hlt
              have hcell := (HX.out.2.cell (p := ⟨g, k, none⟩) hg9).trans (HGET.out k hkl)
              obtain ⟨x, hx⟩ : ∃ x, x = cs[k] := ⟨_, rfl⟩
              rw [← hx] at hcell
              have hxl : x < 4 ^ d := by
                have hmem : x ∈ cs := by rw [hx]; exact List.getElem_mem hkl
                rw [HCS.out] at hmem
                exact cells_lt H4.out d (by omega) _ ((M.srt_perm _).mem_iff.1 hmem)
              obtain ⟨s1, s2, s3⟩ := shl_low x d (by omega) hxl
              obtain ⟨S, hS⟩ : ∃ S, S = 4 ^ (32 - d) := ⟨_, rfl⟩
              obtain ⟨out, hout⟩ : ∃ out, out = (cs.take k).foldl (M.pushR S) [] := ⟨_, rfl⟩
              have hol : out.length ≤ 64 := by
                have h1 := fold_len S (cs.take k) []
                rw [← hout] at h1
                simp at h1
                omega
              have HNX : Hid ((cs.take (k + 1)).foldl (M.pushR S) [] = M.pushR S out x) := Lib.hid (by
                rw [List.take_succ_eq_append_getElem hkl, List.foldl_append, ← hout, ← hx]; rfl)
              have HO : Hid (OwnR 40 wr w9.heap.size _ out ∧ Below w9.heap.size w9 wr) := Lib.hid (by rw [hout, hS]; exact HX.out)
              rw [← hS] at s1 s2 s3
              have hSp : 0 < S := by rw [hS]; exact Nat.pow_pos (by decide)
              obtain ⟨lo, hlo⟩ : ∃ lo, lo = x * S := ⟨_, rfl⟩
              obtain ⟨hi, hhi⟩ : ∃ hi, hi = x * S + (S - 1) := ⟨_, rfl⟩
              rw [← hlo] at s1 s2 hhi
              rw [← hhi] at s2
              have HSS := Lib.hid hS
              have HLO := Lib.hid hlo
              have HHI := Lib.hid hhi
              have HXX := Lib.hid hx
              clear hx hxl hS hout HX hlo hhi
              obtain ⟨v6, w6, hrun, ho6, hb6⟩ := run_pushR (e := 40) Try.underlying35 (by kernel_rfl) 35 (HO.out.1.below (grow_alloc (Below.refl wr.heap.size wr) (.cells #[.int .u64 lo, .int .u64 hi] 40))) wr.heap.size lo hi (Blk.new wr _ 40) (by have := HO.out.2.size; simp; omega) (by omega)
              have RUN := Lib.hid hrun
              have HO6 := Lib.hid (And.intro ho6 ((HO.out.2.alloc HO.out.2.size (.cells #[.int .u64 lo, .int .u64 hi] 40)).trans hb6))
              clear hrun ho6 hb6
              rcases M.last_cases out with h0 | ⟨init, ⟨rl, rh⟩, h0⟩
              · subst h0
                have HP2 : Hid (M.pushR S [] x = [] ++ [(lo, hi)]) := Lib.hid (by rw [HHI.out, HLO.out]; rfl)
                rcases HO.out.1.form with ⟨h0, _⟩ | ⟨g2, c2, h0, _⟩
                · subst h0
                  clear HO
                  gi_wp2_with (gi_at_builtin; refine wpListIn_append_run rfl (.tmp 83) (.tmp 87) 35 rfl _ _ rfl rfl v6 w6 RUN.out ?_)
                  go_roundw
                  case rel => exact ⟨k + 1, by go_num, by omega, Lib.hid (by rw [← HSS.out, HNX.out, HP2.out]; exact HO6.out)⟩
                  case measure => simp [intOf]; omega
                · subst h0
                  clear HO
                  gi_wp2_with (gi_at_builtin; refine wpListIn_append_run rfl (.tmp 83) (.tmp 87) 35 rfl _ _ rfl rfl v6 w6 RUN.out ?_)
                  go_roundw
                  case rel => exact ⟨k + 1, by go_num, by omega, Lib.hid (by rw [← HSS.out, HNX.out, HP2.out]; exact HO6.out)⟩
                  case measure => simp [intOf]; omega
              · subst h0
                rcases HO.out.1.form with ⟨_, h0⟩ | ⟨g2, c2, h0, hg2, hg2b⟩
                · simp at h0
                · subst h0
                  obtain ⟨hn2, hcl, hfl⟩ := HO.out.1.last
                  have hj := joins_eq S init rl rh x lo HLO.out
                  obtain ⟨n2, hn2e⟩ : ∃ n2, n2 = (init ++ [(rl, rh)]).length := ⟨_, rfl⟩
                  rw [← hn2e] at hn2 HO RUN hol ⊢
                  clear hn2e
                  have hn2b : (n2 : Int) ≤ 64 := by omega
                  obtain ⟨q, hq⟩ : ∃ q, q = init.length := ⟨_, rfl⟩
                  rw [← hq] at hn2 hcl hfl
                  have q1 : (n2 : Int) - 1 = (q : Int) := by omega
                  have q2 : q < n2 := by omega
                  have q3 : (0 : Int) ≤ (q : Int) := by omega
                  have HQ := Lib.hid hq
                  have HN2 := Lib.hid hn2
                  cases hjb : M.joins S (init ++ [(rl, rh)]) x with
                  | true =>
                    rw [hjb] at hj
                    have HP2 : Hid (M.pushR S (init ++ [(rl, rh)]) x = init ++ [(rl, hi)]) := Lib.hid (by
                      unfold M.pushR
                      rw [hjb, if_pos rfl, List.dropLast_concat, HHI.out, HLO.out]
                      simp [M.lowOf])
                    have HO7 := Lib.hid (And.intro (HO.out.1.stored (hi' := hi)) (HO.out.2.setCell (p := ⟨g2, init.length * 2 + 1, none⟩) hg2 (.int .u64 hi)))
                    rw [← HQ.out] at HO7
                    clear HO hjb hq hn2 RUN HO6
                    gi_wp2_with fail
                    go_roundw
                    case rel => exact ⟨k + 1, by go_num, by omega, Lib.hid (by rw [← HSS.out, HNX.out, HP2.out]; exact HO7.out)⟩
                    case measure => simp [intOf]; omega
                  | false =>
                    rw [hjb] at hj
                    have HP2 : Hid (M.pushR S (init ++ [(rl, rh)]) x = (init ++ [(rl, rh)]) ++ [(lo, hi)]) := Lib.hid (by
                      unfold M.pushR
                      rw [hjb, if_neg (by simp), HHI.out, HLO.out])
                    clear HO hjb hq hn2
                    gi_wp2_with (gi_at_builtin; refine wpListIn_append_run rfl (.tmp 83) (.tmp 87) 35 rfl _ _ rfl rfl v6 w6 RUN.out ?_)
                    go_roundw
                    case rel => exact ⟨k + 1, by go_num, by omega, Lib.hid (by rw [← HSS.out, HNX.out, HP2.out]; exact HO6.out)⟩
                    case measure => simp [intOf]; omega
            · obtain rfl : k = n := by omega
              gi_wp2_with fail
              refine ⟨by simp, .inl ⟨_, _, rfl, run_takeDeferred ((HX.out.2.block _ (by omega)).trans HK9.out.1), ?_⟩⟩
              have hT := Turned.put (.deferred none) ((HX.out.2.block _ (by omega : P + 1 < w9.heap.size)).trans HK9.out.1)
              refine ⟨_, results_tmp (t := 4) rfl _ _ _, _, rfl, ?_, ?_⟩
              · have hfin : (cs.take k).foldl (M.pushR (4 ^ (32 - d))) [] = coverL a b c e m := by
                  rw [HNL.out, List.take_length, HCS.out, HDN.out]; rfl
                have hX := HX.out.1
                rw [hfin] at hX
                have hX2 := hX.kept (row := some (P + 1)) ⟨hT.os, hT.tape, hT.output, Nat.le_of_eq hT.size.symm, fun j _ hj => hT.same j (fun e => hj (by rw [e]))⟩ (.inr (fun e => by have := hX.low _ e; omega))
                exact Joins.ownsRow_le hX2 HK9.out.2.size
              · exact HK9.out.2.trans ((HX.out.2.mono HK9.out.2.size).trans (hT.below (by have := HK9.out.2.size; have := zb; omega)))

end Go.Proofs.Ythinjaddebfdhaa
