/- Walks: the document's pool: wide, Taken, Count, changed. Printed by mk_rb.py. -/
import Derived.Test.YtklppnknllbfnaaGreatRa
import Derived.Test.YtklppnknllbfnaaGreatA2
namespace Go.Proofs.YtklppnknllbfnaaGreat
open Go.RowKit Go.Maps
set_option maxRecDepth 8000
set_option linter.unusedSimpArgs false
theorem str_size (l : List Nat) : (str l).size = l.length := by simp [str, ByteArray.size]
theorem str_append (a b : List Nat) : str a ++ str b = str (a ++ b) := by
 apply ByteArray.ext
 simp [str]
theorem exec_mkS {P : Program} {ev : Operand → Value} {o : Oper} (t : TypeId) (n c : Operand) (ho : o.op = .makeSlice t n c) {vn vc r : Value} {w w' : World} (hn : ev n = vn) (hc : ev c = vc) (hr : (Instr.makeSlice t vn vc).run P w = .ok r w') : (execOp ev o).run P w = .ok (.value r) w' := by
 unfold execOp
 simp only [ho, Sem.run_bind, Sem.run_pure, Result.andThen_ok, hn, hc, hr]
section
variable {ops : Array Oper} {rest : List Oper} {o : Oper} {a : Act} {Q : Exit → Act → World → Prop} {w0 w : World} {L : List Bx} {R : List Rx}
theorem wpl_mk (H : Hid (Bxs w0 w L R)) (x y : Operand) (ho : o.op = .makeSlice 31 x y) (hgd : Want ops o a) {m : Int} (hx : a.eval x = .int .i64 m) (hy : a.eval y = .int .i64 m) (n : Nat) (hm : m = (n : Int)) (hn : n ≤ 1000000)
  (k : ∀ b w', Hid (Bxs w0 w' L R) → Hid (Byt w' (.slice (some ⟨b, 0, none⟩) n n) (List.replicate n 0)) → wpList Tryz.prog ops Q rest (a.put o.dst (.slice (some ⟨b, 0, none⟩) n n)) w') : WL Tryz.prog ops Q (o :: rest) a w := by
 subst hm
 obtain ⟨w2, hr, ho2, hg⟩ := run_makeN (w := w) w.heap.size n (Nat.le_refl _) hn
 exact wpl_run hgd (exec_mkS 31 _ _ ho hx hy hr) (k _ _ (Lib.hid (H.out.grew ((Below.refl _ w).grown hg (Nat.le_refl _) (by simp)))) (Lib.hid (Byt.of_own' ho2)))
theorem wpl_str {v : Value} {l : List Nat} (HY : Hid (Byt w v l)) (x : Operand) (ho : o.op = .convert 31 9 x) (hgd : Want ops o a) (hx : a.eval x = v)
  (k : wpList Tryz.prog ops Q rest (a.put o.dst (.string (str l))) w) : WL Tryz.prog ops Q (o :: rest) a w :=
 wpl_run hgd (exec_convert 31 9 _ ho hx HY.out.strw) k
theorem exec_strAdd {ev : Operand → Value} {o : Oper} (x y : Operand) (ho : o.op = .binOp .add 9 x y 9) {a b : List Nat} {w : World} (hx : ev x = .string (str a)) (hy : ev y = .string (str b)) (hab : a.length + b.length ≤ 1000000) :
  (execOp ev o).run Tryz.prog w = .ok (.value (.string (str (a ++ b)))) w := by
 unfold execOp
 simp only [ho, hx, hy]
 go_simp
 rw [if_neg (by rw [str_size, str_size]; omega), str_append]
theorem wpl_cat (x y : Operand) (ho : o.op = .binOp .add 9 x y 9) (hgd : Want ops o a) {l m : List Nat} (hx : a.eval x = .string (str l)) (hy : a.eval y = .string (str m)) (hab : l.length + m.length ≤ 1000000)
  (k : wpList Tryz.prog ops Q rest (a.put o.dst (.string (str (l ++ m)))) w) : WL Tryz.prog ops Q (o :: rest) a w := wpl_run hgd (exec_strAdd x y ho hx hy hab) k
end
theorem wide_ref {w : World} {m : Rm} {R : Rp} {l : List Nat} (hl : l.length ≤ R.room) (hr : R.room ≤ 5000) :
  Calls Tryz.prog 60 #[.agg (pc m R), .string (str l)] w fun e w' => e = .returned (.string (str (widen R.room l))) ∧ Below w.heap.size w w' := by
 have H := Lib.hid (Bxs.start w)
 have HL := Lib.hid hl
 have HR := Lib.hid hr
 have hss := str_size l
 have hlr : (l.length : Int) ≤ R.room := by omega
 have hr5 : (R.room : Int) ≤ 5000 := by omega
 clear hl hr
 go_enter Tryz.func60, Tryz.ntmps60
 go_wp2_with (rw [wpl_id]; first
  | (refine wpl_box H _ _ rfl (wnt rfl) rfl (fun b w' H2 => ?_); clear H; have H := H2; clear H2)
  | (refine wpl_ld H 0 rfl _ _ rfl (wnt rfl) (by exact rfl) (notAgg _ (by decide)) (by exact rfl) ?_)
  | (refine wpl_mk H _ _ rfl (wnt rfl) rfl rfl (R.room - l.length) (by have := HL.out; omega) (by have := HR.out; omega) (fun b w' H2 HY => ?_); clear H; have H := H2; clear H2)
  | (refine wpl_str HY _ rfl (wnt rfl) rfl ?_)
  | (refine wpl_cat _ _ rfl (wnt rfl) rfl rfl (by have := HL.out; have := HR.out; simp; omega) ?_))
 go_ret
 exact ⟨rfl, H.out.low⟩
theorem exec_strNe {ev : Operand → Value} {o : Oper} {t : TypeId} (x y : Operand) (ho : o.op = .binOp .neq 9 x y t) {l m : List Nat} {w : World} (hx : ev x = .string (str l)) (hy : ev y = .string (str m)) (hl : ∀ b ∈ l, b < 256) (hm : ∀ b ∈ m, b < 256) :
  (execOp ev o).run Tryz.prog w = .ok (.value (.bool (decide (l ≠ m)))) w := by
 have e : ((str l).toList == (str m).toList) = decide (l = m) := by
  rw [ByteArray.toList_eq, ByteArray.toList_eq]
  by_cases h : l = m
  ·subst h; simp
  ·rw [decide_eq_false h, beq_eq_false_iff_ne]
   exact fun e => h (str_inj hl hm (WideShapes.bytes_inj e))
 unfold execOp
 simp only [ho, hx, hy]
 go_simp
section
variable {ops : Array Oper} {rest : List Oper} {o : Oper} {a : Act} {Q : Exit → Act → World → Prop} {w0 w : World} {L : List Bx} {R : List Rx}
theorem wpl_neD (x y : Operand) {t : TypeId} (ho : o.op = .binOp .neq 9 x y t) (hgd : Want ops o a) {l : List Nat} (hx : a.eval x = .string (str l)) (hy : a.eval y = .string ⟨#[45]⟩) (hl : ∀ b ∈ l, b < 256) {z : Bool} (hz : decide (l ≠ dash) = z)
  (k : wpList Tryz.prog ops Q rest (a.put o.dst (.bool z)) w) : WL Tryz.prog ops Q (o :: rest) a w := by
 subst hz
 exact wpl_run hgd (exec_strNe x y ho hx (hy.trans (by rw [show (⟨#[45]⟩ : ByteArray) = str dash from by decide])) hl (by simp [dash])) k
/-- An element of a row is read. -/
theorem wpl_ldr {bs e n c g : Nat} {xs : List Value} (hr : w.ownsRow bs e 1 (.slice (some ⟨g, 0, none⟩) n c) n xs) (t : TypeId) (x : Operand) (ho : o.op = .load t x) (hgd : Want ops o a) {k : Nat} (hx : a.eval x = .pointer (some ⟨g, k, none⟩))
  (hA : ∀ w, (isAgg t).run Tryz.prog w = .ok false w) {v : Value} (hv : xs[k]? = some v) (kk : wpList Tryz.prog ops Q rest (a.put o.dst v) w) : WL Tryz.prog ops Q (o :: rest) a w := by
 obtain ⟨cs, hb⟩ := row_kind hr rfl
 have hk : k < n := by have := (List.getElem?_eq_some_iff.1 hv).1; have := hr.1; omega
 have hc := World.ownsRow.cellAt hr k (by omega)
 rw [hv] at hc
 have hb : Blk w g cs e := hb
 rw [hb.cell] at hc
 exact wpl_run hgd (exec_load t x ho hx (run_load_one (hA w) hb hc)) kk
end
theorem strs_get {ls : List (List Nat)} {k : Nat} (h : k < ls.length) : (strs ls)[k]? = some (.string (str ls[k])) := by unfold strs; simp [h]
theorem nums_get {ls : List Nat} {k : Nat} (h : k < ls.length) : (nums ls)[k]? = some (.int .i64 (ls[k] : Nat)) := by unfold nums; simp [h]
theorem dash_lt : ∀ b ∈ dash, b < 256 := by simp [dash]
theorem row_shape {w : World} {bs e n : Nat} {v : Value} {xs : List Value} (h : w.ownsRow bs e 1 v n xs) (h0 : 0 < n) : ∃ g c, v = .slice (some ⟨g, 0, none⟩) n c := by
 rcases h.2 with ⟨_, e2⟩ | ⟨g, c, cur, e, _⟩
 ·omega
 ·exact ⟨g, c, e⟩
theorem row_shape0 {w : World} {bs e n : Nat} {v : Value} {xs : List Value} (h : w.ownsRow bs e 1 v n xs) : ∃ A c, v = .slice A n c ∧ n ≤ c := by
 rcases h.2 with ⟨e1, e2⟩ | ⟨g, c, cur, e, _, _, h5, _⟩
 ·exact ⟨none, 0, by rw [e1, e2], by omega⟩
 ·exact ⟨_, _, e, h5⟩
theorem Taken_ref {w : World} {m : Rm} {R : Rp} (page : Int) (h1 : RowS w m.nl R.now.loads) (hb : ∀ l ∈ R.now.loads, ∀ b ∈ l, b < 256) :
  Calls Tryz.prog 63 #[.agg (pc m R), .int .i64 page] w fun e w' => e = .returned (.bool (R.now.has page)) ∧ Below w.heap.size w w' := by
 have H := Lib.hid (Bxs.start w)
 have HN := Lib.hid h1
 have HBY := Lib.hid hb
 obtain ⟨A, c, hnl, _⟩ := row_shape0 h1
 obtain ⟨nl, nf, wl, wf, cv⟩ := m
 dsimp only at HN hnl
 subst hnl
 obtain ⟨z, hz⟩ : ∃ z, z = R.now.has page := ⟨_, rfl⟩
 rw [← hz]
 have HZ := Lib.hid hz
 unfold Rs.has at hz
 clear h1 hb
 by_cases hp : 0 < page
 ·by_cases hl : page < R.now.loads.length
  ·obtain ⟨k, rfl⟩ := Int.eq_ofNat_of_zero_le (by omega : 0 ≤ page)
   have hk : k < R.now.loads.length := by omega
   obtain ⟨l, hle⟩ : ∃ l, l = R.now.loads[k] := ⟨_, rfl⟩
   have hat : R.now.at_ k = l := by unfold Rs.at_; rw [List.getElem?_eq_getElem hk, hle]; rfl
   have HG := Lib.hid (show (strs R.now.loads)[k]? = some (.string (str l)) by rw [strs_get hk, hle])
   have HLB := Lib.hid (show ∀ b ∈ l, b < 256 by rw [hle]; exact HBY.out _ (List.getElem_mem hk))
   have HQ := Lib.hid (show decide (l ≠ dash) = z by rw [hz, decide_eq_true hp, decide_eq_true hl, Int.toNat_natCast, hat]; simp)
   obtain ⟨g, c', e⟩ := row_shape HN.out (by omega)
   injection e with e1 _ e2
   subst e1 e2
   clear hz hat hle hk
   go_enter Tryz.func63, Tryz.ntmps63
   go_wp2_with (rw [wpl_id]; first
    | (refine wpl_box H _ _ rfl (wnt rfl) rfl (fun b w' H2 => ?_); clear H; have H := H2; clear H2)
    | (refine wpl_ld H 0 rfl _ _ rfl (wnt rfl) (by exact rfl) (notAgg _ (by decide)) (by exact rfl) ?_)
    | (refine wpl_ldr (HN.out.low H.out.low) _ _ rfl (wnt rfl) (by exact rfl) (notAgg _ (by decide)) HG.out ?_)
    | (refine wpl_neD _ _ rfl (wnt rfl) rfl rfl HLB.out HQ.out ?_))
   go_ret
   exact ⟨rfl, H.out.low⟩
  ·have e : z = false := by rw [hz, decide_eq_false hl]; simp
   subst e
   clear hz
   go_enter Tryz.func63, Tryz.ntmps63
   go_wp2_with (rw [wpl_id]; first
    | (refine wpl_box H _ _ rfl (wnt rfl) rfl (fun b w' H2 => ?_); clear H; have H := H2; clear H2)
    | (refine wpl_ld H 0 rfl _ _ rfl (wnt rfl) (by exact rfl) (notAgg _ (by decide)) (by exact rfl) ?_))
   go_ret
   exact ⟨rfl, H.out.low⟩
 ·have e : z = false := by rw [hz, decide_eq_false hp]; simp
  subst e
  clear hz
  go_enter Tryz.func63, Tryz.ntmps63
  go_wp2_with (rw [wpl_id]; first
   | (refine wpl_box H _ _ rfl (wnt rfl) rfl (fun b w' H2 => ?_); clear H; have H := H2; clear H2)
   | (refine wpl_ld H 0 rfl _ _ rfl (wnt rfl) (by exact rfl) (notAgg _ (by decide)) (by exact rfl) ?_))
  go_ret
  exact ⟨rfl, H.out.low⟩
theorem row_base0 {w : World} {b : Nat} {e : TypeId} {s n : Nat} {v : Value} {xs : List Value} (h : w.ownsRow b e s v n xs) : w.ownsRow 0 e s v n xs := Own.base_ (Nat.zero_le _) h
theorem Count_ref {w : World} {m : Rm} {R : Rp} (h1 : RowS w m.nl R.now.loads) (hb : ∀ l ∈ R.now.loads, ∀ b ∈ l, b < 256) (hL : R.now.loads.length ≤ 1048576) :
  Calls Tryz.prog 71 #[.agg (pc m R)] w fun e w' => e = .returned (.int .i64 (R.now.count : Nat)) ∧ Below w.heap.size w w' := by
 have H := Lib.hid (Bxs.start w)
 have HN := Lib.hid h1
 have HBY := Lib.hid hb
 obtain ⟨A, c, hnl, _⟩ := row_shape0 h1
 obtain ⟨nl, nf, wl, wf, cv⟩ := m
 dsimp only at HN hnl
 subst hnl
 have HC : Hid (R.now.count = (R.now.loads.take R.now.loads.length).countP fun l => decide (l ≠ dash)) := Lib.hid (by rw [List.take_length]; rfl)
 obtain ⟨N, hN⟩ : ∃ N, N = R.now.count := ⟨_, rfl⟩
 rw [← hN] at HC ⊢
 obtain ⟨ls, hn⟩ : ∃ ls, ls = R.now.loads := ⟨_, rfl⟩
 rw [← hn] at hb hL
 have hn5 : (ls.length : Int) ≤ 1048576 := by omega
 obtain ⟨cs, hcs⟩ : ∃ cs, cs = pc { nl := .slice A R.now.loads.length c, nf := nf, wl := wl, wf := wf, cv := cv } R := ⟨_, rfl⟩
 have HP := Lib.hid (show cs.toList[0]? = some (.slice A ls.length c) by rw [hcs, hn]; rfl)
 rw [← hcs]
 rw [← hn] at HC HN HBY
 clear h1 hb hL hn hN hcs
 go_enter Tryz.func71, Tryz.ntmps71
 go_wp2_with (rw [wpl_id]; first
  | (refine wpl_box H _ _ rfl (wnt rfl) rfl (fun b w' H2 => ?_); clear H; have H := H2; clear H2)
  | (refine wpl_ld H 0 rfl _ _ rfl (wnt rfl) (by exact rfl) (notAgg _ (by decide)) HP.out ?_))
 go_loopw [3, 4] (fun nv iv wr => ∃ j : Nat, j ≤ ls.length ∧ nv = .int .i64 (((ls.take j).countP fun l => decide (l ≠ dash) : Nat) : Int) ∧ iv = .int .i64 j ∧ Hid (Bxs w wr [⟨b, cs, 48⟩] [])) (fun _ iv _ => ls.length - (intOf iv).toNat)
 case atStart => exact ⟨0, by omega, by simp, rfl, H⟩
 case round =>
  clear H
  obtain ⟨j, hj, rfl, rfl, H⟩ := hrel
  obtain ⟨q, hq⟩ : ∃ q, q = (ls.take j).countP fun l => decide (l ≠ dash) := ⟨_, rfl⟩
  have hqj : (q : Int) ≤ j := by
   have h1 : q ≤ (ls.take j).length := by rw [hq]; exact List.countP_le_length
   rw [List.length_take] at h1
   omega
  rw [← hq]
  by_cases hlt : j < ls.length
  ·have hlt' : (j : Int) < ls.length := by omega
   have hk : j < ls.length := hlt
   obtain ⟨l, hle⟩ : ∃ l, l = ls[j] := ⟨_, rfl⟩
   have HG := Lib.hid (show (strs ls)[j]? = some (.string (str l)) by rw [strs_get hk, hle])
   have HLB := Lib.hid (show ∀ b ∈ l, b < 256 by rw [hle]; exact HBY.out _ (List.getElem_mem hk))
   have htk : (ls.take (j + 1)).countP (fun l => decide (l ≠ dash)) = q + if l ≠ dash then 1 else 0 := by
    rw [List.take_succ_eq_append_getElem hk, List.countP_append, ← hq, ← hle, List.countP_singleton]
    simp
   obtain ⟨g, c', e⟩ := row_shape HN.out (by omega)
   injection e with e1 _ e2
   subst e1 e2
   have HTK := Lib.hid htk
   have HJ : Hid (q = (ls.take j).countP fun l => decide (l ≠ dash)) := Lib.hid hq
   clear hle hq htk
   by_cases hd : l = dash
   ·have HQ := Lib.hid (show decide (l ≠ dash) = false by simp [hd])
    have HT2 := Lib.hid (HTK.out.trans (by rw [if_neg (by simp [hd])]))
    clear HTK hd
    go_wp2_with (rw [wpl_id]; first
     | (refine wpl_ld H 0 rfl _ _ rfl (wnt rfl) (by exact rfl) (notAgg _ (by decide)) HP.out ?_)
     | (refine wpl_ldr (HN.out.low H.out.low) _ _ rfl (wnt rfl) (by exact rfl) (notAgg _ (by decide)) HG.out ?_)
     | (refine wpl_neD _ _ rfl (wnt rfl) rfl rfl HLB.out HQ.out ?_))
    go_roundw
    case rel => exact ⟨j + 1, by omega, by rw [HT2.out]; rfl, by go_num, H⟩
    case measure => simp [intOf]; omega
   ·have HQ := Lib.hid (show decide (l ≠ dash) = true by simp [hd])
    have HT2 := Lib.hid (HTK.out.trans (by rw [if_pos hd]))
    clear HTK hd
    go_wp2_with (rw [wpl_id]; first
     | (refine wpl_ld H 0 rfl _ _ rfl (wnt rfl) (by exact rfl) (notAgg _ (by decide)) HP.out ?_)
     | (refine wpl_ldr (HN.out.low H.out.low) _ _ rfl (wnt rfl) (by exact rfl) (notAgg _ (by decide)) HG.out ?_)
     | (refine wpl_neD _ _ rfl (wnt rfl) rfl rfl HLB.out HQ.out ?_))
    go_roundw
    case rel => exact ⟨j + 1, by omega, by rw [HT2.out]; go_num, by go_num, H⟩
    case measure => simp [intOf]; omega
  ·have hnt : ¬ (j : Int) < ls.length := by omega
   have HF := Lib.hid (show N = q by rw [HC.out, hq, show j = ls.length by omega])
   clear hq hj hlt
   go_wp2_with (rw [wpl_id]; first
    | (refine wpl_ld H 0 rfl _ _ rfl (wnt rfl) (by exact rfl) (notAgg _ (by decide)) HP.out ?_))
   go_ret
   exact ⟨by rw [HF.out]; rfl, H.out.low⟩
set_option maxHeartbeats 800000 in
theorem changed_ref {w : World} {m : Rm} {R : Rp} (k : Nat) (h : RpAt w m R) :
  Calls Tryz.prog 61 #[.agg (pc m R), .int .i64 (k : Nat)] w fun e w' => ∃ cv', e = .returned (.agg (pc { m with cv := cv' } (R.mark k))) ∧ RowI w' cv' (R.mark k).ch ∧ FreshV w.heap.size m cv' ∧ Below w.heap.size w w' := by
 have H := Lib.hid (Bxs.start w)
 have HN := Lib.hid h.cv
 have hL := h.sn.2.2.2.2
 obtain ⟨A1, c1, A2, c2, A3, c3, A4, c4, A5, c5, rfl⟩ := h.shape
 dsimp only at HN
 have hn5 : (R.ch.length : Int) ≤ 1048576 := by omega
 have HLL := Lib.hid hL
 clear h hL
 go_enter Tryz.func61, Tryz.ntmps61
 go_wp2_with (rw [wpl_id]; first
  | (refine wpl_box H _ _ rfl (wnt rfl) rfl (fun b1 w' H2 => ?_); clear H; have H := H2; clear H2)
  | (refine wpl_new H _ rfl (wnt rfl) Tryz.zeroValue48 (cs := z48) rfl (fun b2 w' H2 => ?_); clear H; have H := H2; clear H2)
  | (refine wpl_ld H 1 rfl _ _ rfl (wnt rfl) (by exact rfl) (notAgg _ (by decide)) rfl ?_))
 go_loopw [5] (fun iv wr => ∃ j : Nat, j ≤ R.ch.length ∧ iv = .int .i64 j ∧ Hid (∀ x (hx : x < R.ch.length), x < j → R.ch[x] ≠ k) ∧ Hid (Bxs w wr [⟨b2, z48, 48⟩, ⟨b1, pc ⟨.slice A1 R.now.loads.length c1, .slice A2 R.now.free.length c2, .slice A3 R.was.loads.length c3, .slice A4 R.was.free.length c4, .slice A5 R.ch.length c5⟩ R, 48⟩] [])) (fun iv _ => R.ch.length - (intOf iv).toNat)
 case atStart => exact ⟨0, by omega, rfl, Lib.hid (fun x _ h => absurd h (by omega)), H⟩
 case round =>
  clear H
  obtain ⟨j, hj, rfl, HX, H⟩ := hrel
  by_cases hlt : j < R.ch.length
  ·have hlt' : (j : Int) < R.ch.length := by omega
   obtain ⟨x, hx⟩ : ∃ x, x = R.ch[j] := ⟨_, rfl⟩
   have HG := Lib.hid (show (nums R.ch)[j]? = some (.int .i64 (x : Nat)) by rw [nums_get hlt, hx])
   obtain ⟨g, c', e⟩ := row_shape HN.out (by omega)
   injection e with e1 _ e2
   subst e1 e2
   by_cases hd : x = k
   ·subst hd
    have HM := Lib.hid (show (R.mark x).ch = R.ch by unfold Rp.mark; dsimp only; rw [if_pos (by rw [hx]; exact List.getElem_mem hlt)])
    clear hx
    go_wp2_with (rw [wpl_id]; first
     | (refine wpl_ld H 1 rfl _ _ rfl (wnt rfl) (by exact rfl) (notAgg _ (by decide)) rfl ?_)
     | (refine wpl_ldr (HN.out.low H.out.low) _ _ rfl (wnt rfl) (by exact rfl) (notAgg _ (by decide)) HG.out ?_)
     | (refine wpl_lda H 1 rfl _ _ rfl (wnt rfl) (by exact rfl) Tryz.isAgg48 Tryz.sizeOf48 (by kernel_rfl) (whole_take (by kernel_rfl)) ?_)
     | (refine wpl_sta H 0 rfl rfl _ _ _ rfl (wnt rfl) (by exact rfl) (by exact rfl) Tryz.sizeOf48 (by kernel_rfl) (by kernel_rfl) (by kernel_rfl) (splice_whole (n := 25) (by kernel_rfl) (by kernel_rfl)) (fun w' H2 => ?_); simp only [List.set_cons_succ, List.set_cons_zero] at H2; clear H; have H := H2; clear H2))
    refine bodyPost_ret (res_cell rfl rfl (H.out.at_ (i := 0) rfl) (Tryz.isAgg48 _) (Tryz.sizeOf48 _) rfl) rfl ⟨.slice (some ⟨g, 0, none⟩) R.ch.length c5, rfl, ?_, FreshV.cv, H.out.low⟩
    rw [HM.out]
    exact HN.out.low H.out.low
   ·have HX2 := Lib.hid (show ∀ y (hy : y < R.ch.length), y < j + 1 → R.ch[y] ≠ k from fun y hy hyj => by
     by_cases e : y = j
     ·subst e; rw [← hx]; exact hd
     ·exact HX.out y hy (by omega))
    have hd' : ¬ (x : Int) = k := by omega
    clear hx hd HX
    go_wp2_with (rw [wpl_id]; first
     | (refine wpl_ld H 1 rfl _ _ rfl (wnt rfl) (by exact rfl) (notAgg _ (by decide)) rfl ?_)
     | (refine wpl_ldr (HN.out.low H.out.low) _ _ rfl (wnt rfl) (by exact rfl) (notAgg _ (by decide)) HG.out ?_)
     | (refine wpl_lda H 1 rfl _ _ rfl (wnt rfl) (by exact rfl) Tryz.isAgg48 Tryz.sizeOf48 (by kernel_rfl) (whole_take (by kernel_rfl)) ?_)
     | (refine wpl_sta H 0 rfl rfl _ _ _ rfl (wnt rfl) (by exact rfl) (by exact rfl) Tryz.sizeOf48 (by kernel_rfl) (by kernel_rfl) (by kernel_rfl) (splice_whole (n := 25) (by kernel_rfl) (by kernel_rfl)) (fun w' H2 => ?_); simp only [List.set_cons_succ, List.set_cons_zero] at H2; clear H; have H := H2; clear H2))
    go_roundw
    case rel => exact ⟨j + 1, by omega, by go_num, HX2, H⟩
    case measure => simp [intOf]; omega
  ·have hnt : ¬ (j : Int) < R.ch.length := by omega
   have HM := Lib.hid (show (R.mark k).ch = R.ch ++ [k] by
    unfold Rp.mark
    dsimp only
    rw [if_neg (fun hm => by
     obtain ⟨y, hy, e⟩ := List.getElem_of_mem hm
     exact HX.out y hy (by omega) e)])
   clear hj hlt HX
   go_wp2_with (rw [wpl_id]; first
    | (refine wpl_ld H 1 rfl _ _ rfl (wnt rfl) (by exact rfl) (notAgg _ (by decide)) rfl ?_)
    | (refine wpl_lit0 el3 H rfl (wnt rfl) (fun b w' H2 => ?_); clear H; have H := H2; clear H2)
    | (refine wpl_lit1 el3 H _ rfl (wnt rfl) (by (conv => lhs; whnf) <;> exact rfl) (.inr ⟨_, rfl⟩) (fun b w' H2 => ?_); clear H; have H := H2; clear H2)
    | (refine wpl_app el3 H 0 rfl _ _ rfl (wnt rfl) rfl rfl (HN.out.low H.out.low) (nums_one _) (by have := HLL.out; omega) (Nat.zero_add _) rfl (fun A c w' H2 => ?_); simp only [List.set_cons_succ, List.set_cons_zero] at H2; clear H; have H := H2; clear H2)
    | (refine wpl_app el3 H 1 rfl _ _ rfl (wnt rfl) rfl rfl (H.out.row_ (i := 0) rfl) (by simp [Value.oneCell']) (by have := HLL.out; dsimp only; omega) (rfl) rfl (fun A c w' H2 => ?_); simp only [List.set_cons_succ, List.set_cons_zero] at H2; clear H; have H := H2; clear H2)
    | (refine wpl_st H 1 rfl rfl _ _ _ rfl (wnt rfl) (by exact rfl) (by (conv => lhs; whnf) <;> exact rfl) (oneSize _ (by decide)) rfl (by kernel_rfl) rfl (fun w' H2 => ?_); simp only [List.set_cons_succ, List.set_cons_zero] at H2; clear H; have H := H2; clear H2)
    | (refine wpl_lda H 1 rfl _ _ rfl (wnt rfl) (by exact rfl) Tryz.isAgg48 Tryz.sizeOf48 (by kernel_rfl) (whole_take (by kernel_rfl)) ?_)
    | (refine wpl_sta H 0 rfl rfl _ _ _ rfl (wnt rfl) (by exact rfl) (by exact rfl) Tryz.sizeOf48 (by kernel_rfl) (by kernel_rfl) (by kernel_rfl) (splice_whole (n := 25) (by kernel_rfl) (by kernel_rfl)) (fun w' H2 => ?_); simp only [List.set_cons_succ, List.set_cons_zero] at H2; clear H; have H := H2; clear H2))
   refine bodyPost_ret (res_cell rfl rfl (H.out.at_ (i := 0) rfl) (Tryz.isAgg48 _) (Tryz.sizeOf48 _) rfl) rfl ⟨.slice A (R.ch.length + 1) c, rfl, ?_, FreshV.row (H.out.row_ (i := 1) rfl), H.out.low⟩
   rw [HM.out]
   have hr := H.out.row_ (i := 1) rfl
   have hr := row_base0 hr
   unfold RowI
   rw [List.length_append, List.map_append]
   exact hr
end Go.Proofs.YtklppnknllbfnaaGreat
