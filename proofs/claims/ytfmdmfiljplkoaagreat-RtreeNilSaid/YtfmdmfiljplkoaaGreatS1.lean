/- Rows of elements of any size: append, written out; numbers of 8 bytes; what a node is as bytes. -/
import Derived.Test.YtfmdmfiljplkoaaGreatSg
import Derived.Test.YtfmdmfiljplkoaaGreatC1
import Derived.Test.YtfmdmfiljplkoaaGreatGeo
import Derived.Maps.AppendAt
namespace Go.Proofs.YtfmdmfiljplkoaaGreat
open Go.RowKit Go.Maps
set_option maxRecDepth 8000
set_option linter.unusedSimpArgs false
/-- Elements of s cells. -/
structure Elem (t e : TypeId) (s : Nat) : Prop where
  u : Tryz.prog.underlying t = some (.slice e)
  i : ∃ i z, Tryz.prog.info? e = some i ∧ i.zero = some z ∧ i.size = s ∧ i.bytes ≤ 64 ∧ z.cells.size = s
  pos : 0 < s
theorem el5 : Elem 108 5 1 := by
  obtain ⟨i, hi, hz, hs, hb⟩ := info_parts (show (Tryz.prog.info? 5).map (fun i => (i.zero, i.size, i.bytes)) = some (some (.int .u8 0), 1, 1) by kernel_rfl)
  exact ⟨Tryz.underlying108, ⟨i, _, hi, hz, hs, by omega, rfl⟩, by decide⟩
theorem el84 : Elem 91 84 5 := by
  obtain ⟨i, hi, hz, hs, hb⟩ := info_parts (show (Tryz.prog.info? 84).map (fun i => (i.zero, i.size, i.bytes)) = some (some (.agg #[.int .i64 0, .int .i64 0, .int .i64 0, .int .i64 0, .nilIface]), 5, 48) by kernel_rfl)
  exact ⟨Tryz.underlying91, ⟨i, _, hi, hz, hs, by omega, rfl⟩, by decide⟩
section
variable {ops : Array Oper} {rest : List Oper} {o : Oper} {a : Act} {Q : Exit → Act → World → Prop} {w0 w : World} {L : List Bx} {R : List Rx} {t e : TypeId} {s : Nat}
theorem slice_shape {w : World} {bs e s n : Nat} {v : Value} {xs : List Value} (h : w.ownsRow bs e s v n xs) : ∃ A c, v = .slice A n c ∧ n ≤ c := by
  rcases h.2 with ⟨e1, e2⟩ | ⟨g, c, cur, e, _, _, h5, _⟩
  · exact ⟨none, 0, by rw [e1, e2], by omega⟩
  · exact ⟨_, _, e, h5⟩
theorem row_shape {w : World} {bs e s n : Nat} {v : Value} {xs : List Value} (h : w.ownsRow bs e s v n xs) (h0 : 0 < n) : ∃ g c, v = .slice (some ⟨g, 0, none⟩) n c := by
  rcases h.2 with ⟨e1, e2⟩ | ⟨g, c, cur, e, _⟩
  · omega
  · exact ⟨g, c, e⟩
theorem whole_take {cs : Array Value} {n : Nat} (h : cs.size = n) : ((cs.toList.drop 0).take n).toArray = cs := by
  rw [List.drop_zero, List.take_of_length_le (by simp; omega)]
theorem splice_whole {z cs : Array Value} {n : Nat} (h1 : z.size = n) (h2 : cs.size = n) : splice z 0 cs = cs := by
  unfold splice
  rw [List.take_zero, List.nil_append, List.drop_eq_nil_of_le (by simp; omega), List.append_nil]
theorem run_appB (E : Elem t e s) (ty : TypeId) (h : Bxs w0 w L R) (j : Nat) {v : Value} {n : Nat} {l : List Value} (hj : R[j]? = some ⟨e, s, v, n, l⟩) {vx : Value} {m bs : Nat} {news : List Value} (hsrc : w.ownsRow bs e s vx m news) (h1 : ∀ u ∈ news, u.oneCell' = true) (hb : n + m ≤ 2000000) :
    ∃ A c w', (Builtin.append_ #[t, t] ty #[v, vx]).run Tryz.prog w = .ok (.slice A (n + m) c) w' ∧ Bxs w0 w' L (R.set j ⟨e, s, .slice A (n + m) c, n + m, l ++ news⟩) := by
  obtain ⟨i, z, hi, hz, hs, hby, hc⟩ := E.i
  have hr := h.row_ hj
  dsimp only at hr
  have hps := E.pos
  rcases hsrc.2 with ⟨rfl, rfl⟩ | ⟨g, cap, cur, rfl, _⟩
  · obtain ⟨A, c, rfl, hnc⟩ := slice_shape hr
    have hx : news = [] := List.eq_nil_of_length_eq_zero (by have := hsrc.1; omega)
    subst hx
    refine ⟨A, c, w, ?_, ?_⟩
    · cases A <;> simp [Builtin.append_, run_underlying E.u, sizeOf, typeInfo, hi, Builtin.lenOf, Builtin.firstCells, storeCells, hs, hnc]
    · rw [Nat.add_zero, List.append_nil]
      have e2 : R.set j ⟨e, s, .slice A n c, n, l⟩ = R := by
        apply List.ext_getElem?
        intro k
        rw [List.getElem?_set]
        split
        · rename_i hk
          subst hk
          rw [if_pos (List.getElem?_eq_some_iff.1 hj).1, hj]
        · rfl
      rw [e2]
      exact h
  · obtain ⟨v', w', hrun, h2, h3, _, h5⟩ := run_append_own_at (P := Tryz.prog) w w0.heap.size t ty e i z s i.bytes E.u hi hz hs rfl hc hps v n l hr ⟨g, 0, none⟩ m cap news hsrc.1
      (fun k u hu => World.ownsRow.cells hsrc (g := g) rfl k u hu) h1 (by simp only [maxLen]; omega) (by have := Nat.mul_le_mul hb hby; omega) h.low.size
    obtain ⟨A', c', rfl, _⟩ := slice_shape h2
    exact ⟨A', c', w', hrun, h.rowgrew hj h2 h3 h5⟩
theorem wpl_app (E : Elem t e s) (H : Hid (Bxs w0 w L R)) (j : Nat) {v : Value} {n : Nat} {l : List Value} (hj : R[j]? = some ⟨e, s, v, n, l⟩) (x y : Operand)
    (ho : o.op = .call { callee := .builtin .append, args := #[x, y], argTypes := #[t, t] }) (hgd : Want ops o a) (hs : a.eval x = v) {vx : Value} {m bs : Nat} {news : List Value} (hx : a.eval y = vx) (hsrc : w.ownsRow bs e s vx m news) (h1 : ∀ u ∈ news, u.oneCell' = true) (hb : n + m ≤ 2000000)
    {N : Nat} (hN : n + m = N) {l' : List Value} (hl : l ++ news = l')
    (k : ∀ A c w', Hid (Bxs w0 w' L (R.set j ⟨e, s, .slice A N c, N, l'⟩)) → wpList Tryz.prog ops Q rest (a.put o.dst (.slice A N c)) w') : WL Tryz.prog ops Q (o :: rest) a w := by
  subst hN hl
  obtain ⟨A, c, w', hr, hk⟩ := run_appB E o.type H.out j hj hsrc h1 hb
  exact wpl_step hgd fun K hK => Lib.wp_append_run w x y t t ho v vx hs hx _ w' hr (hK _ _ (k A c w' (Lib.hid hk)))
theorem exec_lit {ev : Operand → Value} {o : Oper} {n : Nat} {parts : Array (Nat × Operand)} {ps : Array (Nat × Value)} {v : Value} {w w' : World} (ho : o.op = .buildSlice t n parts) (hp : parts.map (fun (i, x) => (i, ev x)) = ps) (hr : (Instr.buildSlice t n ps).run Tryz.prog w = .ok v w') : (execOp ev o).run Tryz.prog w = .ok (.value v) w' := by
  unfold execOp
  simp only [ho, Sem.run_bind, hp, hr]
  rfl
/-- A row of one entry, of three bytes, written out. -/
theorem run_lit84 (c0 c1 c2 c3 c4 : Value) (w : World) : (Instr.buildSlice 91 1 #[(0, .agg #[c0, c1, c2, c3, c4])]).run Tryz.prog w = .ok (.slice (some ⟨w.heap.size, 0, none⟩) 1 1) (w.alloc (.cells #[c0, c1, c2, c3, c4] 84)) := by
  simp [Instr.buildSlice, run_underlying Tryz.underlying91, Tryz.sizeOf84, Tryz.zeroValue84, go_sem, Instr.fill, Value.cells]
theorem run_lit3 (a b c : Int) (w : World) : (Instr.buildSlice 108 3 #[(0, .int .u8 a), (1, .int .u8 b), (2, .int .u8 c)]).run Tryz.prog w = .ok (.slice (some ⟨w.heap.size, 0, none⟩) 3 3) (w.alloc (.cells #[.int .u8 a, .int .u8 b, .int .u8 c] 5)) := by
  simp [Instr.buildSlice, run_underlying Tryz.underlying108, Tryz.sizeOf5, Tryz.zeroValue5, go_sem, Instr.fill, Value.cells]
theorem run_litb (x : Int) (w : World) : (Instr.buildSlice 108 1 #[(0, .int .u8 x)]).run Tryz.prog w = .ok (.slice (some ⟨w.heap.size, 0, none⟩) 1 1) (w.alloc (.cells #[.int .u8 x] 5)) := by
  simp [Instr.buildSlice, run_underlying Tryz.underlying108, Tryz.sizeOf5, Tryz.zeroValue5, go_sem, Instr.fill, Value.cells]
theorem wpl_litb (H : Hid (Bxs w0 w L R)) (y : Operand) (ho : o.op = .buildSlice 108 1 #[(0, y)]) (hgd : Want ops o a) {x : Int} (hy : a.eval y = .int .u8 x)
    (k : ∀ b w', Hid (Bxs w0 w' L (⟨5, 1, .slice (some ⟨b, 0, none⟩) 1 1, 1, [.int .u8 x]⟩ :: R)) → wpList Tryz.prog ops Q rest (a.put o.dst (.slice (some ⟨b, 0, none⟩) 1 1)) w') : WL Tryz.prog ops Q (o :: rest) a w := by
  refine wpl_run hgd (exec_lit ho (ps := #[(0, .int .u8 x)]) (by simp [hy]) (run_litb x w)) (k _ _ (Lib.hid (H.out.own ((Below.refl _ w).alloc (Nat.le_refl _) _) ?_)))
  exact World.ownsRow_lit w #[.int .u8 x] 1 (Nat.le_refl _) (by simp [maxLen]) rfl
end
set_option maxHeartbeats 1000000 in
theorem rnum_any (p : Addr) (l : List Nat) (n c : Nat) (w : World) (hn : l.length = n) (hr : Rd w w.heap.size (some p) l) (hl : (8 : Int) ≤ n) :
    Calls Tryz.prog 155 #[.slice (some p) n c] w fun e w' => e = .returned (.int .u64 (num (l.take 8))) ∧ w = w' := by
  have HR := Lib.hid hr
  clear hr
  go_enter Tryz.func155, Tryz.ntmps155
  go_wp2
  go_loop [3, 5] (fun x i => ∃ k : Nat, k ≤ 8 ∧ i = .int .i64 k ∧ x = .int .u64 (num (l.take k))) (fun _ i => 8 - (intOf i).toNat)
  case atStart => exact ⟨0, by omega, rfl, val_int (by rw [List.take_zero]; rfl)⟩
  case round =>
    obtain ⟨k, hk, rfl, rfl⟩ := hrel
    by_cases hlt : k < 8
    · obtain ⟨q, e, _, hc, hb⟩ := HR.out.get (show k < l.length by omega)
      cases e
      have hj := or_join64 (num (l.take k)) l[k] k hlt (num_take_lt l k (by omega) HR.out.1) hb
      rw [← num_take l k (by omega)] at hj
      rw [← small64 l[k] k hlt hb] at hj
      have HJ := Lib.hid hj
      clear hj
      generalize l[k] = b at *
      generalize ((num (l.take k) : Nat) : Int) = x at *
      go_wp2
      go_round
      case rel => exact ⟨k + 1, by omega, by simp, val_int HJ.out⟩
      case measure => simp [intOf]; omega
    · obtain rfl : k = 8 := by omega
      go_wp2
      go_ret
      exact ⟨rfl, rfl⟩
set_option maxHeartbeats 2000000 in
theorem radd_B {w0 w : World} {L : List Bx} {R : List Rx} {v : Value} {l : List Nat} (h : Bxs w0 w L (⟨5, 1, v, l.length, cells l⟩ :: R)) (z : Int) (hn : l.length ≤ 900000) :
    Calls Tryz.prog 197 #[v, .int .u64 z] w fun e w' => ∃ A c, e = .returned (.slice A (l ++ lebZ z 8).length c) ∧ Bxs w0 w' L (⟨5, 1, .slice A (l ++ lebZ z 8).length c, (l ++ lebZ z 8).length, cells (l ++ lebZ z 8)⟩ :: R) := by
  rw [show (l ++ lebZ z 8).length = l.length + 8 by simp]
  have H := Lib.hid h
  have hr := h.row_ (i := 0) rfl
  dsimp only at hr
  obtain ⟨A0, c0, rfl, _⟩ := slice_shape hr
  clear h hr
  go_enter Tryz.func197, Tryz.ntmps197
  go_wp2
  go_loopw [0, 6] (fun x i wr => ∃ (k : Nat) (A : Option Addr) (c : Nat), k ≤ 8 ∧ i = .int .i64 k ∧ x = .slice A (l.length + k) c ∧ Hid (Bxs w0 wr L (⟨5, 1, .slice A (l.length + k) c, l.length + k, cells (l ++ lebZ z k)⟩ :: R))) (fun _ i _ => 8 - (intOf i).toNat)
  case atStart => exact ⟨0, A0, c0, by omega, rfl, rfl, Lib.hid (by simpa [lebZ] using H.out)⟩
  case round =>
    clear H
    obtain ⟨k, A, c, hk, rfl, rfl, H⟩ := hrel
    by_cases hlt : k < 8
    · have hq0 : 0 ≤ z / 2 ^ (8 * k) % 256 := Int.emod_nonneg _ (by omega)
      have hq1 : z / 2 ^ (8 * k) % 256 < 256 := Int.emod_lt_of_pos _ (by omega)
      go_wp2_with (rw [wpl_id]; first
        | (refine wpl_litb H _ rfl (.inl rfl) (x := z / 2 ^ (8 * k) % 256) (by exact rfl) (fun b w' H2 => ?_); clear H; have H := H2; clear H2)
        | (refine wpl_app el5 H 1 (n := l.length + k) (m := 1) rfl _ _ rfl (.inl rfl) rfl rfl (H.out.row_ (i := 0) rfl) (by simp [Value.oneCell']) (by omega) rfl rfl (fun A1 c1 w' H2 => ?_); simp only [List.set_cons_succ, List.set_cons_zero] at H2; clear H; have H := H2; clear H2))
      go_roundw
      case rel =>
        refine ⟨k + 1, A1, c1, by omega, by simp, rfl, Lib.hid ?_⟩
        have h := H.out.sub (List.Sublist.refl _) (List.Sublist.cons _ (List.Sublist.refl _))
        have e : cells (l ++ lebZ z k) ++ [Value.int .u8 (z / 2 ^ (8 * k) % 256)] = cells (l ++ lebZ z (k + 1)) := by
          rw [lebZ_succ, ← List.append_assoc]
          unfold cells
          rw [List.map_append (l₂ := [_])]
          congr 1
          simp only [List.map_cons, List.map_nil]
          congr 2
          omega
        rw [e] at h
        exact h
      case measure => simp [intOf]; omega
    · obtain rfl : k = 8 := by omega
      go_wp2
      go_ret
      exact ⟨_, _, rfl, H.out⟩
end Go.Proofs.YtfmdmfiljplkoaaGreat
