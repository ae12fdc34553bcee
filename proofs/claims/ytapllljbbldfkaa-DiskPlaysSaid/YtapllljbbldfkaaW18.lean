/- Walks: the document's disk: rows that grow; New. -/
import Derived.Test.YtapllljbbldfkaaW17
import Derived.Test.YtapllljbbldfkaaFree
import Derived.Test.YtapllljbbldfkaaHeld
namespace Go.Proofs.Ytapllljbbldfkaa
open Go.RowKit Go.Maps

theorem str_row : (Try.prog.info? 9).map (fun i => (i.zero, i.size, i.bytes)) = some (some (.string ⟨#[]⟩), 1, 16) := by kernel_rfl
theorem wstr_row : (Try.prog.info? 78).map (fun i => (i.zero, i.size, i.bytes)) = some (some (.agg #[.int .i64 0, .string ⟨#[]⟩]), 2, 24) := by kernel_rfl

/-- 'append' of strings onto a row of the call's own. -/
theorem appS {w : World} {base n : Nat} {v : Value} {xs : List Value} (h : w.ownsRow base 9 1 v n xs) (hb : base ≤ w.heap.size) (a : Addr) (m c : Nat) (news : List Value) (hl : news.length = m)
    (hnews : ∀ j u, news[j]? = some u → w.cell? (a.add j) = some u) (h1 : ∀ u ∈ news, u.oneCell' = true) (hn : n + m ≤ 4000000) :
    ∃ v' w', (Builtin.append_ #[42, 42] 42 #[v, .slice (some a) m c]).run Try.prog w = .ok v' w' ∧ w'.ownsRow base 9 1 v' (n + m) (xs ++ news) ∧ w.grownBy w' v.ownBlock ∧ (v'.ownBlock = v.ownBlock ∨ v'.ownBlock = some w.heap.size) := by
  obtain ⟨i, hi, hz, hs, hby⟩ := info_parts str_row
  obtain ⟨v', w', hrun, h2, h3, _, h5⟩ := run_append_own_at (P := Try.prog) w base 42 42 9 i _ 1 16 Try.underlying42 hi hz hs hby rfl (by omega) v n xs h a m c news (by omega) hnews h1 (by simp only [maxLen]; omega) (by omega) hb
  exact ⟨v', w', hrun, h2, h3, h5⟩
/-- 'append' of writes onto a row of the call's own. -/
theorem appW {w : World} {base n : Nat} {v : Value} {xs : List Value} (h : w.ownsRow base 78 2 v n xs) (hb : base ≤ w.heap.size) (a : Addr) (m c : Nat) (news : List Value) (hl : news.length = m * 2)
    (hnews : ∀ j u, news[j]? = some u → w.cell? (a.add j) = some u) (h1 : ∀ u ∈ news, u.oneCell' = true) (hn : n + m ≤ 4000000) :
    ∃ v' w', (Builtin.append_ #[43, 43] 43 #[v, .slice (some a) m c]).run Try.prog w = .ok v' w' ∧ w'.ownsRow base 78 2 v' (n + m) (xs ++ news) ∧ w.grownBy w' v.ownBlock ∧ (v'.ownBlock = v.ownBlock ∨ v'.ownBlock = some w.heap.size) := by
  obtain ⟨i, hi, hz, hs, hby⟩ := info_parts wstr_row
  obtain ⟨v', w', hrun, h2, h3, _, h5⟩ := run_append_own_at (P := Try.prog) w base 43 43 78 i _ 2 24 Try.underlying43 hi hz hs hby rfl (by omega) v n xs h a m c news hl hnews h1 (by simp only [maxLen]; omega) (by omega) hb
  exact ⟨v', w', hrun, h2, h3, h5⟩
theorem exec_makeSlice {P : Program} {ev : Operand → Value} {o : Oper} (t : TypeId) (n c : Operand) (ho : o.op = .makeSlice t n c) {vn vc r : Value} {w w' : World} (hn : ev n = vn) (hc : ev c = vc) (hr : (Instr.makeSlice t vn vc).run P w = .ok r w') : (execOp ev o).run P w = .ok (.value r) w' := by
  unfold execOp
  simp only [ho, Sem.run_bind, Sem.run_pure, Result.andThen_ok, hn, hc, hr]
theorem fasts_succ (k : Nat) (f : Int → List Nat) : fasts (k + 1) f = fasts k f ++ [.string (str (f (k : Nat)))] := by
  unfold fasts
  rw [List.range_succ, List.map_append]; rfl
theorem one_cell_at {w : World} {b : Nat} {u : Value} {t : TypeId} (h : Blk w b #[u] t) : ∀ j x, [u][j]? = some x → w.cell? ((⟨b, 0, none⟩ : Addr).add j) = some x := by
  intro j x hx
  match j, hx with
  | 0, hx => simp at hx; subst hx; exact h.cell 0
theorem row_drew {w : World} {base n s : Nat} {t : TypeId} {v : Value} {xs : List Value} (h : w.ownsRow base t s v n xs) : w.drew.ownsRow base t s v n xs := row_grew h ⟨rfl, rfl, rfl, Nat.le_refl _, fun _ _ => rfl⟩
theorem below_drew {w v : World} {n : Nat} (h : Below n w v) : Below n w v.drew := ⟨h.os, h.tape, h.output, h.size, h.block⟩
theorem Below.size_le {w v : World} {n : Nat} (h : Below n w v) (e : n = w.heap.size) : n ≤ v.heap.size := by rw [e]; exact h.size

theorem stands_row (b e sz : Nat) (v : Value) (n : Nat) (xs : List Value) : Stands fun w => w.ownsRow b e sz v n xs := fun _ _ h k => row_grew k h
/-- .. and the old view of the row stands. -/
theorem appSk {w : World} {base n : Nat} {v : Value} {xs : List Value} (h : w.ownsRow base 9 1 v n xs) (hb : base ≤ w.heap.size) (a : Addr) (m c : Nat) (news : List Value) (hl : news.length = m)
    (hnews : ∀ j u, news[j]? = some u → w.cell? (a.add j) = some u) (h1 : ∀ u ∈ news, u.oneCell' = true) (hn : n + m ≤ 4000000) :
    ∃ v' w', (Builtin.append_ #[42, 42] 42 #[v, .slice (some a) m c]).run Try.prog w = .ok v' w' ∧ w'.ownsRow base 9 1 v' (n + m) (xs ++ news) ∧ w.grownBy w' v.ownBlock ∧ w'.ownsRow base 9 1 v n xs := by
  obtain ⟨i, hi, hz, hs, hby⟩ := info_parts str_row
  obtain ⟨v', w', hrun, h2, h3, _, h5⟩ := run_append_keeps (P := Try.prog) w base 42 42 9 i _ 1 16 Try.underlying42 hi hz hs hby rfl (by omega) v n xs h a m c news (by omega) hnews h1 (by simp only [maxLen]; omega) (by omega) hb
  exact ⟨v', w', hrun, h2, h3, h5⟩
theorem fasts_new {f0 : Int → List Nat} {z k : Nat} (h : ∀ x, f0 x = List.replicate z 0) : fasts (k + 1) f0 = fasts k f0 ++ [.string (str (List.replicate z 0))] := by
  rw [fasts_succ, h]

theorem Blk.six {w : World} {b : Nat} {t : TypeId} {x0 x1 x2 x3 x4 x5 : Value} (h : Blk w b #[x0, x1, x2, x3, x4, x5] t) :
    w.cell? ⟨b, 0, none⟩ = some x0 ∧ w.cell? ⟨b, 1, none⟩ = some x1 ∧ w.cell? ⟨b, 2, none⟩ = some x2 ∧ w.cell? ⟨b, 3, none⟩ = some x3 ∧ w.cell? ⟨b, 4, none⟩ = some x4 ∧ w.cell? ⟨b, 5, none⟩ = some x5 ∧
    w.frozen? ⟨b, 0, none⟩ = false ∧ w.frozen? ⟨b, 1, none⟩ = false ∧ w.frozen? ⟨b, 2, none⟩ = false ∧ w.frozen? ⟨b, 3, none⟩ = false ∧ w.frozen? ⟨b, 4, none⟩ = false ∧ w.frozen? ⟨b, 5, none⟩ = false :=
  ⟨h.cell 0, h.cell 1, h.cell 2, h.cell 3, h.cell 4, h.cell 5, h.free 0, h.free 1, h.free 2, h.free 3, h.free 4, h.free 5⟩
def lay6 (w : World) (b : Nat) (x0 x1 x2 x3 x4 x5 : Value) : World :=
  (((((w.setCell ⟨b, 0, none⟩ x0).setCell ⟨b, 1, none⟩ x1).setCell ⟨b, 2, none⟩ x2).setCell ⟨b, 3, none⟩ x3).setCell ⟨b, 4, none⟩ x4).setCell ⟨b, 5, none⟩ x5
theorem set6 {w : World} {b : Nat} {t : TypeId} {y0 y1 y2 y3 y4 y5 : Value} (h : Blk w b #[y0, y1, y2, y3, y4, y5] t) (x0 x1 x2 x3 x4 x5 : Value) : Blk (lay6 w b x0 x1 x2 x3 x4 x5) b #[x0, x1, x2, x3, x4, x5] t := by
  have := (((((h.set 0 x0).set 1 x1).set 2 x2).set 3 x3).set 4 x4).set 5 x5
  simpa [lay6] using this
theorem lay6_turn (w : World) (b : Nat) (x0 x1 x2 x3 x4 x5 : Value) : Turn [b] w (lay6 w b x0 x1 x2 x3 x4 x5) :=
  (((((((Turn.refl [b] w).set (a := ⟨b, 0, none⟩) (.inl (by simp)) x0).set (a := ⟨b, 1, none⟩) (.inl (by simp)) x1).set (a := ⟨b, 2, none⟩) (.inl (by simp)) x2).set (a := ⟨b, 3, none⟩) (.inl (by simp)) x3).set (a := ⟨b, 4, none⟩) (.inl (by simp)) x4).set (a := ⟨b, 5, none⟩) (.inl (by simp)) x5)
theorem results_cell6 {fn : Func} {t : Tmp} {T : Array Value} {w : World} {b : Nat} {x0 x1 x2 x3 x4 x5 : Value} (hf : fn.results = #[.cell t 45]) (h : Blk w b #[x0, x1, x2, x3, x4, x5] 45) (hT : T[t]?.getD undef = .pointer (some ⟨b, 0, none⟩)) :
    (results fn T).run Try.prog w = .ok (.agg #[x0, x1, x2, x3, x4, x5]) w := by
  obtain ⟨c0, c1, c2, c3, c4, c5, _⟩ := h.six
  simp [results, hf, go_sem, hT, c0, c1, c2, c3, c4, c5]
theorem results_cell6t {fn : Func} {t u : Tmp} {T : Array Value} {w : World} {b : Nat} {x0 x1 x2 x3 x4 x5 : Value} (hf : fn.results = #[.cell t 45, .tmp u]) (h : Blk w b #[x0, x1, x2, x3, x4, x5] 45) (hT : T[t]?.getD undef = .pointer (some ⟨b, 0, none⟩)) :
    (results fn T).run Try.prog w = .ok (.tuple #[.agg #[x0, x1, x2, x3, x4, x5], T[u]?.getD undef]) w := by
  obtain ⟨c0, c1, c2, c3, c4, c5, _⟩ := h.six
  simp [results, hf, go_sem, hT, c0, c1, c2, c3, c4, c5]
theorem row_base {w : World} {b b' : Nat} {e : TypeId} {s : Nat} {v : Value} {n : Nat} {xs : List Value} (hb : b ≤ b') (h : w.ownsRow b' e s v n xs) : w.ownsRow b e s v n xs := Own.base_ hb h

set_option maxHeartbeats 4000000 in
theorem New_ref (s z : Nat) (hs : s ≤ 1048576) (hz : z ≤ 4096) (w : World) :
    Calls Try.prog 18 #[.int .i64 s, .int .i64 z] w fun e w' => ∃ fv, e = .returned (RV (Dsk.new s z) fv (.slice none 0 0)) ∧ Rows w' (Dsk.new s z) fv (.slice none 0 0) ∧ Below w.heap.size w w' := by
  obtain ⟨f0, hf0⟩ : ∃ f0, f0 = (Dsk.new s z).fast := ⟨_, rfl⟩
  have HF0 := Lib.hid (show ∀ x, f0 x = List.replicate z 0 by rw [hf0]; intro x; rfl)
  have HFE := Lib.hid hf0
  have HZ := Lib.hid hz
  have HS := Lib.hid hs
  have h0 : ∀ w1, w1 = (w.alloc (.cells #[.int .i64 0, .int .i64 0, .slice none 0 0, .slice none 0 0, .int .i64 0, .bool false] 45)).alloc (.cells #[.int .i64 s, .int .i64 z, .slice none 0 0, .slice none 0 0, .int .i64 0, .bool false] 45) → Blk w1 (w.heap.size + 1) #[.int .i64 s, .int .i64 z, .slice none 0 0, .slice none 0 0, .int .i64 0, .bool false] 45 ∧ Blk w1 w.heap.size #[.int .i64 0, .int .i64 0, .slice none 0 0, .slice none 0 0, .int .i64 0, .bool false] 45 ∧ w1.ownsRow w.heap.size 9 1 (.slice none 0 0) 0 (fasts 0 f0) ∧ Below w.heap.size w w1 := by
    rintro w1 rfl
    have g0 := (Below.refl w.heap.size w).alloc (Nat.le_refl _) (.cells #[.int .i64 0, .int .i64 0, .slice none 0 0, .slice none 0 0, .int .i64 0, .bool false] 45)
    have g1 := (Below.refl _ (w.alloc (.cells #[.int .i64 0, .int .i64 0, .slice none 0 0, .slice none 0 0, .int .i64 0, .bool false] 45))).alloc (Nat.le_refl _) (.cells #[.int .i64 s, .int .i64 z, .slice none 0 0, .slice none 0 0, .int .i64 0, .bool false] 45)
    exact ⟨Blk.new' _ _ _ (by simp), (Blk.new' _ _ _ rfl).grew g1, World.ownsRow_nil _ _ _ _, g0.trans (g1.mono (by simp))⟩
  have H0 := Lib.hid h0
  have hsb : (s : Int) ≤ 1048576 := by omega
  clear hf0 hz hs h0
  go_enter Try.func18, Try.ntmps18
  go_wp2
  have HH := Lib.hid (H0.out _ rfl)
  clear H0
  go_loopw [6] (fun i wr => ∃ k : Nat, k ≤ s ∧ i = .int .i64 k ∧ ∃ A c, Hid (Blk wr (w.heap.size + 1) #[.int .i64 s, .int .i64 z, (.slice A k c), .slice none 0 0, .int .i64 0, .bool false] 45 ∧ Blk wr w.heap.size #[.int .i64 0, .int .i64 0, .slice none 0 0, .slice none 0 0, .int .i64 0, .bool false] 45 ∧ wr.ownsRow w.heap.size 9 1 (.slice A k c) k (fasts k f0) ∧ Below w.heap.size w wr)) (fun i _ => s - (intOf i).toNat)
  case atStart => exact ⟨0, by omega, rfl, none, 0, HH⟩
  case round =>
    clear HH
    obtain ⟨k, hk, rfl, A, c, B⟩ := hrel
    by_cases hlt : k < s
    · have HKS := Lib.hid (show k ≤ 1048576 by have := HS.out; omega)
      go_wp2_with fail
      obtain ⟨Sa0, Sa0d⟩ : ∃ S : World → Prop, S = fun v : World => Blk v (w.heap.size + 1) #[.int .i64 s, .int .i64 z, (.slice A k c), .slice none 0 0, .int .i64 0, .bool false] 45 ∧ Blk v w.heap.size #[.int .i64 0, .int .i64 0, .slice none 0 0, .slice none 0 0, .int .i64 0, .bool false] 45 ∧ v.ownsRow w.heap.size 9 1 (.slice A k c) k (fasts k f0) ∧ Below w.heap.size w v := ⟨_, rfl⟩
      have Sa0t0 : Stands Sa0 := by rw [Sa0d]; exact ((stands_blk _ _ _).and ((stands_blk _ _ _).and ((stands_row _ _ _ _ _ _).and (stands_below _))))
      have Sa0u0 : ∀ v, Sa0 v → Blk v (w.heap.size + 1) #[.int .i64 s, .int .i64 z, (.slice A k c), .slice none 0 0, .int .i64 0, .bool false] 45 ∧ Blk v w.heap.size #[.int .i64 0, .int .i64 0, .slice none 0 0, .slice none 0 0, .int .i64 0, .bool false] 45 ∧ v.ownsRow w.heap.size 9 1 (.slice A k c) k (fasts k f0) ∧ Below w.heap.size w v := fun v h => by rw [Sa0d] at h; exact h
      have Sa0m0 : ∀ v, (Blk v (w.heap.size + 1) #[.int .i64 s, .int .i64 z, (.slice A k c), .slice none 0 0, .int .i64 0, .bool false] 45 ∧ Blk v w.heap.size #[.int .i64 0, .int .i64 0, .slice none 0 0, .slice none 0 0, .int .i64 0, .bool false] 45 ∧ v.ownsRow w.heap.size 9 1 (.slice A k c) k (fasts k f0) ∧ Below w.heap.size w v) → Sa0 v := fun v h => by rw [Sa0d]; exact h
      have Sa0u := Lib.hid Sa0u0
      have Sa0m := Lib.hid Sa0m0
      have Sa0t := Lib.hid Sa0t0
      clear Sa0d Sa0u0 Sa0m0 Sa0t0
      refine wp_region_X (S := Sa0) (by kernel_rfl) (Sa0m.out _ ⟨B.out.1.drew, B.out.2.1.drew, row_drew B.out.2.2.1, below_drew B.out.2.2.2⟩) ?_
      clear B
      refine wpX_take (i := 0) (v := ?_) Sa0t.out rfl rfl (by kernel_rfl) (by kernel_rfl) (by kernel_rfl) (by kernel_rfl) (fun _ _ _ h => h) (SteadyX.value (by rfl) ?_) ?_
      rotate_left
      · (intro w_ hS; go_simp; try with_reducible rfl)
      simp only [List.setIfInBounds_toArray, List.set_cons_zero, List.set_cons_succ]
      refine wpX_take (i := 1) (v := ?_) Sa0t.out rfl rfl (by kernel_rfl) (by kernel_rfl) (by kernel_rfl) (by kernel_rfl) (fun _ _ _ h => h) (SteadyX.value (by rfl) ?_) ?_
      rotate_left
      · (intro w_ hS; obtain ⟨q0, q1, q2, q3⟩ := Sa0u.out _ hS; (have q9 := q0.cell 2); go_simp; try with_reducible rfl)
      simp only [List.setIfInBounds_toArray, List.set_cons_zero, List.set_cons_succ]
      refine wpX_take (i := 2) (v := ?_) Sa0t.out rfl rfl (by kernel_rfl) (by kernel_rfl) (by kernel_rfl) (by kernel_rfl) (fun _ _ _ h => h) (SteadyX.value (by rfl) ?_) ?_
      rotate_left
      · (intro w_ hS; go_simp; try with_reducible rfl)
      simp only [List.setIfInBounds_toArray, List.set_cons_zero, List.set_cons_succ]
      refine wpX_one (i := 3) (by kernel_rfl) (fun w_ hS => ?_)
      obtain ⟨q0, q1, q2, q3⟩ := Sa0u.out _ hS
      obtain ⟨G, hG⟩ : ∃ G, G = w_.heap.size := ⟨_, rfl⟩
      obtain ⟨w5, hmk, ho, hg⟩ := run_makeN (w := w_) w_.heap.size z (Nat.le_refl _) (by have := HZ.out; omega)
      rw [← hG] at hmk
      rw [← hG] at ho
      have hb5 : Below w_.heap.size w_ w5 := (Below.refl _ w_).grown hg (Nat.le_refl _) (by simp)
      obtain ⟨Sa1, Sa1d⟩ : ∃ S : World → Prop, S = fun v : World => Blk v (w.heap.size + 1) #[.int .i64 s, .int .i64 z, (.slice A k c), .slice none 0 0, .int .i64 0, .bool false] 45 ∧ Blk v w.heap.size #[.int .i64 0, .int .i64 0, .slice none 0 0, .slice none 0 0, .int .i64 0, .bool false] 45 ∧ v.ownsRow w.heap.size 9 1 (.slice A k c) k (fasts k f0) ∧ Below w.heap.size w v ∧ Byt v (.slice (some ⟨G, 0, none⟩) z z) (List.replicate z 0) := ⟨_, rfl⟩
      have Sa1t0 : Stands Sa1 := by rw [Sa1d]; exact ((stands_blk _ _ _).and ((stands_blk _ _ _).and ((stands_row _ _ _ _ _ _).and ((stands_below _).and (stands_byt _ _)))))
      have Sa1u0 : ∀ v, Sa1 v → Blk v (w.heap.size + 1) #[.int .i64 s, .int .i64 z, (.slice A k c), .slice none 0 0, .int .i64 0, .bool false] 45 ∧ Blk v w.heap.size #[.int .i64 0, .int .i64 0, .slice none 0 0, .slice none 0 0, .int .i64 0, .bool false] 45 ∧ v.ownsRow w.heap.size 9 1 (.slice A k c) k (fasts k f0) ∧ Below w.heap.size w v ∧ Byt v (.slice (some ⟨G, 0, none⟩) z z) (List.replicate z 0) := fun v h => by rw [Sa1d] at h; exact h
      have Sa1m0 : ∀ v, (Blk v (w.heap.size + 1) #[.int .i64 s, .int .i64 z, (.slice A k c), .slice none 0 0, .int .i64 0, .bool false] 45 ∧ Blk v w.heap.size #[.int .i64 0, .int .i64 0, .slice none 0 0, .slice none 0 0, .int .i64 0, .bool false] 45 ∧ v.ownsRow w.heap.size 9 1 (.slice A k c) k (fasts k f0) ∧ Below w.heap.size w v ∧ Byt v (.slice (some ⟨G, 0, none⟩) z z) (List.replicate z 0)) → Sa1 v := fun v h => by rw [Sa1d]; exact h
      have Sa1u := Lib.hid Sa1u0
      have Sa1m := Lib.hid Sa1m0
      have Sa1t := Lib.hid Sa1t0
      clear Sa1d Sa1u0 Sa1m0 Sa1t0
      have st_ : Sa1 w5 := Sa1m.out _ ⟨(stands_blk _ _ _) _ _ hb5 q0, (stands_blk _ _ _) _ _ hb5 q1, (stands_row _ _ _ _ _ _) _ _ hb5 q2, (stands_below _) _ _ hb5 q3, Byt.of_own' ho⟩
      refine wpX_run (i := 3) (v := (.slice (some ⟨G, 0, none⟩) z z)) (w' := w5) Sa1 rfl rfl (by rfl) (by exact exec_makeSlice 35 (.tmp 17) (.tmp 17) rfl rfl rfl hmk) Sa1t.out (.inr fun v h => Sa0m.out _ (by obtain ⟨q0, q1, q2, q3, q4⟩ := Sa1u.out _ h; exact ⟨q0, q1, q2, q3⟩)) st_ ?_
      clear hS st_ hmk ho hg hb5 hG q0 q1 q2 q3
      clear w_
      simp only [List.setIfInBounds_toArray, List.set_cons_zero, List.set_cons_succ]
      clear w5
      refine wpX_one (i := 4) (by kernel_rfl) (fun w_ hS => ?_)
      obtain ⟨q0, q1, q2, q3, q4⟩ := Sa1u.out _ hS
      obtain ⟨Sa2, Sa2d⟩ : ∃ S : World → Prop, S = fun v : World => Blk v (w.heap.size + 1) #[.int .i64 s, .int .i64 z, (.slice A k c), .slice none 0 0, .int .i64 0, .bool false] 45 ∧ Blk v w.heap.size #[.int .i64 0, .int .i64 0, .slice none 0 0, .slice none 0 0, .int .i64 0, .bool false] 45 ∧ v.ownsRow w.heap.size 9 1 (.slice A k c) k (fasts k f0) ∧ Below w.heap.size w v ∧ Byt v (.slice (some ⟨G, 0, none⟩) z z) (List.replicate z 0) := ⟨_, rfl⟩
      have Sa2t0 : Stands Sa2 := by rw [Sa2d]; exact ((stands_blk _ _ _).and ((stands_blk _ _ _).and ((stands_row _ _ _ _ _ _).and ((stands_below _).and (stands_byt _ _)))))
      have Sa2u0 : ∀ v, Sa2 v → Blk v (w.heap.size + 1) #[.int .i64 s, .int .i64 z, (.slice A k c), .slice none 0 0, .int .i64 0, .bool false] 45 ∧ Blk v w.heap.size #[.int .i64 0, .int .i64 0, .slice none 0 0, .slice none 0 0, .int .i64 0, .bool false] 45 ∧ v.ownsRow w.heap.size 9 1 (.slice A k c) k (fasts k f0) ∧ Below w.heap.size w v ∧ Byt v (.slice (some ⟨G, 0, none⟩) z z) (List.replicate z 0) := fun v h => by rw [Sa2d] at h; exact h
      have Sa2m0 : ∀ v, (Blk v (w.heap.size + 1) #[.int .i64 s, .int .i64 z, (.slice A k c), .slice none 0 0, .int .i64 0, .bool false] 45 ∧ Blk v w.heap.size #[.int .i64 0, .int .i64 0, .slice none 0 0, .slice none 0 0, .int .i64 0, .bool false] 45 ∧ v.ownsRow w.heap.size 9 1 (.slice A k c) k (fasts k f0) ∧ Below w.heap.size w v ∧ Byt v (.slice (some ⟨G, 0, none⟩) z z) (List.replicate z 0)) → Sa2 v := fun v h => by rw [Sa2d]; exact h
      have Sa2u := Lib.hid Sa2u0
      have Sa2m := Lib.hid Sa2m0
      have Sa2t := Lib.hid Sa2t0
      clear Sa2d Sa2u0 Sa2m0 Sa2t0
      have st_ : Sa2 w_ := Sa2m.out _ ⟨q0, q1, q2, q3, q4⟩
      refine wpX_run (i := 4) (v := (.string (str (List.replicate z 0)))) (w' := w_) Sa2 rfl rfl (by rfl) (by exact exec_convert 35 9 (.tmp 18) rfl rfl q4.strv) Sa2t.out (.inr fun v h => Sa1m.out _ (by obtain ⟨q0, q1, q2, q3, q4⟩ := Sa2u.out _ h; exact ⟨q0, q1, q2, q3, q4⟩)) st_ ?_
      clear hS st_  q0 q1 q2 q3 q4
      clear w_
      simp only [List.setIfInBounds_toArray, List.set_cons_zero, List.set_cons_succ]
      refine wpX_one (i := 5) (by kernel_rfl) (fun w_ hS => ?_)
      obtain ⟨q0, q1, q2, q3, q4⟩ := Sa2u.out _ hS
      obtain ⟨G2, hG2⟩ : ∃ G2, G2 = w_.heap.size := ⟨_, rfl⟩
      have LG := Lib.hid (fun g (hg : Value.ownBlock (.slice A k c) = some g) => Nat.ne_of_lt (show g < G2 by have := (q2.lt g hg).2; omega))
      obtain ⟨Sa3, Sa3d⟩ : ∃ S : World → Prop, S = fun v : World => Blk v (w.heap.size + 1) #[.int .i64 s, .int .i64 z, (.slice A k c), .slice none 0 0, .int .i64 0, .bool false] 45 ∧ Blk v w.heap.size #[.int .i64 0, .int .i64 0, .slice none 0 0, .slice none 0 0, .int .i64 0, .bool false] 45 ∧ v.ownsRow w.heap.size 9 1 (.slice A k c) k (fasts k f0) ∧ Below w.heap.size w v ∧ Byt v (.slice (some ⟨G, 0, none⟩) z z) (List.replicate z 0) ∧ Blk v G2 #[.string (str (List.replicate z 0))] 9 := ⟨_, rfl⟩
      have Sa3t0 : Stands Sa3 := by rw [Sa3d]; exact ((stands_blk _ _ _).and ((stands_blk _ _ _).and ((stands_row _ _ _ _ _ _).and ((stands_below _).and ((stands_byt _ _).and (stands_blk _ _ _))))))
      have Sa3u0 : ∀ v, Sa3 v → Blk v (w.heap.size + 1) #[.int .i64 s, .int .i64 z, (.slice A k c), .slice none 0 0, .int .i64 0, .bool false] 45 ∧ Blk v w.heap.size #[.int .i64 0, .int .i64 0, .slice none 0 0, .slice none 0 0, .int .i64 0, .bool false] 45 ∧ v.ownsRow w.heap.size 9 1 (.slice A k c) k (fasts k f0) ∧ Below w.heap.size w v ∧ Byt v (.slice (some ⟨G, 0, none⟩) z z) (List.replicate z 0) ∧ Blk v G2 #[.string (str (List.replicate z 0))] 9 := fun v h => by rw [Sa3d] at h; exact h
      have Sa3m0 : ∀ v, (Blk v (w.heap.size + 1) #[.int .i64 s, .int .i64 z, (.slice A k c), .slice none 0 0, .int .i64 0, .bool false] 45 ∧ Blk v w.heap.size #[.int .i64 0, .int .i64 0, .slice none 0 0, .slice none 0 0, .int .i64 0, .bool false] 45 ∧ v.ownsRow w.heap.size 9 1 (.slice A k c) k (fasts k f0) ∧ Below w.heap.size w v ∧ Byt v (.slice (some ⟨G, 0, none⟩) z z) (List.replicate z 0) ∧ Blk v G2 #[.string (str (List.replicate z 0))] 9) → Sa3 v := fun v h => by rw [Sa3d]; exact h
      have Sa3u := Lib.hid Sa3u0
      have Sa3m := Lib.hid Sa3m0
      have Sa3t := Lib.hid Sa3t0
      clear Sa3d Sa3u0 Sa3m0 Sa3t0
      have st_ : Sa3 (w_.alloc (.cells #[.string (str (List.replicate z 0))] 9)) := Sa3m.out _ ⟨(stands_blk _ _ _) _ _ ((Below.refl _ w_).alloc (Nat.le_refl _) _) q0, (stands_blk _ _ _) _ _ ((Below.refl _ w_).alloc (Nat.le_refl _) _) q1, (stands_row _ _ _ _ _ _) _ _ ((Below.refl _ w_).alloc (Nat.le_refl _) _) q2, (stands_below _) _ _ ((Below.refl _ w_).alloc (Nat.le_refl _) _) q3, (stands_byt _ _) _ _ ((Below.refl _ w_).alloc (Nat.le_refl _) _) q4, Blk.new' w_ _ _ hG2⟩
      refine wpX_run (i := 5) (v := (.slice (some ⟨G2, 0, none⟩) 1 1)) (w' := (w_.alloc (.cells #[.string (str (List.replicate z 0))] 9))) Sa3 rfl rfl (by rfl) (by (subst hG2; go_simp)) Sa3t.out (.inr fun v h => Sa2m.out _ (by obtain ⟨q0, q1, q2, q3, q4, q5⟩ := Sa3u.out _ h; exact ⟨q0, q1, q2, q3, q4⟩)) st_ ?_
      clear hS st_ hG2 q0 q1 q2 q3 q4
      clear w_
      simp only [List.setIfInBounds_toArray, List.set_cons_zero, List.set_cons_succ]
      refine wpX_one (i := 6) (by kernel_rfl) (fun w_ hS => ?_)
      obtain ⟨q0, q1, q2, q3, q4, q5⟩ := Sa3u.out _ hS
      obtain ⟨fv2, w6, happ, ho6, hg6, hold⟩ := appSk q2 q3.size ⟨G2, 0, none⟩ 1 1 [.string (str (List.replicate z 0))] rfl (one_cell_at q5) (by intro u hu; simp at hu; subst hu; rfl) (by have := HKS.out; omega)
      obtain ⟨A2, c2, hfv2, -⟩ := row_form ho6
      subst hfv2
      have ht6 : Turn (Value.ownBlock (.slice A k c)).toList w_ w6 := (Turn.refl _ w_).grown hg6 (fun k e => .inl (by simp [e]))
      have hno : ∀ (x : Nat) (cs : Array Value), Blk w_ x cs 45 → x ∉ (Value.ownBlock (.slice A k c)).toList := fun x cs hx hx' => by
        obtain ⟨cs', e⟩ := row_kind q2 (g := x) (by simpa using hx')
        unfold Blk at hx
        rw [hx] at e; cases e
      have hlow := q3.trans (ht6.below q3.size (by intro j hj; exact (q2.lt j (by simpa using hj)).1))
      have hnew := ho6
      rw [← fasts_new HF0.out] at hnew
      obtain ⟨Sa4, Sa4d⟩ : ∃ S : World → Prop, S = fun v : World => Blk v (w.heap.size + 1) #[.int .i64 s, .int .i64 z, (.slice A k c), .slice none 0 0, .int .i64 0, .bool false] 45 ∧ Blk v w.heap.size #[.int .i64 0, .int .i64 0, .slice none 0 0, .slice none 0 0, .int .i64 0, .bool false] 45 ∧ v.ownsRow w.heap.size 9 1 (.slice A k c) k (fasts k f0) ∧ Below w.heap.size w v ∧ Byt v (.slice (some ⟨G, 0, none⟩) z z) (List.replicate z 0) ∧ Blk v G2 #[.string (str (List.replicate z 0))] 9 ∧ v.ownsRow w.heap.size 9 1 (.slice A2 (k + 1) c2) (k + 1) (fasts (k + 1) f0) := ⟨_, rfl⟩
      have Sa4t0 : Stands Sa4 := by rw [Sa4d]; exact ((stands_blk _ _ _).and ((stands_blk _ _ _).and ((stands_row _ _ _ _ _ _).and ((stands_below _).and ((stands_byt _ _).and ((stands_blk _ _ _).and (stands_row _ _ _ _ _ _)))))))
      have Sa4u0 : ∀ v, Sa4 v → Blk v (w.heap.size + 1) #[.int .i64 s, .int .i64 z, (.slice A k c), .slice none 0 0, .int .i64 0, .bool false] 45 ∧ Blk v w.heap.size #[.int .i64 0, .int .i64 0, .slice none 0 0, .slice none 0 0, .int .i64 0, .bool false] 45 ∧ v.ownsRow w.heap.size 9 1 (.slice A k c) k (fasts k f0) ∧ Below w.heap.size w v ∧ Byt v (.slice (some ⟨G, 0, none⟩) z z) (List.replicate z 0) ∧ Blk v G2 #[.string (str (List.replicate z 0))] 9 ∧ v.ownsRow w.heap.size 9 1 (.slice A2 (k + 1) c2) (k + 1) (fasts (k + 1) f0) := fun v h => by rw [Sa4d] at h; exact h
      have Sa4m0 : ∀ v, (Blk v (w.heap.size + 1) #[.int .i64 s, .int .i64 z, (.slice A k c), .slice none 0 0, .int .i64 0, .bool false] 45 ∧ Blk v w.heap.size #[.int .i64 0, .int .i64 0, .slice none 0 0, .slice none 0 0, .int .i64 0, .bool false] 45 ∧ v.ownsRow w.heap.size 9 1 (.slice A k c) k (fasts k f0) ∧ Below w.heap.size w v ∧ Byt v (.slice (some ⟨G, 0, none⟩) z z) (List.replicate z 0) ∧ Blk v G2 #[.string (str (List.replicate z 0))] 9 ∧ v.ownsRow w.heap.size 9 1 (.slice A2 (k + 1) c2) (k + 1) (fasts (k + 1) f0)) → Sa4 v := fun v h => by rw [Sa4d]; exact h
      have Sa4u := Lib.hid Sa4u0
      have Sa4m := Lib.hid Sa4m0
      have Sa4t := Lib.hid Sa4t0
      clear Sa4d Sa4u0 Sa4m0 Sa4t0
      have st_ : Sa4 w6 := Sa4m.out _ ⟨(ht6.block _ q0.lt (hno _ _ q0)).trans q0, (ht6.block _ q1.lt (hno _ _ q1)).trans q1, hold, hlow, q4.turn ht6 (fun j hj cs fz e => by obtain ⟨cs', e2⟩ := row_kind q2 (g := j) (by simpa using hj); rw [e2] at e; cases e), (ht6.block G2 q5.lt (fun hj => LG.out G2 (by simpa using hj) rfl)).trans q5, hnew⟩
      refine wpX_run (i := 6) (v := (.slice A2 (k + 1) c2)) (w' := w6) Sa4 rfl rfl (by rfl) (by exact exec_append (.tmp 16) (.tmp 20) 42 42 rfl rfl rfl happ) Sa4t.out (.inr fun v h => Sa3m.out _ (by obtain ⟨q0, q1, q2, q3, q4, q5, q6⟩ := Sa4u.out _ h; exact ⟨q0, q1, q2, q3, q4, q5⟩)) st_ ?_
      clear hS st_ happ ho6 hg6 hold ht6 hno hlow hnew q0 q1 q2 q3 q4 q5
      clear w_
      simp only [List.setIfInBounds_toArray, List.set_cons_zero, List.set_cons_succ]
      clear w6
      refine wpX_take (i := 7) (v := ?_) Sa4t.out rfl rfl (by kernel_rfl) (by kernel_rfl) (by kernel_rfl) (by kernel_rfl) (fun _ _ _ h => h) (SteadyX.value (by rfl) ?_) ?_
      rotate_left
      · (intro w_ hS; go_simp; try with_reducible rfl)
      simp only [List.setIfInBounds_toArray, List.set_cons_zero, List.set_cons_succ]
      refine wpX_one (i := 8) (by kernel_rfl) (fun w_ hS => ?_)
      obtain ⟨q0, q1, q2, q3, q4, q5, q6⟩ := Sa4u.out _ hS
      have q9 := q0.cell 2
      have q10 := q0.free 2
      obtain ⟨Sa5, Sa5d⟩ : ∃ S : World → Prop, S = fun v : World => Blk v (w.heap.size + 1) #[.int .i64 s, .int .i64 z, (.slice A2 (k + 1) c2), .slice none 0 0, .int .i64 0, .bool false] 45 ∧ Blk v w.heap.size #[.int .i64 0, .int .i64 0, .slice none 0 0, .slice none 0 0, .int .i64 0, .bool false] 45 ∧ v.ownsRow w.heap.size 9 1 (.slice A2 (k + 1) c2) (k + 1) (fasts (k + 1) f0) ∧ Below w.heap.size w v := ⟨_, rfl⟩
      have Sa5t0 : Stands Sa5 := by rw [Sa5d]; exact ((stands_blk _ _ _).and ((stands_blk _ _ _).and ((stands_row _ _ _ _ _ _).and (stands_below _))))
      have Sa5u0 : ∀ v, Sa5 v → Blk v (w.heap.size + 1) #[.int .i64 s, .int .i64 z, (.slice A2 (k + 1) c2), .slice none 0 0, .int .i64 0, .bool false] 45 ∧ Blk v w.heap.size #[.int .i64 0, .int .i64 0, .slice none 0 0, .slice none 0 0, .int .i64 0, .bool false] 45 ∧ v.ownsRow w.heap.size 9 1 (.slice A2 (k + 1) c2) (k + 1) (fasts (k + 1) f0) ∧ Below w.heap.size w v := fun v h => by rw [Sa5d] at h; exact h
      have Sa5m0 : ∀ v, (Blk v (w.heap.size + 1) #[.int .i64 s, .int .i64 z, (.slice A2 (k + 1) c2), .slice none 0 0, .int .i64 0, .bool false] 45 ∧ Blk v w.heap.size #[.int .i64 0, .int .i64 0, .slice none 0 0, .slice none 0 0, .int .i64 0, .bool false] 45 ∧ v.ownsRow w.heap.size 9 1 (.slice A2 (k + 1) c2) (k + 1) (fasts (k + 1) f0) ∧ Below w.heap.size w v) → Sa5 v := fun v h => by rw [Sa5d]; exact h
      have Sa5u := Lib.hid Sa5u0
      have Sa5m := Lib.hid Sa5m0
      have Sa5t := Lib.hid Sa5t0
      clear Sa5d Sa5u0 Sa5m0 Sa5t0
      have st_ : Sa5 (w_.setCell ⟨w.heap.size + 1, 2, none⟩ (.slice A2 (k + 1) c2)) := Sa5m.out _ ⟨(by have := q0.set 2 (.slice A2 (k + 1) c2); simpa using this), q1.other (a := ⟨w.heap.size + 1, 2, none⟩) (by show w.heap.size ≠ w.heap.size + 1; omega) (.slice A2 (k + 1) c2), row_turn q6 ((Turn.refl [w.heap.size + 1] w_).set (a := ⟨w.heap.size + 1, 2, none⟩) (.inl (by simp)) (.slice A2 (k + 1) c2)) (fun g hg hm => by simp at hm; obtain ⟨cs', e⟩ := row_kind q6 hg; have hb := q0; unfold Blk at hb; rw [hm, hb] at e; cases e), q3.setCell (p := ⟨w.heap.size + 1, 2, none⟩) (by show w.heap.size ≤ w.heap.size + 1; omega) (.slice A2 (k + 1) c2)⟩
      refine wpX_store (i := 8) (w' := (w_.setCell ⟨w.heap.size + 1, 2, none⟩ (.slice A2 (k + 1) c2))) Sa5 rfl rfl (by rfl) (by go_simp) Sa5t.out (.inl (by kernel_rfl)) st_ ?_
      clear hS st_ q9 q10 q0 q1 q2 q3 q4 q5 q6
      clear w_
      refine wpX_done (by kernel_rfl) (fun W hS => ?_) _
      obtain ⟨q0, q1, q2, q3⟩ := Sa5u.out _ hS
      clear hS Sa0u Sa0m Sa0t Sa1u Sa1m Sa1t Sa2u Sa2m Sa2t Sa3u Sa3m Sa3t Sa4u Sa4m Sa4t Sa5u Sa5m Sa5t
      clear Sa0 Sa1 Sa2 Sa3 Sa4 Sa5

      have HR := Lib.hid (And.intro q0 (And.intro q1 (And.intro q2 q3)))
      clear q0 q1 q2 q3
      go_wp2
      go_round
      case rel => exact ⟨k + 1, by omega, val_int (by simp), A2, c2, HR⟩
      case measure => simp only [intOf]; omega
    · have hke : k = s := by omega
      subst hke
      have r1 := B.out.1.six
      have r2 := B.out.2.1.six
      have hfin := set6 B.out.2.1 (.int .i64 k) (.int .i64 z) (.slice A k c) (.slice none 0 0) (.int .i64 0) (.bool false)
      have htn := lay6_turn wr w.heap.size (.int .i64 k) (.int .i64 z) (.slice A k c) (.slice none 0 0) (.int .i64 0) (.bool false)
      have HFI := Lib.hid (And.intro hfin htn)
      clear hfin htn
      go_wp2
      refine bodyPost_ret (v := RV (Dsk.new k z) (.slice A k c) (.slice none 0 0)) (results_cell6 rfl HFI.out.1 rfl) rfl ⟨_, rfl, ⟨?_, World.ownsRow_nil _ _ _ _⟩, ?_⟩
      · refine row_turn (row_base (Nat.zero_le _) (by rw [HFE.out] at B; exact B.out.2.2.1)) HFI.out.2 (fun g hg hm => ?_)
        simp at hm
        obtain ⟨cs', e⟩ := row_kind B.out.2.2.1 hg
        have hb := B.out.2.1
        unfold Blk at hb
        rw [hm, hb] at e; cases e
      · exact B.out.2.2.2.trans (HFI.out.2.below B.out.2.2.2.size (by simp))
end Go.Proofs.Ytapllljbbldfkaa
