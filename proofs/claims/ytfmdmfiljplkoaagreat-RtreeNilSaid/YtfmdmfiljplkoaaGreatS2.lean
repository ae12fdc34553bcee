/- Nodes of a tree of boxes: what stands in memory, what they are as bytes; load. Printed by mk_s2.py. -/
import Derived.Test.YtfmdmfiljplkoaaGreatS1
namespace Go.Proofs.YtfmdmfiljplkoaaGreat
open Go.RowKit Go.Maps
set_option maxRecDepth 8000
set_option linter.unusedSimpArgs false
/-- An entry: a box, and the row or page that is in it. -/
structure En where
  b : Geo.Rc
  of : Int
def I64 (x : Int) : Prop := -9223372036854775808 ≤ x ∧ x ≤ 9223372036854775807
structure En.Ok (e : En) : Prop where
  x0 : I64 e.b.x0
  y0 : I64 e.b.y0
  x1 : I64 e.b.x1
  y1 : I64 e.b.y1
  of : I64 e.of
def tyE (lv : Nat) : TypeId := if lv = 0 then 82 else 96
def cellsA (lv : Nat) (e : En) : Array Value := #[.int .i64 e.b.x0, .int .i64 e.b.y0, .int .i64 e.b.x1, .int .i64 e.b.y1, .iface (tyE lv) (.int .i64 e.of)]
def cellsE (lv : Nat) (es : List En) : List Value := es.flatMap fun e => (cellsA lv e).toList
def entL (e : En) : List Nat := lebZ e.b.x0 8 ++ lebZ e.b.y0 8 ++ lebZ e.b.x1 8 ++ lebZ e.b.y1 8 ++ lebZ e.of 8
def headN (lv n : Nat) : List Nat := [lv % 256, n % 256, n / 256 % 256]
def nodeL (lv : Nat) (es : List En) : List Nat := headN lv es.length ++ es.flatMap entL
def EntAt (w : World) (lv : Nat) (q : Addr) (e : En) : Prop := w.cell? q = some (.int .i64 e.b.x0) ∧ w.cell? ⟨q.block, q.off + 1, none⟩ = some (.int .i64 e.b.y0) ∧ w.cell? ⟨q.block, q.off + 2, none⟩ = some (.int .i64 e.b.x1) ∧ w.cell? ⟨q.block, q.off + 3, none⟩ = some (.int .i64 e.b.y1) ∧ w.cell? ⟨q.block, q.off + 4, none⟩ = some (.iface (tyE lv) (.int .i64 e.of))
/-- A node that can be read. -/
structure NodeIn (w : World) (p lv : Nat) (A : Option Addr) (c : Nat) (es : List En) : Prop where
  blk : Blk w p #[.int .i64 (lv : Nat), .slice A es.length c] 93
  ents : es ≠ [] → ∃ q, A = some q ∧ q.block < w.heap.size ∧ ∀ k (h : k < es.length), EntAt w lv (q.add (k * 5)) es[k]
theorem headN_cells (lv n : Nat) : cells (headN lv n) = [.int .u8 ((lv : Int) % 256), .int .u8 ((n : Int) % 256), .int .u8 ((n : Int) / 256 % 256)] := by simp [cells, headN]
theorem EntAt.low {w v : World} {lv : Nat} {q : Addr} {e : En} (h : EntAt w lv q e) (hb : Below w.heap.size w v) (hq : q.block < w.heap.size) : EntAt v lv q e := by
  have hc : ∀ a : Addr, a.block = q.block → v.cell? a = w.cell? a := fun a ha => World.cell?_of_block (hb.block _ (by rw [ha]; exact hq))
  obtain ⟨h0, h1, h2, h3, h4⟩ := h
  exact ⟨(hc q rfl).trans h0, by rw [← h1]; exact hc _ rfl, by rw [← h2]; exact hc _ rfl, by rw [← h3]; exact hc _ rfl, by rw [← h4]; exact hc _ rfl⟩
theorem NodeIn.low {w v : World} {p lv : Nat} {A : Option Addr} {c : Nat} {es : List En} (h : NodeIn w p lv A c es) (hb : Below w.heap.size w v) : NodeIn v p lv A c es :=
  ⟨h.blk.grew hb, fun hn => by
    obtain ⟨q, e, hq, hc⟩ := h.ents hn
    exact ⟨q, e, Nat.lt_of_lt_of_le hq hb.size, fun k hk => (hc k hk).low hb (by rw [add_block]; exact hq)⟩⟩
theorem lebZ_mod (x : Int) : lebZ (x % 18446744073709551616) 8 = lebZ x 8 := by
  unfold lebZ
  apply List.map_congr_left
  intro i hi
  have hi : i < 8 := List.mem_range.1 hi
  have hc : i = 0 ∨ i = 1 ∨ i = 2 ∨ i = 3 ∨ i = 4 ∨ i = 5 ∨ i = 6 ∨ i = 7 := by omega
  congr 1
  rcases hc with rfl | rfl | rfl | rfl | rfl | rfl | rfl | rfl <;> simp only [Nat.reduceMul, Int.reducePow] <;> omega
/-- The coordinates. -/
def coords (e : En) : List Int := [e.b.x0, e.b.y0, e.b.x1, e.b.y1]
def co (e : En) (m : Nat) : List Nat := ((coords e).take m).flatMap fun x => lebZ x 8
theorem co_length (e : En) (m : Nat) (h : m ≤ 4) : (co e m).length = 8 * m := by
  have hc : m = 0 ∨ m = 1 ∨ m = 2 ∨ m = 3 ∨ m = 4 := by omega
  rcases hc with rfl | rfl | rfl | rfl | rfl <;> simp [co, coords]
theorem entL_length (e : En) : (entL e).length = 40 := by simp [entL]
theorem ents_length (es : List En) : (es.flatMap entL).length = 40 * es.length := by
  induction es with
  | nil => rfl
  | cons e es ih => rw [List.flatMap_cons, List.length_append, entL_length, ih, List.length_cons]; omega
theorem ta_is (v : Value) (w : World) : (Instr.typeAssert (.iface 82 v) 20 82 true).run Tryz.prog w = .ok (.tuple #[v, .bool true]) w := by simp [Instr.typeAssert, run_underlying Tryz.underlying82, go_sem]
theorem ta_not (v : Value) (w : World) : (Instr.typeAssert (.iface 96 v) 20 82 true).run Tryz.prog w = .ok (.tuple #[.int .i64 0, .bool false]) w := by simp [Instr.typeAssert, run_underlying Tryz.underlying82, Tryz.zeroValue82, go_sem]
theorem ta_child (v : Value) (w : World) : (Instr.typeAssert (.iface 96 v) 20 96 false).run Tryz.prog w = .ok v w := by simp [Instr.typeAssert, run_underlying Tryz.underlying96, go_sem]
theorem ix4_0 (a b c d : Int) (w : World) : (Instr.index 261 (.agg #[.int .i64 a, .int .i64 b, .int .i64 c, .int .i64 d]) (.int .i64 0)).run Tryz.prog w = .ok (.int .i64 a) w := by kernel_rfl
theorem ix4_1 (a b c d : Int) (w : World) : (Instr.index 261 (.agg #[.int .i64 a, .int .i64 b, .int .i64 c, .int .i64 d]) (.int .i64 1)).run Tryz.prog w = .ok (.int .i64 b) w := by kernel_rfl
theorem ix4_2 (a b c d : Int) (w : World) : (Instr.index 261 (.agg #[.int .i64 a, .int .i64 b, .int .i64 c, .int .i64 d]) (.int .i64 2)).run Tryz.prog w = .ok (.int .i64 c) w := by kernel_rfl
theorem ix4_3 (a b c d : Int) (w : World) : (Instr.index 261 (.agg #[.int .i64 a, .int .i64 b, .int .i64 c, .int .i64 d]) (.int .i64 3)).run Tryz.prog w = .ok (.int .i64 d) w := by kernel_rfl
set_option maxHeartbeats 4000000 in
theorem nload_any {w : World} {p lv : Nat} {A : Option Addr} {c : Nat} {es : List En} (h : NodeIn w p lv A c es) (hlv : lv ≤ 1000) (hn : es.length ≤ 20000) :
    Calls Tryz.prog 153 #[.pointer (some ⟨p, 0, none⟩)] w fun e w' => ∃ A' c', e = .returned (.slice A' (nodeL lv es).length c') ∧ w'.ownsRow w.heap.size 5 1 (.slice A' (nodeL lv es).length c') (nodeL lv es).length (cells (nodeL lv es)) ∧ Below w.heap.size w w' := by
  have H := Lib.hid (Bxs.start w)
  have HN := Lib.hid h
  have hb0 := h.blk
  obtain ⟨n, hn0⟩ : ∃ n, n = es.length := ⟨_, rfl⟩
  have HNN := Lib.hid hn0
  rw [← hn0] at hb0 hn
  clear h hn0
  go_enter Tryz.func153, Tryz.ntmps153
  go_wp2_with fail
  obtain ⟨Sw0, Sw0d⟩ : ∃ S : World → Prop, S = fun v : World => Bxs w v [] [] ∧ Blk v p #[.int .i64 (lv : Nat), .slice A n c] 93 := ⟨_, rfl⟩
  have Sw0t0 : Stands Sw0 := by rw [Sw0d]; exact ((Bxs.stands _ _ _).and (stands_blk _ _ _))
  have Sw0u0 : ∀ v, Sw0 v → Bxs w v [] [] ∧ Blk v p #[.int .i64 (lv : Nat), .slice A n c] 93 := fun v h => by rw [Sw0d] at h; exact h
  have Sw0m0 : ∀ v, (Bxs w v [] [] ∧ Blk v p #[.int .i64 (lv : Nat), .slice A n c] 93) → Sw0 v := fun v h => by rw [Sw0d]; exact h
  have Sw0u := Lib.hid Sw0u0
  have Sw0m := Lib.hid Sw0m0
  have Sw0t := Lib.hid Sw0t0
  clear Sw0d Sw0u0 Sw0m0 Sw0t0
  refine wp_region_X (S := Sw0) (by kernel_rfl) (Sw0m.out _ ⟨H.out.drew, hb0⟩) ?_
  refine wpX_take (i := 0) (v := ?_) Sw0t.out rfl rfl (by kernel_rfl) (by kernel_rfl) (by kernel_rfl) (by kernel_rfl) (fun _ _ _ h => h) (SteadyX.value (by rfl) ?_) ?_
  rotate_left
  · (intro w_ hS; go_simp; try with_reducible rfl)
  simp only [List.setIfInBounds_toArray, List.set_cons_zero, List.set_cons_succ]
  refine wpX_take (i := 1) (v := ?_) Sw0t.out rfl rfl (by kernel_rfl) (by kernel_rfl) (by kernel_rfl) (by kernel_rfl) (fun _ _ _ h => h) (SteadyX.value (by rfl) ?_) ?_
  rotate_left
  · (intro w_ hS; obtain ⟨q0, q1⟩ := Sw0u.out _ hS; (clear q0); (have q1 := q1.two); go_simp; try with_reducible rfl)
  simp only [List.setIfInBounds_toArray, List.set_cons_zero, List.set_cons_succ]
  refine wpX_take (i := 2) (v := ?_) Sw0t.out rfl rfl (by kernel_rfl) (by kernel_rfl) (by kernel_rfl) (by kernel_rfl) (fun _ _ _ h => h) (SteadyX.value (by rfl) ?_) ?_
  rotate_left
  · (intro w_ hS; go_simp; try with_reducible rfl)
  simp only [List.setIfInBounds_toArray, List.set_cons_zero, List.set_cons_succ]
  refine wpX_take (i := 3) (v := ?_) Sw0t.out rfl rfl (by kernel_rfl) (by kernel_rfl) (by kernel_rfl) (by kernel_rfl) (fun _ _ _ h => h) (SteadyX.value (by rfl) ?_) ?_
  rotate_left
  · (intro w_ hS; obtain ⟨q0, q1⟩ := Sw0u.out _ hS; (clear q0); (have q1 := q1.two); go_simp; try with_reducible rfl)
  simp only [List.setIfInBounds_toArray, List.set_cons_zero, List.set_cons_succ]
  refine wpX_take (i := 4) (v := .int .u8 ((lv : Int) % 256)) Sw0t.out rfl rfl (by kernel_rfl) (by kernel_rfl) (by kernel_rfl) (by kernel_rfl) (fun _ _ _ h => h) (SteadyX.value (by rfl) (fun w_ hS => by obtain ⟨q0, q1⟩ := Sw0u.out _ hS; (have q1 := q1.two; go_simp; rw [IntKind.wrap_u8]))) ?_
  simp only [List.setIfInBounds_toArray, List.set_cons_zero, List.set_cons_succ]
  refine wpX_take (i := 5) (v := ?_) Sw0t.out rfl rfl (by kernel_rfl) (by kernel_rfl) (by kernel_rfl) (by kernel_rfl) (fun _ _ _ h => h) (SteadyX.value (by rfl) ?_) ?_
  rotate_left
  · (intro w_ hS; go_simp; try with_reducible rfl)
  simp only [List.setIfInBounds_toArray, List.set_cons_zero, List.set_cons_succ]
  refine wpX_take (i := 6) (v := ?_) Sw0t.out rfl rfl (by kernel_rfl) (by kernel_rfl) (by kernel_rfl) (by kernel_rfl) (fun _ _ _ h => h) (SteadyX.value (by rfl) ?_) ?_
  rotate_left
  · (intro w_ hS; obtain ⟨q0, q1⟩ := Sw0u.out _ hS; (clear q0); (have q1 := q1.two); go_simp; try with_reducible rfl)
  simp only [List.setIfInBounds_toArray, List.set_cons_zero, List.set_cons_succ]
  refine wpX_take (i := 7) (v := ?_) Sw0t.out rfl rfl (by kernel_rfl) (by kernel_rfl) (by kernel_rfl) (by kernel_rfl) (fun _ _ _ h => h) (SteadyX.value (by rfl) ?_) ?_
  rotate_left
  · (intro w_ hS; go_simp; try with_reducible rfl)
  simp only [List.setIfInBounds_toArray, List.set_cons_zero, List.set_cons_succ]
  refine wpX_take (i := 8) (v := ?_) Sw0t.out rfl rfl (by kernel_rfl) (by kernel_rfl) (by kernel_rfl) (by kernel_rfl) (fun _ _ _ h => h) (SteadyX.value (by rfl) ?_) ?_
  rotate_left
  · (intro w_ hS; obtain ⟨q0, q1⟩ := Sw0u.out _ hS; (clear q0); (have q1 := q1.two); go_simp; try with_reducible rfl)
  simp only [List.setIfInBounds_toArray, List.set_cons_zero, List.set_cons_succ]
  refine wpX_take (i := 9) (v := ?_) Sw0t.out rfl rfl (by kernel_rfl) (by kernel_rfl) (by kernel_rfl) (by kernel_rfl) (fun _ _ _ h => h) (SteadyX.value (by rfl) ?_) ?_
  rotate_left
  · (intro w_ hS; obtain ⟨q0, q1⟩ := Sw0u.out _ hS; (clear q0); (have q1 := q1.two); go_simp; try with_reducible rfl)
  simp only [List.setIfInBounds_toArray, List.set_cons_zero, List.set_cons_succ]
  refine wpX_take (i := 10) (v := .int .u8 ((n : Int) % 256)) Sw0t.out rfl rfl (by kernel_rfl) (by kernel_rfl) (by kernel_rfl) (by kernel_rfl) (fun _ _ _ h => h) (SteadyX.value (by rfl) (fun w_ hS => by obtain ⟨q0, q1⟩ := Sw0u.out _ hS; (have q1 := q1.two; go_simp; rw [IntKind.wrap_u8]))) ?_
  simp only [List.setIfInBounds_toArray, List.set_cons_zero, List.set_cons_succ]
  refine wpX_take (i := 11) (v := ?_) Sw0t.out rfl rfl (by kernel_rfl) (by kernel_rfl) (by kernel_rfl) (by kernel_rfl) (fun _ _ _ h => h) (SteadyX.value (by rfl) ?_) ?_
  rotate_left
  · (intro w_ hS; go_simp; try with_reducible rfl)
  simp only [List.setIfInBounds_toArray, List.set_cons_zero, List.set_cons_succ]
  refine wpX_take (i := 12) (v := ?_) Sw0t.out rfl rfl (by kernel_rfl) (by kernel_rfl) (by kernel_rfl) (by kernel_rfl) (fun _ _ _ h => h) (SteadyX.value (by rfl) ?_) ?_
  rotate_left
  · (intro w_ hS; obtain ⟨q0, q1⟩ := Sw0u.out _ hS; (clear q0); (have q1 := q1.two); go_simp; try with_reducible rfl)
  simp only [List.setIfInBounds_toArray, List.set_cons_zero, List.set_cons_succ]
  refine wpX_take (i := 13) (v := ?_) Sw0t.out rfl rfl (by kernel_rfl) (by kernel_rfl) (by kernel_rfl) (by kernel_rfl) (fun _ _ _ h => h) (SteadyX.value (by rfl) ?_) ?_
  rotate_left
  · (intro w_ hS; go_simp; try with_reducible rfl)
  simp only [List.setIfInBounds_toArray, List.set_cons_zero, List.set_cons_succ]
  refine wpX_take (i := 14) (v := ?_) Sw0t.out rfl rfl (by kernel_rfl) (by kernel_rfl) (by kernel_rfl) (by kernel_rfl) (fun _ _ _ h => h) (SteadyX.value (by rfl) ?_) ?_
  rotate_left
  · (intro w_ hS; obtain ⟨q0, q1⟩ := Sw0u.out _ hS; (clear q0); (have q1 := q1.two); go_simp; try with_reducible rfl)
  simp only [List.setIfInBounds_toArray, List.set_cons_zero, List.set_cons_succ]
  refine wpX_take (i := 15) (v := ?_) Sw0t.out rfl rfl (by kernel_rfl) (by kernel_rfl) (by kernel_rfl) (by kernel_rfl) (fun _ _ _ h => h) (SteadyX.value (by rfl) ?_) ?_
  rotate_left
  · (intro w_ hS; obtain ⟨q0, q1⟩ := Sw0u.out _ hS; (clear q0); (have q1 := q1.two); go_simp; try with_reducible rfl)
  simp only [List.setIfInBounds_toArray, List.set_cons_zero, List.set_cons_succ]
  refine wpX_take (i := 16) (v := ?_) Sw0t.out rfl rfl (by kernel_rfl) (by kernel_rfl) (by kernel_rfl) (by kernel_rfl) (fun _ _ _ h => h) (SteadyX.value (by rfl) ?_) ?_
  rotate_left
  · (intro w_ hS; go_simp; try with_reducible rfl)
  simp only [List.setIfInBounds_toArray, List.set_cons_zero, List.set_cons_succ]
  refine wpX_take (i := 17) (v := .int .u8 ((n : Int) / 256 % 256)) Sw0t.out rfl rfl (by kernel_rfl) (by kernel_rfl) (by kernel_rfl) (by kernel_rfl) (fun _ _ _ h => h) (SteadyX.value (by rfl) (fun w_ hS => by obtain ⟨q0, q1⟩ := Sw0u.out _ hS; (have q1 := q1.two; go_simp; rw [IntKind.wrap_u8]))) ?_
  simp only [List.setIfInBounds_toArray, List.set_cons_zero, List.set_cons_succ]
  refine wpX_one (i := 18) (by kernel_rfl) (fun w_ hS => ?_)
  obtain ⟨q0, q1⟩ := Sw0u.out _ hS
  obtain ⟨G, hG⟩ : ∃ G, G = w_.heap.size := ⟨_, rfl⟩
  have hb1 := (Below.refl w_.heap.size w_).alloc (Nat.le_refl _) (.cells #[.int .u8 ((lv : Int) % 256), .int .u8 ((n : Int) % 256), .int .u8 ((n : Int) / 256 % 256)] 5)
  have qr : Bxs w (w_.alloc (.cells #[.int .u8 ((lv : Int) % 256), .int .u8 ((n : Int) % 256), .int .u8 ((n : Int) / 256 % 256)] 5)) [] [⟨5, 1, .slice (some ⟨G, 0, none⟩) 3 3, 3, cells (headN lv n)⟩] := by
    rw [hG, headN_cells]
    exact q0.own hb1 (World.ownsRow_lit w_ #[.int .u8 ((lv : Int) % 256), .int .u8 ((n : Int) % 256), .int .u8 ((n : Int) / 256 % 256)] 3 (Nat.le_refl _) (by simp [maxLen]) rfl)
  obtain ⟨Sw1, Sw1d⟩ : ∃ S : World → Prop, S = fun v : World => Bxs w v [] [] ∧ Blk v p #[.int .i64 (lv : Nat), .slice A n c] 93 ∧ Bxs w v [] [⟨5, 1, .slice (some ⟨G, 0, none⟩) 3 3, 3, cells (headN lv n)⟩] := ⟨_, rfl⟩
  have Sw1t0 : Stands Sw1 := by rw [Sw1d]; exact ((Bxs.stands _ _ _).and ((stands_blk _ _ _).and (Bxs.stands _ _ _)))
  have Sw1u0 : ∀ v, Sw1 v → Bxs w v [] [] ∧ Blk v p #[.int .i64 (lv : Nat), .slice A n c] 93 ∧ Bxs w v [] [⟨5, 1, .slice (some ⟨G, 0, none⟩) 3 3, 3, cells (headN lv n)⟩] := fun v h => by rw [Sw1d] at h; exact h
  have Sw1m0 : ∀ v, (Bxs w v [] [] ∧ Blk v p #[.int .i64 (lv : Nat), .slice A n c] 93 ∧ Bxs w v [] [⟨5, 1, .slice (some ⟨G, 0, none⟩) 3 3, 3, cells (headN lv n)⟩]) → Sw1 v := fun v h => by rw [Sw1d]; exact h
  have Sw1u := Lib.hid Sw1u0
  have Sw1m := Lib.hid Sw1m0
  have Sw1t := Lib.hid Sw1t0
  clear Sw1d Sw1u0 Sw1m0 Sw1t0
  have st_ : Sw1 (w_.alloc (.cells #[.int .u8 ((lv : Int) % 256), .int .u8 ((n : Int) % 256), .int .u8 ((n : Int) / 256 % 256)] 5)) := Sw1m.out _ ⟨q0.grew hb1, q1.grew hb1, qr⟩
  refine wpX_run (i := 18) (v := .slice (some ⟨G, 0, none⟩) 3 3) (w' := (w_.alloc (.cells #[.int .u8 ((lv : Int) % 256), .int .u8 ((n : Int) % 256), .int .u8 ((n : Int) / 256 % 256)] 5))) Sw1 rfl rfl (by rfl) (by subst hG; exact exec_lit rfl (ps := #[(0, .int .u8 ((lv : Int) % 256)), (1, .int .u8 ((n : Int) % 256)), (2, .int .u8 ((n : Int) / 256 % 256))]) (by simp [Act.eval]) (run_lit3 _ _ _ _)) Sw1t.out (.inr fun v h => Sw0m.out _ (by obtain ⟨q0, q1, q2⟩ := Sw1u.out _ h; exact ⟨q0, q1⟩)) st_ ?_
  clear hS st_ hG hb1 qr q0 q1
  clear w_
  simp only [List.setIfInBounds_toArray, List.set_cons_zero, List.set_cons_succ]
  refine wpX_take (i := 19) (v := ?_) Sw1t.out rfl rfl (by kernel_rfl) (by kernel_rfl) (by kernel_rfl) (by kernel_rfl) (fun _ _ _ h => h) (SteadyX.value (by rfl) ?_) ?_
  rotate_left
  · (intro w_ hS; go_simp; try with_reducible rfl)
  simp only [List.setIfInBounds_toArray, List.set_cons_zero, List.set_cons_succ]
  refine wpX_done (by kernel_rfl) (fun W hS => ?_) _
  obtain ⟨q0, q1, q2⟩ := Sw1u.out _ hS
  clear hS Sw0u Sw0m Sw0t Sw1u Sw1m Sw1t
  clear Sw0 Sw1
  have H2 := Lib.hid q2; clear H q0 q1 q2; have H := H2; clear H2
  have hb0 := (HN.out.low H.out.low).blk
  rw [← HNN.out] at hb0
  have hc0 := hb0.cell 1
  simp only [List.getElem?_toArray, List.getElem?_cons_succ, List.getElem?_cons_zero] at hc0
  clear hb0
  have HLV := Lib.hid hlv
  obtain ⟨hd, hhd⟩ : ∃ hd, hd = headN lv n := ⟨_, rfl⟩
  have HHD := Lib.hid hhd
  rw [← hhd] at H
  have hl3 : hd.length = 3 := by rw [hhd]; rfl
  have HL3 := Lib.hid hl3
  clear hhd hl3 hlv
  go_wp2_with fail
  clear hc0
  go_loopw [3, 34] (fun x i wr => ∃ (k : Nat) (l : List Nat) (A' : Option Addr) (c' : Nat), k ≤ n ∧ i = .int .i64 k ∧ x = .slice A' l.length c' ∧ l = hd ++ (es.take k).flatMap entL ∧ Hid (Bxs w wr [] [⟨5, 1, .slice A' l.length c', l.length, cells l⟩])) (fun _ i _ => n - (intOf i).toNat)
  case atStart => exact ⟨0, hd, _, _, by omega, rfl, by rw [HL3.out], by simp, Lib.hid (by rw [HL3.out]; exact H.out)⟩
  case round =>
    clear H
    obtain ⟨k, l, A', c', hk, rfl, rfl, hl, H⟩ := hrel
    have HLL := Lib.hid hl
    have hll : l.length = 3 + 40 * k := by
      rw [hl, List.length_append, HL3.out, ents_length, List.length_take, ← HNN.out]
      omega
    have HLEN := Lib.hid hll
    clear hl hll
    by_cases hlt : k < n
    · have hlt' : (k : Int) < n := by omega
      have hkl : k < es.length := by rw [← HNN.out]; exact hlt
      obtain ⟨q, rfl, hqb, hqc⟩ := (HN.out.low H.out.low).ents (by intro e; rw [e] at hkl; simp at hkl)
      obtain ⟨c0, c1, c2, c3, c4⟩ := hqc k hkl
      obtain ⟨e, he⟩ : ∃ e, e = es[k] := ⟨_, rfl⟩
      rw [← he] at c0 c1 c2 c3 c4
      have HE := Lib.hid he
      clear hqc hqb he
      go_wp2_with (rw [wpl_id]; first
        | (refine wpl_new H _ rfl (by first | exact .inl rfl | exact .inr ⟨_, _, _, _, rfl, rfl, rfl, rfl⟩) Tryz.zeroValue84 rfl (fun be w' H2 => ?_); simp only [Value.cells] at H2; clear H; have H := H2; clear H2)
        | (refine wpl_sta H 0 rfl rfl _ _ _ rfl (by first | exact .inl rfl | exact .inr ⟨_, _, _, _, rfl, rfl, rfl, rfl⟩) (by exact rfl) (by exact rfl) Tryz.sizeOf84 (by kernel_rfl) (by kernel_rfl) (by kernel_rfl) (splice_whole (n := 5) (by kernel_rfl) (by kernel_rfl)) (fun w' H2 => ?_); simp only [List.set_cons_succ, List.set_cons_zero] at H2; clear H; have H := H2; clear H2)
        | (refine wpl_ld H 0 rfl _ _ rfl (by first | exact .inl rfl | exact .inr ⟨_, _, _, _, rfl, rfl, rfl, rfl⟩) (by exact rfl) Tryz.isAgg2 rfl ?_))
      clear c0 c1 c2 c3 c4
      go_loopw [3, 51] (fun x i wr => ∃ (m : Nat) (l2 : List Nat) (A2 : Option Addr) (c2 : Nat), m ≤ 4 ∧ i = .int .i64 m ∧ x = .slice A2 l2.length c2 ∧ l2 = l ++ co e m ∧ Hid (Bxs w wr [⟨be, cellsA lv e, 84⟩] [⟨5, 1, .slice A2 l2.length c2, l2.length, cells l2⟩])) (fun _ i _ => 4 - (intOf i).toNat)
      case atStart => exact ⟨0, l, _, _, by omega, rfl, rfl, by simp [co], H⟩
      case round =>
        clear H
        obtain ⟨m, l2, A2, c2, hm, rfl, rfl, hl2, H⟩ := hrel
        have hl2l : l2.length = l.length + 8 * m := by rw [hl2, List.length_append, co_length e m hm]
        have HL2 := Lib.hid hl2
        have HL2L := Lib.hid hl2l
        clear hl2 hl2l
        have hmc : m = 0 ∨ m = 1 ∨ m = 2 ∨ m = 3 ∨ m = 4 := by omega
        rcases hmc with rfl | rfl | rfl | rfl | rfl
        · have X0 := ix4_0 e.b.x0 e.b.y0 e.b.x1 e.b.y1
          go_wp2_with fail
          clear X0
          refine (radd_B H.out _ (by have := HL2L.out; have := HLEN.out; omega)).mono ?_
          rintro e2 w3 ⟨A3, c3, rfl, hb3⟩
          rw [IntKind.wrap_u64, lebZ_mod] at hb3 ⊢
          obtain ⟨l3, hl3⟩ : ∃ l3, l3 = l2 ++ lebZ e.b.x0 8 := ⟨_, rfl⟩
          rw [← hl3] at hb3 ⊢
          have H2 := Lib.hid hb3
          have HL3' := Lib.hid hl3
          clear hb3 hl3
          go_wp2
          go_roundw
          case rel => exact ⟨0 + 1, l3, A3, c3, by omega, by go_num, rfl, by rw [HL3'.out, HL2.out, List.append_assoc]; congr 1, H2⟩
          case measure => simp [intOf]
        · have X1 := ix4_1 e.b.x0 e.b.y0 e.b.x1 e.b.y1
          go_wp2_with fail
          clear X1
          refine (radd_B H.out _ (by have := HL2L.out; have := HLEN.out; omega)).mono ?_
          rintro e2 w3 ⟨A3, c3, rfl, hb3⟩
          rw [IntKind.wrap_u64, lebZ_mod] at hb3 ⊢
          obtain ⟨l3, hl3⟩ : ∃ l3, l3 = l2 ++ lebZ e.b.y0 8 := ⟨_, rfl⟩
          rw [← hl3] at hb3 ⊢
          have H2 := Lib.hid hb3
          have HL3' := Lib.hid hl3
          clear hb3 hl3
          go_wp2
          go_roundw
          case rel => exact ⟨1 + 1, l3, A3, c3, by omega, by go_num, rfl, by rw [HL3'.out, HL2.out, List.append_assoc]; congr 1, H2⟩
          case measure => simp [intOf]
        · have X2 := ix4_2 e.b.x0 e.b.y0 e.b.x1 e.b.y1
          go_wp2_with fail
          clear X2
          refine (radd_B H.out _ (by have := HL2L.out; have := HLEN.out; omega)).mono ?_
          rintro e2 w3 ⟨A3, c3, rfl, hb3⟩
          rw [IntKind.wrap_u64, lebZ_mod] at hb3 ⊢
          obtain ⟨l3, hl3⟩ : ∃ l3, l3 = l2 ++ lebZ e.b.x1 8 := ⟨_, rfl⟩
          rw [← hl3] at hb3 ⊢
          have H2 := Lib.hid hb3
          have HL3' := Lib.hid hl3
          clear hb3 hl3
          go_wp2
          go_roundw
          case rel => exact ⟨2 + 1, l3, A3, c3, by omega, by go_num, rfl, by rw [HL3'.out, HL2.out, List.append_assoc]; congr 1, H2⟩
          case measure => simp [intOf]
        · have X3 := ix4_3 e.b.x0 e.b.y0 e.b.x1 e.b.y1
          go_wp2_with fail
          clear X3
          refine (radd_B H.out _ (by have := HL2L.out; have := HLEN.out; omega)).mono ?_
          rintro e2 w3 ⟨A3, c3, rfl, hb3⟩
          rw [IntKind.wrap_u64, lebZ_mod] at hb3 ⊢
          obtain ⟨l3, hl3⟩ : ∃ l3, l3 = l2 ++ lebZ e.b.y1 8 := ⟨_, rfl⟩
          rw [← hl3] at hb3 ⊢
          have H2 := Lib.hid hb3
          have HL3' := Lib.hid hl3
          clear hb3 hl3
          go_wp2
          go_roundw
          case rel => exact ⟨3 + 1, l3, A3, c3, by omega, by go_num, rfl, by rw [HL3'.out, HL2.out, List.append_assoc]; congr 1, H2⟩
          case measure => simp [intOf]
        · by_cases h0 : lv = 0
          · have hty : tyE lv = 82 := by unfold tyE; simp [h0]
            have H2 := Lib.hid (show Bxs w wr [⟨be, #[.int .i64 e.b.x0, .int .i64 e.b.y0, .int .i64 e.b.x1, .int .i64 e.b.y1, .iface 82 (.int .i64 e.of)], 84⟩] [⟨5, 1, .slice A2 l2.length c2, l2.length, cells l2⟩] by have h := H.out; unfold cellsA at h; rw [hty] at h; exact h)
            clear H hty h0
            have H := H2
            clear H2
            have Y1 := ta_is (.int .i64 e.of)
            have Y2 := ta_not (.int .i64 e.of)
            have Y3 := ta_child (.int .i64 e.of)
            go_wp2_with (rw [wpl_id]; first
              | (refine wpl_ld H 0 rfl _ _ rfl (by first | exact .inl rfl | exact .inr ⟨_, _, _, _, rfl, rfl, rfl, rfl⟩) (by exact rfl) Tryz.isAgg20 rfl ?_))
            clear Y1 Y2 Y3
            refine (radd_B H.out _ (by have := HL2L.out; have := HLEN.out; omega)).mono ?_
            rintro e2 w3 ⟨A3, c3, rfl, hb3⟩
            rw [IntKind.wrap_u64, lebZ_mod] at hb3 ⊢
            obtain ⟨l3, hl3⟩ : ∃ l3, l3 = l2 ++ lebZ e.of 8 := ⟨_, rfl⟩
            rw [← hl3] at hb3 ⊢
            have H2 := Lib.hid (hb3.sub (List.Sublist.cons _ (List.Sublist.refl _)) (List.Sublist.refl _))
            have HL3' := Lib.hid hl3
            clear hb3 hl3
            go_wp2
            go_roundw
            case rel =>
              refine ⟨k + 1, l3, A3, c3, by omega, by go_num, rfl, ?_, H2⟩
              rw [HL3'.out, HL2.out, HLL.out, List.take_add_one, List.getElem?_eq_getElem hkl, Option.toList_some, List.flatMap_append, ← HE.out]
              simp [co, coords, entL, List.append_assoc]
            case measure => simp [intOf]; omega
          · have hty : tyE lv = 96 := by unfold tyE; simp [h0]
            have H2 := Lib.hid (show Bxs w wr [⟨be, #[.int .i64 e.b.x0, .int .i64 e.b.y0, .int .i64 e.b.x1, .int .i64 e.b.y1, .iface 96 (.int .i64 e.of)], 84⟩] [⟨5, 1, .slice A2 l2.length c2, l2.length, cells l2⟩] by have h := H.out; unfold cellsA at h; rw [hty] at h; exact h)
            clear H hty h0
            have H := H2
            clear H2
            have Y1 := ta_is (.int .i64 e.of)
            have Y2 := ta_not (.int .i64 e.of)
            have Y3 := ta_child (.int .i64 e.of)
            go_wp2_with (rw [wpl_id]; first
              | (refine wpl_ld H 0 rfl _ _ rfl (by first | exact .inl rfl | exact .inr ⟨_, _, _, _, rfl, rfl, rfl, rfl⟩) (by exact rfl) Tryz.isAgg20 rfl ?_))
            clear Y1 Y2 Y3
            refine (radd_B H.out _ (by have := HL2L.out; have := HLEN.out; omega)).mono ?_
            rintro e2 w3 ⟨A3, c3, rfl, hb3⟩
            rw [IntKind.wrap_u64, lebZ_mod] at hb3 ⊢
            obtain ⟨l3, hl3⟩ : ∃ l3, l3 = l2 ++ lebZ e.of 8 := ⟨_, rfl⟩
            rw [← hl3] at hb3 ⊢
            have H2 := Lib.hid (hb3.sub (List.Sublist.cons _ (List.Sublist.refl _)) (List.Sublist.refl _))
            have HL3' := Lib.hid hl3
            clear hb3 hl3
            go_wp2
            go_roundw
            case rel =>
              refine ⟨k + 1, l3, A3, c3, by omega, by go_num, rfl, ?_, H2⟩
              rw [HL3'.out, HL2.out, HLL.out, List.take_add_one, List.getElem?_eq_getElem hkl, Option.toList_some, List.flatMap_append, ← HE.out]
              simp [co, coords, entL, List.append_assoc]
            case measure => simp [intOf]; omega
    · obtain rfl : k = n := by omega
      have hnt : ¬ (k : Int) < k := by omega
      go_wp2_with fail
      go_ret
      have e : l = nodeL lv es := by
        rw [HLL.out, HHD.out, HNN.out, List.take_length]
        rfl
      refine ⟨A', c', by rw [e]; rfl, ?_, H.out.low⟩
      rw [← e]
      exact H.out.row_ (i := 0) rfl
end Go.Proofs.YtfmdmfiljplkoaaGreat
