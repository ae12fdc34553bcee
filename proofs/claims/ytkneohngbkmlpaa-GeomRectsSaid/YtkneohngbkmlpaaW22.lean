/- Walks: square, Distance, low, high, MayRect, Holds. -/
import Derived.Test.YtkneohngbkmlpaaHeld
import Derived.Test.YtkneohngbkmlpaaW15
namespace Go.Proofs.Ytkneohngbkmlpaa
open Go.RowKit

theorem square_any (n : Int) (h1 : -3600000000 ≤ n) (h2 : n ≤ 3600000000) (w : World) :
    Calls Try.prog 53 #[.int .i64 n] w fun e w' => e = .returned (.int .u64 (n * n)) ∧ w = w' := by
  have hb := mul_bd (x := n) (y := n) (m := 3600000000) (n := 3600000000) h1 h2 h1 h2
  have h0 : 0 ≤ n * n := by
    rcases Int.le_total 0 n with h | h
    · exact Int.mul_nonneg h h
    · exact Int.mul_nonneg_of_nonpos_of_nonpos h h
  have f : IntKind.u64.wrap (IntKind.u64.wrap n * IntKind.u64.wrap n) = n * n := by
    rw [IntKind.wrap_u64, IntKind.wrap_u64, ← Int.mul_emod]
    exact Int.emod_eq_of_lt h0 (by omega)
  have F := Lib.hid f
  clear f hb h0 h1 h2
  go_enter Try.func53, Try.ntmps53
  go_wp2
  go_ret
  exact ⟨ret_int F.out, rfl⟩

theorem pts2 {w : World} {b : Nat} {x0 y0 x1 y1 : Int} (h : Blk w b #[.int .i64 x0, .int .i64 y0, .int .i64 x1, .int .i64 y1] 24) : Pts w w.heap.size (some ⟨b, 0, none⟩) [⟨x0, y0⟩, ⟨x1, y1⟩] := by
  refine fun _ => ⟨⟨b, 0, none⟩, rfl, h.lt, fun k hk => ?_⟩
  have c := h.four
  match k, hk with
  | 0, _ => exact ⟨c.1, c.2.1⟩
  | 1, _ => exact ⟨c.2.2.1, c.2.2.2.1⟩

theorem all2 (x0 y0 x1 y1 : Int) (w0 : World) : ∀ b, b = w0.heap.size →
    Calls Try.prog 39 #[.slice (some ⟨b, 0, none⟩) 2 2] (w0.alloc (.cells #[.int .i64 x0, .int .i64 y0, .int .i64 x1, .int .i64 y1] 24)) fun e w' => e = .returned (.bool (decide (May ⟨x0, y0⟩ ∧ May ⟨x1, y1⟩))) ∧ Below w0.heap.size w0 w' := by
  intro b hb
  have h := all_any (some ⟨b, 0, none⟩) [⟨x0, y0⟩, ⟨x1, y1⟩] 2 2 (w0.alloc (.cells #[.int .i64 x0, .int .i64 y0, .int .i64 x1, .int .i64 y1] 24)) rfl (pts2 (Blk.new' w0 _ 24 hb)) (by decide)
  have e : decide (∀ p ∈ [(⟨x0, y0⟩ : Pt), ⟨x1, y1⟩], May p) = decide (May ⟨x0, y0⟩ ∧ May ⟨x1, y1⟩) := by
    rw [decide_eq_decide]; simp
  rw [e] at h
  exact h.mono fun e w' ⟨h1, h2⟩ => ⟨h1, grow (grow_alloc (Below.refl _ w0) _) h2⟩

def distZ (a b : Pt) : Int := (a.x - b.x) * (a.x - b.x) + (a.y - b.y) * (a.y - b.y)
def DistF (a b : Pt) : Int := if May a ∧ May b then distZ a b else 0

set_option maxHeartbeats 2000000 in
theorem Dist_road (ax ay bx byy X Y Z DX DY : Int) (m : Bool)
    (k1 : ∀ w0 : World, ∀ b, b = w0.heap.size → Calls Try.prog 39 #[.slice (some ⟨b, 0, none⟩) 2 2] (w0.alloc (.cells #[.int .i64 ax, .int .i64 ay, .int .i64 bx, .int .i64 byy] 24)) fun e w' => e = .returned (.bool m) ∧ Below w0.heap.size w0 w')
    (d1 : IntKind.i64.wrap (ax - bx) = DX) (d2 : IntKind.i64.wrap (ay - byy) = DY) (d3 : m = true → IntKind.u64.wrap (X + Y) = Z)
    (k2 : m = true → ∀ w, Calls Try.prog 53 #[.int .i64 DX] w fun e w' => e = .returned (.int .u64 X) ∧ Below w.heap.size w w')
    (k3 : m = true → ∀ w, Calls Try.prog 53 #[.int .i64 DY] w fun e w' => e = .returned (.int .u64 Y) ∧ Below w.heap.size w w') (w : World) :
    Calls Try.prog 30 #[.agg #[.int .i64 ax, .int .i64 ay], .agg #[.int .i64 bx, .int .i64 byy]] w fun e w' => e = .returned (.int .u64 (if m then Z else 0)) ∧ Below w.heap.size w w' := by
  have keep : ∀ a b : World, Below a.heap.size a b → (fun v : World => v.cell? ⟨w.heap.size, 0, none⟩ = some (.int .i64 ax) ∧ v.cell? ⟨w.heap.size, 1, none⟩ = some (.int .i64 ay) ∧ v.cell? ⟨w.heap.size + 1, 0, none⟩ = some (.int .i64 bx) ∧ v.cell? ⟨w.heap.size + 1, 1, none⟩ = some (.int .i64 byy) ∧ Below w.heap.size w v) a → (fun v : World => v.cell? ⟨w.heap.size, 0, none⟩ = some (.int .i64 ax) ∧ v.cell? ⟨w.heap.size, 1, none⟩ = some (.int .i64 ay) ∧ v.cell? ⟨w.heap.size + 1, 0, none⟩ = some (.int .i64 bx) ∧ v.cell? ⟨w.heap.size + 1, 1, none⟩ = some (.int .i64 byy) ∧ Below w.heap.size w v) b := fun a b hb ⟨h0, h1, h2, h3, h4⟩ => ⟨cell_grew h0 hb, cell_grew h1 hb, cell_grew h2 hb, cell_grew h3 hb, grow h4 hb⟩
  have KS := Lib.hid keep
  have drew : ∀ a : World, (fun v : World => v.cell? ⟨w.heap.size, 0, none⟩ = some (.int .i64 ax) ∧ v.cell? ⟨w.heap.size, 1, none⟩ = some (.int .i64 ay) ∧ v.cell? ⟨w.heap.size + 1, 0, none⟩ = some (.int .i64 bx) ∧ v.cell? ⟨w.heap.size + 1, 1, none⟩ = some (.int .i64 byy) ∧ Below w.heap.size w v) a → (fun v : World => v.cell? ⟨w.heap.size, 0, none⟩ = some (.int .i64 ax) ∧ v.cell? ⟨w.heap.size, 1, none⟩ = some (.int .i64 ay) ∧ v.cell? ⟨w.heap.size + 1, 0, none⟩ = some (.int .i64 bx) ∧ v.cell? ⟨w.heap.size + 1, 1, none⟩ = some (.int .i64 byy) ∧ Below w.heap.size w v) a.drew := fun a ⟨h0, h1, h2, h3, h4⟩ => ⟨h0, h1, h2, h3, h4.drew⟩
  have HD := Lib.hid drew
  have alc : ∀ (a : World) (o : Obj), (fun v : World => v.cell? ⟨w.heap.size, 0, none⟩ = some (.int .i64 ax) ∧ v.cell? ⟨w.heap.size, 1, none⟩ = some (.int .i64 ay) ∧ v.cell? ⟨w.heap.size + 1, 0, none⟩ = some (.int .i64 bx) ∧ v.cell? ⟨w.heap.size + 1, 1, none⟩ = some (.int .i64 byy) ∧ Below w.heap.size w v) a → (fun v : World => v.cell? ⟨w.heap.size, 0, none⟩ = some (.int .i64 ax) ∧ v.cell? ⟨w.heap.size, 1, none⟩ = some (.int .i64 ay) ∧ v.cell? ⟨w.heap.size + 1, 0, none⟩ = some (.int .i64 bx) ∧ v.cell? ⟨w.heap.size + 1, 1, none⟩ = some (.int .i64 byy) ∧ Below w.heap.size w v) (a.alloc o) := fun a o h => keep _ _ ((Below.refl _ a).alloc (Nat.le_refl _) o) h
  have HA := Lib.hid alc
  clear keep drew alc
  obtain ⟨w0, hw0, p0, p1, g0, z0⟩ := boxes2 w #[.int .i64 ax, .int .i64 ay] #[.int .i64 bx, .int .i64 byy] 24 24
  have hS0 : (fun v : World => v.cell? ⟨w.heap.size, 0, none⟩ = some (.int .i64 ax) ∧ v.cell? ⟨w.heap.size, 1, none⟩ = some (.int .i64 ay) ∧ v.cell? ⟨w.heap.size + 1, 0, none⟩ = some (.int .i64 bx) ∧ v.cell? ⟨w.heap.size + 1, 1, none⟩ = some (.int .i64 byy) ∧ Below w.heap.size w v) w0 := ⟨p0.two.1, p0.two.2.1, p1.two.1, p1.two.2.1, g0⟩
  clear p0 p1 z0 g0
  have K1 := Lib.hid k1
  have K2 := Lib.hid k2
  have K3 := Lib.hid k3
  have D3 := Lib.hid d3
  clear k1 k2 k3 d3
  cases m
  · go_enter Try.func30, Try.ntmps30
    obtain ⟨c0, c1, c2, c3, c4⟩ := id hS0
    have CB := Lib.hid c4
    clear c4
    go_wp2_with fail
    (try clear hw0)
    refine (K1.out _ _ rfl).mono ?_
    rintro e w1 ⟨rfl, hb⟩
    have hS1 := KS.out _ _ hb hS0
    clear c0 c1 c2 c3 CB
    clear hb hS0
    obtain ⟨c0, c1, c2, c3, c4⟩ := id hS1
    have CB := Lib.hid c4
    clear c4
    go_wp2
    go_ret
    exact ⟨rfl, CB.out⟩
  · have K2' := Lib.hid (K2.out rfl)
    have K3' := Lib.hid (K3.out rfl)
    have d4 := D3.out rfl
    clear K2 K3 D3
    go_enter Try.func30, Try.ntmps30
    obtain ⟨c0, c1, c2, c3, c4⟩ := id hS0
    have CB := Lib.hid c4
    clear c4
    go_wp2_with fail
    (try clear hw0)
    refine (K1.out _ _ rfl).mono ?_
    rintro e w1 ⟨rfl, hb⟩
    have hS1 := KS.out _ _ hb hS0
    clear c0 c1 c2 c3 CB
    clear hb hS0
    obtain ⟨c0, c1, c2, c3, c4⟩ := id hS1
    have CB := Lib.hid c4
    clear c4
    go_wp2_with fail
    clear c0 c1 c2 c3 CB
    refine wp_region_steady (S := (fun v : World => v.cell? ⟨w.heap.size, 0, none⟩ = some (.int .i64 ax) ∧ v.cell? ⟨w.heap.size, 1, none⟩ = some (.int .i64 ay) ∧ v.cell? ⟨w.heap.size + 1, 0, none⟩ = some (.int .i64 bx) ∧ v.cell? ⟨w.heap.size + 1, 1, none⟩ = some (.int .i64 byy) ∧ Below w.heap.size w v)) (by kernel_rfl) (HD.out _ hS1) ?_
    refine wpS_take (i := 0) (v := ?_) rfl rfl (by kernel_rfl) (by kernel_rfl) (by kernel_rfl) (fun _ _ _ h => h) (Steady.value (by rfl) ?_) ?_
    rotate_left
    · (intro w hS; (try dsimp only at hS); go_simp; try with_reducible rfl)
    simp only [List.setIfInBounds_toArray, List.set_cons_zero, List.set_cons_succ]
    refine wpS_take (i := 1) (v := ?_) rfl rfl (by kernel_rfl) (by kernel_rfl) (by kernel_rfl) (fun _ _ _ h => h) (Steady.value (by rfl) ?_) ?_
    rotate_left
    · (intro w hS; (try dsimp only at hS); go_simp; try with_reducible rfl)
    simp only [List.setIfInBounds_toArray, List.set_cons_zero, List.set_cons_succ]
    refine wpS_take (i := 2) (v := ?_) rfl rfl (by kernel_rfl) (by kernel_rfl) (by kernel_rfl) (fun _ _ _ h => h) (Steady.value (by rfl) ?_) ?_
    rotate_left
    · (intro w hS; (try dsimp only at hS); go_simp; try with_reducible rfl)
    simp only [List.setIfInBounds_toArray, List.set_cons_zero, List.set_cons_succ]
    refine wpS_take (i := 3) (v := ?_) rfl rfl (by kernel_rfl) (by kernel_rfl) (by kernel_rfl) (fun _ _ _ h => h) (Steady.value (by rfl) ?_) ?_
    rotate_left
    · (intro w hS; (try dsimp only at hS); go_simp; try with_reducible rfl)
    simp only [List.setIfInBounds_toArray, List.set_cons_zero, List.set_cons_succ]
    refine wpS_take (i := 4) (v := ?_) rfl rfl (by kernel_rfl) (by kernel_rfl) (by kernel_rfl) (fun _ _ _ h => h) (Steady.value (by rfl) ?_) ?_
    rotate_left
    · (intro w hS; (try dsimp only at hS); go_simp; try with_reducible rfl)
    simp only [List.setIfInBounds_toArray, List.set_cons_zero, List.set_cons_succ]
    refine wpS_take (i := 5) rfl rfl (by kernel_rfl) (by kernel_rfl) (by kernel_rfl) (fun _ _ _ h => h) (Steady.call (by rfl) (steady_below KS.out K2'.out) (fun w hS => by (go_simp))) ?_
    simp only [List.setIfInBounds_toArray, List.set_cons_zero, List.set_cons_succ]
    refine wpS_take (i := 6) (v := ?_) rfl rfl (by kernel_rfl) (by kernel_rfl) (by kernel_rfl) (fun _ _ _ h => h) (Steady.value (by rfl) ?_) ?_
    rotate_left
    · (intro w hS; (try dsimp only at hS); go_simp; try with_reducible rfl)
    simp only [List.setIfInBounds_toArray, List.set_cons_zero, List.set_cons_succ]
    refine wpS_take (i := 7) (v := ?_) rfl rfl (by kernel_rfl) (by kernel_rfl) (by kernel_rfl) (fun _ _ _ h => h) (Steady.value (by rfl) ?_) ?_
    rotate_left
    · (intro w hS; (try dsimp only at hS); go_simp; try with_reducible rfl)
    simp only [List.setIfInBounds_toArray, List.set_cons_zero, List.set_cons_succ]
    refine wpS_take (i := 8) (v := ?_) rfl rfl (by kernel_rfl) (by kernel_rfl) (by kernel_rfl) (fun _ _ _ h => h) (Steady.value (by rfl) ?_) ?_
    rotate_left
    · (intro w hS; (try dsimp only at hS); go_simp; try with_reducible rfl)
    simp only [List.setIfInBounds_toArray, List.set_cons_zero, List.set_cons_succ]
    refine wpS_take (i := 9) (v := ?_) rfl rfl (by kernel_rfl) (by kernel_rfl) (by kernel_rfl) (fun _ _ _ h => h) (Steady.value (by rfl) ?_) ?_
    rotate_left
    · (intro w hS; (try dsimp only at hS); go_simp; try with_reducible rfl)
    simp only [List.setIfInBounds_toArray, List.set_cons_zero, List.set_cons_succ]
    refine wpS_take (i := 10) (v := ?_) rfl rfl (by kernel_rfl) (by kernel_rfl) (by kernel_rfl) (fun _ _ _ h => h) (Steady.value (by rfl) ?_) ?_
    rotate_left
    · (intro w hS; (try dsimp only at hS); go_simp; try with_reducible rfl)
    simp only [List.setIfInBounds_toArray, List.set_cons_zero, List.set_cons_succ]
    refine wpS_take (i := 11) rfl rfl (by kernel_rfl) (by kernel_rfl) (by kernel_rfl) (fun _ _ _ h => h) (Steady.call (by rfl) (steady_below KS.out K3'.out) (fun w hS => by (go_simp))) ?_
    simp only [List.setIfInBounds_toArray, List.set_cons_zero, List.set_cons_succ]
    refine wpS_take (i := 12) (v := ?_) rfl rfl (by kernel_rfl) (by kernel_rfl) (by kernel_rfl) (fun _ _ _ h => h) (Steady.value (by rfl) ?_) ?_
    rotate_left
    · (intro w hS; (try dsimp only at hS); go_simp; try with_reducible rfl)
    simp only [List.setIfInBounds_toArray, List.set_cons_zero, List.set_cons_succ]
    refine wpS_take (i := 13) (v := ?_) rfl rfl (by kernel_rfl) (by kernel_rfl) (by kernel_rfl) (fun _ _ _ h => h) (Steady.value (by rfl) ?_) ?_
    rotate_left
    · (intro w hS; (try dsimp only at hS); go_simp; try with_reducible rfl)
    simp only [List.setIfInBounds_toArray, List.set_cons_zero, List.set_cons_succ]
    refine wpS_done (by kernel_rfl) (fun W hS => ?_) _
    go_wp2
    go_ret
    exact ⟨rfl, hS.2.2.2.2⟩

theorem Dist_any (a b : Pt) (w : World) : Calls Try.prog 30 #[pt a, pt b] w fun e w' => e = .returned (.int .u64 (DistF a b)) ∧ Below w.heap.size w w' := by
  have h := Dist_road a.x a.y b.x b.y ((a.x - b.x) * (a.x - b.x)) ((a.y - b.y) * (a.y - b.y)) (distZ a b)
  unfold DistF
  by_cases hm : May a ∧ May b
  · obtain ⟨⟨a0, a1, a2, a3⟩, ⟨b0, b1, b2, b3⟩⟩ := id hm
    have k1 := all2 a.x a.y b.x b.y
    have e : decide (May ⟨a.x, a.y⟩ ∧ May ⟨b.x, b.y⟩) = true := decide_eq_true hm
    rw [e] at k1
    rw [if_pos hm]
    have hx := mul_bd (x := a.x - b.x) (y := a.x - b.x) (m := 3600000000) (n := 3600000000) (by omega) (by omega) (by omega) (by omega)
    have hy := mul_bd (x := a.y - b.y) (y := a.y - b.y) (m := 1800000000) (n := 1800000000) (by omega) (by omega) (by omega) (by omega)
    have hx0 : 0 ≤ (a.x - b.x) * (a.x - b.x) := by
      rcases Int.le_total 0 (a.x - b.x) with h | h
      · exact Int.mul_nonneg h h
      · exact Int.mul_nonneg_of_nonpos_of_nonpos h h
    have hy0 : 0 ≤ (a.y - b.y) * (a.y - b.y) := by
      rcases Int.le_total 0 (a.y - b.y) with h | h
      · exact Int.mul_nonneg h h
      · exact Int.mul_nonneg_of_nonpos_of_nonpos h h
    exact h (a.x - b.x) (a.y - b.y) true k1 (by rw [IntKind.wrap_i64]; omega) (by rw [IntKind.wrap_i64]; omega) (fun _ => by rw [IntKind.wrap_u64]; unfold distZ; exact Int.emod_eq_of_lt (by omega) (by omega))
      (fun _ w => (square_any _ (by omega) (by omega) w).mono fun _ _ ⟨h1, h2⟩ => ⟨h1, by rw [h2]; exact Below.refl _ _⟩)
      (fun _ w => (square_any _ (by omega) (by omega) w).mono fun _ _ ⟨h1, h2⟩ => ⟨h1, by rw [h2]; exact Below.refl _ _⟩) w
  · have k1 := all2 a.x a.y b.x b.y
    have e : decide (May ⟨a.x, a.y⟩ ∧ May ⟨b.x, b.y⟩) = false := decide_eq_false hm
    rw [e] at k1
    rw [if_neg hm]
    exact h _ _ false k1 rfl rfl (fun h => by cases h) (fun h => by cases h) (fun h => by cases h) w

theorem low_any (r : Rc) (w : World) : Calls Try.prog 51 #[rc r] w fun e w' => e = .returned (.agg #[.int .i64 r.x0, .int .i64 r.y0]) ∧ Below w.heap.size w w' := by
  obtain ⟨x0, y0, x1, y1⟩ := r
  go_enter Try.func51, Try.ntmps51
  go_wp2
  refine bodyPost_ret (v := .agg #[.int .i64 x0, .int .i64 y0]) (by simp [results, Try.results51, go_sem]) rfl ⟨rfl, ?_⟩
  go_grown
theorem high_any (r : Rc) (w : World) : Calls Try.prog 52 #[rc r] w fun e w' => e = .returned (.agg #[.int .i64 r.x1, .int .i64 r.y1]) ∧ Below w.heap.size w w' := by
  obtain ⟨x0, y0, x1, y1⟩ := r
  go_enter Try.func52, Try.ntmps52
  go_wp2
  refine bodyPost_ret (v := .agg #[.int .i64 x1, .int .i64 y1]) (by simp [results, Try.results52, go_sem]) rfl ⟨rfl, ?_⟩
  go_grown

def MayR (r : Rc) : Prop := May ⟨r.x0, r.y0⟩ ∧ May ⟨r.x1, r.y1⟩ ∧ r.x0 ≤ r.x1 ∧ r.y0 ≤ r.y1
instance (r : Rc) : Decidable (MayR r) := inferInstanceAs (Decidable (_ ∧ _))

set_option maxHeartbeats 4000000 in
theorem MayR_road (x0 y0 x1 y1 : Int) (m a b : Bool) (ha : decide (x0 ≤ x1) = a) (hb : decide (y0 ≤ y1) = b)
    (k1 : ∀ w0 : World, ∀ b, b = w0.heap.size → Calls Try.prog 39 #[.slice (some ⟨b, 0, none⟩) 2 2] (w0.alloc (.cells #[.int .i64 x0, .int .i64 y0, .int .i64 x1, .int .i64 y1] 24)) fun e w' => e = .returned (.bool m) ∧ Below w0.heap.size w0 w') (w : World) :
    Calls Try.prog 28 #[.agg #[.int .i64 x0, .int .i64 y0, .int .i64 x1, .int .i64 y1]] w fun e w' => e = .returned (.bool (m && a && b)) ∧ Below w.heap.size w w' := by
  have l1 := low_any ⟨x0, y0, x1, y1⟩
  have l2 := high_any ⟨x0, y0, x1, y1⟩
  have keep : ∀ a b : World, Below a.heap.size a b → (fun v : World => v.cell? ⟨w.heap.size, 0, none⟩ = some (.int .i64 x0) ∧ v.cell? ⟨w.heap.size, 1, none⟩ = some (.int .i64 y0) ∧ v.cell? ⟨w.heap.size, 2, none⟩ = some (.int .i64 x1) ∧ v.cell? ⟨w.heap.size, 3, none⟩ = some (.int .i64 y1) ∧ Below w.heap.size w v) a → (fun v : World => v.cell? ⟨w.heap.size, 0, none⟩ = some (.int .i64 x0) ∧ v.cell? ⟨w.heap.size, 1, none⟩ = some (.int .i64 y0) ∧ v.cell? ⟨w.heap.size, 2, none⟩ = some (.int .i64 x1) ∧ v.cell? ⟨w.heap.size, 3, none⟩ = some (.int .i64 y1) ∧ Below w.heap.size w v) b := fun a b hb ⟨h0, h1, h2, h3, h4⟩ => ⟨cell_grew h0 hb, cell_grew h1 hb, cell_grew h2 hb, cell_grew h3 hb, grow h4 hb⟩
  have KS := Lib.hid keep
  have drew : ∀ a : World, (fun v : World => v.cell? ⟨w.heap.size, 0, none⟩ = some (.int .i64 x0) ∧ v.cell? ⟨w.heap.size, 1, none⟩ = some (.int .i64 y0) ∧ v.cell? ⟨w.heap.size, 2, none⟩ = some (.int .i64 x1) ∧ v.cell? ⟨w.heap.size, 3, none⟩ = some (.int .i64 y1) ∧ Below w.heap.size w v) a → (fun v : World => v.cell? ⟨w.heap.size, 0, none⟩ = some (.int .i64 x0) ∧ v.cell? ⟨w.heap.size, 1, none⟩ = some (.int .i64 y0) ∧ v.cell? ⟨w.heap.size, 2, none⟩ = some (.int .i64 x1) ∧ v.cell? ⟨w.heap.size, 3, none⟩ = some (.int .i64 y1) ∧ Below w.heap.size w v) a.drew := fun a ⟨h0, h1, h2, h3, h4⟩ => ⟨h0, h1, h2, h3, h4.drew⟩
  have HD := Lib.hid drew
  have alc : ∀ (a : World) (o : Obj), (fun v : World => v.cell? ⟨w.heap.size, 0, none⟩ = some (.int .i64 x0) ∧ v.cell? ⟨w.heap.size, 1, none⟩ = some (.int .i64 y0) ∧ v.cell? ⟨w.heap.size, 2, none⟩ = some (.int .i64 x1) ∧ v.cell? ⟨w.heap.size, 3, none⟩ = some (.int .i64 y1) ∧ Below w.heap.size w v) a → (fun v : World => v.cell? ⟨w.heap.size, 0, none⟩ = some (.int .i64 x0) ∧ v.cell? ⟨w.heap.size, 1, none⟩ = some (.int .i64 y0) ∧ v.cell? ⟨w.heap.size, 2, none⟩ = some (.int .i64 x1) ∧ v.cell? ⟨w.heap.size, 3, none⟩ = some (.int .i64 y1) ∧ Below w.heap.size w v) (a.alloc o) := fun a o h => keep _ _ ((Below.refl _ a).alloc (Nat.le_refl _) o) h
  have HA := Lib.hid alc
  clear keep drew alc
  obtain ⟨w0, hw0, p0, g0, z0⟩ := boxes1 w #[.int .i64 x0, .int .i64 y0, .int .i64 x1, .int .i64 y1] 38
  have hS0 : (fun v : World => v.cell? ⟨w.heap.size, 0, none⟩ = some (.int .i64 x0) ∧ v.cell? ⟨w.heap.size, 1, none⟩ = some (.int .i64 y0) ∧ v.cell? ⟨w.heap.size, 2, none⟩ = some (.int .i64 x1) ∧ v.cell? ⟨w.heap.size, 3, none⟩ = some (.int .i64 y1) ∧ Below w.heap.size w v) w0 := ⟨p0.four.1, p0.four.2.1, p0.four.2.2.1, p0.four.2.2.2.1, g0⟩
  clear p0 z0 g0
  have K1 := Lib.hid k1
  have L1 := Lib.hid l1
  have L2 := Lib.hid l2
  clear k1 l1 l2
  cases m
  · go_enter Try.func28, Try.ntmps28
    go_wp2_with fail
    refine wp_region_held_drew (S := (fun v : World => v.cell? ⟨w.heap.size, 0, none⟩ = some (.int .i64 x0) ∧ v.cell? ⟨w.heap.size, 1, none⟩ = some (.int .i64 y0) ∧ v.cell? ⟨w.heap.size, 2, none⟩ = some (.int .i64 x1) ∧ v.cell? ⟨w.heap.size, 3, none⟩ = some (.int .i64 y1) ∧ Below w.heap.size w v)) (by kernel_rfl) (HD.out _ hS0) (fun hS0 => ?_)
    refine wpH_take (i := 0) (v := ?_) rfl rfl (by kernel_rfl) (by kernel_rfl) (by kernel_rfl) (fun _ _ _ h => h) (Or.inl ⟨by rfl, ?_⟩) hS0 ?_
    rotate_left
    · (intro w_ hw_; (try dsimp only at hw_); go_simp; try with_reducible rfl)
    simp only [List.setIfInBounds_toArray, List.set_cons_zero, List.set_cons_succ]
    refine wpH_take (i := 2) (v := ?_) rfl rfl (by kernel_rfl) (by kernel_rfl) (by kernel_rfl) (fun _ _ _ h => h) (Or.inl ⟨by rfl, ?_⟩) hS0 ?_
    rotate_left
    · (intro w_ hw_; (try dsimp only at hw_); go_simp; try with_reducible rfl)
    simp only [List.setIfInBounds_toArray, List.set_cons_zero, List.set_cons_succ]
    refine wpH_call (i := 1) (by kernel_rfl) rfl rfl (by rfl) (L1.out w0.drew) (by go_simp) (fun v1 hR => ?_)
    have hS1 := KS.out _ _ hR hS0
    refine ⟨hS1, ?_⟩
    clear hR hS0
    simp only [List.setIfInBounds_toArray, List.set_cons_zero, List.set_cons_succ]
    refine wpH_call (i := 3) (by kernel_rfl) rfl rfl (by rfl) (L2.out v1) (by go_simp) (fun v2 hR => ?_)
    have hS2 := KS.out _ _ hR hS1
    refine ⟨hS2, ?_⟩
    clear hR hS1
    simp only [List.setIfInBounds_toArray, List.set_cons_zero, List.set_cons_succ]
    refine wpH_run (i := 4) (v := .slice (some ⟨(v2).heap.size, 0, none⟩) 2 2) (w' := (v2).alloc (.cells #[.int .i64 x0, .int .i64 y0, .int .i64 x1, .int .i64 y1] 24)) (by kernel_rfl) rfl rfl (by rfl) (by go_simp) (HA.out _ (.cells #[.int .i64 x0, .int .i64 y0, .int .i64 x1, .int .i64 y1] 24) hS2) ?_
    have hS3 := HA.out _ (.cells #[.int .i64 x0, .int .i64 y0, .int .i64 x1, .int .i64 y1] 24) hS2
    simp only [List.setIfInBounds_toArray, List.set_cons_zero, List.set_cons_succ]
    refine wpH_call (i := 5) (by kernel_rfl) rfl rfl (by rfl) (K1.out v2 _ rfl) (by go_simp) (fun v4 hR => ?_)
    have hS4 := KS.out _ _ hR hS2
    refine ⟨hS4, ?_⟩
    clear hR hS3
    simp only [List.setIfInBounds_toArray, List.set_cons_zero, List.set_cons_succ]
    refine wpH_take (i := 6) (v := ?_) rfl rfl (by kernel_rfl) (by kernel_rfl) (by kernel_rfl) (fun _ _ _ h => h) (Or.inl ⟨by rfl, ?_⟩) hS4 ?_
    rotate_left
    · (intro w_ hw_; (try dsimp only at hw_); go_simp; try with_reducible rfl)
    simp only [List.setIfInBounds_toArray, List.set_cons_zero, List.set_cons_succ]
    refine wpH_take (i := 7) (v := undef) rfl rfl (by kernel_rfl) (by kernel_rfl) (by kernel_rfl) (fun _ _ _ h => h) (Or.inr ⟨by rfl, rfl⟩) hS4 ?_
    simp only [List.setIfInBounds_toArray, List.set_cons_zero, List.set_cons_succ]
    refine wpH_take (i := 8) (v := undef) rfl rfl (by kernel_rfl) (by kernel_rfl) (by kernel_rfl) (fun _ _ _ h => h) (Or.inr ⟨by rfl, rfl⟩) hS4 ?_
    simp only [List.setIfInBounds_toArray, List.set_cons_zero, List.set_cons_succ]
    refine wpH_take (i := 9) (v := undef) rfl rfl (by kernel_rfl) (by kernel_rfl) (by kernel_rfl) (fun _ _ _ h => h) (Or.inr ⟨by rfl, rfl⟩) hS4 ?_
    simp only [List.setIfInBounds_toArray, List.set_cons_zero, List.set_cons_succ]
    refine wpH_take (i := 10) (v := undef) rfl rfl (by kernel_rfl) (by kernel_rfl) (by kernel_rfl) (fun _ _ _ h => h) (Or.inr ⟨by rfl, rfl⟩) hS4 ?_
    simp only [List.setIfInBounds_toArray, List.set_cons_zero, List.set_cons_succ]
    refine wpH_take (i := 11) (v := undef) rfl rfl (by kernel_rfl) (by kernel_rfl) (by kernel_rfl) (fun _ _ _ h => h) (Or.inr ⟨by rfl, rfl⟩) hS4 ?_
    simp only [List.setIfInBounds_toArray, List.set_cons_zero, List.set_cons_succ]
    refine wpH_take (i := 12) (v := ?_) rfl rfl (by kernel_rfl) (by kernel_rfl) (by kernel_rfl) (fun _ _ _ h => h) (Or.inl ⟨by rfl, ?_⟩) hS4 ?_
    rotate_left
    · (intro w_ hw_; (try dsimp only at hw_); go_simp; try with_reducible rfl)
    simp only [List.setIfInBounds_toArray, List.set_cons_zero, List.set_cons_succ]
    refine wpH_take (i := 13) (v := ?_) rfl rfl (by kernel_rfl) (by kernel_rfl) (by kernel_rfl) (fun _ _ _ h => h) (Or.inl ⟨by rfl, ?_⟩) hS4 ?_
    rotate_left
    · (intro w_ hw_; (try dsimp only at hw_); go_simp; try with_reducible rfl)
    simp only [List.setIfInBounds_toArray, List.set_cons_zero, List.set_cons_succ]
    refine wpH_take (i := 14) (v := undef) rfl rfl (by kernel_rfl) (by kernel_rfl) (by kernel_rfl) (fun _ _ _ h => h) (Or.inr ⟨by rfl, rfl⟩) hS4 ?_
    simp only [List.setIfInBounds_toArray, List.set_cons_zero, List.set_cons_succ]
    refine wpH_take (i := 15) (v := undef) rfl rfl (by kernel_rfl) (by kernel_rfl) (by kernel_rfl) (fun _ _ _ h => h) (Or.inr ⟨by rfl, rfl⟩) hS4 ?_
    simp only [List.setIfInBounds_toArray, List.set_cons_zero, List.set_cons_succ]
    refine wpH_take (i := 16) (v := undef) rfl rfl (by kernel_rfl) (by kernel_rfl) (by kernel_rfl) (fun _ _ _ h => h) (Or.inr ⟨by rfl, rfl⟩) hS4 ?_
    simp only [List.setIfInBounds_toArray, List.set_cons_zero, List.set_cons_succ]
    refine wpH_take (i := 17) (v := undef) rfl rfl (by kernel_rfl) (by kernel_rfl) (by kernel_rfl) (fun _ _ _ h => h) (Or.inr ⟨by rfl, rfl⟩) hS4 ?_
    simp only [List.setIfInBounds_toArray, List.set_cons_zero, List.set_cons_succ]
    refine wpH_take (i := 18) (v := undef) rfl rfl (by kernel_rfl) (by kernel_rfl) (by kernel_rfl) (fun _ _ _ h => h) (Or.inr ⟨by rfl, rfl⟩) hS4 ?_
    simp only [List.setIfInBounds_toArray, List.set_cons_zero, List.set_cons_succ]
    refine wpH_take (i := 19) (v := ?_) rfl rfl (by kernel_rfl) (by kernel_rfl) (by kernel_rfl) (fun _ _ _ h => h) (Or.inl ⟨by rfl, ?_⟩) hS4 ?_
    rotate_left
    · (intro w_ hw_; (try dsimp only at hw_); go_simp; try with_reducible rfl)
    simp only [List.setIfInBounds_toArray, List.set_cons_zero, List.set_cons_succ]
    refine wpH_take (i := 20) (v := ?_) rfl rfl (by kernel_rfl) (by kernel_rfl) (by kernel_rfl) (fun _ _ _ h => h) (Or.inl ⟨by rfl, ?_⟩) hS4 ?_
    rotate_left
    · (intro w_ hw_; (try dsimp only at hw_); go_simp; try with_reducible rfl)
    simp only [List.setIfInBounds_toArray, List.set_cons_zero, List.set_cons_succ]
    refine wpAnyH_done (by kernel_rfl) ?_ _
    go_wp2
    go_ret
    exact ⟨rfl, hS4.2.2.2.2⟩
  · cases a
    · go_enter Try.func28, Try.ntmps28
      go_wp2_with fail
      refine wp_region_held_drew (S := (fun v : World => v.cell? ⟨w.heap.size, 0, none⟩ = some (.int .i64 x0) ∧ v.cell? ⟨w.heap.size, 1, none⟩ = some (.int .i64 y0) ∧ v.cell? ⟨w.heap.size, 2, none⟩ = some (.int .i64 x1) ∧ v.cell? ⟨w.heap.size, 3, none⟩ = some (.int .i64 y1) ∧ Below w.heap.size w v)) (by kernel_rfl) (HD.out _ hS0) (fun hS0 => ?_)
      refine wpH_take (i := 0) (v := ?_) rfl rfl (by kernel_rfl) (by kernel_rfl) (by kernel_rfl) (fun _ _ _ h => h) (Or.inl ⟨by rfl, ?_⟩) hS0 ?_
      rotate_left
      · (intro w_ hw_; (try dsimp only at hw_); go_simp; try with_reducible rfl)
      simp only [List.setIfInBounds_toArray, List.set_cons_zero, List.set_cons_succ]
      refine wpH_take (i := 2) (v := ?_) rfl rfl (by kernel_rfl) (by kernel_rfl) (by kernel_rfl) (fun _ _ _ h => h) (Or.inl ⟨by rfl, ?_⟩) hS0 ?_
      rotate_left
      · (intro w_ hw_; (try dsimp only at hw_); go_simp; try with_reducible rfl)
      simp only [List.setIfInBounds_toArray, List.set_cons_zero, List.set_cons_succ]
      refine wpH_call (i := 1) (by kernel_rfl) rfl rfl (by rfl) (L1.out w0.drew) (by go_simp) (fun v1 hR => ?_)
      have hS1 := KS.out _ _ hR hS0
      refine ⟨hS1, ?_⟩
      clear hR hS0
      simp only [List.setIfInBounds_toArray, List.set_cons_zero, List.set_cons_succ]
      refine wpH_call (i := 3) (by kernel_rfl) rfl rfl (by rfl) (L2.out v1) (by go_simp) (fun v2 hR => ?_)
      have hS2 := KS.out _ _ hR hS1
      refine ⟨hS2, ?_⟩
      clear hR hS1
      simp only [List.setIfInBounds_toArray, List.set_cons_zero, List.set_cons_succ]
      refine wpH_run (i := 4) (v := .slice (some ⟨(v2).heap.size, 0, none⟩) 2 2) (w' := (v2).alloc (.cells #[.int .i64 x0, .int .i64 y0, .int .i64 x1, .int .i64 y1] 24)) (by kernel_rfl) rfl rfl (by rfl) (by go_simp) (HA.out _ (.cells #[.int .i64 x0, .int .i64 y0, .int .i64 x1, .int .i64 y1] 24) hS2) ?_
      have hS3 := HA.out _ (.cells #[.int .i64 x0, .int .i64 y0, .int .i64 x1, .int .i64 y1] 24) hS2
      simp only [List.setIfInBounds_toArray, List.set_cons_zero, List.set_cons_succ]
      refine wpH_call (i := 5) (by kernel_rfl) rfl rfl (by rfl) (K1.out v2 _ rfl) (by go_simp) (fun v4 hR => ?_)
      have hS4 := KS.out _ _ hR hS2
      refine ⟨hS4, ?_⟩
      clear hR hS3
      simp only [List.setIfInBounds_toArray, List.set_cons_zero, List.set_cons_succ]
      refine wpH_take (i := 6) (v := ?_) rfl rfl (by kernel_rfl) (by kernel_rfl) (by kernel_rfl) (fun _ _ _ h => h) (Or.inl ⟨by rfl, ?_⟩) hS4 ?_
      rotate_left
      · (intro w_ hw_; (try dsimp only at hw_); go_simp; try with_reducible rfl)
      simp only [List.setIfInBounds_toArray, List.set_cons_zero, List.set_cons_succ]
      refine wpH_take (i := 7) (v := ?_) rfl rfl (by kernel_rfl) (by kernel_rfl) (by kernel_rfl) (fun _ _ _ h => h) (Or.inl ⟨by rfl, ?_⟩) hS4 ?_
      rotate_left
      · (intro w_ hw_; (try dsimp only at hw_); go_simp; try with_reducible rfl)
      simp only [List.setIfInBounds_toArray, List.set_cons_zero, List.set_cons_succ]
      refine wpH_take (i := 8) (v := ?_) rfl rfl (by kernel_rfl) (by kernel_rfl) (by kernel_rfl) (fun _ _ _ h => h) (Or.inl ⟨by rfl, ?_⟩) hS4 ?_
      rotate_left
      · (intro w_ hw_; (try dsimp only at hw_); go_simp; try with_reducible rfl)
      simp only [List.setIfInBounds_toArray, List.set_cons_zero, List.set_cons_succ]
      refine wpH_take (i := 9) (v := ?_) rfl rfl (by kernel_rfl) (by kernel_rfl) (by kernel_rfl) (fun _ _ _ h => h) (Or.inl ⟨by rfl, ?_⟩) hS4 ?_
      rotate_left
      · (intro w_ hw_; (try dsimp only at hw_); go_simp; try with_reducible rfl)
      simp only [List.setIfInBounds_toArray, List.set_cons_zero, List.set_cons_succ]
      refine wpH_take (i := 10) (v := ?_) rfl rfl (by kernel_rfl) (by kernel_rfl) (by kernel_rfl) (fun _ _ _ h => h) (Or.inl ⟨by rfl, ?_⟩) hS4 ?_
      rotate_left
      · (intro w_ hw_; (try dsimp only at hw_); go_simp; try with_reducible rfl)
      simp only [List.setIfInBounds_toArray, List.set_cons_zero, List.set_cons_succ]
      refine wpH_take (i := 11) (v := ?_) rfl rfl (by kernel_rfl) (by kernel_rfl) (by kernel_rfl) (fun _ _ _ h => h) (Or.inl ⟨by rfl, ?_⟩) hS4 ?_
      rotate_left
      · (intro w_ hw_; (try dsimp only at hw_); go_simp; try with_reducible rfl)
      simp only [List.setIfInBounds_toArray, List.set_cons_zero, List.set_cons_succ]
      refine wpH_take (i := 12) (v := ?_) rfl rfl (by kernel_rfl) (by kernel_rfl) (by kernel_rfl) (fun _ _ _ h => h) (Or.inl ⟨by rfl, ?_⟩) hS4 ?_
      rotate_left
      · (intro w_ hw_; (try dsimp only at hw_); go_simp; try with_reducible rfl)
      simp only [List.setIfInBounds_toArray, List.set_cons_zero, List.set_cons_succ]
      refine wpH_take (i := 13) (v := ?_) rfl rfl (by kernel_rfl) (by kernel_rfl) (by kernel_rfl) (fun _ _ _ h => h) (Or.inl ⟨by rfl, ?_⟩) hS4 ?_
      rotate_left
      · (intro w_ hw_; (try dsimp only at hw_); go_simp; try with_reducible rfl)
      simp only [List.setIfInBounds_toArray, List.set_cons_zero, List.set_cons_succ]
      refine wpH_take (i := 14) (v := undef) rfl rfl (by kernel_rfl) (by kernel_rfl) (by kernel_rfl) (fun _ _ _ h => h) (Or.inr ⟨by rfl, rfl⟩) hS4 ?_
      simp only [List.setIfInBounds_toArray, List.set_cons_zero, List.set_cons_succ]
      refine wpH_take (i := 15) (v := undef) rfl rfl (by kernel_rfl) (by kernel_rfl) (by kernel_rfl) (fun _ _ _ h => h) (Or.inr ⟨by rfl, rfl⟩) hS4 ?_
      simp only [List.setIfInBounds_toArray, List.set_cons_zero, List.set_cons_succ]
      refine wpH_take (i := 16) (v := undef) rfl rfl (by kernel_rfl) (by kernel_rfl) (by kernel_rfl) (fun _ _ _ h => h) (Or.inr ⟨by rfl, rfl⟩) hS4 ?_
      simp only [List.setIfInBounds_toArray, List.set_cons_zero, List.set_cons_succ]
      refine wpH_take (i := 17) (v := undef) rfl rfl (by kernel_rfl) (by kernel_rfl) (by kernel_rfl) (fun _ _ _ h => h) (Or.inr ⟨by rfl, rfl⟩) hS4 ?_
      simp only [List.setIfInBounds_toArray, List.set_cons_zero, List.set_cons_succ]
      refine wpH_take (i := 18) (v := undef) rfl rfl (by kernel_rfl) (by kernel_rfl) (by kernel_rfl) (fun _ _ _ h => h) (Or.inr ⟨by rfl, rfl⟩) hS4 ?_
      simp only [List.setIfInBounds_toArray, List.set_cons_zero, List.set_cons_succ]
      refine wpH_take (i := 19) (v := ?_) rfl rfl (by kernel_rfl) (by kernel_rfl) (by kernel_rfl) (fun _ _ _ h => h) (Or.inl ⟨by rfl, ?_⟩) hS4 ?_
      rotate_left
      · (intro w_ hw_; (try dsimp only at hw_); go_simp; try with_reducible rfl)
      simp only [List.setIfInBounds_toArray, List.set_cons_zero, List.set_cons_succ]
      refine wpH_take (i := 20) (v := ?_) rfl rfl (by kernel_rfl) (by kernel_rfl) (by kernel_rfl) (fun _ _ _ h => h) (Or.inl ⟨by rfl, ?_⟩) hS4 ?_
      rotate_left
      · (intro w_ hw_; (try dsimp only at hw_); go_simp; try with_reducible rfl)
      simp only [List.setIfInBounds_toArray, List.set_cons_zero, List.set_cons_succ]
      refine wpAnyH_done (by kernel_rfl) ?_ _
      go_wp2
      go_ret
      exact ⟨rfl, hS4.2.2.2.2⟩
    · cases b
      · go_enter Try.func28, Try.ntmps28
        go_wp2_with fail
        refine wp_region_held_drew (S := (fun v : World => v.cell? ⟨w.heap.size, 0, none⟩ = some (.int .i64 x0) ∧ v.cell? ⟨w.heap.size, 1, none⟩ = some (.int .i64 y0) ∧ v.cell? ⟨w.heap.size, 2, none⟩ = some (.int .i64 x1) ∧ v.cell? ⟨w.heap.size, 3, none⟩ = some (.int .i64 y1) ∧ Below w.heap.size w v)) (by kernel_rfl) (HD.out _ hS0) (fun hS0 => ?_)
        refine wpH_take (i := 0) (v := ?_) rfl rfl (by kernel_rfl) (by kernel_rfl) (by kernel_rfl) (fun _ _ _ h => h) (Or.inl ⟨by rfl, ?_⟩) hS0 ?_
        rotate_left
        · (intro w_ hw_; (try dsimp only at hw_); go_simp; try with_reducible rfl)
        simp only [List.setIfInBounds_toArray, List.set_cons_zero, List.set_cons_succ]
        refine wpH_take (i := 2) (v := ?_) rfl rfl (by kernel_rfl) (by kernel_rfl) (by kernel_rfl) (fun _ _ _ h => h) (Or.inl ⟨by rfl, ?_⟩) hS0 ?_
        rotate_left
        · (intro w_ hw_; (try dsimp only at hw_); go_simp; try with_reducible rfl)
        simp only [List.setIfInBounds_toArray, List.set_cons_zero, List.set_cons_succ]
        refine wpH_call (i := 1) (by kernel_rfl) rfl rfl (by rfl) (L1.out w0.drew) (by go_simp) (fun v1 hR => ?_)
        have hS1 := KS.out _ _ hR hS0
        refine ⟨hS1, ?_⟩
        clear hR hS0
        simp only [List.setIfInBounds_toArray, List.set_cons_zero, List.set_cons_succ]
        refine wpH_call (i := 3) (by kernel_rfl) rfl rfl (by rfl) (L2.out v1) (by go_simp) (fun v2 hR => ?_)
        have hS2 := KS.out _ _ hR hS1
        refine ⟨hS2, ?_⟩
        clear hR hS1
        simp only [List.setIfInBounds_toArray, List.set_cons_zero, List.set_cons_succ]
        refine wpH_run (i := 4) (v := .slice (some ⟨(v2).heap.size, 0, none⟩) 2 2) (w' := (v2).alloc (.cells #[.int .i64 x0, .int .i64 y0, .int .i64 x1, .int .i64 y1] 24)) (by kernel_rfl) rfl rfl (by rfl) (by go_simp) (HA.out _ (.cells #[.int .i64 x0, .int .i64 y0, .int .i64 x1, .int .i64 y1] 24) hS2) ?_
        have hS3 := HA.out _ (.cells #[.int .i64 x0, .int .i64 y0, .int .i64 x1, .int .i64 y1] 24) hS2
        simp only [List.setIfInBounds_toArray, List.set_cons_zero, List.set_cons_succ]
        refine wpH_call (i := 5) (by kernel_rfl) rfl rfl (by rfl) (K1.out v2 _ rfl) (by go_simp) (fun v4 hR => ?_)
        have hS4 := KS.out _ _ hR hS2
        refine ⟨hS4, ?_⟩
        clear hR hS3
        simp only [List.setIfInBounds_toArray, List.set_cons_zero, List.set_cons_succ]
        refine wpH_take (i := 6) (v := ?_) rfl rfl (by kernel_rfl) (by kernel_rfl) (by kernel_rfl) (fun _ _ _ h => h) (Or.inl ⟨by rfl, ?_⟩) hS4 ?_
        rotate_left
        · (intro w_ hw_; (try dsimp only at hw_); go_simp; try with_reducible rfl)
        simp only [List.setIfInBounds_toArray, List.set_cons_zero, List.set_cons_succ]
        refine wpH_take (i := 7) (v := ?_) rfl rfl (by kernel_rfl) (by kernel_rfl) (by kernel_rfl) (fun _ _ _ h => h) (Or.inl ⟨by rfl, ?_⟩) hS4 ?_
        rotate_left
        · (intro w_ hw_; (try dsimp only at hw_); go_simp; try with_reducible rfl)
        simp only [List.setIfInBounds_toArray, List.set_cons_zero, List.set_cons_succ]
        refine wpH_take (i := 8) (v := ?_) rfl rfl (by kernel_rfl) (by kernel_rfl) (by kernel_rfl) (fun _ _ _ h => h) (Or.inl ⟨by rfl, ?_⟩) hS4 ?_
        rotate_left
        · (intro w_ hw_; (try dsimp only at hw_); go_simp; try with_reducible rfl)
        simp only [List.setIfInBounds_toArray, List.set_cons_zero, List.set_cons_succ]
        refine wpH_take (i := 9) (v := ?_) rfl rfl (by kernel_rfl) (by kernel_rfl) (by kernel_rfl) (fun _ _ _ h => h) (Or.inl ⟨by rfl, ?_⟩) hS4 ?_
        rotate_left
        · (intro w_ hw_; (try dsimp only at hw_); go_simp; try with_reducible rfl)
        simp only [List.setIfInBounds_toArray, List.set_cons_zero, List.set_cons_succ]
        refine wpH_take (i := 10) (v := ?_) rfl rfl (by kernel_rfl) (by kernel_rfl) (by kernel_rfl) (fun _ _ _ h => h) (Or.inl ⟨by rfl, ?_⟩) hS4 ?_
        rotate_left
        · (intro w_ hw_; (try dsimp only at hw_); go_simp; try with_reducible rfl)
        simp only [List.setIfInBounds_toArray, List.set_cons_zero, List.set_cons_succ]
        refine wpH_take (i := 11) (v := ?_) rfl rfl (by kernel_rfl) (by kernel_rfl) (by kernel_rfl) (fun _ _ _ h => h) (Or.inl ⟨by rfl, ?_⟩) hS4 ?_
        rotate_left
        · (intro w_ hw_; (try dsimp only at hw_); go_simp; try with_reducible rfl)
        simp only [List.setIfInBounds_toArray, List.set_cons_zero, List.set_cons_succ]
        refine wpH_take (i := 12) (v := ?_) rfl rfl (by kernel_rfl) (by kernel_rfl) (by kernel_rfl) (fun _ _ _ h => h) (Or.inl ⟨by rfl, ?_⟩) hS4 ?_
        rotate_left
        · (intro w_ hw_; (try dsimp only at hw_); go_simp; try with_reducible rfl)
        simp only [List.setIfInBounds_toArray, List.set_cons_zero, List.set_cons_succ]
        refine wpH_take (i := 13) (v := ?_) rfl rfl (by kernel_rfl) (by kernel_rfl) (by kernel_rfl) (fun _ _ _ h => h) (Or.inl ⟨by rfl, ?_⟩) hS4 ?_
        rotate_left
        · (intro w_ hw_; (try dsimp only at hw_); go_simp; try with_reducible rfl)
        simp only [List.setIfInBounds_toArray, List.set_cons_zero, List.set_cons_succ]
        refine wpH_take (i := 14) (v := ?_) rfl rfl (by kernel_rfl) (by kernel_rfl) (by kernel_rfl) (fun _ _ _ h => h) (Or.inl ⟨by rfl, ?_⟩) hS4 ?_
        rotate_left
        · (intro w_ hw_; (try dsimp only at hw_); go_simp; try with_reducible rfl)
        simp only [List.setIfInBounds_toArray, List.set_cons_zero, List.set_cons_succ]
        refine wpH_take (i := 15) (v := ?_) rfl rfl (by kernel_rfl) (by kernel_rfl) (by kernel_rfl) (fun _ _ _ h => h) (Or.inl ⟨by rfl, ?_⟩) hS4 ?_
        rotate_left
        · (intro w_ hw_; (try dsimp only at hw_); go_simp; try with_reducible rfl)
        simp only [List.setIfInBounds_toArray, List.set_cons_zero, List.set_cons_succ]
        refine wpH_take (i := 16) (v := ?_) rfl rfl (by kernel_rfl) (by kernel_rfl) (by kernel_rfl) (fun _ _ _ h => h) (Or.inl ⟨by rfl, ?_⟩) hS4 ?_
        rotate_left
        · (intro w_ hw_; (try dsimp only at hw_); go_simp; try with_reducible rfl)
        simp only [List.setIfInBounds_toArray, List.set_cons_zero, List.set_cons_succ]
        refine wpH_take (i := 17) (v := ?_) rfl rfl (by kernel_rfl) (by kernel_rfl) (by kernel_rfl) (fun _ _ _ h => h) (Or.inl ⟨by rfl, ?_⟩) hS4 ?_
        rotate_left
        · (intro w_ hw_; (try dsimp only at hw_); go_simp; try with_reducible rfl)
        simp only [List.setIfInBounds_toArray, List.set_cons_zero, List.set_cons_succ]
        refine wpH_take (i := 18) (v := ?_) rfl rfl (by kernel_rfl) (by kernel_rfl) (by kernel_rfl) (fun _ _ _ h => h) (Or.inl ⟨by rfl, ?_⟩) hS4 ?_
        rotate_left
        · (intro w_ hw_; (try dsimp only at hw_); go_simp; try with_reducible rfl)
        simp only [List.setIfInBounds_toArray, List.set_cons_zero, List.set_cons_succ]
        refine wpH_take (i := 19) (v := ?_) rfl rfl (by kernel_rfl) (by kernel_rfl) (by kernel_rfl) (fun _ _ _ h => h) (Or.inl ⟨by rfl, ?_⟩) hS4 ?_
        rotate_left
        · (intro w_ hw_; (try dsimp only at hw_); go_simp; try with_reducible rfl)
        simp only [List.setIfInBounds_toArray, List.set_cons_zero, List.set_cons_succ]
        refine wpH_take (i := 20) (v := ?_) rfl rfl (by kernel_rfl) (by kernel_rfl) (by kernel_rfl) (fun _ _ _ h => h) (Or.inl ⟨by rfl, ?_⟩) hS4 ?_
        rotate_left
        · (intro w_ hw_; (try dsimp only at hw_); go_simp; try with_reducible rfl)
        simp only [List.setIfInBounds_toArray, List.set_cons_zero, List.set_cons_succ]
        refine wpAnyH_done (by kernel_rfl) ?_ _
        go_wp2
        go_ret
        exact ⟨rfl, hS4.2.2.2.2⟩
      · go_enter Try.func28, Try.ntmps28
        go_wp2_with fail
        refine wp_region_held_drew (S := (fun v : World => v.cell? ⟨w.heap.size, 0, none⟩ = some (.int .i64 x0) ∧ v.cell? ⟨w.heap.size, 1, none⟩ = some (.int .i64 y0) ∧ v.cell? ⟨w.heap.size, 2, none⟩ = some (.int .i64 x1) ∧ v.cell? ⟨w.heap.size, 3, none⟩ = some (.int .i64 y1) ∧ Below w.heap.size w v)) (by kernel_rfl) (HD.out _ hS0) (fun hS0 => ?_)
        refine wpH_take (i := 0) (v := ?_) rfl rfl (by kernel_rfl) (by kernel_rfl) (by kernel_rfl) (fun _ _ _ h => h) (Or.inl ⟨by rfl, ?_⟩) hS0 ?_
        rotate_left
        · (intro w_ hw_; (try dsimp only at hw_); go_simp; try with_reducible rfl)
        simp only [List.setIfInBounds_toArray, List.set_cons_zero, List.set_cons_succ]
        refine wpH_take (i := 2) (v := ?_) rfl rfl (by kernel_rfl) (by kernel_rfl) (by kernel_rfl) (fun _ _ _ h => h) (Or.inl ⟨by rfl, ?_⟩) hS0 ?_
        rotate_left
        · (intro w_ hw_; (try dsimp only at hw_); go_simp; try with_reducible rfl)
        simp only [List.setIfInBounds_toArray, List.set_cons_zero, List.set_cons_succ]
        refine wpH_call (i := 1) (by kernel_rfl) rfl rfl (by rfl) (L1.out w0.drew) (by go_simp) (fun v1 hR => ?_)
        have hS1 := KS.out _ _ hR hS0
        refine ⟨hS1, ?_⟩
        clear hR hS0
        simp only [List.setIfInBounds_toArray, List.set_cons_zero, List.set_cons_succ]
        refine wpH_call (i := 3) (by kernel_rfl) rfl rfl (by rfl) (L2.out v1) (by go_simp) (fun v2 hR => ?_)
        have hS2 := KS.out _ _ hR hS1
        refine ⟨hS2, ?_⟩
        clear hR hS1
        simp only [List.setIfInBounds_toArray, List.set_cons_zero, List.set_cons_succ]
        refine wpH_run (i := 4) (v := .slice (some ⟨(v2).heap.size, 0, none⟩) 2 2) (w' := (v2).alloc (.cells #[.int .i64 x0, .int .i64 y0, .int .i64 x1, .int .i64 y1] 24)) (by kernel_rfl) rfl rfl (by rfl) (by go_simp) (HA.out _ (.cells #[.int .i64 x0, .int .i64 y0, .int .i64 x1, .int .i64 y1] 24) hS2) ?_
        have hS3 := HA.out _ (.cells #[.int .i64 x0, .int .i64 y0, .int .i64 x1, .int .i64 y1] 24) hS2
        simp only [List.setIfInBounds_toArray, List.set_cons_zero, List.set_cons_succ]
        refine wpH_call (i := 5) (by kernel_rfl) rfl rfl (by rfl) (K1.out v2 _ rfl) (by go_simp) (fun v4 hR => ?_)
        have hS4 := KS.out _ _ hR hS2
        refine ⟨hS4, ?_⟩
        clear hR hS3
        simp only [List.setIfInBounds_toArray, List.set_cons_zero, List.set_cons_succ]
        refine wpH_take (i := 6) (v := ?_) rfl rfl (by kernel_rfl) (by kernel_rfl) (by kernel_rfl) (fun _ _ _ h => h) (Or.inl ⟨by rfl, ?_⟩) hS4 ?_
        rotate_left
        · (intro w_ hw_; (try dsimp only at hw_); go_simp; try with_reducible rfl)
        simp only [List.setIfInBounds_toArray, List.set_cons_zero, List.set_cons_succ]
        refine wpH_take (i := 7) (v := ?_) rfl rfl (by kernel_rfl) (by kernel_rfl) (by kernel_rfl) (fun _ _ _ h => h) (Or.inl ⟨by rfl, ?_⟩) hS4 ?_
        rotate_left
        · (intro w_ hw_; (try dsimp only at hw_); go_simp; try with_reducible rfl)
        simp only [List.setIfInBounds_toArray, List.set_cons_zero, List.set_cons_succ]
        refine wpH_take (i := 8) (v := ?_) rfl rfl (by kernel_rfl) (by kernel_rfl) (by kernel_rfl) (fun _ _ _ h => h) (Or.inl ⟨by rfl, ?_⟩) hS4 ?_
        rotate_left
        · (intro w_ hw_; (try dsimp only at hw_); go_simp; try with_reducible rfl)
        simp only [List.setIfInBounds_toArray, List.set_cons_zero, List.set_cons_succ]
        refine wpH_take (i := 9) (v := ?_) rfl rfl (by kernel_rfl) (by kernel_rfl) (by kernel_rfl) (fun _ _ _ h => h) (Or.inl ⟨by rfl, ?_⟩) hS4 ?_
        rotate_left
        · (intro w_ hw_; (try dsimp only at hw_); go_simp; try with_reducible rfl)
        simp only [List.setIfInBounds_toArray, List.set_cons_zero, List.set_cons_succ]
        refine wpH_take (i := 10) (v := ?_) rfl rfl (by kernel_rfl) (by kernel_rfl) (by kernel_rfl) (fun _ _ _ h => h) (Or.inl ⟨by rfl, ?_⟩) hS4 ?_
        rotate_left
        · (intro w_ hw_; (try dsimp only at hw_); go_simp; try with_reducible rfl)
        simp only [List.setIfInBounds_toArray, List.set_cons_zero, List.set_cons_succ]
        refine wpH_take (i := 11) (v := ?_) rfl rfl (by kernel_rfl) (by kernel_rfl) (by kernel_rfl) (fun _ _ _ h => h) (Or.inl ⟨by rfl, ?_⟩) hS4 ?_
        rotate_left
        · (intro w_ hw_; (try dsimp only at hw_); go_simp; try with_reducible rfl)
        simp only [List.setIfInBounds_toArray, List.set_cons_zero, List.set_cons_succ]
        refine wpH_take (i := 12) (v := ?_) rfl rfl (by kernel_rfl) (by kernel_rfl) (by kernel_rfl) (fun _ _ _ h => h) (Or.inl ⟨by rfl, ?_⟩) hS4 ?_
        rotate_left
        · (intro w_ hw_; (try dsimp only at hw_); go_simp; try with_reducible rfl)
        simp only [List.setIfInBounds_toArray, List.set_cons_zero, List.set_cons_succ]
        refine wpH_take (i := 13) (v := ?_) rfl rfl (by kernel_rfl) (by kernel_rfl) (by kernel_rfl) (fun _ _ _ h => h) (Or.inl ⟨by rfl, ?_⟩) hS4 ?_
        rotate_left
        · (intro w_ hw_; (try dsimp only at hw_); go_simp; try with_reducible rfl)
        simp only [List.setIfInBounds_toArray, List.set_cons_zero, List.set_cons_succ]
        refine wpH_take (i := 14) (v := ?_) rfl rfl (by kernel_rfl) (by kernel_rfl) (by kernel_rfl) (fun _ _ _ h => h) (Or.inl ⟨by rfl, ?_⟩) hS4 ?_
        rotate_left
        · (intro w_ hw_; (try dsimp only at hw_); go_simp; try with_reducible rfl)
        simp only [List.setIfInBounds_toArray, List.set_cons_zero, List.set_cons_succ]
        refine wpH_take (i := 15) (v := ?_) rfl rfl (by kernel_rfl) (by kernel_rfl) (by kernel_rfl) (fun _ _ _ h => h) (Or.inl ⟨by rfl, ?_⟩) hS4 ?_
        rotate_left
        · (intro w_ hw_; (try dsimp only at hw_); go_simp; try with_reducible rfl)
        simp only [List.setIfInBounds_toArray, List.set_cons_zero, List.set_cons_succ]
        refine wpH_take (i := 16) (v := ?_) rfl rfl (by kernel_rfl) (by kernel_rfl) (by kernel_rfl) (fun _ _ _ h => h) (Or.inl ⟨by rfl, ?_⟩) hS4 ?_
        rotate_left
        · (intro w_ hw_; (try dsimp only at hw_); go_simp; try with_reducible rfl)
        simp only [List.setIfInBounds_toArray, List.set_cons_zero, List.set_cons_succ]
        refine wpH_take (i := 17) (v := ?_) rfl rfl (by kernel_rfl) (by kernel_rfl) (by kernel_rfl) (fun _ _ _ h => h) (Or.inl ⟨by rfl, ?_⟩) hS4 ?_
        rotate_left
        · (intro w_ hw_; (try dsimp only at hw_); go_simp; try with_reducible rfl)
        simp only [List.setIfInBounds_toArray, List.set_cons_zero, List.set_cons_succ]
        refine wpH_take (i := 18) (v := ?_) rfl rfl (by kernel_rfl) (by kernel_rfl) (by kernel_rfl) (fun _ _ _ h => h) (Or.inl ⟨by rfl, ?_⟩) hS4 ?_
        rotate_left
        · (intro w_ hw_; (try dsimp only at hw_); go_simp; try with_reducible rfl)
        simp only [List.setIfInBounds_toArray, List.set_cons_zero, List.set_cons_succ]
        refine wpH_take (i := 19) (v := ?_) rfl rfl (by kernel_rfl) (by kernel_rfl) (by kernel_rfl) (fun _ _ _ h => h) (Or.inl ⟨by rfl, ?_⟩) hS4 ?_
        rotate_left
        · (intro w_ hw_; (try dsimp only at hw_); go_simp; try with_reducible rfl)
        simp only [List.setIfInBounds_toArray, List.set_cons_zero, List.set_cons_succ]
        refine wpH_take (i := 20) (v := ?_) rfl rfl (by kernel_rfl) (by kernel_rfl) (by kernel_rfl) (fun _ _ _ h => h) (Or.inl ⟨by rfl, ?_⟩) hS4 ?_
        rotate_left
        · (intro w_ hw_; (try dsimp only at hw_); go_simp; try with_reducible rfl)
        simp only [List.setIfInBounds_toArray, List.set_cons_zero, List.set_cons_succ]
        refine wpAnyH_done (by kernel_rfl) ?_ _
        go_wp2
        go_ret
        exact ⟨rfl, hS4.2.2.2.2⟩

theorem MayR_any (r : Rc) (w : World) : Calls Try.prog 28 #[rc r] w fun e w' => e = .returned (.bool (decide (MayR r))) ∧ Below w.heap.size w w' := by
  have h := MayR_road r.x0 r.y0 r.x1 r.y1 _ _ _ rfl rfl (all2 r.x0 r.y0 r.x1 r.y1) w
  rw [← Bool.decide_and, ← Bool.decide_and, show decide (((May ⟨r.x0, r.y0⟩ ∧ May ⟨r.x1, r.y1⟩) ∧ r.x0 ≤ r.x1) ∧ r.y0 ≤ r.y1) = decide (MayR r) from by
    rw [decide_eq_decide]; unfold MayR; simp only [and_assoc]] at h
  exact h
end Go.Proofs.Ytkneohngbkmlpaa
