/- Walks: GeomEdges. -/
import Derived.Test.YtkneohngbkmlpaaW13
import Derived.Test.YtkneohngbkmlpaaSteady
namespace Go.Proofs.Ytkneohngbkmlpaa
open Go.RowKit

set_option maxRecDepth 20000 in
set_option maxHeartbeats 8000000 in
theorem Edges_road (ax ay bx byy cx cy dx dy t : Int) (may y m x o : Bool) (h1 : may = false → t = 0 ∧ o = false) (h2 : (may && y) = false → m = false ∧ x = false)
    (k1 : ∀ w0 : World, ∀ b, b = w0.heap.size → Calls Try.prog 10 #[.slice (some ⟨b, 0, none⟩) 3 3] (w0.alloc (.cells #[.int .i64 ax, .int .i64 ay, .int .i64 bx, .int .i64 byy, .int .i64 cx, .int .i64 cy] 24)) fun e w' => e = .returned (.bool may) ∧ Below w0.heap.size w0 w')
    (k2 : ∀ w, Calls Try.prog 11 #[.agg #[.int .i64 dx, .int .i64 dy]] w fun e w' => e = .returned (.bool y) ∧ Below w.heap.size w w')
    (k3 : may = true → ∀ w, Calls Try.prog 17 #[.agg #[.int .i64 ax, .int .i64 ay], .agg #[.int .i64 bx, .int .i64 byy], .agg #[.int .i64 cx, .int .i64 cy]] w fun e w' => e = .returned (.int .i64 t) ∧ Below w.heap.size w w')
    (k4 : may = true → ∀ w, Calls Try.prog 18 #[.agg #[.int .i64 ax, .int .i64 ay], .agg #[.int .i64 bx, .int .i64 byy], .agg #[.int .i64 cx, .int .i64 cy]] w fun e w' => e = .returned (.bool o) ∧ Below w.heap.size w w')
    (k5 : ∀ w, Calls Try.prog 19 #[.agg #[.int .i64 ax, .int .i64 ay], .agg #[.int .i64 bx, .int .i64 byy], .agg #[.int .i64 cx, .int .i64 cy]] w fun e w' => e = .returned (.int .i64 t) ∧ Below w.heap.size w w')
    (k6 : ∀ w, Calls Try.prog 20 #[.agg #[.int .i64 ax, .int .i64 ay], .agg #[.int .i64 bx, .int .i64 byy], .agg #[.int .i64 cx, .int .i64 cy]] w fun e w' => e = .returned (.bool o) ∧ Below w.heap.size w w')
    (k7 : ∀ w, Calls Try.prog 15 #[.agg #[.int .i64 dx, .int .i64 dy]] w fun e w' => e = .returned (.bool y) ∧ Below w.heap.size w w')
    (k8 : ∀ w, Calls Try.prog 21 #[.agg #[.int .i64 ax, .int .i64 ay], .agg #[.int .i64 bx, .int .i64 byy], .agg #[.int .i64 cx, .int .i64 cy], .agg #[.int .i64 dx, .int .i64 dy]] w fun e w' => e = .returned (.bool m) ∧ Below w.heap.size w w')
    (k9 : ∀ w, Calls Try.prog 22 #[.agg #[.int .i64 ax, .int .i64 ay], .agg #[.int .i64 bx, .int .i64 byy], .agg #[.int .i64 cx, .int .i64 cy], .agg #[.int .i64 dx, .int .i64 dy]] w fun e w' => e = .returned (.bool x) ∧ Below w.heap.size w w')
    (k10 : (may && y) = true → ∀ w, Calls Try.prog 23 #[.agg #[.int .i64 ax, .int .i64 ay], .agg #[.int .i64 bx, .int .i64 byy], .agg #[.int .i64 cx, .int .i64 cy], .agg #[.int .i64 dx, .int .i64 dy]] w fun e w' => e = .returned (.bool m) ∧ Below w.heap.size w w')
    (k11 : (may && y) = true → ∀ w, Calls Try.prog 24 #[.agg #[.int .i64 ax, .int .i64 ay], .agg #[.int .i64 bx, .int .i64 byy], .agg #[.int .i64 cx, .int .i64 cy], .agg #[.int .i64 dx, .int .i64 dy]] w fun e w' => e = .returned (.bool x) ∧ Below w.heap.size w w')
    (k12 : ∀ w, Calls Try.prog 14 #[] w fun e w' => e = .returned (.bool true) ∧ Below w.heap.size w w')
    (w : World) :
    Calls Try.prog 5 #[.agg #[.int .i64 ax, .int .i64 ay, .int .i64 bx, .int .i64 byy, .int .i64 cx, .int .i64 cy, .int .i64 dx, .int .i64 dy]] w fun e w' => e = .returned (.bool true) ∧ Below w.heap.size w w' := by
  have K1 := Lib.hid k1
  have K2 := Lib.hid k2
  have K3 := Lib.hid k3
  have K4 := Lib.hid k4
  have K5 := Lib.hid k5
  have K6 := Lib.hid k6
  have K7 := Lib.hid k7
  have K8 := Lib.hid k8
  have K9 := Lib.hid k9
  have K10 := Lib.hid k10
  have K11 := Lib.hid k11
  have K12 := Lib.hid k12
  have H1 := Lib.hid h1
  have H2 := Lib.hid h2
  clear k1 k2 k3 k4 k5 k6 k7 k8 k9 k10 k11 k12 h1 h2
  go_enter Try.func5, Try.ntmps5
  go_wp2
  rename_i KK hKK
  obtain ⟨w0, hw0, p0, g0, z0⟩ := boxes1 w #[.int .i64 ax, .int .i64 ay, .int .i64 bx, .int .i64 byy, .int .i64 cx, .int .i64 cy, .int .i64 dx, .int .i64 dy] 32
  rw [hw0]
  clear hw0
  have rest : ∀ (b0 b1 b2 b3 : Nat) (W : World), Blk W b0 #[.int .i64 ax, .int .i64 ay] 24 → Blk W b1 #[.int .i64 bx, .int .i64 byy] 24 → Blk W b2 #[.int .i64 cx, .int .i64 cy] 24 → Blk W b3 #[.int .i64 dx, .int .i64 dy] 24 → Below w.heap.size w W →
      KK { tmps := #[.agg #[.int .i64 ax, .int .i64 ay, .int .i64 bx, .int .i64 byy, .int .i64 cx, .int .i64 cy, .int .i64 dx, .int .i64 dy], .pointer (some ⟨w.heap.size, 0, none⟩), .bool false, .pointer (some ⟨b0, 0, none⟩), .pointer (some ⟨b1, 0, none⟩), .pointer (some ⟨b2, 0, none⟩), .pointer (some ⟨b3, 0, none⟩), undef, undef, undef, undef, .pointer (some ⟨w.heap.size, 0, none⟩), .agg #[.int .i64 ax, .int .i64 ay], .pointer (some ⟨w.heap.size, 2, none⟩), .agg #[.int .i64 bx, .int .i64 byy], .pointer (some ⟨w.heap.size, 4, none⟩), .agg #[.int .i64 cx, .int .i64 cy], .pointer (some ⟨w.heap.size, 6, none⟩), .agg #[.int .i64 dx, .int .i64 dy], undef, undef, undef, undef, undef, undef, undef, undef, undef, undef, undef, undef, undef, undef, undef, undef, undef, undef, undef, undef, undef, undef, undef, undef, undef, undef, undef, undef, undef, undef, undef, undef, undef, undef, undef, undef, undef, undef, undef, undef, undef, undef, undef, undef, undef, undef, undef, undef, undef, undef, undef, undef, undef, undef, undef, undef, undef, undef, undef, undef, undef, undef, undef, undef, undef, undef, undef, undef, undef, undef, undef, undef, undef, undef, undef, undef, undef, undef, undef, undef, undef, undef, undef, undef, undef, undef], defers := [] } W := by
    intro b0 b1 b2 b3 W p0 p1 p2 p3 g0
    have keep : ∀ a b : World, Below a.heap.size a b → (fun v : World => v.cell? ⟨b0, 0, none⟩ = some (.int .i64 ax) ∧ v.cell? ⟨b0, 1, none⟩ = some (.int .i64 ay) ∧ v.cell? ⟨b1, 0, none⟩ = some (.int .i64 bx) ∧ v.cell? ⟨b1, 1, none⟩ = some (.int .i64 byy) ∧ v.cell? ⟨b2, 0, none⟩ = some (.int .i64 cx) ∧ v.cell? ⟨b2, 1, none⟩ = some (.int .i64 cy) ∧ v.cell? ⟨b3, 0, none⟩ = some (.int .i64 dx) ∧ v.cell? ⟨b3, 1, none⟩ = some (.int .i64 dy) ∧ Below w.heap.size w v) a → (fun v : World => v.cell? ⟨b0, 0, none⟩ = some (.int .i64 ax) ∧ v.cell? ⟨b0, 1, none⟩ = some (.int .i64 ay) ∧ v.cell? ⟨b1, 0, none⟩ = some (.int .i64 bx) ∧ v.cell? ⟨b1, 1, none⟩ = some (.int .i64 byy) ∧ v.cell? ⟨b2, 0, none⟩ = some (.int .i64 cx) ∧ v.cell? ⟨b2, 1, none⟩ = some (.int .i64 cy) ∧ v.cell? ⟨b3, 0, none⟩ = some (.int .i64 dx) ∧ v.cell? ⟨b3, 1, none⟩ = some (.int .i64 dy) ∧ Below w.heap.size w v) b :=
      fun a b hb ⟨h0, h1, h2, h3, h4, h5, h6, h7, h8⟩ => ⟨cell_grew h0 hb, cell_grew h1 hb, cell_grew h2 hb, cell_grew h3 hb, cell_grew h4 hb, cell_grew h5 hb, cell_grew h6 hb, cell_grew h7 hb, grow h8 hb⟩
    have KS := Lib.hid keep
    clear keep
    have drew : ∀ a : World, (fun v : World => v.cell? ⟨b0, 0, none⟩ = some (.int .i64 ax) ∧ v.cell? ⟨b0, 1, none⟩ = some (.int .i64 ay) ∧ v.cell? ⟨b1, 0, none⟩ = some (.int .i64 bx) ∧ v.cell? ⟨b1, 1, none⟩ = some (.int .i64 byy) ∧ v.cell? ⟨b2, 0, none⟩ = some (.int .i64 cx) ∧ v.cell? ⟨b2, 1, none⟩ = some (.int .i64 cy) ∧ v.cell? ⟨b3, 0, none⟩ = some (.int .i64 dx) ∧ v.cell? ⟨b3, 1, none⟩ = some (.int .i64 dy) ∧ Below w.heap.size w v) a → (fun v : World => v.cell? ⟨b0, 0, none⟩ = some (.int .i64 ax) ∧ v.cell? ⟨b0, 1, none⟩ = some (.int .i64 ay) ∧ v.cell? ⟨b1, 0, none⟩ = some (.int .i64 bx) ∧ v.cell? ⟨b1, 1, none⟩ = some (.int .i64 byy) ∧ v.cell? ⟨b2, 0, none⟩ = some (.int .i64 cx) ∧ v.cell? ⟨b2, 1, none⟩ = some (.int .i64 cy) ∧ v.cell? ⟨b3, 0, none⟩ = some (.int .i64 dx) ∧ v.cell? ⟨b3, 1, none⟩ = some (.int .i64 dy) ∧ Below w.heap.size w v) a.drew :=
      fun a ⟨h0, h1, h2, h3, h4, h5, h6, h7, h8⟩ => ⟨h0, h1, h2, h3, h4, h5, h6, h7, h8.drew⟩
    have HD := Lib.hid drew
    clear drew
    have hS0 : (fun v : World => v.cell? ⟨b0, 0, none⟩ = some (.int .i64 ax) ∧ v.cell? ⟨b0, 1, none⟩ = some (.int .i64 ay) ∧ v.cell? ⟨b1, 0, none⟩ = some (.int .i64 bx) ∧ v.cell? ⟨b1, 1, none⟩ = some (.int .i64 byy) ∧ v.cell? ⟨b2, 0, none⟩ = some (.int .i64 cx) ∧ v.cell? ⟨b2, 1, none⟩ = some (.int .i64 cy) ∧ v.cell? ⟨b3, 0, none⟩ = some (.int .i64 dx) ∧ v.cell? ⟨b3, 1, none⟩ = some (.int .i64 dy) ∧ Below w.heap.size w v) W := ⟨p0.two.1, p0.two.2.1, p1.two.1, p1.two.2.1, p2.two.1, p2.two.2.1, p3.two.1, p3.two.2.1, g0⟩
    clear p0 p1 p2 p3 g0
    cases may
    · obtain ⟨rfl, rfl⟩ := H1.out rfl
      obtain ⟨rfl, rfl⟩ := H2.out rfl
      clear H1 H2
      obtain ⟨c0, c1, c2, c3, c4, c5, c6, c7, c8⟩ := id hS0
      have C8 := Lib.hid c8
      clear c8
      go_wp2_with fail
      refine (K1.out _ _ rfl).mono ?_
      rintro e w1 ⟨rfl, hb⟩
      have hS1 := KS.out _ _ hb hS0
      clear c0 c1 c2 c3 c4 c5 c6 c7 C8
      clear hb hS0
      obtain ⟨c0, c1, c2, c3, c4, c5, c6, c7, c8⟩ := id hS1
      have C8 := Lib.hid c8
      clear c8
      go_wp2_with fail
      clear c0 c1 c2 c3 c4 c5 c6 c7 C8
      refine wp_region_steady (S := (fun v : World => v.cell? ⟨b0, 0, none⟩ = some (.int .i64 ax) ∧ v.cell? ⟨b0, 1, none⟩ = some (.int .i64 ay) ∧ v.cell? ⟨b1, 0, none⟩ = some (.int .i64 bx) ∧ v.cell? ⟨b1, 1, none⟩ = some (.int .i64 byy) ∧ v.cell? ⟨b2, 0, none⟩ = some (.int .i64 cx) ∧ v.cell? ⟨b2, 1, none⟩ = some (.int .i64 cy) ∧ v.cell? ⟨b3, 0, none⟩ = some (.int .i64 dx) ∧ v.cell? ⟨b3, 1, none⟩ = some (.int .i64 dy) ∧ Below w.heap.size w v)) (by kernel_rfl) (HD.out _ hS1) ?_
      refine wpS_take (i := 0) (v := ?_) rfl rfl (by kernel_rfl) (by kernel_rfl) (by kernel_rfl) (fun _ _ _ h => h) (Steady.value (by rfl) ?_) ?_
      rotate_left
      · (intro w hS; (try dsimp only at hS); go_simp; try with_reducible rfl)
      simp only [List.setIfInBounds_toArray, List.set_cons_zero, List.set_cons_succ]
      refine wpS_take (i := 1) (v := ?_) rfl rfl (by kernel_rfl) (by kernel_rfl) (by kernel_rfl) (fun _ _ _ h => h) (Steady.value (by rfl) ?_) ?_
      rotate_left
      · (intro w hS; (try dsimp only at hS); go_simp; try with_reducible rfl)
      simp only [List.setIfInBounds_toArray, List.set_cons_zero, List.set_cons_succ]
      refine wpS_take (i := 2) (v := ?_) rfl rfl (by kernel_rfl) (by kernel_rfl) (by kernel_rfl) (fun _ _ _ h => h) (Steady.value (by rfl) ?_) ?_
      rotate_left
      · (intro w hS; (try dsimp only at hS); go_simp; try with_reducible rfl)
      simp only [List.setIfInBounds_toArray, List.set_cons_zero, List.set_cons_succ]
      refine wpS_take (i := 3) rfl rfl (by kernel_rfl) (by kernel_rfl) (by kernel_rfl) (fun _ _ _ h => h) (Steady.call (by rfl) (steady_below KS.out (K5.out)) (fun w hS => by (go_simp))) ?_
      simp only [List.setIfInBounds_toArray, List.set_cons_zero, List.set_cons_succ]
      refine wpS_take (i := 4) (v := ?_) rfl rfl (by kernel_rfl) (by kernel_rfl) (by kernel_rfl) (fun _ _ _ h => h) (Steady.value (by rfl) ?_) ?_
      rotate_left
      · (intro w hS; (try dsimp only at hS); go_simp; try with_reducible rfl)
      simp only [List.setIfInBounds_toArray, List.set_cons_zero, List.set_cons_succ]
      refine wpS_take (i := 5) (v := ?_) rfl rfl (by kernel_rfl) (by kernel_rfl) (by kernel_rfl) (fun _ _ _ h => h) (Steady.value (by rfl) ?_) ?_
      rotate_left
      · (intro w hS; (try dsimp only at hS); go_simp; try with_reducible rfl)
      simp only [List.setIfInBounds_toArray, List.set_cons_zero, List.set_cons_succ]
      refine wpS_take (i := 6) (v := ?_) rfl rfl (by kernel_rfl) (by kernel_rfl) (by kernel_rfl) (fun _ _ _ h => h) (Steady.value (by rfl) ?_) ?_
      rotate_left
      · (intro w hS; (try dsimp only at hS); go_simp; try with_reducible rfl)
      simp only [List.setIfInBounds_toArray, List.set_cons_zero, List.set_cons_succ]
      refine wpS_take (i := 7) (v := ?_) rfl rfl (by kernel_rfl) (by kernel_rfl) (by kernel_rfl) (fun _ _ _ h => h) (Steady.value (by rfl) ?_) ?_
      rotate_left
      · (intro w hS; (try dsimp only at hS); go_simp; try with_reducible rfl)
      simp only [List.setIfInBounds_toArray, List.set_cons_zero, List.set_cons_succ]
      refine wpS_take (i := 8) (v := ?_) rfl rfl (by kernel_rfl) (by kernel_rfl) (by kernel_rfl) (fun _ _ _ h => h) (Steady.value (by rfl) ?_) ?_
      rotate_left
      · (intro w hS; (try dsimp only at hS); go_simp; try with_reducible rfl)
      simp only [List.setIfInBounds_toArray, List.set_cons_zero, List.set_cons_succ]
      refine wpS_take (i := 9) (v := ?_) rfl rfl (by kernel_rfl) (by kernel_rfl) (by kernel_rfl) (fun _ _ _ h => h) (Steady.value (by rfl) ?_) ?_
      rotate_left
      · (intro w hS; (try dsimp only at hS); go_simp; try with_reducible rfl)
      simp only [List.setIfInBounds_toArray, List.set_cons_zero, List.set_cons_succ]
      refine wpS_take (i := 10) rfl rfl (by kernel_rfl) (by kernel_rfl) (by kernel_rfl) (fun _ _ _ h => h) (Steady.call (by rfl) (steady_below KS.out (K6.out)) (fun w hS => by (go_simp))) ?_
      simp only [List.setIfInBounds_toArray, List.set_cons_zero, List.set_cons_succ]
      refine wpS_take (i := 11) (v := ?_) rfl rfl (by kernel_rfl) (by kernel_rfl) (by kernel_rfl) (fun _ _ _ h => h) (Steady.value (by rfl) ?_) ?_
      rotate_left
      · (intro w hS; (try dsimp only at hS); go_simp; try with_reducible rfl)
      simp only [List.setIfInBounds_toArray, List.set_cons_zero, List.set_cons_succ]
      refine wpS_take (i := 12) (v := ?_) rfl rfl (by kernel_rfl) (by kernel_rfl) (by kernel_rfl) (fun _ _ _ h => h) (Steady.value (by rfl) ?_) ?_
      rotate_left
      · (intro w hS; (try dsimp only at hS); go_simp; try with_reducible rfl)
      simp only [List.setIfInBounds_toArray, List.set_cons_zero, List.set_cons_succ]
      refine wpS_take (i := 13) (v := ?_) rfl rfl (by kernel_rfl) (by kernel_rfl) (by kernel_rfl) (fun _ _ _ h => h) (Steady.value (by rfl) ?_) ?_
      rotate_left
      · (intro w hS; (try dsimp only at hS); go_simp; try with_reducible rfl)
      simp only [List.setIfInBounds_toArray, List.set_cons_zero, List.set_cons_succ]
      refine wpS_take (i := 14) (v := ?_) rfl rfl (by kernel_rfl) (by kernel_rfl) (by kernel_rfl) (fun _ _ _ h => h) (Steady.value (by rfl) ?_) ?_
      rotate_left
      · (intro w hS; (try dsimp only at hS); go_simp; try with_reducible rfl)
      simp only [List.setIfInBounds_toArray, List.set_cons_zero, List.set_cons_succ]
      refine wpS_take (i := 15) (v := ?_) rfl rfl (by kernel_rfl) (by kernel_rfl) (by kernel_rfl) (fun _ _ _ h => h) (Steady.value (by rfl) ?_) ?_
      rotate_left
      · (intro w hS; (try dsimp only at hS); go_simp; try with_reducible rfl)
      simp only [List.setIfInBounds_toArray, List.set_cons_zero, List.set_cons_succ]
      refine wpS_take (i := 16) rfl rfl (by kernel_rfl) (by kernel_rfl) (by kernel_rfl) (fun _ _ _ h => h) (Steady.call (by rfl) (steady_below KS.out (K7.out)) (fun w hS => by (go_simp))) ?_
      simp only [List.setIfInBounds_toArray, List.set_cons_zero, List.set_cons_succ]
      refine wpS_take (i := 17) (v := ?_) rfl rfl (by kernel_rfl) (by kernel_rfl) (by kernel_rfl) (fun _ _ _ h => h) (Steady.value (by rfl) ?_) ?_
      rotate_left
      · (intro w hS; (try dsimp only at hS); go_simp; try with_reducible rfl)
      simp only [List.setIfInBounds_toArray, List.set_cons_zero, List.set_cons_succ]
      refine wpS_take (i := 18) rfl rfl (by kernel_rfl) (by kernel_rfl) (by kernel_rfl) (fun _ _ _ h => h) (Steady.call (by rfl) (steady_below KS.out (K2.out)) (fun w hS => by (go_simp))) ?_
      simp only [List.setIfInBounds_toArray, List.set_cons_zero, List.set_cons_succ]
      refine wpS_take (i := 19) (v := ?_) rfl rfl (by kernel_rfl) (by kernel_rfl) (by kernel_rfl) (fun _ _ _ h => h) (Steady.value (by rfl) ?_) ?_
      rotate_left
      · (intro w hS; (try dsimp only at hS); go_simp; try with_reducible rfl)
      simp only [List.setIfInBounds_toArray, List.set_cons_zero, List.set_cons_succ]
      refine wpS_take (i := 20) (v := ?_) rfl rfl (by kernel_rfl) (by kernel_rfl) (by kernel_rfl) (fun _ _ _ h => h) (Steady.value (by rfl) ?_) ?_
      rotate_left
      · (intro w hS; (try dsimp only at hS); go_simp; try with_reducible rfl)
      simp only [List.setIfInBounds_toArray, List.set_cons_zero, List.set_cons_succ]
      refine wpS_done (by kernel_rfl) (fun w2 hS2 => ?_) _
      clear hS1
      obtain ⟨c0, c1, c2, c3, c4, c5, c6, c7, c8⟩ := id hS2
      have C8 := Lib.hid c8
      clear c8
      go_wp2_with fail
      refine (K8.out _).mono ?_
      rintro e w3 ⟨rfl, hb⟩
      have hS3 := KS.out _ _ hb hS2
      clear c0 c1 c2 c3 c4 c5 c6 c7 C8
      clear hb hS2
      obtain ⟨c0, c1, c2, c3, c4, c5, c6, c7, c8⟩ := id hS3
      have C8 := Lib.hid c8
      clear c8
      go_wp2_with fail
      refine (K9.out _).mono ?_
      rintro e w4 ⟨rfl, hb⟩
      have hS4 := KS.out _ _ hb hS3
      clear c0 c1 c2 c3 c4 c5 c6 c7 C8
      clear hb hS3
      obtain ⟨c0, c1, c2, c3, c4, c5, c6, c7, c8⟩ := id hS4
      have C8 := Lib.hid c8
      clear c8
      go_wp2_with fail
      refine (K12.out _).mono ?_
      rintro e w5 ⟨rfl, hb⟩
      have hS5 := KS.out _ _ hb hS4
      clear c0 c1 c2 c3 c4 c5 c6 c7 C8
      clear hb hS4
      obtain ⟨c0, c1, c2, c3, c4, c5, c6, c7, c8⟩ := id hS5
      have C8 := Lib.hid c8
      clear c8
      go_wp2
      go_ret
      exact ⟨rfl, C8.out⟩
    · cases y
      · obtain ⟨rfl, rfl⟩ := H2.out rfl
        clear H1 H2
        obtain ⟨c0, c1, c2, c3, c4, c5, c6, c7, c8⟩ := id hS0
        have C8 := Lib.hid c8
        clear c8
        go_wp2_with fail
        refine (K1.out _ _ rfl).mono ?_
        rintro e w1 ⟨rfl, hb⟩
        have hS1 := KS.out _ _ hb hS0
        clear c0 c1 c2 c3 c4 c5 c6 c7 C8
        clear hb hS0
        obtain ⟨c0, c1, c2, c3, c4, c5, c6, c7, c8⟩ := id hS1
        have C8 := Lib.hid c8
        clear c8
        go_wp2_with fail
        refine (K2.out _).mono ?_
        rintro e w2 ⟨rfl, hb⟩
        have hS2 := KS.out _ _ hb hS1
        clear c0 c1 c2 c3 c4 c5 c6 c7 C8
        clear hb hS1
        obtain ⟨c0, c1, c2, c3, c4, c5, c6, c7, c8⟩ := id hS2
        have C8 := Lib.hid c8
        clear c8
        go_wp2_with fail
        clear c0 c1 c2 c3 c4 c5 c6 c7 C8
        refine wp_region_steady (S := (fun v : World => v.cell? ⟨b0, 0, none⟩ = some (.int .i64 ax) ∧ v.cell? ⟨b0, 1, none⟩ = some (.int .i64 ay) ∧ v.cell? ⟨b1, 0, none⟩ = some (.int .i64 bx) ∧ v.cell? ⟨b1, 1, none⟩ = some (.int .i64 byy) ∧ v.cell? ⟨b2, 0, none⟩ = some (.int .i64 cx) ∧ v.cell? ⟨b2, 1, none⟩ = some (.int .i64 cy) ∧ v.cell? ⟨b3, 0, none⟩ = some (.int .i64 dx) ∧ v.cell? ⟨b3, 1, none⟩ = some (.int .i64 dy) ∧ Below w.heap.size w v)) (by kernel_rfl) (HD.out _ hS2) ?_
        refine wpS_take (i := 0) (v := ?_) rfl rfl (by kernel_rfl) (by kernel_rfl) (by kernel_rfl) (fun _ _ _ h => h) (Steady.value (by rfl) ?_) ?_
        rotate_left
        · (intro w hS; (try dsimp only at hS); go_simp; try with_reducible rfl)
        simp only [List.setIfInBounds_toArray, List.set_cons_zero, List.set_cons_succ]
        refine wpS_take (i := 1) (v := ?_) rfl rfl (by kernel_rfl) (by kernel_rfl) (by kernel_rfl) (fun _ _ _ h => h) (Steady.value (by rfl) ?_) ?_
        rotate_left
        · (intro w hS; (try dsimp only at hS); go_simp; try with_reducible rfl)
        simp only [List.setIfInBounds_toArray, List.set_cons_zero, List.set_cons_succ]
        refine wpS_take (i := 2) (v := ?_) rfl rfl (by kernel_rfl) (by kernel_rfl) (by kernel_rfl) (fun _ _ _ h => h) (Steady.value (by rfl) ?_) ?_
        rotate_left
        · (intro w hS; (try dsimp only at hS); go_simp; try with_reducible rfl)
        simp only [List.setIfInBounds_toArray, List.set_cons_zero, List.set_cons_succ]
        refine wpS_take (i := 3) rfl rfl (by kernel_rfl) (by kernel_rfl) (by kernel_rfl) (fun _ _ _ h => h) (Steady.call (by rfl) (steady_below KS.out (K3.out (by first | rfl | trivial))) (fun w hS => by (go_simp))) ?_
        simp only [List.setIfInBounds_toArray, List.set_cons_zero, List.set_cons_succ]
        refine wpS_take (i := 4) (v := ?_) rfl rfl (by kernel_rfl) (by kernel_rfl) (by kernel_rfl) (fun _ _ _ h => h) (Steady.value (by rfl) ?_) ?_
        rotate_left
        · (intro w hS; (try dsimp only at hS); go_simp; try with_reducible rfl)
        simp only [List.setIfInBounds_toArray, List.set_cons_zero, List.set_cons_succ]
        refine wpS_take (i := 5) (v := ?_) rfl rfl (by kernel_rfl) (by kernel_rfl) (by kernel_rfl) (fun _ _ _ h => h) (Steady.value (by rfl) ?_) ?_
        rotate_left
        · (intro w hS; (try dsimp only at hS); go_simp; try with_reducible rfl)
        simp only [List.setIfInBounds_toArray, List.set_cons_zero, List.set_cons_succ]
        refine wpS_take (i := 6) (v := ?_) rfl rfl (by kernel_rfl) (by kernel_rfl) (by kernel_rfl) (fun _ _ _ h => h) (Steady.value (by rfl) ?_) ?_
        rotate_left
        · (intro w hS; (try dsimp only at hS); go_simp; try with_reducible rfl)
        simp only [List.setIfInBounds_toArray, List.set_cons_zero, List.set_cons_succ]
        refine wpS_take (i := 7) rfl rfl (by kernel_rfl) (by kernel_rfl) (by kernel_rfl) (fun _ _ _ h => h) (Steady.call (by rfl) (steady_below KS.out (K4.out (by first | rfl | trivial))) (fun w hS => by (go_simp))) ?_
        simp only [List.setIfInBounds_toArray, List.set_cons_zero, List.set_cons_succ]
        refine wpS_take (i := 8) (v := ?_) rfl rfl (by kernel_rfl) (by kernel_rfl) (by kernel_rfl) (fun _ _ _ h => h) (Steady.value (by rfl) ?_) ?_
        rotate_left
        · (intro w hS; (try dsimp only at hS); go_simp; try with_reducible rfl)
        simp only [List.setIfInBounds_toArray, List.set_cons_zero, List.set_cons_succ]
        refine wpS_take (i := 9) (v := ?_) rfl rfl (by kernel_rfl) (by kernel_rfl) (by kernel_rfl) (fun _ _ _ h => h) (Steady.value (by rfl) ?_) ?_
        rotate_left
        · (intro w hS; (try dsimp only at hS); go_simp; try with_reducible rfl)
        simp only [List.setIfInBounds_toArray, List.set_cons_zero, List.set_cons_succ]
        refine wpS_done (by kernel_rfl) (fun w3 hS3 => ?_) _
        clear hS2
        obtain ⟨c0, c1, c2, c3, c4, c5, c6, c7, c8⟩ := id hS3
        have C8 := Lib.hid c8
        clear c8
        go_wp2_with fail
        clear c0 c1 c2 c3 c4 c5 c6 c7 C8
        refine wp_region_steady (S := (fun v : World => v.cell? ⟨b0, 0, none⟩ = some (.int .i64 ax) ∧ v.cell? ⟨b0, 1, none⟩ = some (.int .i64 ay) ∧ v.cell? ⟨b1, 0, none⟩ = some (.int .i64 bx) ∧ v.cell? ⟨b1, 1, none⟩ = some (.int .i64 byy) ∧ v.cell? ⟨b2, 0, none⟩ = some (.int .i64 cx) ∧ v.cell? ⟨b2, 1, none⟩ = some (.int .i64 cy) ∧ v.cell? ⟨b3, 0, none⟩ = some (.int .i64 dx) ∧ v.cell? ⟨b3, 1, none⟩ = some (.int .i64 dy) ∧ Below w.heap.size w v)) (by kernel_rfl) (HD.out _ hS3) ?_
        refine wpS_take (i := 0) (v := ?_) rfl rfl (by kernel_rfl) (by kernel_rfl) (by kernel_rfl) (fun _ _ _ h => h) (Steady.value (by rfl) ?_) ?_
        rotate_left
        · (intro w hS; (try dsimp only at hS); go_simp; try with_reducible rfl)
        simp only [List.setIfInBounds_toArray, List.set_cons_zero, List.set_cons_succ]
        refine wpS_take (i := 1) (v := ?_) rfl rfl (by kernel_rfl) (by kernel_rfl) (by kernel_rfl) (fun _ _ _ h => h) (Steady.value (by rfl) ?_) ?_
        rotate_left
        · (intro w hS; (try dsimp only at hS); go_simp; try with_reducible rfl)
        simp only [List.setIfInBounds_toArray, List.set_cons_zero, List.set_cons_succ]
        refine wpS_take (i := 2) (v := ?_) rfl rfl (by kernel_rfl) (by kernel_rfl) (by kernel_rfl) (fun _ _ _ h => h) (Steady.value (by rfl) ?_) ?_
        rotate_left
        · (intro w hS; (try dsimp only at hS); go_simp; try with_reducible rfl)
        simp only [List.setIfInBounds_toArray, List.set_cons_zero, List.set_cons_succ]
        refine wpS_take (i := 3) rfl rfl (by kernel_rfl) (by kernel_rfl) (by kernel_rfl) (fun _ _ _ h => h) (Steady.call (by rfl) (steady_below KS.out (K5.out)) (fun w hS => by (go_simp))) ?_
        simp only [List.setIfInBounds_toArray, List.set_cons_zero, List.set_cons_succ]
        refine wpS_take (i := 4) (v := ?_) rfl rfl (by kernel_rfl) (by kernel_rfl) (by kernel_rfl) (fun _ _ _ h => h) (Steady.value (by rfl) ?_) ?_
        rotate_left
        · (intro w hS; (try dsimp only at hS); go_simp; try with_reducible rfl)
        simp only [List.setIfInBounds_toArray, List.set_cons_zero, List.set_cons_succ]
        refine wpS_take (i := 5) (v := ?_) rfl rfl (by kernel_rfl) (by kernel_rfl) (by kernel_rfl) (fun _ _ _ h => h) (Steady.value (by rfl) ?_) ?_
        rotate_left
        · (intro w hS; (try dsimp only at hS); go_simp; try with_reducible rfl)
        simp only [List.setIfInBounds_toArray, List.set_cons_zero, List.set_cons_succ]
        refine wpS_take (i := 6) (v := ?_) rfl rfl (by kernel_rfl) (by kernel_rfl) (by kernel_rfl) (fun _ _ _ h => h) (Steady.value (by rfl) ?_) ?_
        rotate_left
        · (intro w hS; (try dsimp only at hS); go_simp; try with_reducible rfl)
        simp only [List.setIfInBounds_toArray, List.set_cons_zero, List.set_cons_succ]
        refine wpS_take (i := 7) (v := ?_) rfl rfl (by kernel_rfl) (by kernel_rfl) (by kernel_rfl) (fun _ _ _ h => h) (Steady.value (by rfl) ?_) ?_
        rotate_left
        · (intro w hS; (try dsimp only at hS); go_simp; try with_reducible rfl)
        simp only [List.setIfInBounds_toArray, List.set_cons_zero, List.set_cons_succ]
        refine wpS_take (i := 8) (v := ?_) rfl rfl (by kernel_rfl) (by kernel_rfl) (by kernel_rfl) (fun _ _ _ h => h) (Steady.value (by rfl) ?_) ?_
        rotate_left
        · (intro w hS; (try dsimp only at hS); go_simp; try with_reducible rfl)
        simp only [List.setIfInBounds_toArray, List.set_cons_zero, List.set_cons_succ]
        refine wpS_take (i := 9) (v := ?_) rfl rfl (by kernel_rfl) (by kernel_rfl) (by kernel_rfl) (fun _ _ _ h => h) (Steady.value (by rfl) ?_) ?_
        rotate_left
        · (intro w hS; (try dsimp only at hS); go_simp; try with_reducible rfl)
        simp only [List.setIfInBounds_toArray, List.set_cons_zero, List.set_cons_succ]
        refine wpS_take (i := 10) rfl rfl (by kernel_rfl) (by kernel_rfl) (by kernel_rfl) (fun _ _ _ h => h) (Steady.call (by rfl) (steady_below KS.out (K6.out)) (fun w hS => by (go_simp))) ?_
        simp only [List.setIfInBounds_toArray, List.set_cons_zero, List.set_cons_succ]
        refine wpS_take (i := 11) (v := ?_) rfl rfl (by kernel_rfl) (by kernel_rfl) (by kernel_rfl) (fun _ _ _ h => h) (Steady.value (by rfl) ?_) ?_
        rotate_left
        · (intro w hS; (try dsimp only at hS); go_simp; try with_reducible rfl)
        simp only [List.setIfInBounds_toArray, List.set_cons_zero, List.set_cons_succ]
        refine wpS_take (i := 12) (v := ?_) rfl rfl (by kernel_rfl) (by kernel_rfl) (by kernel_rfl) (fun _ _ _ h => h) (Steady.value (by rfl) ?_) ?_
        rotate_left
        · (intro w hS; (try dsimp only at hS); go_simp; try with_reducible rfl)
        simp only [List.setIfInBounds_toArray, List.set_cons_zero, List.set_cons_succ]
        refine wpS_take (i := 13) (v := ?_) rfl rfl (by kernel_rfl) (by kernel_rfl) (by kernel_rfl) (fun _ _ _ h => h) (Steady.value (by rfl) ?_) ?_
        rotate_left
        · (intro w hS; (try dsimp only at hS); go_simp; try with_reducible rfl)
        simp only [List.setIfInBounds_toArray, List.set_cons_zero, List.set_cons_succ]
        refine wpS_take (i := 14) (v := ?_) rfl rfl (by kernel_rfl) (by kernel_rfl) (by kernel_rfl) (fun _ _ _ h => h) (Steady.value (by rfl) ?_) ?_
        rotate_left
        · (intro w hS; (try dsimp only at hS); go_simp; try with_reducible rfl)
        simp only [List.setIfInBounds_toArray, List.set_cons_zero, List.set_cons_succ]
        refine wpS_take (i := 15) (v := ?_) rfl rfl (by kernel_rfl) (by kernel_rfl) (by kernel_rfl) (fun _ _ _ h => h) (Steady.value (by rfl) ?_) ?_
        rotate_left
        · (intro w hS; (try dsimp only at hS); go_simp; try with_reducible rfl)
        simp only [List.setIfInBounds_toArray, List.set_cons_zero, List.set_cons_succ]
        refine wpS_take (i := 16) rfl rfl (by kernel_rfl) (by kernel_rfl) (by kernel_rfl) (fun _ _ _ h => h) (Steady.call (by rfl) (steady_below KS.out (K7.out)) (fun w hS => by (go_simp))) ?_
        simp only [List.setIfInBounds_toArray, List.set_cons_zero, List.set_cons_succ]
        refine wpS_take (i := 17) (v := ?_) rfl rfl (by kernel_rfl) (by kernel_rfl) (by kernel_rfl) (fun _ _ _ h => h) (Steady.value (by rfl) ?_) ?_
        rotate_left
        · (intro w hS; (try dsimp only at hS); go_simp; try with_reducible rfl)
        simp only [List.setIfInBounds_toArray, List.set_cons_zero, List.set_cons_succ]
        refine wpS_take (i := 18) rfl rfl (by kernel_rfl) (by kernel_rfl) (by kernel_rfl) (fun _ _ _ h => h) (Steady.call (by rfl) (steady_below KS.out (K2.out)) (fun w hS => by (go_simp))) ?_
        simp only [List.setIfInBounds_toArray, List.set_cons_zero, List.set_cons_succ]
        refine wpS_take (i := 19) (v := ?_) rfl rfl (by kernel_rfl) (by kernel_rfl) (by kernel_rfl) (fun _ _ _ h => h) (Steady.value (by rfl) ?_) ?_
        rotate_left
        · (intro w hS; (try dsimp only at hS); go_simp; try with_reducible rfl)
        simp only [List.setIfInBounds_toArray, List.set_cons_zero, List.set_cons_succ]
        refine wpS_take (i := 20) (v := ?_) rfl rfl (by kernel_rfl) (by kernel_rfl) (by kernel_rfl) (fun _ _ _ h => h) (Steady.value (by rfl) ?_) ?_
        rotate_left
        · (intro w hS; (try dsimp only at hS); go_simp; try with_reducible rfl)
        simp only [List.setIfInBounds_toArray, List.set_cons_zero, List.set_cons_succ]
        refine wpS_done (by kernel_rfl) (fun w4 hS4 => ?_) _
        clear hS3
        obtain ⟨c0, c1, c2, c3, c4, c5, c6, c7, c8⟩ := id hS4
        have C8 := Lib.hid c8
        clear c8
        go_wp2_with fail
        refine (K8.out _).mono ?_
        rintro e w5 ⟨rfl, hb⟩
        have hS5 := KS.out _ _ hb hS4
        clear c0 c1 c2 c3 c4 c5 c6 c7 C8
        clear hb hS4
        obtain ⟨c0, c1, c2, c3, c4, c5, c6, c7, c8⟩ := id hS5
        have C8 := Lib.hid c8
        clear c8
        go_wp2_with fail
        refine (K9.out _).mono ?_
        rintro e w6 ⟨rfl, hb⟩
        have hS6 := KS.out _ _ hb hS5
        clear c0 c1 c2 c3 c4 c5 c6 c7 C8
        clear hb hS5
        obtain ⟨c0, c1, c2, c3, c4, c5, c6, c7, c8⟩ := id hS6
        have C8 := Lib.hid c8
        clear c8
        go_wp2_with fail
        refine (K12.out _).mono ?_
        rintro e w7 ⟨rfl, hb⟩
        have hS7 := KS.out _ _ hb hS6
        clear c0 c1 c2 c3 c4 c5 c6 c7 C8
        clear hb hS6
        obtain ⟨c0, c1, c2, c3, c4, c5, c6, c7, c8⟩ := id hS7
        have C8 := Lib.hid c8
        clear c8
        go_wp2
        go_ret
        exact ⟨rfl, C8.out⟩
      · obtain ⟨c0, c1, c2, c3, c4, c5, c6, c7, c8⟩ := id hS0
        have C8 := Lib.hid c8
        clear c8
        go_wp2_with fail
        refine (K1.out _ _ rfl).mono ?_
        rintro e w1 ⟨rfl, hb⟩
        have hS1 := KS.out _ _ hb hS0
        clear c0 c1 c2 c3 c4 c5 c6 c7 C8
        clear hb hS0
        obtain ⟨c0, c1, c2, c3, c4, c5, c6, c7, c8⟩ := id hS1
        have C8 := Lib.hid c8
        clear c8
        go_wp2_with fail
        refine (K2.out _).mono ?_
        rintro e w2 ⟨rfl, hb⟩
        have hS2 := KS.out _ _ hb hS1
        clear c0 c1 c2 c3 c4 c5 c6 c7 C8
        clear hb hS1
        obtain ⟨c0, c1, c2, c3, c4, c5, c6, c7, c8⟩ := id hS2
        have C8 := Lib.hid c8
        clear c8
        go_wp2_with fail
        clear c0 c1 c2 c3 c4 c5 c6 c7 C8
        refine wp_region_steady (S := (fun v : World => v.cell? ⟨b0, 0, none⟩ = some (.int .i64 ax) ∧ v.cell? ⟨b0, 1, none⟩ = some (.int .i64 ay) ∧ v.cell? ⟨b1, 0, none⟩ = some (.int .i64 bx) ∧ v.cell? ⟨b1, 1, none⟩ = some (.int .i64 byy) ∧ v.cell? ⟨b2, 0, none⟩ = some (.int .i64 cx) ∧ v.cell? ⟨b2, 1, none⟩ = some (.int .i64 cy) ∧ v.cell? ⟨b3, 0, none⟩ = some (.int .i64 dx) ∧ v.cell? ⟨b3, 1, none⟩ = some (.int .i64 dy) ∧ Below w.heap.size w v)) (by kernel_rfl) (HD.out _ hS2) ?_
        refine wpS_take (i := 0) (v := ?_) rfl rfl (by kernel_rfl) (by kernel_rfl) (by kernel_rfl) (fun _ _ _ h => h) (Steady.value (by rfl) ?_) ?_
        rotate_left
        · (intro w hS; (try dsimp only at hS); go_simp; try with_reducible rfl)
        simp only [List.setIfInBounds_toArray, List.set_cons_zero, List.set_cons_succ]
        refine wpS_take (i := 1) (v := ?_) rfl rfl (by kernel_rfl) (by kernel_rfl) (by kernel_rfl) (fun _ _ _ h => h) (Steady.value (by rfl) ?_) ?_
        rotate_left
        · (intro w hS; (try dsimp only at hS); go_simp; try with_reducible rfl)
        simp only [List.setIfInBounds_toArray, List.set_cons_zero, List.set_cons_succ]
        refine wpS_take (i := 2) (v := ?_) rfl rfl (by kernel_rfl) (by kernel_rfl) (by kernel_rfl) (fun _ _ _ h => h) (Steady.value (by rfl) ?_) ?_
        rotate_left
        · (intro w hS; (try dsimp only at hS); go_simp; try with_reducible rfl)
        simp only [List.setIfInBounds_toArray, List.set_cons_zero, List.set_cons_succ]
        refine wpS_take (i := 3) rfl rfl (by kernel_rfl) (by kernel_rfl) (by kernel_rfl) (fun _ _ _ h => h) (Steady.call (by rfl) (steady_below KS.out (K3.out (by first | rfl | trivial))) (fun w hS => by (go_simp))) ?_
        simp only [List.setIfInBounds_toArray, List.set_cons_zero, List.set_cons_succ]
        refine wpS_take (i := 4) (v := ?_) rfl rfl (by kernel_rfl) (by kernel_rfl) (by kernel_rfl) (fun _ _ _ h => h) (Steady.value (by rfl) ?_) ?_
        rotate_left
        · (intro w hS; (try dsimp only at hS); go_simp; try with_reducible rfl)
        simp only [List.setIfInBounds_toArray, List.set_cons_zero, List.set_cons_succ]
        refine wpS_take (i := 5) (v := ?_) rfl rfl (by kernel_rfl) (by kernel_rfl) (by kernel_rfl) (fun _ _ _ h => h) (Steady.value (by rfl) ?_) ?_
        rotate_left
        · (intro w hS; (try dsimp only at hS); go_simp; try with_reducible rfl)
        simp only [List.setIfInBounds_toArray, List.set_cons_zero, List.set_cons_succ]
        refine wpS_take (i := 6) (v := ?_) rfl rfl (by kernel_rfl) (by kernel_rfl) (by kernel_rfl) (fun _ _ _ h => h) (Steady.value (by rfl) ?_) ?_
        rotate_left
        · (intro w hS; (try dsimp only at hS); go_simp; try with_reducible rfl)
        simp only [List.setIfInBounds_toArray, List.set_cons_zero, List.set_cons_succ]
        refine wpS_take (i := 7) rfl rfl (by kernel_rfl) (by kernel_rfl) (by kernel_rfl) (fun _ _ _ h => h) (Steady.call (by rfl) (steady_below KS.out (K4.out (by first | rfl | trivial))) (fun w hS => by (go_simp))) ?_
        simp only [List.setIfInBounds_toArray, List.set_cons_zero, List.set_cons_succ]
        refine wpS_take (i := 8) (v := ?_) rfl rfl (by kernel_rfl) (by kernel_rfl) (by kernel_rfl) (fun _ _ _ h => h) (Steady.value (by rfl) ?_) ?_
        rotate_left
        · (intro w hS; (try dsimp only at hS); go_simp; try with_reducible rfl)
        simp only [List.setIfInBounds_toArray, List.set_cons_zero, List.set_cons_succ]
        refine wpS_take (i := 9) (v := ?_) rfl rfl (by kernel_rfl) (by kernel_rfl) (by kernel_rfl) (fun _ _ _ h => h) (Steady.value (by rfl) ?_) ?_
        rotate_left
        · (intro w hS; (try dsimp only at hS); go_simp; try with_reducible rfl)
        simp only [List.setIfInBounds_toArray, List.set_cons_zero, List.set_cons_succ]
        refine wpS_done (by kernel_rfl) (fun w3 hS3 => ?_) _
        clear hS2
        obtain ⟨c0, c1, c2, c3, c4, c5, c6, c7, c8⟩ := id hS3
        have C8 := Lib.hid c8
        clear c8
        go_wp2_with fail
        clear c0 c1 c2 c3 c4 c5 c6 c7 C8
        refine wp_region_steady (S := (fun v : World => v.cell? ⟨b0, 0, none⟩ = some (.int .i64 ax) ∧ v.cell? ⟨b0, 1, none⟩ = some (.int .i64 ay) ∧ v.cell? ⟨b1, 0, none⟩ = some (.int .i64 bx) ∧ v.cell? ⟨b1, 1, none⟩ = some (.int .i64 byy) ∧ v.cell? ⟨b2, 0, none⟩ = some (.int .i64 cx) ∧ v.cell? ⟨b2, 1, none⟩ = some (.int .i64 cy) ∧ v.cell? ⟨b3, 0, none⟩ = some (.int .i64 dx) ∧ v.cell? ⟨b3, 1, none⟩ = some (.int .i64 dy) ∧ Below w.heap.size w v)) (by kernel_rfl) (HD.out _ hS3) ?_
        refine wpS_take (i := 0) (v := ?_) rfl rfl (by kernel_rfl) (by kernel_rfl) (by kernel_rfl) (fun _ _ _ h => h) (Steady.value (by rfl) ?_) ?_
        rotate_left
        · (intro w hS; (try dsimp only at hS); go_simp; try with_reducible rfl)
        simp only [List.setIfInBounds_toArray, List.set_cons_zero, List.set_cons_succ]
        refine wpS_take (i := 1) (v := ?_) rfl rfl (by kernel_rfl) (by kernel_rfl) (by kernel_rfl) (fun _ _ _ h => h) (Steady.value (by rfl) ?_) ?_
        rotate_left
        · (intro w hS; (try dsimp only at hS); go_simp; try with_reducible rfl)
        simp only [List.setIfInBounds_toArray, List.set_cons_zero, List.set_cons_succ]
        refine wpS_take (i := 2) (v := ?_) rfl rfl (by kernel_rfl) (by kernel_rfl) (by kernel_rfl) (fun _ _ _ h => h) (Steady.value (by rfl) ?_) ?_
        rotate_left
        · (intro w hS; (try dsimp only at hS); go_simp; try with_reducible rfl)
        simp only [List.setIfInBounds_toArray, List.set_cons_zero, List.set_cons_succ]
        refine wpS_take (i := 3) rfl rfl (by kernel_rfl) (by kernel_rfl) (by kernel_rfl) (fun _ _ _ h => h) (Steady.call (by rfl) (steady_below KS.out (K5.out)) (fun w hS => by (go_simp))) ?_
        simp only [List.setIfInBounds_toArray, List.set_cons_zero, List.set_cons_succ]
        refine wpS_take (i := 4) (v := ?_) rfl rfl (by kernel_rfl) (by kernel_rfl) (by kernel_rfl) (fun _ _ _ h => h) (Steady.value (by rfl) ?_) ?_
        rotate_left
        · (intro w hS; (try dsimp only at hS); go_simp; try with_reducible rfl)
        simp only [List.setIfInBounds_toArray, List.set_cons_zero, List.set_cons_succ]
        refine wpS_take (i := 5) (v := ?_) rfl rfl (by kernel_rfl) (by kernel_rfl) (by kernel_rfl) (fun _ _ _ h => h) (Steady.value (by rfl) ?_) ?_
        rotate_left
        · (intro w hS; (try dsimp only at hS); go_simp; try with_reducible rfl)
        simp only [List.setIfInBounds_toArray, List.set_cons_zero, List.set_cons_succ]
        refine wpS_take (i := 6) (v := ?_) rfl rfl (by kernel_rfl) (by kernel_rfl) (by kernel_rfl) (fun _ _ _ h => h) (Steady.value (by rfl) ?_) ?_
        rotate_left
        · (intro w hS; (try dsimp only at hS); go_simp; try with_reducible rfl)
        simp only [List.setIfInBounds_toArray, List.set_cons_zero, List.set_cons_succ]
        refine wpS_take (i := 7) (v := ?_) rfl rfl (by kernel_rfl) (by kernel_rfl) (by kernel_rfl) (fun _ _ _ h => h) (Steady.value (by rfl) ?_) ?_
        rotate_left
        · (intro w hS; (try dsimp only at hS); go_simp; try with_reducible rfl)
        simp only [List.setIfInBounds_toArray, List.set_cons_zero, List.set_cons_succ]
        refine wpS_take (i := 8) (v := ?_) rfl rfl (by kernel_rfl) (by kernel_rfl) (by kernel_rfl) (fun _ _ _ h => h) (Steady.value (by rfl) ?_) ?_
        rotate_left
        · (intro w hS; (try dsimp only at hS); go_simp; try with_reducible rfl)
        simp only [List.setIfInBounds_toArray, List.set_cons_zero, List.set_cons_succ]
        refine wpS_take (i := 9) (v := ?_) rfl rfl (by kernel_rfl) (by kernel_rfl) (by kernel_rfl) (fun _ _ _ h => h) (Steady.value (by rfl) ?_) ?_
        rotate_left
        · (intro w hS; (try dsimp only at hS); go_simp; try with_reducible rfl)
        simp only [List.setIfInBounds_toArray, List.set_cons_zero, List.set_cons_succ]
        refine wpS_take (i := 10) rfl rfl (by kernel_rfl) (by kernel_rfl) (by kernel_rfl) (fun _ _ _ h => h) (Steady.call (by rfl) (steady_below KS.out (K6.out)) (fun w hS => by (go_simp))) ?_
        simp only [List.setIfInBounds_toArray, List.set_cons_zero, List.set_cons_succ]
        refine wpS_take (i := 11) (v := ?_) rfl rfl (by kernel_rfl) (by kernel_rfl) (by kernel_rfl) (fun _ _ _ h => h) (Steady.value (by rfl) ?_) ?_
        rotate_left
        · (intro w hS; (try dsimp only at hS); go_simp; try with_reducible rfl)
        simp only [List.setIfInBounds_toArray, List.set_cons_zero, List.set_cons_succ]
        refine wpS_take (i := 12) (v := ?_) rfl rfl (by kernel_rfl) (by kernel_rfl) (by kernel_rfl) (fun _ _ _ h => h) (Steady.value (by rfl) ?_) ?_
        rotate_left
        · (intro w hS; (try dsimp only at hS); go_simp; try with_reducible rfl)
        simp only [List.setIfInBounds_toArray, List.set_cons_zero, List.set_cons_succ]
        refine wpS_take (i := 13) (v := ?_) rfl rfl (by kernel_rfl) (by kernel_rfl) (by kernel_rfl) (fun _ _ _ h => h) (Steady.value (by rfl) ?_) ?_
        rotate_left
        · (intro w hS; (try dsimp only at hS); go_simp; try with_reducible rfl)
        simp only [List.setIfInBounds_toArray, List.set_cons_zero, List.set_cons_succ]
        refine wpS_take (i := 14) (v := ?_) rfl rfl (by kernel_rfl) (by kernel_rfl) (by kernel_rfl) (fun _ _ _ h => h) (Steady.value (by rfl) ?_) ?_
        rotate_left
        · (intro w hS; (try dsimp only at hS); go_simp; try with_reducible rfl)
        simp only [List.setIfInBounds_toArray, List.set_cons_zero, List.set_cons_succ]
        refine wpS_take (i := 15) (v := ?_) rfl rfl (by kernel_rfl) (by kernel_rfl) (by kernel_rfl) (fun _ _ _ h => h) (Steady.value (by rfl) ?_) ?_
        rotate_left
        · (intro w hS; (try dsimp only at hS); go_simp; try with_reducible rfl)
        simp only [List.setIfInBounds_toArray, List.set_cons_zero, List.set_cons_succ]
        refine wpS_take (i := 16) rfl rfl (by kernel_rfl) (by kernel_rfl) (by kernel_rfl) (fun _ _ _ h => h) (Steady.call (by rfl) (steady_below KS.out (K7.out)) (fun w hS => by (go_simp))) ?_
        simp only [List.setIfInBounds_toArray, List.set_cons_zero, List.set_cons_succ]
        refine wpS_take (i := 17) (v := ?_) rfl rfl (by kernel_rfl) (by kernel_rfl) (by kernel_rfl) (fun _ _ _ h => h) (Steady.value (by rfl) ?_) ?_
        rotate_left
        · (intro w hS; (try dsimp only at hS); go_simp; try with_reducible rfl)
        simp only [List.setIfInBounds_toArray, List.set_cons_zero, List.set_cons_succ]
        refine wpS_take (i := 18) rfl rfl (by kernel_rfl) (by kernel_rfl) (by kernel_rfl) (fun _ _ _ h => h) (Steady.call (by rfl) (steady_below KS.out (K2.out)) (fun w hS => by (go_simp))) ?_
        simp only [List.setIfInBounds_toArray, List.set_cons_zero, List.set_cons_succ]
        refine wpS_take (i := 19) (v := ?_) rfl rfl (by kernel_rfl) (by kernel_rfl) (by kernel_rfl) (fun _ _ _ h => h) (Steady.value (by rfl) ?_) ?_
        rotate_left
        · (intro w hS; (try dsimp only at hS); go_simp; try with_reducible rfl)
        simp only [List.setIfInBounds_toArray, List.set_cons_zero, List.set_cons_succ]
        refine wpS_take (i := 20) (v := ?_) rfl rfl (by kernel_rfl) (by kernel_rfl) (by kernel_rfl) (fun _ _ _ h => h) (Steady.value (by rfl) ?_) ?_
        rotate_left
        · (intro w hS; (try dsimp only at hS); go_simp; try with_reducible rfl)
        simp only [List.setIfInBounds_toArray, List.set_cons_zero, List.set_cons_succ]
        refine wpS_done (by kernel_rfl) (fun w4 hS4 => ?_) _
        clear hS3
        obtain ⟨c0, c1, c2, c3, c4, c5, c6, c7, c8⟩ := id hS4
        have C8 := Lib.hid c8
        clear c8
        go_wp2_with fail
        clear c0 c1 c2 c3 c4 c5 c6 c7 C8
        refine wp_region_steady (S := (fun v : World => v.cell? ⟨b0, 0, none⟩ = some (.int .i64 ax) ∧ v.cell? ⟨b0, 1, none⟩ = some (.int .i64 ay) ∧ v.cell? ⟨b1, 0, none⟩ = some (.int .i64 bx) ∧ v.cell? ⟨b1, 1, none⟩ = some (.int .i64 byy) ∧ v.cell? ⟨b2, 0, none⟩ = some (.int .i64 cx) ∧ v.cell? ⟨b2, 1, none⟩ = some (.int .i64 cy) ∧ v.cell? ⟨b3, 0, none⟩ = some (.int .i64 dx) ∧ v.cell? ⟨b3, 1, none⟩ = some (.int .i64 dy) ∧ Below w.heap.size w v)) (by kernel_rfl) (HD.out _ hS4) ?_
        refine wpS_take (i := 0) (v := ?_) rfl rfl (by kernel_rfl) (by kernel_rfl) (by kernel_rfl) (fun _ _ _ h => h) (Steady.value (by rfl) ?_) ?_
        rotate_left
        · (intro w hS; (try dsimp only at hS); go_simp; try with_reducible rfl)
        simp only [List.setIfInBounds_toArray, List.set_cons_zero, List.set_cons_succ]
        refine wpS_take (i := 1) (v := ?_) rfl rfl (by kernel_rfl) (by kernel_rfl) (by kernel_rfl) (fun _ _ _ h => h) (Steady.value (by rfl) ?_) ?_
        rotate_left
        · (intro w hS; (try dsimp only at hS); go_simp; try with_reducible rfl)
        simp only [List.setIfInBounds_toArray, List.set_cons_zero, List.set_cons_succ]
        refine wpS_take (i := 2) (v := ?_) rfl rfl (by kernel_rfl) (by kernel_rfl) (by kernel_rfl) (fun _ _ _ h => h) (Steady.value (by rfl) ?_) ?_
        rotate_left
        · (intro w hS; (try dsimp only at hS); go_simp; try with_reducible rfl)
        simp only [List.setIfInBounds_toArray, List.set_cons_zero, List.set_cons_succ]
        refine wpS_take (i := 3) (v := ?_) rfl rfl (by kernel_rfl) (by kernel_rfl) (by kernel_rfl) (fun _ _ _ h => h) (Steady.value (by rfl) ?_) ?_
        rotate_left
        · (intro w hS; (try dsimp only at hS); go_simp; try with_reducible rfl)
        simp only [List.setIfInBounds_toArray, List.set_cons_zero, List.set_cons_succ]
        refine wpS_take (i := 4) rfl rfl (by kernel_rfl) (by kernel_rfl) (by kernel_rfl) (fun _ _ _ h => h) (Steady.call (by rfl) (steady_below KS.out (K8.out)) (fun w hS => by (go_simp))) ?_
        simp only [List.setIfInBounds_toArray, List.set_cons_zero, List.set_cons_succ]
        refine wpS_take (i := 5) (v := ?_) rfl rfl (by kernel_rfl) (by kernel_rfl) (by kernel_rfl) (fun _ _ _ h => h) (Steady.value (by rfl) ?_) ?_
        rotate_left
        · (intro w hS; (try dsimp only at hS); go_simp; try with_reducible rfl)
        simp only [List.setIfInBounds_toArray, List.set_cons_zero, List.set_cons_succ]
        refine wpS_take (i := 6) (v := ?_) rfl rfl (by kernel_rfl) (by kernel_rfl) (by kernel_rfl) (fun _ _ _ h => h) (Steady.value (by rfl) ?_) ?_
        rotate_left
        · (intro w hS; (try dsimp only at hS); go_simp; try with_reducible rfl)
        simp only [List.setIfInBounds_toArray, List.set_cons_zero, List.set_cons_succ]
        refine wpS_take (i := 7) (v := ?_) rfl rfl (by kernel_rfl) (by kernel_rfl) (by kernel_rfl) (fun _ _ _ h => h) (Steady.value (by rfl) ?_) ?_
        rotate_left
        · (intro w hS; (try dsimp only at hS); go_simp; try with_reducible rfl)
        simp only [List.setIfInBounds_toArray, List.set_cons_zero, List.set_cons_succ]
        refine wpS_take (i := 8) (v := ?_) rfl rfl (by kernel_rfl) (by kernel_rfl) (by kernel_rfl) (fun _ _ _ h => h) (Steady.value (by rfl) ?_) ?_
        rotate_left
        · (intro w hS; (try dsimp only at hS); go_simp; try with_reducible rfl)
        simp only [List.setIfInBounds_toArray, List.set_cons_zero, List.set_cons_succ]
        refine wpS_take (i := 9) rfl rfl (by kernel_rfl) (by kernel_rfl) (by kernel_rfl) (fun _ _ _ h => h) (Steady.call (by rfl) (steady_below KS.out (K10.out (by first | rfl | trivial))) (fun w hS => by (go_simp))) ?_
        simp only [List.setIfInBounds_toArray, List.set_cons_zero, List.set_cons_succ]
        refine wpS_take (i := 10) (v := ?_) rfl rfl (by kernel_rfl) (by kernel_rfl) (by kernel_rfl) (fun _ _ _ h => h) (Steady.value (by rfl) ?_) ?_
        rotate_left
        · (intro w hS; (try dsimp only at hS); go_simp; try with_reducible rfl)
        simp only [List.setIfInBounds_toArray, List.set_cons_zero, List.set_cons_succ]
        refine wpS_take (i := 11) (v := ?_) rfl rfl (by kernel_rfl) (by kernel_rfl) (by kernel_rfl) (fun _ _ _ h => h) (Steady.value (by rfl) ?_) ?_
        rotate_left
        · (intro w hS; (try dsimp only at hS); go_simp; try with_reducible rfl)
        simp only [List.setIfInBounds_toArray, List.set_cons_zero, List.set_cons_succ]
        refine wpS_take (i := 12) (v := ?_) rfl rfl (by kernel_rfl) (by kernel_rfl) (by kernel_rfl) (fun _ _ _ h => h) (Steady.value (by rfl) ?_) ?_
        rotate_left
        · (intro w hS; (try dsimp only at hS); go_simp; try with_reducible rfl)
        simp only [List.setIfInBounds_toArray, List.set_cons_zero, List.set_cons_succ]
        refine wpS_take (i := 13) (v := ?_) rfl rfl (by kernel_rfl) (by kernel_rfl) (by kernel_rfl) (fun _ _ _ h => h) (Steady.value (by rfl) ?_) ?_
        rotate_left
        · (intro w hS; (try dsimp only at hS); go_simp; try with_reducible rfl)
        simp only [List.setIfInBounds_toArray, List.set_cons_zero, List.set_cons_succ]
        refine wpS_take (i := 14) (v := ?_) rfl rfl (by kernel_rfl) (by kernel_rfl) (by kernel_rfl) (fun _ _ _ h => h) (Steady.value (by rfl) ?_) ?_
        rotate_left
        · (intro w hS; (try dsimp only at hS); go_simp; try with_reducible rfl)
        simp only [List.setIfInBounds_toArray, List.set_cons_zero, List.set_cons_succ]
        refine wpS_take (i := 15) (v := ?_) rfl rfl (by kernel_rfl) (by kernel_rfl) (by kernel_rfl) (fun _ _ _ h => h) (Steady.value (by rfl) ?_) ?_
        rotate_left
        · (intro w hS; (try dsimp only at hS); go_simp; try with_reducible rfl)
        simp only [List.setIfInBounds_toArray, List.set_cons_zero, List.set_cons_succ]
        refine wpS_take (i := 16) rfl rfl (by kernel_rfl) (by kernel_rfl) (by kernel_rfl) (fun _ _ _ h => h) (Steady.call (by rfl) (steady_below KS.out (K9.out)) (fun w hS => by (go_simp))) ?_
        simp only [List.setIfInBounds_toArray, List.set_cons_zero, List.set_cons_succ]
        refine wpS_take (i := 17) (v := ?_) rfl rfl (by kernel_rfl) (by kernel_rfl) (by kernel_rfl) (fun _ _ _ h => h) (Steady.value (by rfl) ?_) ?_
        rotate_left
        · (intro w hS; (try dsimp only at hS); go_simp; try with_reducible rfl)
        simp only [List.setIfInBounds_toArray, List.set_cons_zero, List.set_cons_succ]
        refine wpS_take (i := 18) (v := ?_) rfl rfl (by kernel_rfl) (by kernel_rfl) (by kernel_rfl) (fun _ _ _ h => h) (Steady.value (by rfl) ?_) ?_
        rotate_left
        · (intro w hS; (try dsimp only at hS); go_simp; try with_reducible rfl)
        simp only [List.setIfInBounds_toArray, List.set_cons_zero, List.set_cons_succ]
        refine wpS_take (i := 19) (v := ?_) rfl rfl (by kernel_rfl) (by kernel_rfl) (by kernel_rfl) (fun _ _ _ h => h) (Steady.value (by rfl) ?_) ?_
        rotate_left
        · (intro w hS; (try dsimp only at hS); go_simp; try with_reducible rfl)
        simp only [List.setIfInBounds_toArray, List.set_cons_zero, List.set_cons_succ]
        refine wpS_take (i := 20) (v := ?_) rfl rfl (by kernel_rfl) (by kernel_rfl) (by kernel_rfl) (fun _ _ _ h => h) (Steady.value (by rfl) ?_) ?_
        rotate_left
        · (intro w hS; (try dsimp only at hS); go_simp; try with_reducible rfl)
        simp only [List.setIfInBounds_toArray, List.set_cons_zero, List.set_cons_succ]
        refine wpS_take (i := 21) rfl rfl (by kernel_rfl) (by kernel_rfl) (by kernel_rfl) (fun _ _ _ h => h) (Steady.call (by rfl) (steady_below KS.out (K11.out (by first | rfl | trivial))) (fun w hS => by (go_simp))) ?_
        simp only [List.setIfInBounds_toArray, List.set_cons_zero, List.set_cons_succ]
        refine wpS_take (i := 22) (v := ?_) rfl rfl (by kernel_rfl) (by kernel_rfl) (by kernel_rfl) (fun _ _ _ h => h) (Steady.value (by rfl) ?_) ?_
        rotate_left
        · (intro w hS; (try dsimp only at hS); go_simp; try with_reducible rfl)
        simp only [List.setIfInBounds_toArray, List.set_cons_zero, List.set_cons_succ]
        refine wpS_take (i := 23) (v := ?_) rfl rfl (by kernel_rfl) (by kernel_rfl) (by kernel_rfl) (fun _ _ _ h => h) (Steady.value (by rfl) ?_) ?_
        rotate_left
        · (intro w hS; (try dsimp only at hS); go_simp; try with_reducible rfl)
        simp only [List.setIfInBounds_toArray, List.set_cons_zero, List.set_cons_succ]
        refine wpS_take (i := 24) (v := ?_) rfl rfl (by kernel_rfl) (by kernel_rfl) (by kernel_rfl) (fun _ _ _ h => h) (Steady.value (by rfl) ?_) ?_
        rotate_left
        · (intro w hS; (try dsimp only at hS); go_simp; try with_reducible rfl)
        simp only [List.setIfInBounds_toArray, List.set_cons_zero, List.set_cons_succ]
        refine wpS_take (i := 25) rfl rfl (by kernel_rfl) (by kernel_rfl) (by kernel_rfl) (fun _ _ _ h => h) (Steady.call (by rfl) (steady_below KS.out (K12.out)) (fun w hS => by (go_simp))) ?_
        simp only [List.setIfInBounds_toArray, List.set_cons_zero, List.set_cons_succ]
        refine wpS_take (i := 26) (v := ?_) rfl rfl (by kernel_rfl) (by kernel_rfl) (by kernel_rfl) (fun _ _ _ h => h) (Steady.value (by rfl) ?_) ?_
        rotate_left
        · (intro w hS; (try dsimp only at hS); go_simp; try with_reducible rfl)
        simp only [List.setIfInBounds_toArray, List.set_cons_zero, List.set_cons_succ]
        refine wpS_take (i := 27) (v := ?_) rfl rfl (by kernel_rfl) (by kernel_rfl) (by kernel_rfl) (fun _ _ _ h => h) (Steady.value (by rfl) ?_) ?_
        rotate_left
        · (intro w hS; (try dsimp only at hS); go_simp; try with_reducible rfl)
        simp only [List.setIfInBounds_toArray, List.set_cons_zero, List.set_cons_succ]
        refine wpS_done (by kernel_rfl) (fun w5 hS5 => ?_) _
        clear hS4
        obtain ⟨c0, c1, c2, c3, c4, c5, c6, c7, c8⟩ := id hS5
        have C8 := Lib.hid c8
        clear c8
        go_wp2
        go_ret
        exact ⟨rfl, C8.out⟩
  have q0 : ∀ w' : World, Blk w' w.heap.size #[.int .i64 ax, .int .i64 ay, .int .i64 bx, .int .i64 byy, .int .i64 cx, .int .i64 cy, .int .i64 dx, .int .i64 dy] 32 → w'.cell? ⟨w.heap.size, 0, none⟩ = some (.int .i64 ax) := fun w' h => h.cell 0
  have q1 : ∀ w' : World, Blk w' w.heap.size #[.int .i64 ax, .int .i64 ay, .int .i64 bx, .int .i64 byy, .int .i64 cx, .int .i64 cy, .int .i64 dx, .int .i64 dy] 32 → w'.cell? ⟨w.heap.size, 1, none⟩ = some (.int .i64 ay) := fun w' h => h.cell 1
  have q2 : ∀ w' : World, Blk w' w.heap.size #[.int .i64 ax, .int .i64 ay, .int .i64 bx, .int .i64 byy, .int .i64 cx, .int .i64 cy, .int .i64 dx, .int .i64 dy] 32 → w'.cell? ⟨w.heap.size, 2, none⟩ = some (.int .i64 bx) := fun w' h => h.cell 2
  have q3 : ∀ w' : World, Blk w' w.heap.size #[.int .i64 ax, .int .i64 ay, .int .i64 bx, .int .i64 byy, .int .i64 cx, .int .i64 cy, .int .i64 dx, .int .i64 dy] 32 → w'.cell? ⟨w.heap.size, 3, none⟩ = some (.int .i64 byy) := fun w' h => h.cell 3
  have q4 : ∀ w' : World, Blk w' w.heap.size #[.int .i64 ax, .int .i64 ay, .int .i64 bx, .int .i64 byy, .int .i64 cx, .int .i64 cy, .int .i64 dx, .int .i64 dy] 32 → w'.cell? ⟨w.heap.size, 4, none⟩ = some (.int .i64 cx) := fun w' h => h.cell 4
  have q5 : ∀ w' : World, Blk w' w.heap.size #[.int .i64 ax, .int .i64 ay, .int .i64 bx, .int .i64 byy, .int .i64 cx, .int .i64 cy, .int .i64 dx, .int .i64 dy] 32 → w'.cell? ⟨w.heap.size, 5, none⟩ = some (.int .i64 cy) := fun w' h => h.cell 5
  have q6 : ∀ w' : World, Blk w' w.heap.size #[.int .i64 ax, .int .i64 ay, .int .i64 bx, .int .i64 byy, .int .i64 cx, .int .i64 cy, .int .i64 dx, .int .i64 dy] 32 → w'.cell? ⟨w.heap.size, 6, none⟩ = some (.int .i64 dx) := fun w' h => h.cell 6
  have q7 : ∀ w' : World, Blk w' w.heap.size #[.int .i64 ax, .int .i64 ay, .int .i64 bx, .int .i64 byy, .int .i64 cx, .int .i64 cy, .int .i64 dx, .int .i64 dy] 32 → w'.cell? ⟨w.heap.size, 7, none⟩ = some (.int .i64 dy) := fun w' h => h.cell 7
  have REST := Lib.hid rest
  have G0 := Lib.hid g0
  clear rest g0 K1 K2 K3 K4 K5 K6 K7 K8 K9 K10 K11 K12 H1 H2
  go_region_held3 (fun w' => Blk w' w.heap.size #[.int .i64 ax, .int .i64 ay, .int .i64 bx, .int .i64 byy, .int .i64 cx, .int .i64 cy, .int .i64 dx, .int .i64 dy] 32)
    (first | exact p0 | exact Blk.drew (Blk.alloc (by assumption) _) | exact Blk.alloc (by assumption) _ | exact ((((p0.alloc _).alloc _).alloc _).alloc _).drew | exact (((p0.alloc _).alloc _).alloc _).alloc _)
    (fail)
  all_goals
    refine REST.out _ _ _ _ _ ?_ ?_ ?_ ?_ (grow_alloc (grow_alloc (grow_alloc (grow_alloc G0.out _) _) _) _).drew
    all_goals first | exact (four_at w0 z0 _ _ _ _ _).1 | exact (four_at w0 z0 _ _ _ _ _).2.1 | exact (four_at w0 z0 _ _ _ _ _).2.2.1 | exact (four_at w0 z0 _ _ _ _ _).2.2.2

end Go.Proofs.Ytkneohngbkmlpaa
