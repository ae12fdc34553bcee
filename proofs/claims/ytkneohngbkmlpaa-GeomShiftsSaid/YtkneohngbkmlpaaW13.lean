/- Walks: GeomTurns. -/
import Derived.Test.YtkneohngbkmlpaaPlain
import Derived.Test.YtkneohngbkmlpaaSteady
namespace Go.Proofs.Ytkneohngbkmlpaa
open Go.RowKit

theorem four_at (w0 : World) {H : Nat} (z : w0.heap.size = H) (a b c d : Array Value) (t : TypeId) :
    Blk ((((w0.alloc (.cells a t)).alloc (.cells b t)).alloc (.cells c t)).alloc (.cells d t)).drew H a t ∧ Blk ((((w0.alloc (.cells a t)).alloc (.cells b t)).alloc (.cells c t)).alloc (.cells d t)).drew (H + 1) b t ∧
    Blk ((((w0.alloc (.cells a t)).alloc (.cells b t)).alloc (.cells c t)).alloc (.cells d t)).drew (H + 1 + 1) c t ∧ Blk ((((w0.alloc (.cells a t)).alloc (.cells b t)).alloc (.cells c t)).alloc (.cells d t)).drew (H + 1 + 1 + 1) d t := by
  subst z
  exact ⟨((((Blk.new _ _ _).alloc _).alloc _).alloc _).drew, (((Blk.new' _ _ _ (by simp)).alloc _).alloc _).drew, ((Blk.new' _ _ _ (by simp)).alloc _).drew, (Blk.new' _ _ _ (by simp)).drew⟩

set_option maxRecDepth 20000 in
set_option maxHeartbeats 8000000 in
theorem Turns_road (ax ay bx byy cx cy dx dy t : Int) (m x o : Bool) (t0 : -1 ≤ t) (t1 : t ≤ 1) (hx : x = true → m = true)
    (k1 : ∀ w, Calls Try.prog 19 #[.agg #[.int .i64 ax, .int .i64 ay], .agg #[.int .i64 bx, .int .i64 byy], .agg #[.int .i64 cx, .int .i64 cy]] w fun e w' => e = .returned (.int .i64 t) ∧ Below w.heap.size w w')
    (k2 : ∀ w, Calls Try.prog 21 #[.agg #[.int .i64 ax, .int .i64 ay], .agg #[.int .i64 bx, .int .i64 byy], .agg #[.int .i64 cx, .int .i64 cy], .agg #[.int .i64 dx, .int .i64 dy]] w fun e w' => e = .returned (.bool m) ∧ Below w.heap.size w w')
    (k3 : ∀ w, Calls Try.prog 19 #[.agg #[.int .i64 bx, .int .i64 byy], .agg #[.int .i64 cx, .int .i64 cy], .agg #[.int .i64 ax, .int .i64 ay]] w fun e w' => e = .returned (.int .i64 t) ∧ Below w.heap.size w w')
    (k4 : ∀ w, Calls Try.prog 19 #[.agg #[.int .i64 bx, .int .i64 byy], .agg #[.int .i64 ax, .int .i64 ay], .agg #[.int .i64 cx, .int .i64 cy]] w fun e w' => e = .returned (.int .i64 (-t)) ∧ Below w.heap.size w w')
    (k5 : ∀ w, Calls Try.prog 21 #[.agg #[.int .i64 cx, .int .i64 cy], .agg #[.int .i64 dx, .int .i64 dy], .agg #[.int .i64 ax, .int .i64 ay], .agg #[.int .i64 bx, .int .i64 byy]] w fun e w' => e = .returned (.bool m) ∧ Below w.heap.size w w')
    (k6 : ∀ w, Calls Try.prog 21 #[.agg #[.int .i64 bx, .int .i64 byy], .agg #[.int .i64 ax, .int .i64 ay], .agg #[.int .i64 cx, .int .i64 cy], .agg #[.int .i64 dx, .int .i64 dy]] w fun e w' => e = .returned (.bool m) ∧ Below w.heap.size w w')
    (k7 : ∀ w, Calls Try.prog 21 #[.agg #[.int .i64 ax, .int .i64 ay], .agg #[.int .i64 bx, .int .i64 byy], .agg #[.int .i64 dx, .int .i64 dy], .agg #[.int .i64 cx, .int .i64 cy]] w fun e w' => e = .returned (.bool m) ∧ Below w.heap.size w w')
    (k8 : ∀ w, Calls Try.prog 22 #[.agg #[.int .i64 ax, .int .i64 ay], .agg #[.int .i64 bx, .int .i64 byy], .agg #[.int .i64 cx, .int .i64 cy], .agg #[.int .i64 dx, .int .i64 dy]] w fun e w' => e = .returned (.bool x) ∧ Below w.heap.size w w')
    (k9 : ∀ w, Calls Try.prog 20 #[.agg #[.int .i64 ax, .int .i64 ay], .agg #[.int .i64 bx, .int .i64 byy], .agg #[.int .i64 cx, .int .i64 cy]] w fun e w' => e = .returned (.bool o) ∧ Below w.heap.size w w')
    (k10 : ∀ w, Calls Try.prog 20 #[.agg #[.int .i64 bx, .int .i64 byy], .agg #[.int .i64 ax, .int .i64 ay], .agg #[.int .i64 cx, .int .i64 cy]] w fun e w' => e = .returned (.bool o) ∧ Below w.heap.size w w')
    (k11 : ∀ w, Calls Try.prog 14 #[] w fun e w' => e = .returned (.bool true) ∧ Below w.heap.size w w')
    (w : World) :
    Calls Try.prog 6 #[.agg #[.int .i64 ax, .int .i64 ay, .int .i64 bx, .int .i64 byy, .int .i64 cx, .int .i64 cy, .int .i64 dx, .int .i64 dy]] w fun e w' => e = .returned (.bool true) ∧ Below w.heap.size w w' := by
  have K1 := Lib.hid k1
  have K2 := Lib.hid k2
  have K3 := Lib.hid k3
  have K4 := Lib.hid k4
  have K5 := Lib.hid k5
  have K6 := Lib.hid k6
  have K7 := Lib.hid k7
  have K8 := Lib.hid k8
  have K9 := Lib.hid k9
  have K10 := Lib.hid k10
  have K11 := Lib.hid k11
  have HX := Lib.hid hx
  clear k1 k2 k3 k4 k5 k6 k7 k8 k9 k10 k11 hx
  go_enter Try.func6, Try.ntmps6
  go_wp2
  rename_i KK hKK
  obtain ⟨w0, hw0, p0, g0, z0⟩ := boxes1 w #[.int .i64 ax, .int .i64 ay, .int .i64 bx, .int .i64 byy, .int .i64 cx, .int .i64 cy, .int .i64 dx, .int .i64 dy] 32
  rw [hw0]
  clear hw0
  have rest : ∀ (b0 b1 b2 b3 : Nat) (W : World), Blk W b0 #[.int .i64 ax, .int .i64 ay] 24 → Blk W b1 #[.int .i64 bx, .int .i64 byy] 24 → Blk W b2 #[.int .i64 cx, .int .i64 cy] 24 → Blk W b3 #[.int .i64 dx, .int .i64 dy] 24 → Below w.heap.size w W →
      KK { tmps := #[.agg #[.int .i64 ax, .int .i64 ay, .int .i64 bx, .int .i64 byy, .int .i64 cx, .int .i64 cy, .int .i64 dx, .int .i64 dy], .pointer (some ⟨w.heap.size, 0, none⟩), .bool false, .pointer (some ⟨b0, 0, none⟩), .pointer (some ⟨b1, 0, none⟩), .pointer (some ⟨b2, 0, none⟩), .pointer (some ⟨b3, 0, none⟩), undef, undef, .pointer (some ⟨w.heap.size, 0, none⟩), .agg #[.int .i64 ax, .int .i64 ay], .pointer (some ⟨w.heap.size, 2, none⟩), .agg #[.int .i64 bx, .int .i64 byy], .pointer (some ⟨w.heap.size, 4, none⟩), .agg #[.int .i64 cx, .int .i64 cy], .pointer (some ⟨w.heap.size, 6, none⟩), .agg #[.int .i64 dx, .int .i64 dy], undef, undef, undef, undef, undef, undef, undef, undef, undef, undef, undef, undef, undef, undef, undef, undef, undef, undef, undef, undef, undef, undef, undef, undef, undef, undef, undef, undef, undef, undef, undef, undef, undef, undef, undef, undef, undef, undef, undef, undef, undef, undef, undef, undef, undef, undef, undef, undef, undef, undef, undef, undef, undef, undef, undef, undef, undef, undef, undef, undef, undef, undef, undef, undef, undef, undef, undef, undef, undef, undef, undef, undef, undef, undef, undef, undef], defers := [] } W := by
    intro b0 b1 b2 b3 W h0 h1 h2 h3 hG
    have hwn : IntKind.i64.wrap (-t) = -t := by rw [IntKind.wrap_i64]; omega
    have HB0 := Lib.hid (And.intro h0 (And.intro h1 (And.intro h2 h3)))
    have HG0 := Lib.hid hG
    have c0 := h0.two
    have c1 := h1.two
    have c2 := h2.two
    have c3 := h3.two
    clear h0 h1 h2 h3 hG
    have keep : ∀ a b : World, Below a.heap.size a b → (fun w' : World => w'.cell? ⟨b0, 0, none⟩ = some (.int .i64 ax) ∧ w'.cell? ⟨b0, 1, none⟩ = some (.int .i64 ay) ∧ w'.cell? ⟨b1, 0, none⟩ = some (.int .i64 bx) ∧ w'.cell? ⟨b1, 1, none⟩ = some (.int .i64 byy) ∧ w'.cell? ⟨b2, 0, none⟩ = some (.int .i64 cx) ∧ w'.cell? ⟨b2, 1, none⟩ = some (.int .i64 cy) ∧ w'.cell? ⟨b3, 0, none⟩ = some (.int .i64 dx) ∧ w'.cell? ⟨b3, 1, none⟩ = some (.int .i64 dy) ∧ Below w.heap.size w w') a → (fun w' : World => w'.cell? ⟨b0, 0, none⟩ = some (.int .i64 ax) ∧ w'.cell? ⟨b0, 1, none⟩ = some (.int .i64 ay) ∧ w'.cell? ⟨b1, 0, none⟩ = some (.int .i64 bx) ∧ w'.cell? ⟨b1, 1, none⟩ = some (.int .i64 byy) ∧ w'.cell? ⟨b2, 0, none⟩ = some (.int .i64 cx) ∧ w'.cell? ⟨b2, 1, none⟩ = some (.int .i64 cy) ∧ w'.cell? ⟨b3, 0, none⟩ = some (.int .i64 dx) ∧ w'.cell? ⟨b3, 1, none⟩ = some (.int .i64 dy) ∧ Below w.heap.size w w') b :=
      fun a b hb ⟨h1, h2, h3, h4, h5, h6, h7, h8, h9⟩ => ⟨cell_grew h1 hb, cell_grew h2 hb, cell_grew h3 hb, cell_grew h4 hb, cell_grew h5 hb, cell_grew h6 hb, cell_grew h7 hb, cell_grew h8 hb, grow h9 hb⟩
    have KS := Lib.hid keep
    clear keep
    have hS0 : ∀ W0 : World, Hid (Blk W0 b0 #[.int .i64 ax, .int .i64 ay] 24 ∧ Blk W0 b1 #[.int .i64 bx, .int .i64 byy] 24 ∧ Blk W0 b2 #[.int .i64 cx, .int .i64 cy] 24 ∧ Blk W0 b3 #[.int .i64 dx, .int .i64 dy] 24) → Hid (Below w.heap.size w W0) → (fun w' : World => w'.cell? ⟨b0, 0, none⟩ = some (.int .i64 ax) ∧ w'.cell? ⟨b0, 1, none⟩ = some (.int .i64 ay) ∧ w'.cell? ⟨b1, 0, none⟩ = some (.int .i64 bx) ∧ w'.cell? ⟨b1, 1, none⟩ = some (.int .i64 byy) ∧ w'.cell? ⟨b2, 0, none⟩ = some (.int .i64 cx) ∧ w'.cell? ⟨b2, 1, none⟩ = some (.int .i64 cy) ∧ w'.cell? ⟨b3, 0, none⟩ = some (.int .i64 dx) ∧ w'.cell? ⟨b3, 1, none⟩ = some (.int .i64 dy) ∧ Below w.heap.size w w') W0.drew :=
      fun W0 hb hg => ⟨hb.out.1.two.1, hb.out.1.two.2.1, hb.out.2.1.two.1, hb.out.2.1.two.2.1, hb.out.2.2.1.two.1, hb.out.2.2.1.two.2.1, hb.out.2.2.2.two.1, hb.out.2.2.2.two.2.1, hg.out.drew⟩
    have HS0 := Lib.hid hS0
    clear hS0
    cases hxx : x
    · subst hxx
      go_wp2_with fail
      refine (K1.out _).mono ?_
      rintro e W1 ⟨rfl, hb⟩
      have HB1 := Lib.hid (And.intro (HB0.out.1.grew hb) (And.intro (HB0.out.2.1.grew hb) (And.intro (HB0.out.2.2.1.grew hb) (HB0.out.2.2.2.grew hb))))
      have HG1 := Lib.hid (grow HG0.out hb)
      clear hb c0 c1 c2 c3 HB0 HG0
      have c0 := HB1.out.1.two
      have c1 := HB1.out.2.1.two
      have c2 := HB1.out.2.2.1.two
      have c3 := HB1.out.2.2.2.two
      go_wp2_with fail
      refine (K2.out _).mono ?_
      rintro e W2 ⟨rfl, hb⟩
      have HB2 := Lib.hid (And.intro (HB1.out.1.grew hb) (And.intro (HB1.out.2.1.grew hb) (And.intro (HB1.out.2.2.1.grew hb) (HB1.out.2.2.2.grew hb))))
      have HG2 := Lib.hid (grow HG1.out hb)
      clear hb c0 c1 c2 c3 HB1 HG1
      have c0 := HB2.out.1.two
      have c1 := HB2.out.2.1.two
      have c2 := HB2.out.2.2.1.two
      have c3 := HB2.out.2.2.2.two
      go_wp2_with fail
      dsimp only [List.append]
      refine wp_region_steady (S := (fun w' : World => w'.cell? ⟨b0, 0, none⟩ = some (.int .i64 ax) ∧ w'.cell? ⟨b0, 1, none⟩ = some (.int .i64 ay) ∧ w'.cell? ⟨b1, 0, none⟩ = some (.int .i64 bx) ∧ w'.cell? ⟨b1, 1, none⟩ = some (.int .i64 byy) ∧ w'.cell? ⟨b2, 0, none⟩ = some (.int .i64 cx) ∧ w'.cell? ⟨b2, 1, none⟩ = some (.int .i64 cy) ∧ w'.cell? ⟨b3, 0, none⟩ = some (.int .i64 dx) ∧ w'.cell? ⟨b3, 1, none⟩ = some (.int .i64 dy) ∧ Below w.heap.size w w')) (by kernel_rfl) (HS0.out _ HB2 HG2) ?_
      refine wpS_take (i := 0) (v := ?_) rfl rfl (by kernel_rfl) (by kernel_rfl) (by kernel_rfl) (fun _ _ _ h => h) (Steady.value (by rfl) ?_) ?_
      rotate_left
      · (intro w hS; (try dsimp only at hS); go_simp; try with_reducible rfl)
      simp only [List.setIfInBounds_toArray, List.set_cons_zero, List.set_cons_succ]
      refine wpS_take (i := 1) (v := ?_) rfl rfl (by kernel_rfl) (by kernel_rfl) (by kernel_rfl) (fun _ _ _ h => h) (Steady.value (by rfl) ?_) ?_
      rotate_left
      · (intro w hS; (try dsimp only at hS); go_simp; try with_reducible rfl)
      simp only [List.setIfInBounds_toArray, List.set_cons_zero, List.set_cons_succ]
      refine wpS_take (i := 2) (v := ?_) rfl rfl (by kernel_rfl) (by kernel_rfl) (by kernel_rfl) (fun _ _ _ h => h) (Steady.value (by rfl) ?_) ?_
      rotate_left
      · (intro w hS; (try dsimp only at hS); go_simp; try with_reducible rfl)
      simp only [List.setIfInBounds_toArray, List.set_cons_zero, List.set_cons_succ]
      refine wpS_take (i := 3) rfl rfl (by kernel_rfl) (by kernel_rfl) (by kernel_rfl) (fun _ _ _ h => h) (Steady.call (by rfl) (steady_below KS.out K3.out) (fun w hS => by (go_simp))) ?_
      simp only [List.setIfInBounds_toArray, List.set_cons_zero, List.set_cons_succ]
      refine wpS_take (i := 4) (v := ?_) rfl rfl (by kernel_rfl) (by kernel_rfl) (by kernel_rfl) (fun _ _ _ h => h) (Steady.value (by rfl) ?_) ?_
      rotate_left
      · (intro w hS; (try dsimp only at hS); go_simp; try with_reducible rfl)
      simp only [List.setIfInBounds_toArray, List.set_cons_zero, List.set_cons_succ]
      refine wpS_take (i := 5) (v := ?_) rfl rfl (by kernel_rfl) (by kernel_rfl) (by kernel_rfl) (fun _ _ _ h => h) (Steady.value (by rfl) ?_) ?_
      rotate_left
      · (intro w hS; (try dsimp only at hS); go_simp; try with_reducible rfl)
      simp only [List.setIfInBounds_toArray, List.set_cons_zero, List.set_cons_succ]
      refine wpS_take (i := 6) (v := ?_) rfl rfl (by kernel_rfl) (by kernel_rfl) (by kernel_rfl) (fun _ _ _ h => h) (Steady.value (by rfl) ?_) ?_
      rotate_left
      · (intro w hS; (try dsimp only at hS); go_simp; try with_reducible rfl)
      simp only [List.setIfInBounds_toArray, List.set_cons_zero, List.set_cons_succ]
      refine wpS_take (i := 7) (v := ?_) rfl rfl (by kernel_rfl) (by kernel_rfl) (by kernel_rfl) (fun _ _ _ h => h) (Steady.value (by rfl) ?_) ?_
      rotate_left
      · (intro w hS; (try dsimp only at hS); go_simp; try with_reducible rfl)
      simp only [List.setIfInBounds_toArray, List.set_cons_zero, List.set_cons_succ]
      refine wpS_take (i := 8) (v := ?_) rfl rfl (by kernel_rfl) (by kernel_rfl) (by kernel_rfl) (fun _ _ _ h => h) (Steady.value (by rfl) ?_) ?_
      rotate_left
      · (intro w hS; (try dsimp only at hS); go_simp; try with_reducible rfl)
      simp only [List.setIfInBounds_toArray, List.set_cons_zero, List.set_cons_succ]
      refine wpS_take (i := 9) (v := ?_) rfl rfl (by kernel_rfl) (by kernel_rfl) (by kernel_rfl) (fun _ _ _ h => h) (Steady.value (by rfl) ?_) ?_
      rotate_left
      · (intro w hS; (try dsimp only at hS); go_simp; try with_reducible rfl)
      simp only [List.setIfInBounds_toArray, List.set_cons_zero, List.set_cons_succ]
      refine wpS_take (i := 10) rfl rfl (by kernel_rfl) (by kernel_rfl) (by kernel_rfl) (fun _ _ _ h => h) (Steady.call (by rfl) (steady_below KS.out K4.out) (fun w hS => by (go_simp))) ?_
      simp only [List.setIfInBounds_toArray, List.set_cons_zero, List.set_cons_succ]
      refine wpS_take (i := 11) (v := ?_) rfl rfl (by kernel_rfl) (by kernel_rfl) (by kernel_rfl) (fun _ _ _ h => h) (Steady.value (by rfl) ?_) ?_
      rotate_left
      · (intro w hS; (try dsimp only at hS); go_simp; try with_reducible rfl)
      simp only [List.setIfInBounds_toArray, List.set_cons_zero, List.set_cons_succ]
      refine wpS_take (i := 12) (v := ?_) rfl rfl (by kernel_rfl) (by kernel_rfl) (by kernel_rfl) (fun _ _ _ h => h) (Steady.value (by rfl) ?_) ?_
      rotate_left
      · (intro w hS; (try dsimp only at hS); go_simp; try with_reducible rfl)
      simp only [List.setIfInBounds_toArray, List.set_cons_zero, List.set_cons_succ]
      refine wpS_take (i := 13) (v := ?_) rfl rfl (by kernel_rfl) (by kernel_rfl) (by kernel_rfl) (fun _ _ _ h => h) (Steady.value (by rfl) ?_) ?_
      rotate_left
      · (intro w hS; (try dsimp only at hS); go_simp; try with_reducible rfl)
      simp only [List.setIfInBounds_toArray, List.set_cons_zero, List.set_cons_succ]
      refine wpS_take (i := 14) (v := ?_) rfl rfl (by kernel_rfl) (by kernel_rfl) (by kernel_rfl) (fun _ _ _ h => h) (Steady.value (by rfl) ?_) ?_
      rotate_left
      · (intro w hS; (try dsimp only at hS); go_simp; try with_reducible rfl)
      simp only [List.setIfInBounds_toArray, List.set_cons_zero, List.set_cons_succ]
      refine wpS_take (i := 15) (v := ?_) rfl rfl (by kernel_rfl) (by kernel_rfl) (by kernel_rfl) (fun _ _ _ h => h) (Steady.value (by rfl) ?_) ?_
      rotate_left
      · (intro w hS; (try dsimp only at hS); go_simp; try with_reducible rfl)
      simp only [List.setIfInBounds_toArray, List.set_cons_zero, List.set_cons_succ]
      refine wpS_take (i := 16) (v := ?_) rfl rfl (by kernel_rfl) (by kernel_rfl) (by kernel_rfl) (fun _ _ _ h => h) (Steady.value (by rfl) ?_) ?_
      rotate_left
      · (intro w hS; (try dsimp only at hS); go_simp; try with_reducible rfl)
      simp only [List.setIfInBounds_toArray, List.set_cons_zero, List.set_cons_succ]
      refine wpS_take (i := 17) (v := ?_) rfl rfl (by kernel_rfl) (by kernel_rfl) (by kernel_rfl) (fun _ _ _ h => h) (Steady.value (by rfl) ?_) ?_
      rotate_left
      · (intro w hS; (try dsimp only at hS); go_simp; try with_reducible rfl)
      simp only [List.setIfInBounds_toArray, List.set_cons_zero, List.set_cons_succ]
      refine wpS_take (i := 18) (v := ?_) rfl rfl (by kernel_rfl) (by kernel_rfl) (by kernel_rfl) (fun _ _ _ h => h) (Steady.value (by rfl) ?_) ?_
      rotate_left
      · (intro w hS; (try dsimp only at hS); go_simp; try with_reducible rfl)
      simp only [List.setIfInBounds_toArray, List.set_cons_zero, List.set_cons_succ]
      refine wpS_take (i := 19) (v := ?_) rfl rfl (by kernel_rfl) (by kernel_rfl) (by kernel_rfl) (fun _ _ _ h => h) (Steady.value (by rfl) ?_) ?_
      rotate_left
      · (intro w hS; (try dsimp only at hS); go_simp; try with_reducible rfl)
      simp only [List.setIfInBounds_toArray, List.set_cons_zero, List.set_cons_succ]
      refine wpS_take (i := 20) rfl rfl (by kernel_rfl) (by kernel_rfl) (by kernel_rfl) (fun _ _ _ h => h) (Steady.call (by rfl) (steady_below KS.out K5.out) (fun w hS => by (go_simp))) ?_
      simp only [List.setIfInBounds_toArray, List.set_cons_zero, List.set_cons_succ]
      refine wpS_take (i := 21) (v := ?_) rfl rfl (by kernel_rfl) (by kernel_rfl) (by kernel_rfl) (fun _ _ _ h => h) (Steady.value (by rfl) ?_) ?_
      rotate_left
      · (intro w hS; (try dsimp only at hS); go_simp; try with_reducible rfl)
      simp only [List.setIfInBounds_toArray, List.set_cons_zero, List.set_cons_succ]
      refine wpS_take (i := 22) (v := ?_) rfl rfl (by kernel_rfl) (by kernel_rfl) (by kernel_rfl) (fun _ _ _ h => h) (Steady.value (by rfl) ?_) ?_
      rotate_left
      · (intro w hS; (try dsimp only at hS); go_simp; try with_reducible rfl)
      simp only [List.setIfInBounds_toArray, List.set_cons_zero, List.set_cons_succ]
      refine wpS_take (i := 23) (v := ?_) rfl rfl (by kernel_rfl) (by kernel_rfl) (by kernel_rfl) (fun _ _ _ h => h) (Steady.value (by rfl) ?_) ?_
      rotate_left
      · (intro w hS; (try dsimp only at hS); go_simp; try with_reducible rfl)
      simp only [List.setIfInBounds_toArray, List.set_cons_zero, List.set_cons_succ]
      refine wpS_take (i := 24) (v := ?_) rfl rfl (by kernel_rfl) (by kernel_rfl) (by kernel_rfl) (fun _ _ _ h => h) (Steady.value (by rfl) ?_) ?_
      rotate_left
      · (intro w hS; (try dsimp only at hS); go_simp; try with_reducible rfl)
      simp only [List.setIfInBounds_toArray, List.set_cons_zero, List.set_cons_succ]
      refine wpS_take (i := 25) (v := ?_) rfl rfl (by kernel_rfl) (by kernel_rfl) (by kernel_rfl) (fun _ _ _ h => h) (Steady.value (by rfl) ?_) ?_
      rotate_left
      · (intro w hS; (try dsimp only at hS); go_simp; try with_reducible rfl)
      simp only [List.setIfInBounds_toArray, List.set_cons_zero, List.set_cons_succ]
      refine wpS_take (i := 26) (v := ?_) rfl rfl (by kernel_rfl) (by kernel_rfl) (by kernel_rfl) (fun _ _ _ h => h) (Steady.value (by rfl) ?_) ?_
      rotate_left
      · (intro w hS; (try dsimp only at hS); go_simp; try with_reducible rfl)
      simp only [List.setIfInBounds_toArray, List.set_cons_zero, List.set_cons_succ]
      refine wpS_take (i := 27) (v := ?_) rfl rfl (by kernel_rfl) (by kernel_rfl) (by kernel_rfl) (fun _ _ _ h => h) (Steady.value (by rfl) ?_) ?_
      rotate_left
      · (intro w hS; (try dsimp only at hS); go_simp; try with_reducible rfl)
      simp only [List.setIfInBounds_toArray, List.set_cons_zero, List.set_cons_succ]
      refine wpS_take (i := 28) (v := ?_) rfl rfl (by kernel_rfl) (by kernel_rfl) (by kernel_rfl) (fun _ _ _ h => h) (Steady.value (by rfl) ?_) ?_
      rotate_left
      · (intro w hS; (try dsimp only at hS); go_simp; try with_reducible rfl)
      simp only [List.setIfInBounds_toArray, List.set_cons_zero, List.set_cons_succ]
      refine wpS_take (i := 29) rfl rfl (by kernel_rfl) (by kernel_rfl) (by kernel_rfl) (fun _ _ _ h => h) (Steady.call (by rfl) (steady_below KS.out K6.out) (fun w hS => by (go_simp))) ?_
      simp only [List.setIfInBounds_toArray, List.set_cons_zero, List.set_cons_succ]
      refine wpS_take (i := 30) (v := ?_) rfl rfl (by kernel_rfl) (by kernel_rfl) (by kernel_rfl) (fun _ _ _ h => h) (Steady.value (by rfl) ?_) ?_
      rotate_left
      · (intro w hS; (try dsimp only at hS); go_simp; try with_reducible rfl)
      simp only [List.setIfInBounds_toArray, List.set_cons_zero, List.set_cons_succ]
      refine wpS_take (i := 31) (v := ?_) rfl rfl (by kernel_rfl) (by kernel_rfl) (by kernel_rfl) (fun _ _ _ h => h) (Steady.value (by rfl) ?_) ?_
      rotate_left
      · (intro w hS; (try dsimp only at hS); go_simp; try with_reducible rfl)
      simp only [List.setIfInBounds_toArray, List.set_cons_zero, List.set_cons_succ]
      refine wpS_take (i := 32) (v := ?_) rfl rfl (by kernel_rfl) (by kernel_rfl) (by kernel_rfl) (fun _ _ _ h => h) (Steady.value (by rfl) ?_) ?_
      rotate_left
      · (intro w hS; (try dsimp only at hS); go_simp; try with_reducible rfl)
      simp only [List.setIfInBounds_toArray, List.set_cons_zero, List.set_cons_succ]
      refine wpS_take (i := 33) (v := ?_) rfl rfl (by kernel_rfl) (by kernel_rfl) (by kernel_rfl) (fun _ _ _ h => h) (Steady.value (by rfl) ?_) ?_
      rotate_left
      · (intro w hS; (try dsimp only at hS); go_simp; try with_reducible rfl)
      simp only [List.setIfInBounds_toArray, List.set_cons_zero, List.set_cons_succ]
      refine wpS_take (i := 34) (v := ?_) rfl rfl (by kernel_rfl) (by kernel_rfl) (by kernel_rfl) (fun _ _ _ h => h) (Steady.value (by rfl) ?_) ?_
      rotate_left
      · (intro w hS; (try dsimp only at hS); go_simp; try with_reducible rfl)
      simp only [List.setIfInBounds_toArray, List.set_cons_zero, List.set_cons_succ]
      refine wpS_take (i := 35) (v := ?_) rfl rfl (by kernel_rfl) (by kernel_rfl) (by kernel_rfl) (fun _ _ _ h => h) (Steady.value (by rfl) ?_) ?_
      rotate_left
      · (intro w hS; (try dsimp only at hS); go_simp; try with_reducible rfl)
      simp only [List.setIfInBounds_toArray, List.set_cons_zero, List.set_cons_succ]
      refine wpS_take (i := 36) (v := ?_) rfl rfl (by kernel_rfl) (by kernel_rfl) (by kernel_rfl) (fun _ _ _ h => h) (Steady.value (by rfl) ?_) ?_
      rotate_left
      · (intro w hS; (try dsimp only at hS); go_simp; try with_reducible rfl)
      simp only [List.setIfInBounds_toArray, List.set_cons_zero, List.set_cons_succ]
      refine wpS_take (i := 37) (v := ?_) rfl rfl (by kernel_rfl) (by kernel_rfl) (by kernel_rfl) (fun _ _ _ h => h) (Steady.value (by rfl) ?_) ?_
      rotate_left
      · (intro w hS; (try dsimp only at hS); go_simp; try with_reducible rfl)
      simp only [List.setIfInBounds_toArray, List.set_cons_zero, List.set_cons_succ]
      refine wpS_take (i := 38) rfl rfl (by kernel_rfl) (by kernel_rfl) (by kernel_rfl) (fun _ _ _ h => h) (Steady.call (by rfl) (steady_below KS.out K7.out) (fun w hS => by (go_simp))) ?_
      simp only [List.setIfInBounds_toArray, List.set_cons_zero, List.set_cons_succ]
      refine wpS_take (i := 39) (v := ?_) rfl rfl (by kernel_rfl) (by kernel_rfl) (by kernel_rfl) (fun _ _ _ h => h) (Steady.value (by rfl) ?_) ?_
      rotate_left
      · (intro w hS; (try dsimp only at hS); go_simp; try with_reducible rfl)
      simp only [List.setIfInBounds_toArray, List.set_cons_zero, List.set_cons_succ]
      refine wpS_take (i := 40) (v := ?_) rfl rfl (by kernel_rfl) (by kernel_rfl) (by kernel_rfl) (fun _ _ _ h => h) (Steady.value (by rfl) ?_) ?_
      rotate_left
      · (intro w hS; (try dsimp only at hS); go_simp; try with_reducible rfl)
      simp only [List.setIfInBounds_toArray, List.set_cons_zero, List.set_cons_succ]
      refine wpS_take (i := 41) (v := ?_) rfl rfl (by kernel_rfl) (by kernel_rfl) (by kernel_rfl) (fun _ _ _ h => h) (Steady.value (by rfl) ?_) ?_
      rotate_left
      · (intro w hS; (try dsimp only at hS); go_simp; try with_reducible rfl)
      simp only [List.setIfInBounds_toArray, List.set_cons_zero, List.set_cons_succ]
      refine wpS_take (i := 42) (v := ?_) rfl rfl (by kernel_rfl) (by kernel_rfl) (by kernel_rfl) (fun _ _ _ h => h) (Steady.value (by rfl) ?_) ?_
      rotate_left
      · (intro w hS; (try dsimp only at hS); go_simp; try with_reducible rfl)
      simp only [List.setIfInBounds_toArray, List.set_cons_zero, List.set_cons_succ]
      refine wpS_take (i := 43) (v := ?_) rfl rfl (by kernel_rfl) (by kernel_rfl) (by kernel_rfl) (fun _ _ _ h => h) (Steady.value (by rfl) ?_) ?_
      rotate_left
      · (intro w hS; (try dsimp only at hS); go_simp; try with_reducible rfl)
      simp only [List.setIfInBounds_toArray, List.set_cons_zero, List.set_cons_succ]
      refine wpS_take (i := 44) (v := ?_) rfl rfl (by kernel_rfl) (by kernel_rfl) (by kernel_rfl) (fun _ _ _ h => h) (Steady.value (by rfl) ?_) ?_
      rotate_left
      · (intro w hS; (try dsimp only at hS); go_simp; try with_reducible rfl)
      simp only [List.setIfInBounds_toArray, List.set_cons_zero, List.set_cons_succ]
      refine wpS_take (i := 45) (v := ?_) rfl rfl (by kernel_rfl) (by kernel_rfl) (by kernel_rfl) (fun _ _ _ h => h) (Steady.value (by rfl) ?_) ?_
      rotate_left
      · (intro w hS; (try dsimp only at hS); go_simp; try with_reducible rfl)
      simp only [List.setIfInBounds_toArray, List.set_cons_zero, List.set_cons_succ]
      refine wpS_take (i := 46) (v := ?_) rfl rfl (by kernel_rfl) (by kernel_rfl) (by kernel_rfl) (fun _ _ _ h => h) (Steady.value (by rfl) ?_) ?_
      rotate_left
      · (intro w hS; (try dsimp only at hS); go_simp; try with_reducible rfl)
      simp only [List.setIfInBounds_toArray, List.set_cons_zero, List.set_cons_succ]
      refine wpS_take (i := 47) rfl rfl (by kernel_rfl) (by kernel_rfl) (by kernel_rfl) (fun _ _ _ h => h) (Steady.call (by rfl) (steady_below KS.out K8.out) (fun w hS => by (go_simp))) ?_
      simp only [List.setIfInBounds_toArray, List.set_cons_zero, List.set_cons_succ]
      refine wpS_take (i := 48) (v := ?_) rfl rfl (by kernel_rfl) (by kernel_rfl) (by kernel_rfl) (fun _ _ _ h => h) (Steady.value (by rfl) ?_) ?_
      rotate_left
      · (intro w hS; (try dsimp only at hS); go_simp; try with_reducible rfl)
      simp only [List.setIfInBounds_toArray, List.set_cons_zero, List.set_cons_succ]
      refine wpS_take (i := 49) (v := ?_) rfl rfl (by kernel_rfl) (by kernel_rfl) (by kernel_rfl) (fun _ _ _ h => h) (Steady.value (by rfl) ?_) ?_
      rotate_left
      · (intro w hS; (try dsimp only at hS); go_simp; try with_reducible rfl)
      simp only [List.setIfInBounds_toArray, List.set_cons_zero, List.set_cons_succ]
      refine wpS_take (i := 50) (v := undef) rfl rfl (by kernel_rfl) (by kernel_rfl) (by kernel_rfl) (fun _ _ _ h => h) (Steady.off (by rfl)) ?_
      simp only [List.setIfInBounds_toArray, List.set_cons_zero, List.set_cons_succ]
      refine wpS_take (i := 51) (v := ?_) rfl rfl (by kernel_rfl) (by kernel_rfl) (by kernel_rfl) (fun _ _ _ h => h) (Steady.value (by rfl) ?_) ?_
      rotate_left
      · (intro w hS; (try dsimp only at hS); go_simp; try with_reducible rfl)
      simp only [List.setIfInBounds_toArray, List.set_cons_zero, List.set_cons_succ]
      refine wpS_take (i := 52) (v := ?_) rfl rfl (by kernel_rfl) (by kernel_rfl) (by kernel_rfl) (fun _ _ _ h => h) (Steady.value (by rfl) ?_) ?_
      rotate_left
      · (intro w hS; (try dsimp only at hS); go_simp; try with_reducible rfl)
      simp only [List.setIfInBounds_toArray, List.set_cons_zero, List.set_cons_succ]
      refine wpS_take (i := 53) (v := ?_) rfl rfl (by kernel_rfl) (by kernel_rfl) (by kernel_rfl) (fun _ _ _ h => h) (Steady.value (by rfl) ?_) ?_
      rotate_left
      · (intro w hS; (try dsimp only at hS); go_simp; try with_reducible rfl)
      simp only [List.setIfInBounds_toArray, List.set_cons_zero, List.set_cons_succ]
      refine wpS_take (i := 54) (v := ?_) rfl rfl (by kernel_rfl) (by kernel_rfl) (by kernel_rfl) (fun _ _ _ h => h) (Steady.value (by rfl) ?_) ?_
      rotate_left
      · (intro w hS; (try dsimp only at hS); go_simp; try with_reducible rfl)
      simp only [List.setIfInBounds_toArray, List.set_cons_zero, List.set_cons_succ]
      refine wpS_take (i := 55) (v := ?_) rfl rfl (by kernel_rfl) (by kernel_rfl) (by kernel_rfl) (fun _ _ _ h => h) (Steady.value (by rfl) ?_) ?_
      rotate_left
      · (intro w hS; (try dsimp only at hS); go_simp; try with_reducible rfl)
      simp only [List.setIfInBounds_toArray, List.set_cons_zero, List.set_cons_succ]
      refine wpS_take (i := 56) (v := ?_) rfl rfl (by kernel_rfl) (by kernel_rfl) (by kernel_rfl) (fun _ _ _ h => h) (Steady.value (by rfl) ?_) ?_
      rotate_left
      · (intro w hS; (try dsimp only at hS); go_simp; try with_reducible rfl)
      simp only [List.setIfInBounds_toArray, List.set_cons_zero, List.set_cons_succ]
      refine wpS_take (i := 57) rfl rfl (by kernel_rfl) (by kernel_rfl) (by kernel_rfl) (fun _ _ _ h => h) (Steady.call (by rfl) (steady_below KS.out K9.out) (fun w hS => by (go_simp))) ?_
      simp only [List.setIfInBounds_toArray, List.set_cons_zero, List.set_cons_succ]
      refine wpS_take (i := 58) (v := ?_) rfl rfl (by kernel_rfl) (by kernel_rfl) (by kernel_rfl) (fun _ _ _ h => h) (Steady.value (by rfl) ?_) ?_
      rotate_left
      · (intro w hS; (try dsimp only at hS); go_simp; try with_reducible rfl)
      simp only [List.setIfInBounds_toArray, List.set_cons_zero, List.set_cons_succ]
      refine wpS_take (i := 59) (v := ?_) rfl rfl (by kernel_rfl) (by kernel_rfl) (by kernel_rfl) (fun _ _ _ h => h) (Steady.value (by rfl) ?_) ?_
      rotate_left
      · (intro w hS; (try dsimp only at hS); go_simp; try with_reducible rfl)
      simp only [List.setIfInBounds_toArray, List.set_cons_zero, List.set_cons_succ]
      refine wpS_take (i := 60) (v := ?_) rfl rfl (by kernel_rfl) (by kernel_rfl) (by kernel_rfl) (fun _ _ _ h => h) (Steady.value (by rfl) ?_) ?_
      rotate_left
      · (intro w hS; (try dsimp only at hS); go_simp; try with_reducible rfl)
      simp only [List.setIfInBounds_toArray, List.set_cons_zero, List.set_cons_succ]
      refine wpS_take (i := 61) rfl rfl (by kernel_rfl) (by kernel_rfl) (by kernel_rfl) (fun _ _ _ h => h) (Steady.call (by rfl) (steady_below KS.out K10.out) (fun w hS => by (go_simp))) ?_
      simp only [List.setIfInBounds_toArray, List.set_cons_zero, List.set_cons_succ]
      refine wpS_take (i := 62) (v := ?_) rfl rfl (by kernel_rfl) (by kernel_rfl) (by kernel_rfl) (fun _ _ _ h => h) (Steady.value (by rfl) ?_) ?_
      rotate_left
      · (intro w hS; (try dsimp only at hS); go_simp; try with_reducible rfl)
      simp only [List.setIfInBounds_toArray, List.set_cons_zero, List.set_cons_succ]
      refine wpS_take (i := 63) (v := ?_) rfl rfl (by kernel_rfl) (by kernel_rfl) (by kernel_rfl) (fun _ _ _ h => h) (Steady.value (by rfl) ?_) ?_
      rotate_left
      · (intro w hS; (try dsimp only at hS); go_simp; try with_reducible rfl)
      simp only [List.setIfInBounds_toArray, List.set_cons_zero, List.set_cons_succ]
      refine wpS_take (i := 64) (v := ?_) rfl rfl (by kernel_rfl) (by kernel_rfl) (by kernel_rfl) (fun _ _ _ h => h) (Steady.value (by rfl) ?_) ?_
      rotate_left
      · (intro w hS; (try dsimp only at hS); go_simp; try with_reducible rfl)
      simp only [List.setIfInBounds_toArray, List.set_cons_zero, List.set_cons_succ]
      refine wpS_take (i := 65) rfl rfl (by kernel_rfl) (by kernel_rfl) (by kernel_rfl) (fun _ _ _ h => h) (Steady.call (by rfl) (steady_below KS.out K11.out) (fun w hS => by (go_simp))) ?_
      simp only [List.setIfInBounds_toArray, List.set_cons_zero, List.set_cons_succ]
      refine wpS_take (i := 66) (v := ?_) rfl rfl (by kernel_rfl) (by kernel_rfl) (by kernel_rfl) (fun _ _ _ h => h) (Steady.value (by rfl) ?_) ?_
      rotate_left
      · (intro w hS; (try dsimp only at hS); go_simp; try with_reducible rfl)
      simp only [List.setIfInBounds_toArray, List.set_cons_zero, List.set_cons_succ]
      refine wpS_take (i := 67) (v := ?_) rfl rfl (by kernel_rfl) (by kernel_rfl) (by kernel_rfl) (fun _ _ _ h => h) (Steady.value (by rfl) ?_) ?_
      rotate_left
      · (intro w hS; (try dsimp only at hS); go_simp; try with_reducible rfl)
      simp only [List.setIfInBounds_toArray, List.set_cons_zero, List.set_cons_succ]
      refine wpS_done (by kernel_rfl) (fun W hS => ?_) _
      go_wp2
      go_ret
      exact ⟨rfl, hS.2.2.2.2.2.2.2.2⟩
    · have hm : m = true := HX.out hxx
      subst hxx
      subst hm
      go_wp2_with fail
      refine (K1.out _).mono ?_
      rintro e W1 ⟨rfl, hb⟩
      have HB1 := Lib.hid (And.intro (HB0.out.1.grew hb) (And.intro (HB0.out.2.1.grew hb) (And.intro (HB0.out.2.2.1.grew hb) (HB0.out.2.2.2.grew hb))))
      have HG1 := Lib.hid (grow HG0.out hb)
      clear hb c0 c1 c2 c3 HB0 HG0
      have c0 := HB1.out.1.two
      have c1 := HB1.out.2.1.two
      have c2 := HB1.out.2.2.1.two
      have c3 := HB1.out.2.2.2.two
      go_wp2_with fail
      refine (K2.out _).mono ?_
      rintro e W2 ⟨rfl, hb⟩
      have HB2 := Lib.hid (And.intro (HB1.out.1.grew hb) (And.intro (HB1.out.2.1.grew hb) (And.intro (HB1.out.2.2.1.grew hb) (HB1.out.2.2.2.grew hb))))
      have HG2 := Lib.hid (grow HG1.out hb)
      clear hb c0 c1 c2 c3 HB1 HG1
      have c0 := HB2.out.1.two
      have c1 := HB2.out.2.1.two
      have c2 := HB2.out.2.2.1.two
      have c3 := HB2.out.2.2.2.two
      go_wp2_with fail
      dsimp only [List.append]
      refine wp_region_steady (S := (fun w' : World => w'.cell? ⟨b0, 0, none⟩ = some (.int .i64 ax) ∧ w'.cell? ⟨b0, 1, none⟩ = some (.int .i64 ay) ∧ w'.cell? ⟨b1, 0, none⟩ = some (.int .i64 bx) ∧ w'.cell? ⟨b1, 1, none⟩ = some (.int .i64 byy) ∧ w'.cell? ⟨b2, 0, none⟩ = some (.int .i64 cx) ∧ w'.cell? ⟨b2, 1, none⟩ = some (.int .i64 cy) ∧ w'.cell? ⟨b3, 0, none⟩ = some (.int .i64 dx) ∧ w'.cell? ⟨b3, 1, none⟩ = some (.int .i64 dy) ∧ Below w.heap.size w w')) (by kernel_rfl) (HS0.out _ HB2 HG2) ?_
      refine wpS_take (i := 0) (v := ?_) rfl rfl (by kernel_rfl) (by kernel_rfl) (by kernel_rfl) (fun _ _ _ h => h) (Steady.value (by rfl) ?_) ?_
      rotate_left
      · (intro w hS; (try dsimp only at hS); go_simp; try with_reducible rfl)
      simp only [List.setIfInBounds_toArray, List.set_cons_zero, List.set_cons_succ]
      refine wpS_take (i := 1) (v := ?_) rfl rfl (by kernel_rfl) (by kernel_rfl) (by kernel_rfl) (fun _ _ _ h => h) (Steady.value (by rfl) ?_) ?_
      rotate_left
      · (intro w hS; (try dsimp only at hS); go_simp; try with_reducible rfl)
      simp only [List.setIfInBounds_toArray, List.set_cons_zero, List.set_cons_succ]
      refine wpS_take (i := 2) (v := ?_) rfl rfl (by kernel_rfl) (by kernel_rfl) (by kernel_rfl) (fun _ _ _ h => h) (Steady.value (by rfl) ?_) ?_
      rotate_left
      · (intro w hS; (try dsimp only at hS); go_simp; try with_reducible rfl)
      simp only [List.setIfInBounds_toArray, List.set_cons_zero, List.set_cons_succ]
      refine wpS_take (i := 3) rfl rfl (by kernel_rfl) (by kernel_rfl) (by kernel_rfl) (fun _ _ _ h => h) (Steady.call (by rfl) (steady_below KS.out K3.out) (fun w hS => by (go_simp))) ?_
      simp only [List.setIfInBounds_toArray, List.set_cons_zero, List.set_cons_succ]
      refine wpS_take (i := 4) (v := ?_) rfl rfl (by kernel_rfl) (by kernel_rfl) (by kernel_rfl) (fun _ _ _ h => h) (Steady.value (by rfl) ?_) ?_
      rotate_left
      · (intro w hS; (try dsimp only at hS); go_simp; try with_reducible rfl)
      simp only [List.setIfInBounds_toArray, List.set_cons_zero, List.set_cons_succ]
      refine wpS_take (i := 5) (v := ?_) rfl rfl (by kernel_rfl) (by kernel_rfl) (by kernel_rfl) (fun _ _ _ h => h) (Steady.value (by rfl) ?_) ?_
      rotate_left
      · (intro w hS; (try dsimp only at hS); go_simp; try with_reducible rfl)
      simp only [List.setIfInBounds_toArray, List.set_cons_zero, List.set_cons_succ]
      refine wpS_take (i := 6) (v := ?_) rfl rfl (by kernel_rfl) (by kernel_rfl) (by kernel_rfl) (fun _ _ _ h => h) (Steady.value (by rfl) ?_) ?_
      rotate_left
      · (intro w hS; (try dsimp only at hS); go_simp; try with_reducible rfl)
      simp only [List.setIfInBounds_toArray, List.set_cons_zero, List.set_cons_succ]
      refine wpS_take (i := 7) (v := ?_) rfl rfl (by kernel_rfl) (by kernel_rfl) (by kernel_rfl) (fun _ _ _ h => h) (Steady.value (by rfl) ?_) ?_
      rotate_left
      · (intro w hS; (try dsimp only at hS); go_simp; try with_reducible rfl)
      simp only [List.setIfInBounds_toArray, List.set_cons_zero, List.set_cons_succ]
      refine wpS_take (i := 8) (v := ?_) rfl rfl (by kernel_rfl) (by kernel_rfl) (by kernel_rfl) (fun _ _ _ h => h) (Steady.value (by rfl) ?_) ?_
      rotate_left
      · (intro w hS; (try dsimp only at hS); go_simp; try with_reducible rfl)
      simp only [List.setIfInBounds_toArray, List.set_cons_zero, List.set_cons_succ]
      refine wpS_take (i := 9) (v := ?_) rfl rfl (by kernel_rfl) (by kernel_rfl) (by kernel_rfl) (fun _ _ _ h => h) (Steady.value (by rfl) ?_) ?_
      rotate_left
      · (intro w hS; (try dsimp only at hS); go_simp; try with_reducible rfl)
      simp only [List.setIfInBounds_toArray, List.set_cons_zero, List.set_cons_succ]
      refine wpS_take (i := 10) rfl rfl (by kernel_rfl) (by kernel_rfl) (by kernel_rfl) (fun _ _ _ h => h) (Steady.call (by rfl) (steady_below KS.out K4.out) (fun w hS => by (go_simp))) ?_
      simp only [List.setIfInBounds_toArray, List.set_cons_zero, List.set_cons_succ]
      refine wpS_take (i := 11) (v := ?_) rfl rfl (by kernel_rfl) (by kernel_rfl) (by kernel_rfl) (fun _ _ _ h => h) (Steady.value (by rfl) ?_) ?_
      rotate_left
      · (intro w hS; (try dsimp only at hS); go_simp; try with_reducible rfl)
      simp only [List.setIfInBounds_toArray, List.set_cons_zero, List.set_cons_succ]
      refine wpS_take (i := 12) (v := ?_) rfl rfl (by kernel_rfl) (by kernel_rfl) (by kernel_rfl) (fun _ _ _ h => h) (Steady.value (by rfl) ?_) ?_
      rotate_left
      · (intro w hS; (try dsimp only at hS); go_simp; try with_reducible rfl)
      simp only [List.setIfInBounds_toArray, List.set_cons_zero, List.set_cons_succ]
      refine wpS_take (i := 13) (v := ?_) rfl rfl (by kernel_rfl) (by kernel_rfl) (by kernel_rfl) (fun _ _ _ h => h) (Steady.value (by rfl) ?_) ?_
      rotate_left
      · (intro w hS; (try dsimp only at hS); go_simp; try with_reducible rfl)
      simp only [List.setIfInBounds_toArray, List.set_cons_zero, List.set_cons_succ]
      refine wpS_take (i := 14) (v := ?_) rfl rfl (by kernel_rfl) (by kernel_rfl) (by kernel_rfl) (fun _ _ _ h => h) (Steady.value (by rfl) ?_) ?_
      rotate_left
      · (intro w hS; (try dsimp only at hS); go_simp; try with_reducible rfl)
      simp only [List.setIfInBounds_toArray, List.set_cons_zero, List.set_cons_succ]
      refine wpS_take (i := 15) (v := ?_) rfl rfl (by kernel_rfl) (by kernel_rfl) (by kernel_rfl) (fun _ _ _ h => h) (Steady.value (by rfl) ?_) ?_
      rotate_left
      · (intro w hS; (try dsimp only at hS); go_simp; try with_reducible rfl)
      simp only [List.setIfInBounds_toArray, List.set_cons_zero, List.set_cons_succ]
      refine wpS_take (i := 16) (v := ?_) rfl rfl (by kernel_rfl) (by kernel_rfl) (by kernel_rfl) (fun _ _ _ h => h) (Steady.value (by rfl) ?_) ?_
      rotate_left
      · (intro w hS; (try dsimp only at hS); go_simp; try with_reducible rfl)
      simp only [List.setIfInBounds_toArray, List.set_cons_zero, List.set_cons_succ]
      refine wpS_take (i := 17) (v := ?_) rfl rfl (by kernel_rfl) (by kernel_rfl) (by kernel_rfl) (fun _ _ _ h => h) (Steady.value (by rfl) ?_) ?_
      rotate_left
      · (intro w hS; (try dsimp only at hS); go_simp; try with_reducible rfl)
      simp only [List.setIfInBounds_toArray, List.set_cons_zero, List.set_cons_succ]
      refine wpS_take (i := 18) (v := ?_) rfl rfl (by kernel_rfl) (by kernel_rfl) (by kernel_rfl) (fun _ _ _ h => h) (Steady.value (by rfl) ?_) ?_
      rotate_left
      · (intro w hS; (try dsimp only at hS); go_simp; try with_reducible rfl)
      simp only [List.setIfInBounds_toArray, List.set_cons_zero, List.set_cons_succ]
      refine wpS_take (i := 19) (v := ?_) rfl rfl (by kernel_rfl) (by kernel_rfl) (by kernel_rfl) (fun _ _ _ h => h) (Steady.value (by rfl) ?_) ?_
      rotate_left
      · (intro w hS; (try dsimp only at hS); go_simp; try with_reducible rfl)
      simp only [List.setIfInBounds_toArray, List.set_cons_zero, List.set_cons_succ]
      refine wpS_take (i := 20) rfl rfl (by kernel_rfl) (by kernel_rfl) (by kernel_rfl) (fun _ _ _ h => h) (Steady.call (by rfl) (steady_below KS.out K5.out) (fun w hS => by (go_simp))) ?_
      simp only [List.setIfInBounds_toArray, List.set_cons_zero, List.set_cons_succ]
      refine wpS_take (i := 21) (v := ?_) rfl rfl (by kernel_rfl) (by kernel_rfl) (by kernel_rfl) (fun _ _ _ h => h) (Steady.value (by rfl) ?_) ?_
      rotate_left
      · (intro w hS; (try dsimp only at hS); go_simp; try with_reducible rfl)
      simp only [List.setIfInBounds_toArray, List.set_cons_zero, List.set_cons_succ]
      refine wpS_take (i := 22) (v := ?_) rfl rfl (by kernel_rfl) (by kernel_rfl) (by kernel_rfl) (fun _ _ _ h => h) (Steady.value (by rfl) ?_) ?_
      rotate_left
      · (intro w hS; (try dsimp only at hS); go_simp; try with_reducible rfl)
      simp only [List.setIfInBounds_toArray, List.set_cons_zero, List.set_cons_succ]
      refine wpS_take (i := 23) (v := ?_) rfl rfl (by kernel_rfl) (by kernel_rfl) (by kernel_rfl) (fun _ _ _ h => h) (Steady.value (by rfl) ?_) ?_
      rotate_left
      · (intro w hS; (try dsimp only at hS); go_simp; try with_reducible rfl)
      simp only [List.setIfInBounds_toArray, List.set_cons_zero, List.set_cons_succ]
      refine wpS_take (i := 24) (v := ?_) rfl rfl (by kernel_rfl) (by kernel_rfl) (by kernel_rfl) (fun _ _ _ h => h) (Steady.value (by rfl) ?_) ?_
      rotate_left
      · (intro w hS; (try dsimp only at hS); go_simp; try with_reducible rfl)
      simp only [List.setIfInBounds_toArray, List.set_cons_zero, List.set_cons_succ]
      refine wpS_take (i := 25) (v := ?_) rfl rfl (by kernel_rfl) (by kernel_rfl) (by kernel_rfl) (fun _ _ _ h => h) (Steady.value (by rfl) ?_) ?_
      rotate_left
      · (intro w hS; (try dsimp only at hS); go_simp; try with_reducible rfl)
      simp only [List.setIfInBounds_toArray, List.set_cons_zero, List.set_cons_succ]
      refine wpS_take (i := 26) (v := ?_) rfl rfl (by kernel_rfl) (by kernel_rfl) (by kernel_rfl) (fun _ _ _ h => h) (Steady.value (by rfl) ?_) ?_
      rotate_left
      · (intro w hS; (try dsimp only at hS); go_simp; try with_reducible rfl)
      simp only [List.setIfInBounds_toArray, List.set_cons_zero, List.set_cons_succ]
      refine wpS_take (i := 27) (v := ?_) rfl rfl (by kernel_rfl) (by kernel_rfl) (by kernel_rfl) (fun _ _ _ h => h) (Steady.value (by rfl) ?_) ?_
      rotate_left
      · (intro w hS; (try dsimp only at hS); go_simp; try with_reducible rfl)
      simp only [List.setIfInBounds_toArray, List.set_cons_zero, List.set_cons_succ]
      refine wpS_take (i := 28) (v := ?_) rfl rfl (by kernel_rfl) (by kernel_rfl) (by kernel_rfl) (fun _ _ _ h => h) (Steady.value (by rfl) ?_) ?_
      rotate_left
      · (intro w hS; (try dsimp only at hS); go_simp; try with_reducible rfl)
      simp only [List.setIfInBounds_toArray, List.set_cons_zero, List.set_cons_succ]
      refine wpS_take (i := 29) rfl rfl (by kernel_rfl) (by kernel_rfl) (by kernel_rfl) (fun _ _ _ h => h) (Steady.call (by rfl) (steady_below KS.out K6.out) (fun w hS => by (go_simp))) ?_
      simp only [List.setIfInBounds_toArray, List.set_cons_zero, List.set_cons_succ]
      refine wpS_take (i := 30) (v := ?_) rfl rfl (by kernel_rfl) (by kernel_rfl) (by kernel_rfl) (fun _ _ _ h => h) (Steady.value (by rfl) ?_) ?_
      rotate_left
      · (intro w hS; (try dsimp only at hS); go_simp; try with_reducible rfl)
      simp only [List.setIfInBounds_toArray, List.set_cons_zero, List.set_cons_succ]
      refine wpS_take (i := 31) (v := ?_) rfl rfl (by kernel_rfl) (by kernel_rfl) (by kernel_rfl) (fun _ _ _ h => h) (Steady.value (by rfl) ?_) ?_
      rotate_left
      · (intro w hS; (try dsimp only at hS); go_simp; try with_reducible rfl)
      simp only [List.setIfInBounds_toArray, List.set_cons_zero, List.set_cons_succ]
      refine wpS_take (i := 32) (v := ?_) rfl rfl (by kernel_rfl) (by kernel_rfl) (by kernel_rfl) (fun _ _ _ h => h) (Steady.value (by rfl) ?_) ?_
      rotate_left
      · (intro w hS; (try dsimp only at hS); go_simp; try with_reducible rfl)
      simp only [List.setIfInBounds_toArray, List.set_cons_zero, List.set_cons_succ]
      refine wpS_take (i := 33) (v := ?_) rfl rfl (by kernel_rfl) (by kernel_rfl) (by kernel_rfl) (fun _ _ _ h => h) (Steady.value (by rfl) ?_) ?_
      rotate_left
      · (intro w hS; (try dsimp only at hS); go_simp; try with_reducible rfl)
      simp only [List.setIfInBounds_toArray, List.set_cons_zero, List.set_cons_succ]
      refine wpS_take (i := 34) (v := ?_) rfl rfl (by kernel_rfl) (by kernel_rfl) (by kernel_rfl) (fun _ _ _ h => h) (Steady.value (by rfl) ?_) ?_
      rotate_left
      · (intro w hS; (try dsimp only at hS); go_simp; try with_reducible rfl)
      simp only [List.setIfInBounds_toArray, List.set_cons_zero, List.set_cons_succ]
      refine wpS_take (i := 35) (v := ?_) rfl rfl (by kernel_rfl) (by kernel_rfl) (by kernel_rfl) (fun _ _ _ h => h) (Steady.value (by rfl) ?_) ?_
      rotate_left
      · (intro w hS; (try dsimp only at hS); go_simp; try with_reducible rfl)
      simp only [List.setIfInBounds_toArray, List.set_cons_zero, List.set_cons_succ]
      refine wpS_take (i := 36) (v := ?_) rfl rfl (by kernel_rfl) (by kernel_rfl) (by kernel_rfl) (fun _ _ _ h => h) (Steady.value (by rfl) ?_) ?_
      rotate_left
      · (intro w hS; (try dsimp only at hS); go_simp; try with_reducible rfl)
      simp only [List.setIfInBounds_toArray, List.set_cons_zero, List.set_cons_succ]
      refine wpS_take (i := 37) (v := ?_) rfl rfl (by kernel_rfl) (by kernel_rfl) (by kernel_rfl) (fun _ _ _ h => h) (Steady.value (by rfl) ?_) ?_
      rotate_left
      · (intro w hS; (try dsimp only at hS); go_simp; try with_reducible rfl)
      simp only [List.setIfInBounds_toArray, List.set_cons_zero, List.set_cons_succ]
      refine wpS_take (i := 38) rfl rfl (by kernel_rfl) (by kernel_rfl) (by kernel_rfl) (fun _ _ _ h => h) (Steady.call (by rfl) (steady_below KS.out K7.out) (fun w hS => by (go_simp))) ?_
      simp only [List.setIfInBounds_toArray, List.set_cons_zero, List.set_cons_succ]
      refine wpS_take (i := 39) (v := ?_) rfl rfl (by kernel_rfl) (by kernel_rfl) (by kernel_rfl) (fun _ _ _ h => h) (Steady.value (by rfl) ?_) ?_
      rotate_left
      · (intro w hS; (try dsimp only at hS); go_simp; try with_reducible rfl)
      simp only [List.setIfInBounds_toArray, List.set_cons_zero, List.set_cons_succ]
      refine wpS_take (i := 40) (v := ?_) rfl rfl (by kernel_rfl) (by kernel_rfl) (by kernel_rfl) (fun _ _ _ h => h) (Steady.value (by rfl) ?_) ?_
      rotate_left
      · (intro w hS; (try dsimp only at hS); go_simp; try with_reducible rfl)
      simp only [List.setIfInBounds_toArray, List.set_cons_zero, List.set_cons_succ]
      refine wpS_take (i := 41) (v := ?_) rfl rfl (by kernel_rfl) (by kernel_rfl) (by kernel_rfl) (fun _ _ _ h => h) (Steady.value (by rfl) ?_) ?_
      rotate_left
      · (intro w hS; (try dsimp only at hS); go_simp; try with_reducible rfl)
      simp only [List.setIfInBounds_toArray, List.set_cons_zero, List.set_cons_succ]
      refine wpS_take (i := 42) (v := ?_) rfl rfl (by kernel_rfl) (by kernel_rfl) (by kernel_rfl) (fun _ _ _ h => h) (Steady.value (by rfl) ?_) ?_
      rotate_left
      · (intro w hS; (try dsimp only at hS); go_simp; try with_reducible rfl)
      simp only [List.setIfInBounds_toArray, List.set_cons_zero, List.set_cons_succ]
      refine wpS_take (i := 43) (v := ?_) rfl rfl (by kernel_rfl) (by kernel_rfl) (by kernel_rfl) (fun _ _ _ h => h) (Steady.value (by rfl) ?_) ?_
      rotate_left
      · (intro w hS; (try dsimp only at hS); go_simp; try with_reducible rfl)
      simp only [List.setIfInBounds_toArray, List.set_cons_zero, List.set_cons_succ]
      refine wpS_take (i := 44) (v := ?_) rfl rfl (by kernel_rfl) (by kernel_rfl) (by kernel_rfl) (fun _ _ _ h => h) (Steady.value (by rfl) ?_) ?_
      rotate_left
      · (intro w hS; (try dsimp only at hS); go_simp; try with_reducible rfl)
      simp only [List.setIfInBounds_toArray, List.set_cons_zero, List.set_cons_succ]
      refine wpS_take (i := 45) (v := ?_) rfl rfl (by kernel_rfl) (by kernel_rfl) (by kernel_rfl) (fun _ _ _ h => h) (Steady.value (by rfl) ?_) ?_
      rotate_left
      · (intro w hS; (try dsimp only at hS); go_simp; try with_reducible rfl)
      simp only [List.setIfInBounds_toArray, List.set_cons_zero, List.set_cons_succ]
      refine wpS_take (i := 46) (v := ?_) rfl rfl (by kernel_rfl) (by kernel_rfl) (by kernel_rfl) (fun _ _ _ h => h) (Steady.value (by rfl) ?_) ?_
      rotate_left
      · (intro w hS; (try dsimp only at hS); go_simp; try with_reducible rfl)
      simp only [List.setIfInBounds_toArray, List.set_cons_zero, List.set_cons_succ]
      refine wpS_take (i := 47) rfl rfl (by kernel_rfl) (by kernel_rfl) (by kernel_rfl) (fun _ _ _ h => h) (Steady.call (by rfl) (steady_below KS.out K8.out) (fun w hS => by (go_simp))) ?_
      simp only [List.setIfInBounds_toArray, List.set_cons_zero, List.set_cons_succ]
      refine wpS_take (i := 48) (v := ?_) rfl rfl (by kernel_rfl) (by kernel_rfl) (by kernel_rfl) (fun _ _ _ h => h) (Steady.value (by rfl) ?_) ?_
      rotate_left
      · (intro w hS; (try dsimp only at hS); go_simp; try with_reducible rfl)
      simp only [List.setIfInBounds_toArray, List.set_cons_zero, List.set_cons_succ]
      refine wpS_take (i := 49) (v := ?_) rfl rfl (by kernel_rfl) (by kernel_rfl) (by kernel_rfl) (fun _ _ _ h => h) (Steady.value (by rfl) ?_) ?_
      rotate_left
      · (intro w hS; (try dsimp only at hS); go_simp; try with_reducible rfl)
      simp only [List.setIfInBounds_toArray, List.set_cons_zero, List.set_cons_succ]
      refine wpS_take (i := 50) (v := ?_) rfl rfl (by kernel_rfl) (by kernel_rfl) (by kernel_rfl) (fun _ _ _ h => h) (Steady.value (by rfl) ?_) ?_
      rotate_left
      · (intro w hS; (try dsimp only at hS); go_simp; try with_reducible rfl)
      simp only [List.setIfInBounds_toArray, List.set_cons_zero, List.set_cons_succ]
      refine wpS_take (i := 51) (v := ?_) rfl rfl (by kernel_rfl) (by kernel_rfl) (by kernel_rfl) (fun _ _ _ h => h) (Steady.value (by rfl) ?_) ?_
      rotate_left
      · (intro w hS; (try dsimp only at hS); go_simp; try with_reducible rfl)
      simp only [List.setIfInBounds_toArray, List.set_cons_zero, List.set_cons_succ]
      refine wpS_take (i := 52) (v := ?_) rfl rfl (by kernel_rfl) (by kernel_rfl) (by kernel_rfl) (fun _ _ _ h => h) (Steady.value (by rfl) ?_) ?_
      rotate_left
      · (intro w hS; (try dsimp only at hS); go_simp; try with_reducible rfl)
      simp only [List.setIfInBounds_toArray, List.set_cons_zero, List.set_cons_succ]
      refine wpS_take (i := 53) (v := ?_) rfl rfl (by kernel_rfl) (by kernel_rfl) (by kernel_rfl) (fun _ _ _ h => h) (Steady.value (by rfl) ?_) ?_
      rotate_left
      · (intro w hS; (try dsimp only at hS); go_simp; try with_reducible rfl)
      simp only [List.setIfInBounds_toArray, List.set_cons_zero, List.set_cons_succ]
      refine wpS_take (i := 54) (v := ?_) rfl rfl (by kernel_rfl) (by kernel_rfl) (by kernel_rfl) (fun _ _ _ h => h) (Steady.value (by rfl) ?_) ?_
      rotate_left
      · (intro w hS; (try dsimp only at hS); go_simp; try with_reducible rfl)
      simp only [List.setIfInBounds_toArray, List.set_cons_zero, List.set_cons_succ]
      refine wpS_take (i := 55) (v := ?_) rfl rfl (by kernel_rfl) (by kernel_rfl) (by kernel_rfl) (fun _ _ _ h => h) (Steady.value (by rfl) ?_) ?_
      rotate_left
      · (intro w hS; (try dsimp only at hS); go_simp; try with_reducible rfl)
      simp only [List.setIfInBounds_toArray, List.set_cons_zero, List.set_cons_succ]
      refine wpS_take (i := 56) (v := ?_) rfl rfl (by kernel_rfl) (by kernel_rfl) (by kernel_rfl) (fun _ _ _ h => h) (Steady.value (by rfl) ?_) ?_
      rotate_left
      · (intro w hS; (try dsimp only at hS); go_simp; try with_reducible rfl)
      simp only [List.setIfInBounds_toArray, List.set_cons_zero, List.set_cons_succ]
      refine wpS_take (i := 57) rfl rfl (by kernel_rfl) (by kernel_rfl) (by kernel_rfl) (fun _ _ _ h => h) (Steady.call (by rfl) (steady_below KS.out K9.out) (fun w hS => by (go_simp))) ?_
      simp only [List.setIfInBounds_toArray, List.set_cons_zero, List.set_cons_succ]
      refine wpS_take (i := 58) (v := ?_) rfl rfl (by kernel_rfl) (by kernel_rfl) (by kernel_rfl) (fun _ _ _ h => h) (Steady.value (by rfl) ?_) ?_
      rotate_left
      · (intro w hS; (try dsimp only at hS); go_simp; try with_reducible rfl)
      simp only [List.setIfInBounds_toArray, List.set_cons_zero, List.set_cons_succ]
      refine wpS_take (i := 59) (v := ?_) rfl rfl (by kernel_rfl) (by kernel_rfl) (by kernel_rfl) (fun _ _ _ h => h) (Steady.value (by rfl) ?_) ?_
      rotate_left
      · (intro w hS; (try dsimp only at hS); go_simp; try with_reducible rfl)
      simp only [List.setIfInBounds_toArray, List.set_cons_zero, List.set_cons_succ]
      refine wpS_take (i := 60) (v := ?_) rfl rfl (by kernel_rfl) (by kernel_rfl) (by kernel_rfl) (fun _ _ _ h => h) (Steady.value (by rfl) ?_) ?_
      rotate_left
      · (intro w hS; (try dsimp only at hS); go_simp; try with_reducible rfl)
      simp only [List.setIfInBounds_toArray, List.set_cons_zero, List.set_cons_succ]
      refine wpS_take (i := 61) rfl rfl (by kernel_rfl) (by kernel_rfl) (by kernel_rfl) (fun _ _ _ h => h) (Steady.call (by rfl) (steady_below KS.out K10.out) (fun w hS => by (go_simp))) ?_
      simp only [List.setIfInBounds_toArray, List.set_cons_zero, List.set_cons_succ]
      refine wpS_take (i := 62) (v := ?_) rfl rfl (by kernel_rfl) (by kernel_rfl) (by kernel_rfl) (fun _ _ _ h => h) (Steady.value (by rfl) ?_) ?_
      rotate_left
      · (intro w hS; (try dsimp only at hS); go_simp; try with_reducible rfl)
      simp only [List.setIfInBounds_toArray, List.set_cons_zero, List.set_cons_succ]
      refine wpS_take (i := 63) (v := ?_) rfl rfl (by kernel_rfl) (by kernel_rfl) (by kernel_rfl) (fun _ _ _ h => h) (Steady.value (by rfl) ?_) ?_
      rotate_left
      · (intro w hS; (try dsimp only at hS); go_simp; try with_reducible rfl)
      simp only [List.setIfInBounds_toArray, List.set_cons_zero, List.set_cons_succ]
      refine wpS_take (i := 64) (v := ?_) rfl rfl (by kernel_rfl) (by kernel_rfl) (by kernel_rfl) (fun _ _ _ h => h) (Steady.value (by rfl) ?_) ?_
      rotate_left
      · (intro w hS; (try dsimp only at hS); go_simp; try with_reducible rfl)
      simp only [List.setIfInBounds_toArray, List.set_cons_zero, List.set_cons_succ]
      refine wpS_take (i := 65) rfl rfl (by kernel_rfl) (by kernel_rfl) (by kernel_rfl) (fun _ _ _ h => h) (Steady.call (by rfl) (steady_below KS.out K11.out) (fun w hS => by (go_simp))) ?_
      simp only [List.setIfInBounds_toArray, List.set_cons_zero, List.set_cons_succ]
      refine wpS_take (i := 66) (v := ?_) rfl rfl (by kernel_rfl) (by kernel_rfl) (by kernel_rfl) (fun _ _ _ h => h) (Steady.value (by rfl) ?_) ?_
      rotate_left
      · (intro w hS; (try dsimp only at hS); go_simp; try with_reducible rfl)
      simp only [List.setIfInBounds_toArray, List.set_cons_zero, List.set_cons_succ]
      refine wpS_take (i := 67) (v := ?_) rfl rfl (by kernel_rfl) (by kernel_rfl) (by kernel_rfl) (fun _ _ _ h => h) (Steady.value (by rfl) ?_) ?_
      rotate_left
      · (intro w hS; (try dsimp only at hS); go_simp; try with_reducible rfl)
      simp only [List.setIfInBounds_toArray, List.set_cons_zero, List.set_cons_succ]
      refine wpS_done (by kernel_rfl) (fun W hS => ?_) _
      go_wp2
      go_ret
      exact ⟨rfl, hS.2.2.2.2.2.2.2.2⟩
  have q0 : ∀ w' : World, Blk w' w.heap.size #[.int .i64 ax, .int .i64 ay, .int .i64 bx, .int .i64 byy, .int .i64 cx, .int .i64 cy, .int .i64 dx, .int .i64 dy] 32 → w'.cell? ⟨w.heap.size, 0, none⟩ = some (.int .i64 ax) := fun w' h => h.cell 0
  have q1 : ∀ w' : World, Blk w' w.heap.size #[.int .i64 ax, .int .i64 ay, .int .i64 bx, .int .i64 byy, .int .i64 cx, .int .i64 cy, .int .i64 dx, .int .i64 dy] 32 → w'.cell? ⟨w.heap.size, 1, none⟩ = some (.int .i64 ay) := fun w' h => h.cell 1
  have q2 : ∀ w' : World, Blk w' w.heap.size #[.int .i64 ax, .int .i64 ay, .int .i64 bx, .int .i64 byy, .int .i64 cx, .int .i64 cy, .int .i64 dx, .int .i64 dy] 32 → w'.cell? ⟨w.heap.size, 2, none⟩ = some (.int .i64 bx) := fun w' h => h.cell 2
  have q3 : ∀ w' : World, Blk w' w.heap.size #[.int .i64 ax, .int .i64 ay, .int .i64 bx, .int .i64 byy, .int .i64 cx, .int .i64 cy, .int .i64 dx, .int .i64 dy] 32 → w'.cell? ⟨w.heap.size, 3, none⟩ = some (.int .i64 byy) := fun w' h => h.cell 3
  have q4 : ∀ w' : World, Blk w' w.heap.size #[.int .i64 ax, .int .i64 ay, .int .i64 bx, .int .i64 byy, .int .i64 cx, .int .i64 cy, .int .i64 dx, .int .i64 dy] 32 → w'.cell? ⟨w.heap.size, 4, none⟩ = some (.int .i64 cx) := fun w' h => h.cell 4
  have q5 : ∀ w' : World, Blk w' w.heap.size #[.int .i64 ax, .int .i64 ay, .int .i64 bx, .int .i64 byy, .int .i64 cx, .int .i64 cy, .int .i64 dx, .int .i64 dy] 32 → w'.cell? ⟨w.heap.size, 5, none⟩ = some (.int .i64 cy) := fun w' h => h.cell 5
  have q6 : ∀ w' : World, Blk w' w.heap.size #[.int .i64 ax, .int .i64 ay, .int .i64 bx, .int .i64 byy, .int .i64 cx, .int .i64 cy, .int .i64 dx, .int .i64 dy] 32 → w'.cell? ⟨w.heap.size, 6, none⟩ = some (.int .i64 dx) := fun w' h => h.cell 6
  have q7 : ∀ w' : World, Blk w' w.heap.size #[.int .i64 ax, .int .i64 ay, .int .i64 bx, .int .i64 byy, .int .i64 cx, .int .i64 cy, .int .i64 dx, .int .i64 dy] 32 → w'.cell? ⟨w.heap.size, 7, none⟩ = some (.int .i64 dy) := fun w' h => h.cell 7
  have REST := Lib.hid rest
  have G0 := Lib.hid g0
  clear rest g0 K1 K2 K3 K4 K5 K6 K7 K8 K9 K10 K11 HX
  go_region_held3 (fun w' => Blk w' w.heap.size #[.int .i64 ax, .int .i64 ay, .int .i64 bx, .int .i64 byy, .int .i64 cx, .int .i64 cy, .int .i64 dx, .int .i64 dy] 32)
    (first | exact p0 | exact Blk.drew (Blk.alloc (by assumption) _) | exact Blk.alloc (by assumption) _ | exact ((((p0.alloc _).alloc _).alloc _).alloc _).drew | exact (((p0.alloc _).alloc _).alloc _).alloc _)
    (fail)
  all_goals
    refine REST.out _ _ _ _ _ ?_ ?_ ?_ ?_ (grow_alloc (grow_alloc (grow_alloc (grow_alloc G0.out _) _) _) _).drew
    all_goals first | exact (four_at w0 z0 _ _ _ _ _).1 | exact (four_at w0 z0 _ _ _ _ _).2.1 | exact (four_at w0 z0 _ _ _ _ _).2.2.1 | exact (four_at w0 z0 _ _ _ _ _).2.2.2
end Go.Proofs.Ytkneohngbkmlpaa
