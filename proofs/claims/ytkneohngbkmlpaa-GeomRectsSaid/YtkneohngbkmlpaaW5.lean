/- Walks: sides, cross, at. -/
import Derived.Test.YtkneohngbkmlpaaW4
namespace Go.Proofs.Ytkneohngbkmlpaa
open Go.RowKit

theorem frz_grew {w w' : World} {a : Addr} {v : Value} (h : w.cell? a = some v) (f : w.frozen? a = false) (hb : Below w.heap.size w w') : w'.frozen? a = false := by
  refine (hb.frozen ?_).trans f
  unfold World.cell? at h
  cases ho : w.heap[a.block]? with
  | none => simp [ho] at h
  | some o => exact lt_of_block ho

theorem frz_some {w w' : World} {a : Addr} (h : (w.cell? a).isSome = true) (f : w.frozen? a = false) (hb : Below w.heap.size w w') : w'.frozen? a = false := by
  obtain ⟨v, hv⟩ := Option.isSome_iff_exists.1 h
  exact frz_grew hv f hb
theorem some_grew {w w' : World} {a : Addr} (h : (w.cell? a).isSome = true) (hb : Below w.heap.size w w') : (w'.cell? a).isSome = true := by
  obtain ⟨v, hv⟩ := Option.isSome_iff_exists.1 h
  rw [cell_grew hv hb]; rfl
theorem some_set {w : World} {a b : Addr} {v : Value} (h : (w.cell? a).isSome = true) : ((w.setCell b v).cell? a).isSome = true := by
  obtain ⟨u, hu⟩ := Option.isSome_iff_exists.1 h
  obtain ⟨u', hu'⟩ := cell?_setCell_some (p := b) (x := v) hu
  rw [hu']; rfl
theorem cell_set {w : World} {a b : Addr} {v u : Value} (h : w.cell? a = some u) (hne : b.block ≠ a.block) : (w.setCell b v).cell? a = some u :=
  (World.cell?_setCell_far w b a v hne).trans h

/-- What a cell holds. -/
def val (w : World) (a : Addr) : Value := (w.cell? a).getD undef
theorem val_of {w : World} {a : Addr} (h : (w.cell? a).isSome = true) : w.cell? a = some (val w a) := by
  obtain ⟨v, hv⟩ := Option.isSome_iff_exists.1 h
  unfold val
  rw [hv]; rfl
theorem val_some {w : World} {a : Addr} {v : Value} (h : w.cell? a = some v) : (w.cell? a).isSome = true := by rw [h]; rfl

theorem some_unset {w : World} {a b : Addr} {v : Value} (h : ((w.setCell b v).cell? a).isSome = true) : (w.cell? a).isSome = true := by
  by_cases e : b = a
  · subst e
    cases hc : w.cell? b with
    | some u => rfl
    | none =>
      unfold World.cell? World.setCell at *
      simp only [Array.getElem?_modify] at h
      cases ho : w.heap[b.block]? with
      | none => simp [ho] at h
      | some o =>
        rw [ho] at hc h
        cases o <;> simp_all
        rename_i c _ _
        by_cases hsp : b.spot.isSome = true
        · rw [if_pos hsp] at h
          simp at h
        · rw [if_neg hsp] at h
          have hs := hc (by simpa using hsp)
          rw [Array.getElem?_eq_none (by simp; omega)] at h
          simp at h
  · rw [World.cell?_setCell_other w b a v e] at h
    exact h
theorem set4 (w : World) {R : Nat} {v0 v1 v2 v3 : Value}
    (h0 : (((((w.setCell ⟨R, 0, none⟩ v0).setCell ⟨R, 1, none⟩ v1).setCell ⟨R, 2, none⟩ v2).setCell ⟨R, 3, none⟩ v3).cell? ⟨R, 0, none⟩).isSome = true)
    (h1 : (((((w.setCell ⟨R, 0, none⟩ v0).setCell ⟨R, 1, none⟩ v1).setCell ⟨R, 2, none⟩ v2).setCell ⟨R, 3, none⟩ v3).cell? ⟨R, 1, none⟩).isSome = true)
    (h2 : (((((w.setCell ⟨R, 0, none⟩ v0).setCell ⟨R, 1, none⟩ v1).setCell ⟨R, 2, none⟩ v2).setCell ⟨R, 3, none⟩ v3).cell? ⟨R, 2, none⟩).isSome = true)
    (h3 : (((((w.setCell ⟨R, 0, none⟩ v0).setCell ⟨R, 1, none⟩ v1).setCell ⟨R, 2, none⟩ v2).setCell ⟨R, 3, none⟩ v3).cell? ⟨R, 3, none⟩).isSome = true) :
    ((((w.setCell ⟨R, 0, none⟩ v0).setCell ⟨R, 1, none⟩ v1).setCell ⟨R, 2, none⟩ v2).setCell ⟨R, 3, none⟩ v3).cell? ⟨R, 0, none⟩ = some v0 ∧
    ((((w.setCell ⟨R, 0, none⟩ v0).setCell ⟨R, 1, none⟩ v1).setCell ⟨R, 2, none⟩ v2).setCell ⟨R, 3, none⟩ v3).cell? ⟨R, 1, none⟩ = some v1 ∧
    ((((w.setCell ⟨R, 0, none⟩ v0).setCell ⟨R, 1, none⟩ v1).setCell ⟨R, 2, none⟩ v2).setCell ⟨R, 3, none⟩ v3).cell? ⟨R, 2, none⟩ = some v2 ∧
    ((((w.setCell ⟨R, 0, none⟩ v0).setCell ⟨R, 1, none⟩ v1).setCell ⟨R, 2, none⟩ v2).setCell ⟨R, 3, none⟩ v3).cell? ⟨R, 3, none⟩ = some v3 := by
  refine ⟨?_, ?_, ?_, ?_⟩
  · rw [World.cell?_setCell_other _ _ _ _ (by simp), World.cell?_setCell_other _ _ _ _ (by simp), World.cell?_setCell_other _ _ _ _ (by simp)]
    exact World.cell?_setCell_same' _ _ _ (some_unset (some_unset (some_unset (some_unset h0))))
  · rw [World.cell?_setCell_other _ _ _ _ (by simp), World.cell?_setCell_other _ _ _ _ (by simp)]
    exact World.cell?_setCell_same' _ _ _ (some_unset (some_unset (some_unset h1)))
  · rw [World.cell?_setCell_other _ _ _ _ (by simp)]
    exact World.cell?_setCell_same' _ _ _ (some_unset (some_unset h2))
  · exact World.cell?_setCell_same' _ _ _ (some_unset h3)

theorem at_any (x y : Int) (w : World) : Calls Try.prog 16 #[.int .i64 x, .int .i64 y] w fun e w' => e = .returned (.agg #[.int .i64 x, .int .i64 y]) ∧ Below w.heap.size w w' := by
  go_enter Try.func16, Try.ntmps16
  go_wp2
  refine bodyPost_ret (v := .agg #[.int .i64 x, .int .i64 y]) ?_ rfl ⟨rfl, ?_⟩
  · simp [results, Try.results16, go_sem]
  · go_grown

set_option maxHeartbeats 2000000 in
theorem sides_road (ax ay : Int) (bx byy : Int) (cx cy : Int) (dx dy : Int) (s0 s1 s2 s3 : Int)
    (k1 : ∀ w, Calls Try.prog 42 #[.agg #[.int .i64 ax, .int .i64 ay], .agg #[.int .i64 bx, .int .i64 byy], .agg #[.int .i64 cx, .int .i64 cy]] w fun e w' => e = .returned (.int .i64 s0) ∧ Below w.heap.size w w')
    (k2 : ∀ w, Calls Try.prog 42 #[.agg #[.int .i64 ax, .int .i64 ay], .agg #[.int .i64 bx, .int .i64 byy], .agg #[.int .i64 dx, .int .i64 dy]] w fun e w' => e = .returned (.int .i64 s1) ∧ Below w.heap.size w w')
    (k3 : ∀ w, Calls Try.prog 42 #[.agg #[.int .i64 cx, .int .i64 cy], .agg #[.int .i64 dx, .int .i64 dy], .agg #[.int .i64 ax, .int .i64 ay]] w fun e w' => e = .returned (.int .i64 s2) ∧ Below w.heap.size w w')
    (k4 : ∀ w, Calls Try.prog 42 #[.agg #[.int .i64 cx, .int .i64 cy], .agg #[.int .i64 dx, .int .i64 dy], .agg #[.int .i64 bx, .int .i64 byy]] w fun e w' => e = .returned (.int .i64 s3) ∧ Below w.heap.size w w')
    (w : World) :
    Calls Try.prog 47 #[.agg #[.int .i64 ax, .int .i64 ay], .agg #[.int .i64 bx, .int .i64 byy], .agg #[.int .i64 cx, .int .i64 cy], .agg #[.int .i64 dx, .int .i64 dy]] w fun e w' => e = .returned (.agg #[.int .i64 s0, .int .i64 s1, .int .i64 s2, .int .i64 s3]) ∧ Below w.heap.size w w' := by
  have K1 := Lib.hid k1
  have K2 := Lib.hid k2
  have K3 := Lib.hid k3
  have K4 := Lib.hid k4
  clear k1 k2 k3 k4
  have ss : ∀ (a : World) (k : Nat) (v : Value), (a.cell? ⟨w.heap.size, 0, none⟩ = some (.int .i64 ax) ∧ a.cell? ⟨w.heap.size, 1, none⟩ = some (.int .i64 ay) ∧ a.cell? ⟨w.heap.size + 1, 0, none⟩ = some (.int .i64 bx) ∧ a.cell? ⟨w.heap.size + 1, 1, none⟩ = some (.int .i64 byy) ∧ a.cell? ⟨w.heap.size + 1 + 1, 0, none⟩ = some (.int .i64 cx) ∧ a.cell? ⟨w.heap.size + 1 + 1, 1, none⟩ = some (.int .i64 cy) ∧ a.cell? ⟨w.heap.size + 1 + 1 + 1, 0, none⟩ = some (.int .i64 dx) ∧ a.cell? ⟨w.heap.size + 1 + 1 + 1, 1, none⟩ = some (.int .i64 dy) ∧ a.cell? ⟨w.heap.size + 1 + 1 + 1 + 1, 0, none⟩ = some (val a ⟨w.heap.size + 1 + 1 + 1 + 1, 0, none⟩) ∧ a.cell? ⟨w.heap.size + 1 + 1 + 1 + 1, 1, none⟩ = some (val a ⟨w.heap.size + 1 + 1 + 1 + 1, 1, none⟩) ∧ a.cell? ⟨w.heap.size + 1 + 1 + 1 + 1, 2, none⟩ = some (val a ⟨w.heap.size + 1 + 1 + 1 + 1, 2, none⟩) ∧ a.cell? ⟨w.heap.size + 1 + 1 + 1 + 1, 3, none⟩ = some (val a ⟨w.heap.size + 1 + 1 + 1 + 1, 3, none⟩) ∧ a.frozen? ⟨w.heap.size + 1 + 1 + 1 + 1, 0, none⟩ = false ∧ a.frozen? ⟨w.heap.size + 1 + 1 + 1 + 1, 1, none⟩ = false ∧ a.frozen? ⟨w.heap.size + 1 + 1 + 1 + 1, 2, none⟩ = false ∧ a.frozen? ⟨w.heap.size + 1 + 1 + 1 + 1, 3, none⟩ = false ∧ Below w.heap.size w a) → ((a.setCell ⟨w.heap.size + 1 + 1 + 1 + 1, k, none⟩ v).cell? ⟨w.heap.size, 0, none⟩ = some (.int .i64 ax) ∧ (a.setCell ⟨w.heap.size + 1 + 1 + 1 + 1, k, none⟩ v).cell? ⟨w.heap.size, 1, none⟩ = some (.int .i64 ay) ∧ (a.setCell ⟨w.heap.size + 1 + 1 + 1 + 1, k, none⟩ v).cell? ⟨w.heap.size + 1, 0, none⟩ = some (.int .i64 bx) ∧ (a.setCell ⟨w.heap.size + 1 + 1 + 1 + 1, k, none⟩ v).cell? ⟨w.heap.size + 1, 1, none⟩ = some (.int .i64 byy) ∧ (a.setCell ⟨w.heap.size + 1 + 1 + 1 + 1, k, none⟩ v).cell? ⟨w.heap.size + 1 + 1, 0, none⟩ = some (.int .i64 cx) ∧ (a.setCell ⟨w.heap.size + 1 + 1 + 1 + 1, k, none⟩ v).cell? ⟨w.heap.size + 1 + 1, 1, none⟩ = some (.int .i64 cy) ∧ (a.setCell ⟨w.heap.size + 1 + 1 + 1 + 1, k, none⟩ v).cell? ⟨w.heap.size + 1 + 1 + 1, 0, none⟩ = some (.int .i64 dx) ∧ (a.setCell ⟨w.heap.size + 1 + 1 + 1 + 1, k, none⟩ v).cell? ⟨w.heap.size + 1 + 1 + 1, 1, none⟩ = some (.int .i64 dy) ∧ (a.setCell ⟨w.heap.size + 1 + 1 + 1 + 1, k, none⟩ v).cell? ⟨w.heap.size + 1 + 1 + 1 + 1, 0, none⟩ = some (val (a.setCell ⟨w.heap.size + 1 + 1 + 1 + 1, k, none⟩ v) ⟨w.heap.size + 1 + 1 + 1 + 1, 0, none⟩) ∧ (a.setCell ⟨w.heap.size + 1 + 1 + 1 + 1, k, none⟩ v).cell? ⟨w.heap.size + 1 + 1 + 1 + 1, 1, none⟩ = some (val (a.setCell ⟨w.heap.size + 1 + 1 + 1 + 1, k, none⟩ v) ⟨w.heap.size + 1 + 1 + 1 + 1, 1, none⟩) ∧ (a.setCell ⟨w.heap.size + 1 + 1 + 1 + 1, k, none⟩ v).cell? ⟨w.heap.size + 1 + 1 + 1 + 1, 2, none⟩ = some (val (a.setCell ⟨w.heap.size + 1 + 1 + 1 + 1, k, none⟩ v) ⟨w.heap.size + 1 + 1 + 1 + 1, 2, none⟩) ∧ (a.setCell ⟨w.heap.size + 1 + 1 + 1 + 1, k, none⟩ v).cell? ⟨w.heap.size + 1 + 1 + 1 + 1, 3, none⟩ = some (val (a.setCell ⟨w.heap.size + 1 + 1 + 1 + 1, k, none⟩ v) ⟨w.heap.size + 1 + 1 + 1 + 1, 3, none⟩) ∧ (a.setCell ⟨w.heap.size + 1 + 1 + 1 + 1, k, none⟩ v).frozen? ⟨w.heap.size + 1 + 1 + 1 + 1, 0, none⟩ = false ∧ (a.setCell ⟨w.heap.size + 1 + 1 + 1 + 1, k, none⟩ v).frozen? ⟨w.heap.size + 1 + 1 + 1 + 1, 1, none⟩ = false ∧ (a.setCell ⟨w.heap.size + 1 + 1 + 1 + 1, k, none⟩ v).frozen? ⟨w.heap.size + 1 + 1 + 1 + 1, 2, none⟩ = false ∧ (a.setCell ⟨w.heap.size + 1 + 1 + 1 + 1, k, none⟩ v).frozen? ⟨w.heap.size + 1 + 1 + 1 + 1, 3, none⟩ = false ∧ Below w.heap.size w (a.setCell ⟨w.heap.size + 1 + 1 + 1 + 1, k, none⟩ v)) :=
    fun a k v ⟨h0, h1, h2, h3, h4, h5, h6, h7, h8, h9, h10, h11, h12, h13, h14, h15, h16⟩ => ⟨cell_set h0 (by simp <;> omega), cell_set h1 (by simp <;> omega), cell_set h2 (by simp <;> omega), cell_set h3 (by simp <;> omega), cell_set h4 (by simp <;> omega), cell_set h5 (by simp <;> omega), cell_set h6 (by simp <;> omega), cell_set h7 (by simp <;> omega), val_of (some_set (val_some h8)), val_of (some_set (val_some h9)), val_of (some_set (val_some h10)), val_of (some_set (val_some h11)), (World.frozen?_setCell _ _ _ _).trans h12, (World.frozen?_setCell _ _ _ _).trans h13, (World.frozen?_setCell _ _ _ _).trans h14, (World.frozen?_setCell _ _ _ _).trans h15, h16.setCell (by simp <;> omega) _⟩
  have SS := Lib.hid ss
  clear ss
  have ks : ∀ a b : World, Below a.heap.size a b → (a.cell? ⟨w.heap.size, 0, none⟩ = some (.int .i64 ax) ∧ a.cell? ⟨w.heap.size, 1, none⟩ = some (.int .i64 ay) ∧ a.cell? ⟨w.heap.size + 1, 0, none⟩ = some (.int .i64 bx) ∧ a.cell? ⟨w.heap.size + 1, 1, none⟩ = some (.int .i64 byy) ∧ a.cell? ⟨w.heap.size + 1 + 1, 0, none⟩ = some (.int .i64 cx) ∧ a.cell? ⟨w.heap.size + 1 + 1, 1, none⟩ = some (.int .i64 cy) ∧ a.cell? ⟨w.heap.size + 1 + 1 + 1, 0, none⟩ = some (.int .i64 dx) ∧ a.cell? ⟨w.heap.size + 1 + 1 + 1, 1, none⟩ = some (.int .i64 dy) ∧ a.cell? ⟨w.heap.size + 1 + 1 + 1 + 1, 0, none⟩ = some (val a ⟨w.heap.size + 1 + 1 + 1 + 1, 0, none⟩) ∧ a.cell? ⟨w.heap.size + 1 + 1 + 1 + 1, 1, none⟩ = some (val a ⟨w.heap.size + 1 + 1 + 1 + 1, 1, none⟩) ∧ a.cell? ⟨w.heap.size + 1 + 1 + 1 + 1, 2, none⟩ = some (val a ⟨w.heap.size + 1 + 1 + 1 + 1, 2, none⟩) ∧ a.cell? ⟨w.heap.size + 1 + 1 + 1 + 1, 3, none⟩ = some (val a ⟨w.heap.size + 1 + 1 + 1 + 1, 3, none⟩) ∧ a.frozen? ⟨w.heap.size + 1 + 1 + 1 + 1, 0, none⟩ = false ∧ a.frozen? ⟨w.heap.size + 1 + 1 + 1 + 1, 1, none⟩ = false ∧ a.frozen? ⟨w.heap.size + 1 + 1 + 1 + 1, 2, none⟩ = false ∧ a.frozen? ⟨w.heap.size + 1 + 1 + 1 + 1, 3, none⟩ = false ∧ Below w.heap.size w a) → (b.cell? ⟨w.heap.size, 0, none⟩ = some (.int .i64 ax) ∧ b.cell? ⟨w.heap.size, 1, none⟩ = some (.int .i64 ay) ∧ b.cell? ⟨w.heap.size + 1, 0, none⟩ = some (.int .i64 bx) ∧ b.cell? ⟨w.heap.size + 1, 1, none⟩ = some (.int .i64 byy) ∧ b.cell? ⟨w.heap.size + 1 + 1, 0, none⟩ = some (.int .i64 cx) ∧ b.cell? ⟨w.heap.size + 1 + 1, 1, none⟩ = some (.int .i64 cy) ∧ b.cell? ⟨w.heap.size + 1 + 1 + 1, 0, none⟩ = some (.int .i64 dx) ∧ b.cell? ⟨w.heap.size + 1 + 1 + 1, 1, none⟩ = some (.int .i64 dy) ∧ b.cell? ⟨w.heap.size + 1 + 1 + 1 + 1, 0, none⟩ = some (val b ⟨w.heap.size + 1 + 1 + 1 + 1, 0, none⟩) ∧ b.cell? ⟨w.heap.size + 1 + 1 + 1 + 1, 1, none⟩ = some (val b ⟨w.heap.size + 1 + 1 + 1 + 1, 1, none⟩) ∧ b.cell? ⟨w.heap.size + 1 + 1 + 1 + 1, 2, none⟩ = some (val b ⟨w.heap.size + 1 + 1 + 1 + 1, 2, none⟩) ∧ b.cell? ⟨w.heap.size + 1 + 1 + 1 + 1, 3, none⟩ = some (val b ⟨w.heap.size + 1 + 1 + 1 + 1, 3, none⟩) ∧ b.frozen? ⟨w.heap.size + 1 + 1 + 1 + 1, 0, none⟩ = false ∧ b.frozen? ⟨w.heap.size + 1 + 1 + 1 + 1, 1, none⟩ = false ∧ b.frozen? ⟨w.heap.size + 1 + 1 + 1 + 1, 2, none⟩ = false ∧ b.frozen? ⟨w.heap.size + 1 + 1 + 1 + 1, 3, none⟩ = false ∧ Below w.heap.size w b) :=
    fun a b hb ⟨h0, h1, h2, h3, h4, h5, h6, h7, h8, h9, h10, h11, h12, h13, h14, h15, h16⟩ => ⟨cell_grew h0 hb, cell_grew h1 hb, cell_grew h2 hb, cell_grew h3 hb, cell_grew h4 hb, cell_grew h5 hb, cell_grew h6 hb, cell_grew h7 hb, val_of (some_grew (val_some h8) hb), val_of (some_grew (val_some h9) hb), val_of (some_grew (val_some h10) hb), val_of (some_grew (val_some h11) hb), frz_some (val_some h8) h12 hb, frz_some (val_some h9) h13 hb, frz_some (val_some h10) h14 hb, frz_some (val_some h11) h15 hb, grow h16 hb⟩
  have KS := Lib.hid ks
  clear ks
  obtain ⟨w0, hw0, p0, p1, p2, p3, g0, z0⟩ := boxes4 w #[.int .i64 ax, .int .i64 ay] #[.int .i64 bx, .int .i64 byy] #[.int .i64 cx, .int .i64 cy] #[.int .i64 dx, .int .i64 dy] 24 24 24 24
  have q := Blk.new' (b := w.heap.size + 1 + 1 + 1 + 1) w0 #[.int .i64 0, .int .i64 0, .int .i64 0, .int .i64 0] 58 (by omega)
  have c0 := (p0.alloc (.cells #[.int .i64 0, .int .i64 0, .int .i64 0, .int .i64 0] 58)).two
  have c1 := (p1.alloc (.cells #[.int .i64 0, .int .i64 0, .int .i64 0, .int .i64 0] 58)).two
  have c2 := (p2.alloc (.cells #[.int .i64 0, .int .i64 0, .int .i64 0, .int .i64 0] 58)).two
  have c3 := (p3.alloc (.cells #[.int .i64 0, .int .i64 0, .int .i64 0, .int .i64 0] 58)).two
  have q0 := q.four
  have g1 := grow_alloc g0 (.cells #[.int .i64 0, .int .i64 0, .int .i64 0, .int .i64 0] 58)
  have HC := Lib.hid (And.intro c0 (And.intro c1 (And.intro c2 (And.intro c3 q0))))
  have HG := Lib.hid g1
  have HQ : Hid ((w0.alloc (.cells #[.int .i64 0, .int .i64 0, .int .i64 0, .int .i64 0] 58)).cell? ⟨w.heap.size + 1 + 1 + 1 + 1, 0, none⟩ = some (val (w0.alloc (.cells #[.int .i64 0, .int .i64 0, .int .i64 0, .int .i64 0] 58)) ⟨w.heap.size + 1 + 1 + 1 + 1, 0, none⟩) ∧ (w0.alloc (.cells #[.int .i64 0, .int .i64 0, .int .i64 0, .int .i64 0] 58)).cell? ⟨w.heap.size + 1 + 1 + 1 + 1, 1, none⟩ = some (val (w0.alloc (.cells #[.int .i64 0, .int .i64 0, .int .i64 0, .int .i64 0] 58)) ⟨w.heap.size + 1 + 1 + 1 + 1, 1, none⟩) ∧ (w0.alloc (.cells #[.int .i64 0, .int .i64 0, .int .i64 0, .int .i64 0] 58)).cell? ⟨w.heap.size + 1 + 1 + 1 + 1, 2, none⟩ = some (val (w0.alloc (.cells #[.int .i64 0, .int .i64 0, .int .i64 0, .int .i64 0] 58)) ⟨w.heap.size + 1 + 1 + 1 + 1, 2, none⟩) ∧ (w0.alloc (.cells #[.int .i64 0, .int .i64 0, .int .i64 0, .int .i64 0] 58)).cell? ⟨w.heap.size + 1 + 1 + 1 + 1, 3, none⟩ = some (val (w0.alloc (.cells #[.int .i64 0, .int .i64 0, .int .i64 0, .int .i64 0] 58)) ⟨w.heap.size + 1 + 1 + 1 + 1, 3, none⟩)) := Lib.hid ⟨val_of (by rw [q0.1]; rfl), val_of (by rw [q0.2.1]; rfl), val_of (by rw [q0.2.2.1]; rfl), val_of (by rw [q0.2.2.2.1]; rfl)⟩
  clear p0 p1 p2 p3 q c0 c1 c2 c3 q0 g0 g1
  go_enter Try.func47, Try.ntmps47
  go_wp2
  try rw [hw0]
  clear hw0
  go_region_held3 (fun w' => w'.cell? ⟨w.heap.size, 0, none⟩ = some (.int .i64 ax) ∧ w'.cell? ⟨w.heap.size, 1, none⟩ = some (.int .i64 ay) ∧ w'.cell? ⟨w.heap.size + 1, 0, none⟩ = some (.int .i64 bx) ∧ w'.cell? ⟨w.heap.size + 1, 1, none⟩ = some (.int .i64 byy) ∧ w'.cell? ⟨w.heap.size + 1 + 1, 0, none⟩ = some (.int .i64 cx) ∧ w'.cell? ⟨w.heap.size + 1 + 1, 1, none⟩ = some (.int .i64 cy) ∧ w'.cell? ⟨w.heap.size + 1 + 1 + 1, 0, none⟩ = some (.int .i64 dx) ∧ w'.cell? ⟨w.heap.size + 1 + 1 + 1, 1, none⟩ = some (.int .i64 dy) ∧ w'.cell? ⟨w.heap.size + 1 + 1 + 1 + 1, 0, none⟩ = some (val w' ⟨w.heap.size + 1 + 1 + 1 + 1, 0, none⟩) ∧ w'.cell? ⟨w.heap.size + 1 + 1 + 1 + 1, 1, none⟩ = some (val w' ⟨w.heap.size + 1 + 1 + 1 + 1, 1, none⟩) ∧ w'.cell? ⟨w.heap.size + 1 + 1 + 1 + 1, 2, none⟩ = some (val w' ⟨w.heap.size + 1 + 1 + 1 + 1, 2, none⟩) ∧ w'.cell? ⟨w.heap.size + 1 + 1 + 1 + 1, 3, none⟩ = some (val w' ⟨w.heap.size + 1 + 1 + 1 + 1, 3, none⟩) ∧ w'.frozen? ⟨w.heap.size + 1 + 1 + 1 + 1, 0, none⟩ = false ∧ w'.frozen? ⟨w.heap.size + 1 + 1 + 1 + 1, 1, none⟩ = false ∧ w'.frozen? ⟨w.heap.size + 1 + 1 + 1 + 1, 2, none⟩ = false ∧ w'.frozen? ⟨w.heap.size + 1 + 1 + 1 + 1, 3, none⟩ = false ∧ Below w.heap.size w w')
    (first | exact ⟨HC.out.1.1, HC.out.1.2.1, HC.out.2.1.1, HC.out.2.1.2.1, HC.out.2.2.1.1, HC.out.2.2.1.2.1, HC.out.2.2.2.1.1, HC.out.2.2.2.1.2.1, HQ.out.1, HQ.out.2.1, HQ.out.2.2.1, HQ.out.2.2.2, HC.out.2.2.2.2.2.2.2.2.1, HC.out.2.2.2.2.2.2.2.2.2.1, HC.out.2.2.2.2.2.2.2.2.2.2.1, HC.out.2.2.2.2.2.2.2.2.2.2.2, HG.out.drew⟩ | exact KS.out _ _ (by assumption) (by assumption) | exact SS.out _ _ _ (SS.out _ _ _ (SS.out _ _ _ (SS.out _ _ _ (by assumption)))))
    (first | (go_at_call 42; (first | (with_reducible refine (K1.out _).mono ?_) | (with_reducible refine (K2.out _).mono ?_) | (with_reducible refine (K3.out _).mono ?_) | (with_reducible refine (K4.out _).mono ?_)); rintro e w' ⟨rfl, hb⟩))
  rename_i hS
  have hs := set4 _ (val_some hS.2.2.2.2.2.2.2.2.1) (val_some hS.2.2.2.2.2.2.2.2.2.1) (val_some hS.2.2.2.2.2.2.2.2.2.2.1) (val_some hS.2.2.2.2.2.2.2.2.2.2.2.1)
  have HB := Lib.hid hS.2.2.2.2.2.2.2.2.2.2.2.2.2.2.2.2
  clear hS
  go_wp2
  refine bodyPost_ret (v := .agg #[.int .i64 s0, .int .i64 s1, .int .i64 s2, .int .i64 s3]) ?_ rfl ⟨rfl, HB.out⟩
  simp [results, Try.results47, go_sem, hs]
end Go.Proofs.Ytkneohngbkmlpaa
