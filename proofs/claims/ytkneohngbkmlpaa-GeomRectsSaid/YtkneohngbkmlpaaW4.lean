/- Walks: within, May, span, holds, on. -/
import Derived.Test.YtkneohngbkmlpaaW3
namespace Go.Proofs.Ytkneohngbkmlpaa
open Go.RowKit

theorem within_any (n l h : Int) (w : World) : Calls Try.prog 43 #[.int .i64 n, .int .i64 l, .int .i64 h] w fun e w' => e = .returned (.bool (decide (l ≤ n ∧ n ≤ h))) ∧ w = w' := by
  by_cases h1 : l ≤ n
  · by_cases h2 : n ≤ h
    · rw [decide_eq_true ⟨h1, h2⟩]
      go_enter Try.func43, Try.ntmps43
      go_wp2
      go_ret
      exact ⟨rfl, rfl⟩
    · rw [decide_eq_false (fun q => h2 q.2)]
      go_enter Try.func43, Try.ntmps43
      go_wp2
      go_ret
      exact ⟨rfl, rfl⟩
  · rw [decide_eq_false (fun q => h1 q.1)]
    go_enter Try.func43, Try.ntmps43
    go_wp2
    go_ret
    exact ⟨rfl, rfl⟩

theorem May_any (p : Pt) (w : World) : Calls Try.prog 15 #[pt p] w fun e w' => e = .returned (.bool (decide (May p))) ∧ Below w.heap.size w w' := by
  obtain ⟨x, y⟩ := p
  have k1 := within_any x (-1800000000) 1800000000
  have k2 := within_any y (-900000000) 900000000
  have hd : decide (May ⟨x, y⟩) = (decide (-1800000000 ≤ x ∧ x ≤ 1800000000) && decide (-900000000 ≤ y ∧ y ≤ 900000000)) := by
    rw [← Bool.decide_and, decide_eq_decide]
    exact ⟨fun ⟨a, b, c, d⟩ => ⟨⟨a, b⟩, c, d⟩, fun ⟨⟨a, b⟩, c, d⟩ => ⟨a, b, c, d⟩⟩
  rw [hd]
  generalize decide (-1800000000 ≤ x ∧ x ≤ 1800000000) = b1 at *
  generalize decide (-900000000 ≤ y ∧ y ≤ 900000000) = b2 at *
  have K1 := Lib.hid k1
  have K2 := Lib.hid k2
  clear k1 k2 hd
  cases b1
  · go_enter Try.func15, Try.ntmps15
    go_wp2_with fail
    refine (K1.out _).mono ?_
    rintro e w1 ⟨rfl, rfl⟩
    go_wp2
    go_ret
    exact ⟨rfl, by go_grown⟩
  · go_enter Try.func15, Try.ntmps15
    go_wp2_with fail
    refine (K1.out _).mono ?_
    rintro e w1 ⟨rfl, rfl⟩
    go_wp2_with fail
    refine (K2.out _).mono ?_
    rintro e w1 ⟨rfl, rfl⟩
    go_wp2
    go_ret
    exact ⟨rfl, by go_grown⟩

structure Rc where
  x0 : Int
  y0 : Int
  x1 : Int
  y1 : Int
abbrev rc (r : Rc) : Value := .agg #[.int .i64 r.x0, .int .i64 r.y0, .int .i64 r.x1, .int .i64 r.y1]
def spanR (a b : Pt) : Rc := ⟨min a.x b.x, min a.y b.y, max a.x b.x, max a.y b.y⟩
def holdsR (r : Rc) (p : Pt) : Prop := r.x0 ≤ p.x ∧ p.x ≤ r.x1 ∧ r.y0 ≤ p.y ∧ p.y ≤ r.y1
instance (r : Rc) (p : Pt) : Decidable (holdsR r p) := inferInstanceAs (Decidable (_ ∧ _))

theorem span_any (a b : Pt) (w : World) : Calls Try.prog 48 #[pt a, pt b] w fun e w' => e = .returned (rc (spanR a b)) ∧ Below w.heap.size w w' := by
  obtain ⟨ax, ay⟩ := a
  obtain ⟨bx, byy⟩ := b
  unfold spanR
  go_enter Try.func48, Try.ntmps48
  go_wp2
  all_goals
    refine bodyPost_ret (v := .agg #[.int .i64 (min ax bx), .int .i64 (min ay byy), .int .i64 (max ax bx), .int .i64 (max ay byy)]) ?_ rfl ⟨rfl, ?_⟩
    · simp [results, Try.results48, go_sem]
      omega
    · go_grown

theorem holds_any (r : Rc) (p : Pt) (w : World) : Calls Try.prog 50 #[rc r, pt p] w fun e w' => e = .returned (.bool (decide (holdsR r p))) ∧ Below w.heap.size w w' := by
  obtain ⟨x, y⟩ := p
  obtain ⟨x0, y0, x1, y1⟩ := r
  have k1 := within_any x x0 x1
  have k2 := within_any y y0 y1
  have hd : decide (holdsR ⟨x0, y0, x1, y1⟩ ⟨x, y⟩) = (decide (x0 ≤ x ∧ x ≤ x1) && decide (y0 ≤ y ∧ y ≤ y1)) := by
    rw [← Bool.decide_and, decide_eq_decide]
    exact ⟨fun ⟨a, b, c, d⟩ => ⟨⟨a, b⟩, c, d⟩, fun ⟨⟨a, b⟩, c, d⟩ => ⟨a, b, c, d⟩⟩
  rw [hd]
  generalize decide (x0 ≤ x ∧ x ≤ x1) = b1 at *
  generalize decide (y0 ≤ y ∧ y ≤ y1) = b2 at *
  have K1 := Lib.hid k1
  have K2 := Lib.hid k2
  clear k1 k2 hd
  cases b1
  · go_enter Try.func50, Try.ntmps50
    go_wp2_with fail
    refine (K1.out _).mono ?_
    rintro e w1 ⟨rfl, rfl⟩
    go_wp2
    go_ret
    exact ⟨rfl, by go_grown⟩
  · go_enter Try.func50, Try.ntmps50
    go_wp2_with fail
    refine (K1.out _).mono ?_
    rintro e w1 ⟨rfl, rfl⟩
    go_wp2_with fail
    refine (K2.out _).mono ?_
    rintro e w1 ⟨rfl, rfl⟩
    go_wp2
    go_ret
    exact ⟨rfl, by go_grown⟩

/-- Is a point on an edge? -/
def onZ (a b p : Pt) : Prop := turnZ a b p = 0 ∧ holdsR (spanR a b) p
instance (a b p : Pt) : Decidable (onZ a b p) := inferInstanceAs (Decidable (_ ∧ _))

set_option maxHeartbeats 1000000 in
theorem on_road (ax ay bx byy cx cy : Int) (t : Int) (r : Value) (h : Bool)
    (k1 : ∀ w, Calls Try.prog 42 #[.agg #[.int .i64 ax, .int .i64 ay], .agg #[.int .i64 bx, .int .i64 byy], .agg #[.int .i64 cx, .int .i64 cy]] w fun e w' => e = .returned (.int .i64 t) ∧ Below w.heap.size w w')
    (k2 : ∀ w, Calls Try.prog 48 #[.agg #[.int .i64 ax, .int .i64 ay], .agg #[.int .i64 bx, .int .i64 byy]] w fun e w' => e = .returned r ∧ Below w.heap.size w w')
    (k3 : ∀ w, Calls Try.prog 50 #[r, .agg #[.int .i64 cx, .int .i64 cy]] w fun e w' => e = .returned (.bool h) ∧ Below w.heap.size w w')
    (w : World) :
    Calls Try.prog 41 #[.agg #[.int .i64 ax, .int .i64 ay], .agg #[.int .i64 bx, .int .i64 byy], .agg #[.int .i64 cx, .int .i64 cy]] w fun e w' => e = .returned (.bool (decide (t = 0) && h)) ∧ Below w.heap.size w w' := by
  have K1 := Lib.hid k1
  have K2 := Lib.hid k2
  have K3 := Lib.hid k3
  have ks : ∀ a b : World, Below a.heap.size a b →
      (a.cell? ⟨w.heap.size, 0, none⟩ = some (.int .i64 ax) ∧ a.cell? ⟨w.heap.size, 1, none⟩ = some (.int .i64 ay) ∧ a.cell? ⟨w.heap.size + 1, 0, none⟩ = some (.int .i64 bx) ∧ a.cell? ⟨w.heap.size + 1, 1, none⟩ = some (.int .i64 byy) ∧ a.cell? ⟨w.heap.size + 1 + 1, 0, none⟩ = some (.int .i64 cx) ∧ a.cell? ⟨w.heap.size + 1 + 1, 1, none⟩ = some (.int .i64 cy) ∧ Below w.heap.size w a) →
      (b.cell? ⟨w.heap.size, 0, none⟩ = some (.int .i64 ax) ∧ b.cell? ⟨w.heap.size, 1, none⟩ = some (.int .i64 ay) ∧ b.cell? ⟨w.heap.size + 1, 0, none⟩ = some (.int .i64 bx) ∧ b.cell? ⟨w.heap.size + 1, 1, none⟩ = some (.int .i64 byy) ∧ b.cell? ⟨w.heap.size + 1 + 1, 0, none⟩ = some (.int .i64 cx) ∧ b.cell? ⟨w.heap.size + 1 + 1, 1, none⟩ = some (.int .i64 cy) ∧ Below w.heap.size w b) :=
    fun a b hb ⟨h1, h2, h3, h4, h5, h6, h7⟩ => ⟨cell_grew h1 hb, cell_grew h2 hb, cell_grew h3 hb, cell_grew h4 hb, cell_grew h5 hb, cell_grew h6 hb, grow h7 hb⟩
  have KS := Lib.hid ks
  clear k1 k2 k3 ks
  obtain ⟨w0, hw0, p0, p1, p2, g0, z0⟩ := boxes3 w #[.int .i64 ax, .int .i64 ay] #[.int .i64 bx, .int .i64 byy] #[.int .i64 cx, .int .i64 cy] 24 24 24
  by_cases ht : t = 0
  · subst ht
    go_enter Try.func41, Try.ntmps41
    go_wp2
    try rw [hw0]
    clear hw0
    go_region_held3 (fun w' => w'.cell? ⟨w.heap.size, 0, none⟩ = some (.int .i64 ax) ∧ w'.cell? ⟨w.heap.size, 1, none⟩ = some (.int .i64 ay) ∧ w'.cell? ⟨w.heap.size + 1, 0, none⟩ = some (.int .i64 bx) ∧ w'.cell? ⟨w.heap.size + 1, 1, none⟩ = some (.int .i64 byy) ∧ w'.cell? ⟨w.heap.size + 1 + 1, 0, none⟩ = some (.int .i64 cx) ∧ w'.cell? ⟨w.heap.size + 1 + 1, 1, none⟩ = some (.int .i64 cy) ∧ Below w.heap.size w w')
      (first | exact ⟨p0.two.1, p0.two.2.1, p1.two.1, p1.two.2.1, p2.two.1, p2.two.2.1, g0.drew⟩ | exact KS.out _ _ (by assumption) (by assumption))
      (first | (go_at_call 42; refine (K1.out _).mono ?_; rintro e w' ⟨rfl, hb⟩) | (go_at_call 48; refine (K2.out _).mono ?_; rintro e w' ⟨rfl, hb⟩) | (go_at_call 50; refine (K3.out _).mono ?_; rintro e w' ⟨rfl, hb⟩))
    go_wp2
    go_ret
    exact ⟨rfl, (‹_ ∧ _ ∧ _ ∧ _ ∧ _ ∧ _ ∧ Below w.heap.size w _›).2.2.2.2.2.2⟩
  · have ht' : (t == 0) = false := by simpa using ht
    rw [decide_eq_false ht, Bool.false_and]
    go_enter Try.func41, Try.ntmps41
    go_wp2
    try rw [hw0]
    clear hw0
    refine wp_region_held_drew (S := fun w' : World => w'.cell? ⟨w.heap.size, 0, none⟩ = some (.int .i64 ax) ∧ w'.cell? ⟨w.heap.size, 1, none⟩ = some (.int .i64 ay) ∧ w'.cell? ⟨w.heap.size + 1, 0, none⟩ = some (.int .i64 bx) ∧ w'.cell? ⟨w.heap.size + 1, 1, none⟩ = some (.int .i64 byy) ∧ w'.cell? ⟨w.heap.size + 1 + 1, 0, none⟩ = some (.int .i64 cx) ∧ w'.cell? ⟨w.heap.size + 1 + 1, 1, none⟩ = some (.int .i64 cy) ∧ Below w.heap.size w w') (by kernel_rfl) ⟨p0.two.1, p0.two.2.1, p1.two.1, p1.two.2.1, p2.two.1, p2.two.2.1, g0.drew⟩ (fun hHeld => ?_)
    refine wpAnyH_take (i := 0) (v := .agg #[.int .i64 ax, .int .i64 ay]) rfl (by kernel_rfl) (by kernel_rfl) (by kernel_rfl) (fun _ _ _ h => h) (Or.inl ⟨rfl, fun w' hS => by (try dsimp only at hS); go_simp⟩) (by assumption) ?_
    simp only [List.getElem_toArray, List.getElem_cons_zero, Act.put, List.setIfInBounds_toArray, List.set_cons_zero, List.set_cons_succ]
    refine wpAnyH_take (i := 1) (v := .agg #[.int .i64 bx, .int .i64 byy]) rfl (by kernel_rfl) (by kernel_rfl) (by kernel_rfl) (fun _ _ _ h => h) (Or.inl ⟨rfl, fun w' hS => by (try dsimp only at hS); go_simp⟩) (by assumption) ?_
    simp only [List.getElem_toArray, List.getElem_cons_succ, List.getElem_cons_zero, Act.put, List.setIfInBounds_toArray, List.set_cons_zero, List.set_cons_succ]
    refine wpAnyH_take (i := 2) (v := .agg #[.int .i64 cx, .int .i64 cy]) rfl (by kernel_rfl) (by kernel_rfl) (by kernel_rfl) (fun _ _ _ h => h) (Or.inl ⟨rfl, fun w' hS => by (try dsimp only at hS); go_simp⟩) (by assumption) ?_
    simp only [List.getElem_toArray, List.getElem_cons_succ, List.getElem_cons_zero, Act.put, List.setIfInBounds_toArray, List.set_cons_zero, List.set_cons_succ]
    refine wpAnyH_ready (rs := [3]) (by kernel_rfl) (by simp) ?_
    refine AllReadyH.cons rfl (fun K hK => ?_) AllReadyH.nil
    go_wp2_with fail
    refine (K1.out _).mono ?_
    rintro e w1 ⟨rfl, hb⟩
    go_wp2_with fail
    refine hK.out _ _ ?_ (fun hHeld2 => ?_)
    · exact KS.out _ _ hb hHeld
    clear hK K
    refine wpAnyH_take (i := 4) (v := .bool false) rfl (by kernel_rfl) (by kernel_rfl) (by kernel_rfl) (fun _ _ _ h => h) (Or.inl ⟨rfl, fun w' hS => by go_simp⟩) (by assumption) ?_
    simp only [List.getElem_toArray, List.getElem_cons_succ, List.getElem_cons_zero, Act.put, List.setIfInBounds_toArray, List.set_cons_zero, List.set_cons_succ]
    refine wpAnyH_take (i := 5) (v := .bool false) rfl (by kernel_rfl) (by kernel_rfl) (by kernel_rfl) (fun _ _ _ h => h) (Or.inl ⟨rfl, fun w' hS => by go_simp⟩) (by assumption) ?_
    simp only [List.getElem_toArray, List.getElem_cons_succ, List.getElem_cons_zero, Act.put, List.setIfInBounds_toArray, List.set_cons_zero, List.set_cons_succ]
    refine wpAnyH_take (i := 6) (v := undef) rfl (by kernel_rfl) (by kernel_rfl) (by kernel_rfl) (fun _ _ _ h => h) (Or.inr ⟨rfl, rfl⟩) (by assumption) ?_
    simp only [List.getElem_toArray, List.getElem_cons_succ, List.getElem_cons_zero, Act.put, List.setIfInBounds_toArray, List.set_cons_zero, List.set_cons_succ]
    refine wpAnyH_take (i := 7) (v := undef) rfl (by kernel_rfl) (by kernel_rfl) (by kernel_rfl) (fun _ _ _ h => h) (Or.inr ⟨rfl, rfl⟩) (by assumption) ?_
    simp only [List.getElem_toArray, List.getElem_cons_succ, List.getElem_cons_zero, Act.put, List.setIfInBounds_toArray, List.set_cons_zero, List.set_cons_succ]
    refine wpAnyH_take (i := 8) (v := undef) rfl (by kernel_rfl) (by kernel_rfl) (by kernel_rfl) (fun _ _ _ h => h) (Or.inr ⟨rfl, rfl⟩) (by assumption) ?_
    simp only [List.getElem_toArray, List.getElem_cons_succ, List.getElem_cons_zero, Act.put, List.setIfInBounds_toArray, List.set_cons_zero, List.set_cons_succ]
    refine wpAnyH_take (i := 9) (v := undef) rfl (by kernel_rfl) (by kernel_rfl) (by kernel_rfl) (fun _ _ _ h => h) (Or.inr ⟨rfl, rfl⟩) (by assumption) ?_
    simp only [List.getElem_toArray, List.getElem_cons_succ, List.getElem_cons_zero, Act.put, List.setIfInBounds_toArray, List.set_cons_zero, List.set_cons_succ]
    refine wpAnyH_take (i := 10) (v := undef) rfl (by kernel_rfl) (by kernel_rfl) (by kernel_rfl) (fun _ _ _ h => h) (Or.inr ⟨rfl, rfl⟩) (by assumption) ?_
    simp only [List.getElem_toArray, List.getElem_cons_succ, List.getElem_cons_zero, Act.put, List.setIfInBounds_toArray, List.set_cons_zero, List.set_cons_succ]
    refine wpAnyH_take (i := 11) (v := .bool false) rfl (by kernel_rfl) (by kernel_rfl) (by kernel_rfl) (fun _ _ _ h => h) (Or.inl ⟨rfl, fun w' hS => by go_simp⟩) (by assumption) ?_
    simp only [List.getElem_toArray, List.getElem_cons_succ, List.getElem_cons_zero, Act.put, List.setIfInBounds_toArray, List.set_cons_zero, List.set_cons_succ]
    refine wpAnyH_take (i := 12) (v := .bool false) rfl (by kernel_rfl) (by kernel_rfl) (by kernel_rfl) (fun _ _ _ h => h) (Or.inl ⟨rfl, fun w' hS => by go_simp⟩) (by assumption) ?_
    simp only [List.getElem_toArray, List.getElem_cons_succ, List.getElem_cons_zero, Act.put, List.setIfInBounds_toArray, List.set_cons_zero, List.set_cons_succ]
    refine wpAnyH_done (by kernel_rfl) ?_ _
    go_wp2
    go_ret
    exact ⟨rfl, grow g0.drew hb⟩

theorem on_any (a b p : Pt) (ha : May a) (hb : May b) (hp : May p) (w : World) :
    Calls Try.prog 41 #[pt a, pt b, pt p] w fun e w' => e = .returned (.bool (decide (onZ a b p))) ∧ Below w.heap.size w w' := by
  have := on_road _ _ _ _ _ _ _ _ _ (turn_any a b p ha hb hp) (span_any a b) (holds_any (spanR a b) p) w
  rw [← Bool.decide_and] at this
  exact this

end Go.Proofs.Ytkneohngbkmlpaa
