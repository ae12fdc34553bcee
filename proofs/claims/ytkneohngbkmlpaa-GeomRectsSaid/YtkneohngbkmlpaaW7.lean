/- Walks: Turn, On. -/
import Derived.Test.YtkneohngbkmlpaaW6
namespace Go.Proofs.Ytkneohngbkmlpaa
open Go.RowKit

theorem pts3 {w : World} {b : Nat} {x0 y0 x1 y1 x2 y2 : Int} (h : Blk w b #[.int .i64 x0, .int .i64 y0, .int .i64 x1, .int .i64 y1, .int .i64 x2, .int .i64 y2] 24) : Pts w w.heap.size (some ⟨b, 0, none⟩) [⟨x0, y0⟩, ⟨x1, y1⟩, ⟨x2, y2⟩] := by
  intro _
  refine ⟨_, rfl, h.lt, fun k hk => ?_⟩
  have e : ∀ j, (⟨b, 0, none⟩ : Addr).add j = ⟨b, j, none⟩ := fun j => by
    unfold Addr.add
    by_cases hj : j = 0 <;> simp [hj]
  have e2 : ∀ j i, (⟨b, j, none⟩ : Addr).add i = ⟨b, j + i, none⟩ := fun j i => by
    unfold Addr.add
    by_cases hi : i = 0 <;> simp [hi]
  rw [e, e2, h.cell, h.cell]
  match k, hk with
  | 0, _ => exact ⟨rfl, rfl⟩
  | 1, _ => exact ⟨rfl, rfl⟩
  | 2, _ => exact ⟨rfl, rfl⟩
theorem pts4 {w : World} {b : Nat} {x0 y0 x1 y1 x2 y2 x3 y3 : Int} (h : Blk w b #[.int .i64 x0, .int .i64 y0, .int .i64 x1, .int .i64 y1, .int .i64 x2, .int .i64 y2, .int .i64 x3, .int .i64 y3] 24) : Pts w w.heap.size (some ⟨b, 0, none⟩) [⟨x0, y0⟩, ⟨x1, y1⟩, ⟨x2, y2⟩, ⟨x3, y3⟩] := by
  intro _
  refine ⟨_, rfl, h.lt, fun k hk => ?_⟩
  have e : ∀ j, (⟨b, 0, none⟩ : Addr).add j = ⟨b, j, none⟩ := fun j => by
    unfold Addr.add
    by_cases hj : j = 0 <;> simp [hj]
  have e2 : ∀ j i, (⟨b, j, none⟩ : Addr).add i = ⟨b, j + i, none⟩ := fun j i => by
    unfold Addr.add
    by_cases hi : i = 0 <;> simp [hi]
  rw [e, e2, h.cell, h.cell]
  match k, hk with
  | 0, _ => exact ⟨rfl, rfl⟩
  | 1, _ => exact ⟨rfl, rfl⟩
  | 2, _ => exact ⟨rfl, rfl⟩
  | 3, _ => exact ⟨rfl, rfl⟩

/-- 'all' of three points that are written out. -/
theorem all3 (x0 y0 x1 y1 x2 y2 : Int) (w0 : World) : ∀ b, b = w0.heap.size →
    Calls Try.prog 39 #[.slice (some ⟨b, 0, none⟩) 3 3] (w0.alloc (.cells #[.int .i64 x0, .int .i64 y0, .int .i64 x1, .int .i64 y1, .int .i64 x2, .int .i64 y2] 24)) fun e w' => e = .returned (.bool (decide (May ⟨x0, y0⟩ ∧ May ⟨x1, y1⟩ ∧ May ⟨x2, y2⟩))) ∧ Below w0.heap.size w0 w' := by
  intro b hb
  have h := all_any (some ⟨b, 0, none⟩) [⟨x0, y0⟩, ⟨x1, y1⟩, ⟨x2, y2⟩] 3 3 (w0.alloc (.cells #[.int .i64 x0, .int .i64 y0, .int .i64 x1, .int .i64 y1, .int .i64 x2, .int .i64 y2] 24)) rfl (pts3 (Blk.new' w0 _ 24 hb)) (by decide)
  have e : decide (∀ p ∈ [(⟨x0, y0⟩ : Pt), ⟨x1, y1⟩, ⟨x2, y2⟩], May p) = decide (May ⟨x0, y0⟩ ∧ May ⟨x1, y1⟩ ∧ May ⟨x2, y2⟩) := by
    rw [decide_eq_decide]; simp
  rw [e] at h
  exact h.mono fun e w' ⟨h1, h2⟩ => ⟨h1, grow (grow_alloc (Below.refl _ w0) _) h2⟩
theorem all4 (x0 y0 x1 y1 x2 y2 x3 y3 : Int) (w0 : World) : ∀ b, b = w0.heap.size →
    Calls Try.prog 39 #[.slice (some ⟨b, 0, none⟩) 4 4] (w0.alloc (.cells #[.int .i64 x0, .int .i64 y0, .int .i64 x1, .int .i64 y1, .int .i64 x2, .int .i64 y2, .int .i64 x3, .int .i64 y3] 24)) fun e w' => e = .returned (.bool (decide (May ⟨x0, y0⟩ ∧ May ⟨x1, y1⟩ ∧ May ⟨x2, y2⟩ ∧ May ⟨x3, y3⟩))) ∧ Below w0.heap.size w0 w' := by
  intro b hb
  have h := all_any (some ⟨b, 0, none⟩) [⟨x0, y0⟩, ⟨x1, y1⟩, ⟨x2, y2⟩, ⟨x3, y3⟩] 4 4 (w0.alloc (.cells #[.int .i64 x0, .int .i64 y0, .int .i64 x1, .int .i64 y1, .int .i64 x2, .int .i64 y2, .int .i64 x3, .int .i64 y3] 24)) rfl (pts4 (Blk.new' w0 _ 24 hb)) (by decide)
  have e : decide (∀ p ∈ [(⟨x0, y0⟩ : Pt), ⟨x1, y1⟩, ⟨x2, y2⟩, ⟨x3, y3⟩], May p) = decide (May ⟨x0, y0⟩ ∧ May ⟨x1, y1⟩ ∧ May ⟨x2, y2⟩ ∧ May ⟨x3, y3⟩) := by
    rw [decide_eq_decide]; simp
  rw [e] at h
  exact h.mono fun e w' ⟨h1, h2⟩ => ⟨h1, grow (grow_alloc (Below.refl _ w0) _) h2⟩

/-- A function of three points that asks 'all' first. -/
theorem Turn_road (ax ay bx byy cx cy t : Int) (m : Bool)
    (k1 : ∀ w0 : World, ∀ b, b = w0.heap.size → Calls Try.prog 39 #[.slice (some ⟨b, 0, none⟩) 3 3] (w0.alloc (.cells #[.int .i64 ax, .int .i64 ay, .int .i64 bx, .int .i64 byy, .int .i64 cx, .int .i64 cy] 24)) fun e w' => e = .returned (.bool m) ∧ Below w0.heap.size w0 w')
    (k2 : m = true → ∀ w, Calls Try.prog 42 #[.agg #[.int .i64 ax, .int .i64 ay], .agg #[.int .i64 bx, .int .i64 byy], .agg #[.int .i64 cx, .int .i64 cy]] w fun e w' => e = .returned (.int .i64 t) ∧ Below w.heap.size w w') (w : World) :
    Calls Try.prog 19 #[.agg #[.int .i64 ax, .int .i64 ay], .agg #[.int .i64 bx, .int .i64 byy], .agg #[.int .i64 cx, .int .i64 cy]] w fun e w' => e = .returned (.int .i64 (if m then t else 0)) ∧ Below w.heap.size w w' := by
  have K1 := Lib.hid k1
  have K2 := Lib.hid k2
  clear k1 k2
  obtain ⟨w0, hw0, p0, p1, p2, g0, z0⟩ := boxes3 w #[.int .i64 ax, .int .i64 ay] #[.int .i64 bx, .int .i64 byy] #[.int .i64 cx, .int .i64 cy] 24 24 24
  have c0 := p0.two
  have c1 := p1.two
  have c2 := p2.two
  have HP := Lib.hid (And.intro p0 (And.intro p1 p2))
  have HG := Lib.hid g0
  have HZ := Lib.hid z0
  clear p0 p1 p2 g0 z0
  cases m
  · go_enter Try.func19, Try.ntmps19
    go_wp2_with fail
    refine (K1.out w0 _ (by have := HZ.out; first | rfl | omega)).mono ?_
    rintro e w1 ⟨rfl, hb1⟩
    go_wp2
    go_ret
    exact ⟨rfl, grow HG.out hb1⟩
  · go_enter Try.func19, Try.ntmps19
    go_wp2_with fail
    refine (K1.out w0 _ (by have := HZ.out; first | rfl | omega)).mono ?_
    rintro e w1 ⟨rfl, hb1⟩
    have d0 := (HP.out.1.grew hb1).two
    have d1 := (HP.out.2.1.grew hb1).two
    have d2 := (HP.out.2.2.grew hb1).two
    have HB := Lib.hid (grow HG.out hb1)
    clear hb1 c0 c1 c2
    go_wp2_with fail
    refine (K2.out (by trivial) _).mono ?_
    rintro e w2 ⟨rfl, hb2⟩
    go_wp2
    go_ret
    exact ⟨rfl, grow HB.out hb2⟩

/-- .. and tells whether. -/
theorem On_road (ax ay bx byy cx cy : Int) (m t : Bool)
    (k1 : ∀ w0 : World, ∀ b, b = w0.heap.size → Calls Try.prog 39 #[.slice (some ⟨b, 0, none⟩) 3 3] (w0.alloc (.cells #[.int .i64 ax, .int .i64 ay, .int .i64 bx, .int .i64 byy, .int .i64 cx, .int .i64 cy] 24)) fun e w' => e = .returned (.bool m) ∧ Below w0.heap.size w0 w')
    (k2 : m = true → ∀ w, Calls Try.prog 41 #[.agg #[.int .i64 ax, .int .i64 ay], .agg #[.int .i64 bx, .int .i64 byy], .agg #[.int .i64 cx, .int .i64 cy]] w fun e w' => e = .returned (.bool t) ∧ Below w.heap.size w w') (w : World) :
    Calls Try.prog 20 #[.agg #[.int .i64 ax, .int .i64 ay], .agg #[.int .i64 bx, .int .i64 byy], .agg #[.int .i64 cx, .int .i64 cy]] w fun e w' => e = .returned (.bool (m && t)) ∧ Below w.heap.size w w' := by
  have K1 := Lib.hid k1
  have K2 := Lib.hid k2
  clear k1 k2
  obtain ⟨w0, hw0, p0, p1, p2, g0, z0⟩ := boxes3 w #[.int .i64 ax, .int .i64 ay] #[.int .i64 bx, .int .i64 byy] #[.int .i64 cx, .int .i64 cy] 24 24 24
  have c0 := p0.two
  have c1 := p1.two
  have c2 := p2.two
  have HP := Lib.hid (And.intro p0 (And.intro p1 p2))
  have HG := Lib.hid g0
  have HZ := Lib.hid z0
  clear p0 p1 p2 g0 z0
  cases m
  · go_enter Try.func20, Try.ntmps20
    go_wp2_with fail
    refine (K1.out w0 _ (by have := HZ.out; first | rfl | omega)).mono ?_
    rintro e w1 ⟨rfl, hb1⟩
    go_wp2
    go_ret
    exact ⟨rfl, grow HG.out hb1⟩
  · go_enter Try.func20, Try.ntmps20
    go_wp2_with fail
    refine (K1.out w0 _ (by have := HZ.out; first | rfl | omega)).mono ?_
    rintro e w1 ⟨rfl, hb1⟩
    have d0 := (HP.out.1.grew hb1).two
    have d1 := (HP.out.2.1.grew hb1).two
    have d2 := (HP.out.2.2.grew hb1).two
    have HB := Lib.hid (grow HG.out hb1)
    clear hb1 c0 c1 c2
    go_wp2_with fail
    refine (K2.out (by trivial) _).mono ?_
    rintro e w2 ⟨rfl, hb2⟩
    go_wp2
    go_ret
    exact ⟨rfl, grow HB.out hb2⟩


/-- .. of four points. -/
theorem Meet_road (ax ay bx byy cx cy dx dy : Int) (m t : Bool)
    (k1 : ∀ w0 : World, ∀ b, b = w0.heap.size → Calls Try.prog 39 #[.slice (some ⟨b, 0, none⟩) 4 4] (w0.alloc (.cells #[.int .i64 ax, .int .i64 ay, .int .i64 bx, .int .i64 byy, .int .i64 cx, .int .i64 cy, .int .i64 dx, .int .i64 dy] 24)) fun e w' => e = .returned (.bool m) ∧ Below w0.heap.size w0 w')
    (k2 : m = true → ∀ w, Calls Try.prog 45 #[.agg #[.int .i64 ax, .int .i64 ay], .agg #[.int .i64 bx, .int .i64 byy], .agg #[.int .i64 cx, .int .i64 cy], .agg #[.int .i64 dx, .int .i64 dy]] w fun e w' => e = .returned (.bool t) ∧ Below w.heap.size w w') (w : World) :
    Calls Try.prog 21 #[.agg #[.int .i64 ax, .int .i64 ay], .agg #[.int .i64 bx, .int .i64 byy], .agg #[.int .i64 cx, .int .i64 cy], .agg #[.int .i64 dx, .int .i64 dy]] w fun e w' => e = .returned (.bool (m && t)) ∧ Below w.heap.size w w' := by
  have K1 := Lib.hid k1
  have K2 := Lib.hid k2
  clear k1 k2
  obtain ⟨w0, hw0, p0, p1, p2, p3, g0, z0⟩ := boxes4 w #[.int .i64 ax, .int .i64 ay] #[.int .i64 bx, .int .i64 byy] #[.int .i64 cx, .int .i64 cy] #[.int .i64 dx, .int .i64 dy] 24 24 24 24
  have c0 := p0.two
  have c1 := p1.two
  have c2 := p2.two
  have c3 := p3.two
  have HP := Lib.hid (And.intro p0 (And.intro p1 (And.intro p2 p3)))
  have HG := Lib.hid g0
  have HZ := Lib.hid z0
  clear p0 p1 p2 p3 g0 z0
  cases m
  · go_enter Try.func21, Try.ntmps21
    go_wp2_with fail
    refine (K1.out w0 _ (by have := HZ.out; first | rfl | omega)).mono ?_
    rintro e w1 ⟨rfl, hb1⟩
    go_wp2
    go_ret
    exact ⟨rfl, grow HG.out hb1⟩
  · go_enter Try.func21, Try.ntmps21
    go_wp2_with fail
    refine (K1.out w0 _ (by have := HZ.out; first | rfl | omega)).mono ?_
    rintro e w1 ⟨rfl, hb1⟩
    have d0 := (HP.out.1.grew hb1).two
    have d1 := (HP.out.2.1.grew hb1).two
    have d2 := (HP.out.2.2.1.grew hb1).two
    have d3 := (HP.out.2.2.2.grew hb1).two
    have HB := Lib.hid (grow HG.out hb1)
    clear hb1 c0 c1 c2 c3
    go_wp2_with fail
    refine (K2.out (by trivial) _).mono ?_
    rintro e w2 ⟨rfl, hb2⟩
    go_wp2
    go_ret
    exact ⟨rfl, grow HB.out hb2⟩


end Go.Proofs.Ytkneohngbkmlpaa
