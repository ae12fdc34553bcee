/- Walk: ScoreTells. -/
import Derived.Test.YthdfelhckjeekaaW7
namespace Go.Proofs.Ythdfelhckjeekaa
open Go.RowKit

set_option maxHeartbeats 4000000 in
theorem ScoreTells_walk (T N df tf len : Int) (w : World) :
    Calls Try.prog 5 #[.agg #[.int .i64 T, .int .i64 N], .int .i64 df, .agg #[.int .i64 tf, .int .i64 len]] w fun e w' => e = .returned (.bool true) ∧ Below w.heap.size w w' := by
  have c1 := fun w => rKnown_any T N df w
  have c2 := fun w => rCounted_any T N tf len w
  have c3 := fun w => rWeight_any T N df w
  have c4 := fun w => rShare_any T N tf len w
  have c5 := fun w => weight_any T N df w
  have c6 := fun w => share_any T N tf len w
  have c7 := fun w => score_any T N df tf len w
  have c8 := fun w => right_any T N df tf len w
  have hw := score_wrap T N df tf len
  have hr : rightB T N df tf len = (knownB T df && countedB T N tf len) := rfl
  have hs : scoreZ T N df tf len = if rightB T N df tf len then weightZ T df * shareZ T N tf len else 0 := rfl
  generalize scoreZ T N df tf len = S at *
  generalize rightB T N df tf len = r at *
  generalize knownB T df = k at *
  generalize countedB T N tf len = c at *
  generalize weightZ T df = A at *
  generalize shareZ T N tf len = B at *
  subst hr
  have C1 := Lib.hid c1
  have C2 := Lib.hid c2
  have C3 := Lib.hid c3
  have C4 := Lib.hid c4
  have C5 := Lib.hid c5
  have C6 := Lib.hid c6
  have C7 := Lib.hid c7
  have C8 := Lib.hid c8
  have HS := Lib.hid hs
  clear c1 c2 c3 c4 c5 c6 c7 c8 hs
  have ks : ∀ a b : World, Below a.heap.size a b → (a.cell? ⟨w.heap.size, 0, none⟩ = some (.int .i64 T) ∧ a.cell? ⟨w.heap.size, 1, none⟩ = some (.int .i64 N) ∧ a.cell? ⟨w.heap.size + 1, 0, none⟩ = some (.int .i64 tf) ∧ a.cell? ⟨w.heap.size + 1, 1, none⟩ = some (.int .i64 len) ∧ a.cell? ⟨w.heap.size + 1 + 1, 0, none⟩ = some (.int .i64 T) ∧ a.cell? ⟨w.heap.size + 1 + 1, 1, none⟩ = some (.int .i64 N) ∧ Below w.heap.size w a) →
      (b.cell? ⟨w.heap.size, 0, none⟩ = some (.int .i64 T) ∧ b.cell? ⟨w.heap.size, 1, none⟩ = some (.int .i64 N) ∧ b.cell? ⟨w.heap.size + 1, 0, none⟩ = some (.int .i64 tf) ∧ b.cell? ⟨w.heap.size + 1, 1, none⟩ = some (.int .i64 len) ∧ b.cell? ⟨w.heap.size + 1 + 1, 0, none⟩ = some (.int .i64 T) ∧ b.cell? ⟨w.heap.size + 1 + 1, 1, none⟩ = some (.int .i64 N) ∧ Below w.heap.size w b) :=
    fun a b hb hs => ⟨cell_grew hs.1 hb, cell_grew hs.2.1 hb, cell_grew hs.2.2.1 hb, cell_grew hs.2.2.2.1 hb, cell_grew hs.2.2.2.2.1 hb, cell_grew hs.2.2.2.2.2.1 hb, grow hs.2.2.2.2.2.2 hb⟩
  have KS := Lib.hid ks
  clear ks
  have ways : k = false ∨ (k = true ∧ c = false) ∨ (k = true ∧ c = true) := by cases k <;> cases c <;> simp
  rcases ways with rfl | ⟨rfl, rfl⟩ | ⟨rfl, rfl⟩
  · have hS : S = 0 := by rw [HS.out]; simp
    subst hS
    go_enter Try.func5, Try.ntmps5
    go_wp2_with fail
    have k0 := ((Blk.new w #[.int .i64 T, .int .i64 N] 28).alloc (.cells #[.int .i64 tf, .int .i64 len] 29)).alloc (.cells #[.int .i64 T, .int .i64 N] 30)
    have l0 := (Blk.new' (b := w.heap.size + 1) (w.alloc (.cells #[.int .i64 T, .int .i64 N] 28)) #[.int .i64 tf, .int .i64 len] 29 (by simp)).alloc (.cells #[.int .i64 T, .int .i64 N] 30)
    have m0 := Blk.new' (b := w.heap.size + 1 + 1) ((w.alloc (.cells #[.int .i64 T, .int .i64 N] 28)).alloc (.cells #[.int .i64 tf, .int .i64 len] 29)) #[.int .i64 T, .int .i64 N] 30 (by simp)
    have g0 := grow_alloc (grow_alloc (grow_alloc (Below.refl _ w) (.cells #[.int .i64 T, .int .i64 N] 28)) (.cells #[.int .i64 tf, .int .i64 len] 29)) (.cells #[.int .i64 T, .int .i64 N] 30)
    refine (C1.out _).mono ?_
    rintro e w1 ⟨rfl, hb1⟩
    have k1 := k0.grew hb1
    have l1 := l0.grew hb1
    have m1 := m0.grew hb1
    have g1 := grow g0 hb1
    clear k0 l0 m0 g0 hb1
    have kf := k1.two
    have lf := l1.two
    have mf := m1.two
    go_wp2_with fail
    go_region_held3 (fun w' => w'.cell? ⟨w.heap.size, 0, none⟩ = some (.int .i64 T) ∧ w'.cell? ⟨w.heap.size, 1, none⟩ = some (.int .i64 N) ∧ w'.cell? ⟨w.heap.size + 1, 0, none⟩ = some (.int .i64 tf) ∧ w'.cell? ⟨w.heap.size + 1, 1, none⟩ = some (.int .i64 len) ∧ w'.cell? ⟨w.heap.size + 1 + 1, 0, none⟩ = some (.int .i64 T) ∧ w'.cell? ⟨w.heap.size + 1 + 1, 1, none⟩ = some (.int .i64 N) ∧ Below w.heap.size w w')
      (first | exact ⟨kf.1, kf.2.1, lf.1, lf.2.1, mf.1, mf.2.1, g1.drew⟩ | exact KS.out _ _ (by assumption) (by assumption))
      (first | (go_at_call 15; refine (C5.out _).mono ?_; rintro e w' ⟨rfl, hb⟩) | (go_at_call 13; refine (C3.out _).mono ?_; rintro e w' ⟨rfl, hb⟩) | (go_at_call 16; refine (C6.out _).mono ?_; rintro e w' ⟨rfl, hb⟩) | (go_at_call 14; refine (C4.out _).mono ?_; rintro e w' ⟨rfl, hb⟩) | (go_at_call 17; refine (C7.out _).mono ?_; rintro e w' ⟨rfl, hb⟩) | (go_at_call 18; refine (C8.out _).mono ?_; rintro e w' ⟨rfl, hb⟩) | (go_at_call 10; refine (awake_any _).mono ?_; rintro e w' ⟨rfl, hb⟩))
    go_wp2
    go_ret
    exact ⟨rfl, (‹_ ∧ _ ∧ _ ∧ _ ∧ _ ∧ _ ∧ Below w.heap.size w _›).2.2.2.2.2.2⟩
  · have hS : S = 0 := by rw [HS.out]; simp
    subst hS
    go_enter Try.func5, Try.ntmps5
    go_wp2_with fail
    have k0 := ((Blk.new w #[.int .i64 T, .int .i64 N] 28).alloc (.cells #[.int .i64 tf, .int .i64 len] 29)).alloc (.cells #[.int .i64 T, .int .i64 N] 30)
    have l0 := (Blk.new' (b := w.heap.size + 1) (w.alloc (.cells #[.int .i64 T, .int .i64 N] 28)) #[.int .i64 tf, .int .i64 len] 29 (by simp)).alloc (.cells #[.int .i64 T, .int .i64 N] 30)
    have m0 := Blk.new' (b := w.heap.size + 1 + 1) ((w.alloc (.cells #[.int .i64 T, .int .i64 N] 28)).alloc (.cells #[.int .i64 tf, .int .i64 len] 29)) #[.int .i64 T, .int .i64 N] 30 (by simp)
    have g0 := grow_alloc (grow_alloc (grow_alloc (Below.refl _ w) (.cells #[.int .i64 T, .int .i64 N] 28)) (.cells #[.int .i64 tf, .int .i64 len] 29)) (.cells #[.int .i64 T, .int .i64 N] 30)
    refine (C1.out _).mono ?_
    rintro e w1 ⟨rfl, hb1⟩
    have k1 := k0.grew hb1
    have l1 := l0.grew hb1
    have m1 := m0.grew hb1
    have g1 := grow g0 hb1
    clear k0 l0 m0 g0 hb1
    have kf := k1.two
    have lf := l1.two
    have mf := m1.two
    go_wp2_with fail
    refine (C2.out _).mono ?_
    rintro e w2 ⟨rfl, hb2⟩
    have k2 := k1.grew hb2
    have l2 := l1.grew hb2
    have m2 := m1.grew hb2
    have g2 := grow g1 hb2
    clear hb2
    have kf := k2.two
    have lf := l2.two
    have mf := m2.two
    go_wp2_with fail
    go_region_held3 (fun w' => w'.cell? ⟨w.heap.size, 0, none⟩ = some (.int .i64 T) ∧ w'.cell? ⟨w.heap.size, 1, none⟩ = some (.int .i64 N) ∧ w'.cell? ⟨w.heap.size + 1, 0, none⟩ = some (.int .i64 tf) ∧ w'.cell? ⟨w.heap.size + 1, 1, none⟩ = some (.int .i64 len) ∧ w'.cell? ⟨w.heap.size + 1 + 1, 0, none⟩ = some (.int .i64 T) ∧ w'.cell? ⟨w.heap.size + 1 + 1, 1, none⟩ = some (.int .i64 N) ∧ Below w.heap.size w w')
      (first | exact ⟨kf.1, kf.2.1, lf.1, lf.2.1, mf.1, mf.2.1, g2.drew⟩ | exact KS.out _ _ (by assumption) (by assumption))
      (first | (go_at_call 15; refine (C5.out _).mono ?_; rintro e w' ⟨rfl, hb⟩) | (go_at_call 13; refine (C3.out _).mono ?_; rintro e w' ⟨rfl, hb⟩) | (go_at_call 16; refine (C6.out _).mono ?_; rintro e w' ⟨rfl, hb⟩) | (go_at_call 14; refine (C4.out _).mono ?_; rintro e w' ⟨rfl, hb⟩) | (go_at_call 17; refine (C7.out _).mono ?_; rintro e w' ⟨rfl, hb⟩) | (go_at_call 18; refine (C8.out _).mono ?_; rintro e w' ⟨rfl, hb⟩) | (go_at_call 10; refine (awake_any _).mono ?_; rintro e w' ⟨rfl, hb⟩))
    go_wp2
    go_ret
    exact ⟨rfl, (‹_ ∧ _ ∧ _ ∧ _ ∧ _ ∧ _ ∧ Below w.heap.size w _›).2.2.2.2.2.2⟩
  · have hS : S = A * B := by rw [HS.out]; simp
    subst hS
    go_enter Try.func5, Try.ntmps5
    go_wp2_with fail
    have k0 := ((Blk.new w #[.int .i64 T, .int .i64 N] 28).alloc (.cells #[.int .i64 tf, .int .i64 len] 29)).alloc (.cells #[.int .i64 T, .int .i64 N] 30)
    have l0 := (Blk.new' (b := w.heap.size + 1) (w.alloc (.cells #[.int .i64 T, .int .i64 N] 28)) #[.int .i64 tf, .int .i64 len] 29 (by simp)).alloc (.cells #[.int .i64 T, .int .i64 N] 30)
    have m0 := Blk.new' (b := w.heap.size + 1 + 1) ((w.alloc (.cells #[.int .i64 T, .int .i64 N] 28)).alloc (.cells #[.int .i64 tf, .int .i64 len] 29)) #[.int .i64 T, .int .i64 N] 30 (by simp)
    have g0 := grow_alloc (grow_alloc (grow_alloc (Below.refl _ w) (.cells #[.int .i64 T, .int .i64 N] 28)) (.cells #[.int .i64 tf, .int .i64 len] 29)) (.cells #[.int .i64 T, .int .i64 N] 30)
    refine (C1.out _).mono ?_
    rintro e w1 ⟨rfl, hb1⟩
    have k1 := k0.grew hb1
    have l1 := l0.grew hb1
    have m1 := m0.grew hb1
    have g1 := grow g0 hb1
    clear k0 l0 m0 g0 hb1
    have kf := k1.two
    have lf := l1.two
    have mf := m1.two
    go_wp2_with fail
    refine (C2.out _).mono ?_
    rintro e w2 ⟨rfl, hb2⟩
    have k2 := k1.grew hb2
    have l2 := l1.grew hb2
    have m2 := m1.grew hb2
    have g2 := grow g1 hb2
    clear hb2
    have kf := k2.two
    have lf := l2.two
    have mf := m2.two
    go_wp2_with fail
    go_region_held3 (fun w' => w'.cell? ⟨w.heap.size, 0, none⟩ = some (.int .i64 T) ∧ w'.cell? ⟨w.heap.size, 1, none⟩ = some (.int .i64 N) ∧ w'.cell? ⟨w.heap.size + 1, 0, none⟩ = some (.int .i64 tf) ∧ w'.cell? ⟨w.heap.size + 1, 1, none⟩ = some (.int .i64 len) ∧ w'.cell? ⟨w.heap.size + 1 + 1, 0, none⟩ = some (.int .i64 T) ∧ w'.cell? ⟨w.heap.size + 1 + 1, 1, none⟩ = some (.int .i64 N) ∧ Below w.heap.size w w')
      (first | exact ⟨kf.1, kf.2.1, lf.1, lf.2.1, mf.1, mf.2.1, g2.drew⟩ | exact KS.out _ _ (by assumption) (by assumption))
      (first | (go_at_call 15; refine (C5.out _).mono ?_; rintro e w' ⟨rfl, hb⟩) | (go_at_call 13; refine (C3.out _).mono ?_; rintro e w' ⟨rfl, hb⟩) | (go_at_call 16; refine (C6.out _).mono ?_; rintro e w' ⟨rfl, hb⟩) | (go_at_call 14; refine (C4.out _).mono ?_; rintro e w' ⟨rfl, hb⟩) | (go_at_call 17; refine (C7.out _).mono ?_; rintro e w' ⟨rfl, hb⟩) | (go_at_call 18; refine (C8.out _).mono ?_; rintro e w' ⟨rfl, hb⟩) | (go_at_call 10; refine (awake_any _).mono ?_; rintro e w' ⟨rfl, hb⟩))
    have h5 := (‹_ ∧ _ ∧ _ ∧ _ ∧ _ ∧ _ ∧ Below w.heap.size w _›)
    clear kf lf mf k1 l1 m1 k2 l2 m2 g1 g2
    go_wp2_with fail
    go_region_held3 (fun w' => w'.cell? ⟨w.heap.size, 0, none⟩ = some (.int .i64 T) ∧ w'.cell? ⟨w.heap.size, 1, none⟩ = some (.int .i64 N) ∧ w'.cell? ⟨w.heap.size + 1, 0, none⟩ = some (.int .i64 tf) ∧ w'.cell? ⟨w.heap.size + 1, 1, none⟩ = some (.int .i64 len) ∧ w'.cell? ⟨w.heap.size + 1 + 1, 0, none⟩ = some (.int .i64 T) ∧ w'.cell? ⟨w.heap.size + 1 + 1, 1, none⟩ = some (.int .i64 N) ∧ Below w.heap.size w w')
      (first | exact ⟨h5.1, h5.2.1, h5.2.2.1, h5.2.2.2.1, h5.2.2.2.2.1, h5.2.2.2.2.2.1, h5.2.2.2.2.2.2.drew⟩ | exact KS.out _ _ (by assumption) (by assumption))
      (first | (go_at_call 15; refine (C5.out _).mono ?_; rintro e w' ⟨rfl, hb⟩) | (go_at_call 13; refine (C3.out _).mono ?_; rintro e w' ⟨rfl, hb⟩) | (go_at_call 16; refine (C6.out _).mono ?_; rintro e w' ⟨rfl, hb⟩) | (go_at_call 14; refine (C4.out _).mono ?_; rintro e w' ⟨rfl, hb⟩) | (go_at_call 17; refine (C7.out _).mono ?_; rintro e w' ⟨rfl, hb⟩) | (go_at_call 18; refine (C8.out _).mono ?_; rintro e w' ⟨rfl, hb⟩) | (go_at_call 10; refine (awake_any _).mono ?_; rintro e w' ⟨rfl, hb⟩))
    go_wp2
    go_ret
    exact ⟨rfl, (‹_ ∧ _ ∧ _ ∧ _ ∧ _ ∧ _ ∧ Below w.heap.size w _›).2.2.2.2.2.2⟩

end Go.Proofs.Ythdfelhckjeekaa
